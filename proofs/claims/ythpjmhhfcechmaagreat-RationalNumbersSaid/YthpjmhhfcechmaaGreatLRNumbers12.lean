/- Parts Rn, D2, D3, in one file. -/
import Derived.RowKit
import Derived.WalkKit
import Derived.ProofKit
import Derived.OpenShut
import Derived.ShutString
import Derived.ChangeOld
import Derived.Lib.SmallJoins
import Derived.Test.YthpjmhhfcechmaaGreatLRNumbers11
import Derived.Test.YthpjmhhfcechmaaGreatLRNumbers3
/- RationalNumbers: the walk, by rules. -/
set_option linter.unusedVariables false
set_option linter.unusedSimpArgs false
namespace Go.Proofs.YthpjmhhfcechmaaGreat
open Go.RowKit Ma Sy
set_option maxHeartbeats 12800000 in
set_option maxRecDepth 100000 in
theorem rationalNumbers_walk {n1 n2 n3 n4 : Bool} {A1 A2 A3 A4 : Option Addr} {l1 l2 l3 l4 c1 c2 c3 c4 : Nat} {xs1 xs2 xs3 xs4 : List Int} {w : World} (h1 : In w A1 l1 c1 xs1) (h2 : In w A2 l2 c2 xs2) (h3 : In w A3 l3 c3 xs3) (h4 : In w A4 l4 c4 xs4) :
    Calls Tryz.prog 3 #[.agg #[.bool n1, .slice A1 l1 c1], .agg #[.bool n2, .slice A2 l2 c2], .agg #[.bool n3, .slice A3 l3 c3, .bool n4, .slice A4 l4 c4]] w (Ret w (KV (.bool true))) := by
  obtain ⟨x, hz1⟩ : ∃ z, z = sg n1 (lv b32 xs1) := ⟨_, rfl⟩
  obtain ⟨y, hz2⟩ : ∃ z, z = sg n2 (lv b32 xs2) := ⟨_, rfl⟩
  obtain ⟨z, hz3⟩ : ∃ z, z = sg n3 (lv b32 xs3) := ⟨_, rfl⟩
  obtain ⟨u, hz4⟩ : ∃ z, z = sg n4 (lv b32 xs4) := ⟨_, rfl⟩
  refine calls_sc (l := [.vl (.agg #[.bool n1, .slice A1 l1 c1]), .vl (.agg #[.bool n2, .slice A2 l2 c2]), .vl (.agg #[.bool n3, .slice A3 l3 c3, .bool n4, .slice A4 l4 c4])]) (us := [.agg #[.bool n1, .slice A1 l1 c1], .agg #[.bool n2, .slice A2 l2 c2], .agg #[.bool n3, .slice A3 l3 c3, .bool n4, .slice A4 l4 c4]]) 102 Tryz.func3 rfl Tryz.ntmps3 (by simp) ⟨rfl, rfl, rfl, rfl, rfl, rfl, trivial⟩ ?_
  refine SC.seq ?_
  refine SC.region ?_
  refine PW.box (x := .tmp 0) (r := .vl (.agg #[.bool n1, .slice A1 l1 c1])) (BI 24) rfl rfl rfl rfl rfl bN rfl sh_V ?_
  refine PW.box (x := .tmp 1) (r := .vl (.agg #[.bool n2, .slice A2 l2 c2])) (BI 24) rfl rfl rfl rfl rfl bN rfl sh_V ?_
  refine PW.box (x := .tmp 2) (r := .vl (.agg #[.bool n3, .slice A3 l3 c3, .bool n4, .slice A4 l4 c4])) (BQ 26) rfl rfl rfl rfl rfl bQN rfl sh_VQ ?_
  refine PW.assign rfl rfl rfl rfl rfl ?_
  refine PW.nil ?_
  refine SX.then ?_
  refine SC.seq ?_
  refine SC.seq ?_
  by_cases hs : shB 4 [(n1, A1, l1, c1), (n2, A2, l2, c2)] = true
  · have hlehs : l1 ≤ 4 ∧ l2 ≤ 4 := by simpa [shB, shQ] using hs
    have X : bd 4 x := hz1 ▸ bd_sg h1.2.2.2 (by have := h1.1; omega)
    have Y : bd 4 y := hz2 ▸ bd_sg h2.2.2.2 (by have := h2.1; omega)
    have hl1 : l1 ≤ 4 := by omega
    have hl2 : l2 ≤ 4 := by omega
    by_cases hq : shQ 4 [((n3, A3, l3, c3), (n4, A4, l4, c4))] = true
    · have hlehq : (l3 ≤ 4 ∧ l4 ≤ 4) := by simpa [shB, shQ] using hq
      have Z : bd 4 z := hz3 ▸ bd_sg h3.2.2.2 (by have := h3.1; omega)
      have U : bd 4 u := hz4 ▸ bd_sg h4.2.2.2 (by have := h4.1; omega)
      have hl3 : l3 ≤ 4 := by omega
      have hl4 : l4 ≤ 4 := by omega
      refine SC.region ?_
      refine PW.loadV rfl rfl rfl rfl rfl rfl ?_
      refine PW.loadV rfl rfl rfl rfl rfl rfl ?_
      refine PW.short 4 [(n1, A1, l1, c1), (n2, A2, l2, c2)] _ rfl rfl rfl (fun a W hf => r_bN2 (hf.vl (s := 17) rfl) (hf.vl (s := 18) rfl)) (fun W => ns_lit2 W) (by simp; exact ⟨In.lim h1, In.lim h2⟩) rfl rfl hs rfl rfl rfl rfl rfl rfl ?_
      refine PW.q1 (x := .tmp 20) (.bool false) rfl rfl rfl rfl (fun ρ W h1 => by go_simp) ?_
      refine PW.move rfl rfl rfl rfl rfl ?_
      refine PW.loadV rfl rfl rfl rfl rfl rfl ?_
      refine PW.short3 4 [((n3, A3, l3, c3), (n4, A4, l4, c4))] _ rfl rfl rfl (fun a W hf => r_bQ1 (hf.vl (s := 23) rfl)) (fun W => qs_lit1 W) (by simp; exact ⟨In.lim h3, In.lim h4⟩) rfl rfl hq rfl rfl rfl rfl rfl rfl ?_
      refine PW.q1 (x := .tmp 25) (.bool false) rfl rfl rfl rfl (fun ρ W h1 => by go_simp) ?_
      refine PW.pick (t := false) rfl rfl rfl rfl rfl rfl ?_
      refine PW.nil ?_
      refine SX.then ?_
      refine SC.cond (t := false) rfl ?_
      refine SC.skip ?_
      refine SX.then ?_
      refine SC.seq ?_
      refine SC.region ?_
      refine PW.loadV rfl rfl rfl rfl rfl rfl ?_
      refine PW.callG (r := .kw (K2 (KI (x)) (KJ (x)))) ce_of rfl rfl rfl rfl rfl (K2.st (KI.st _) (KJ.st _)) rfl (fun a W hf => by have e1 := hf.vl (s := 30) rfl; show Calls Tryz.prog _ #[a.tmps.getD 30 undef] W _; rw [e1]; exact of_in h1 hf.be (by omega) hz1) ?_
      refine PW.move rfl rfl rfl rfl rfl ?_
      refine PW.ext (r := .kw (KI (x))) rfl rfl rfl rfl rfl ex20 (KI.st _) rfl ?_
      refine PW.ext (r := .kw (KJ (x))) rfl rfl rfl rfl rfl ex21 (KJ.st _) rfl ?_
      refine PW.alloc (BI 31) rfl rfl rfl rfl rfl bI ?_
      refine PW.alloc (BI 34) rfl rfl rfl rfl rfl bJ ?_
      refine PW.store (x := .tmp 32) (r := .kw (KI (x))) rfl rfl rfl rfl rfl rfl sh_I ?_
      refine PW.store (x := .tmp 33) (r := .kw (KJ (x))) rfl rfl rfl rfl rfl rfl sh_J ?_
      refine PW.nil ?_
      refine SX.then ?_
      refine SC.seq ?_
      refine SC.region ?_
      refine PW.loadV rfl rfl rfl rfl rfl rfl ?_
      refine PW.callG (r := .kw (K2 (KI (y)) (KJ (y)))) ce_of rfl rfl rfl rfl rfl (K2.st (KI.st _) (KJ.st _)) rfl (fun a W hf => by have e1 := hf.vl (s := 35) rfl; show Calls Tryz.prog _ #[a.tmps.getD 35 undef] W _; rw [e1]; exact of_in h2 hf.be (by omega) hz2) ?_
      refine PW.move rfl rfl rfl rfl rfl ?_
      refine PW.ext (r := .kw (KI (y))) rfl rfl rfl rfl rfl ex20 (KI.st _) rfl ?_
      refine PW.ext (r := .kw (KJ (y))) rfl rfl rfl rfl rfl ex21 (KJ.st _) rfl ?_
      refine PW.alloc (BI 31) rfl rfl rfl rfl rfl bI ?_
      refine PW.alloc (BI 34) rfl rfl rfl rfl rfl bJ ?_
      refine PW.store (x := .tmp 37) (r := .kw (KI (y))) rfl rfl rfl rfl rfl rfl sh_I ?_
      refine PW.store (x := .tmp 38) (r := .kw (KJ (y))) rfl rfl rfl rfl rfl rfl sh_J ?_
      refine PW.nil ?_
      refine SX.then ?_
      refine SC.seq ?_
      by_cases hy : y = 0
      · refine SC.region ?_
        refine PW.load rfl rfl rfl rfl rfl rfl ?_
        refine PW.load rfl rfl rfl rfl rfl rfl ?_
        refine PW.call (r := .kw (K2 (KQ (((0 : Int) : Rat)).num (((((0 : Int) : Rat)).den : Int) - 1)) (KV (.int .i64 6)))) rfl rfl rfl rfl rfl rfl (K2.st (KQ.st _ _) (KV.st _)) rfl (callK (k_rnew0 hy) rfl) ?_
        refine PW.move rfl rfl rfl rfl rfl ?_
        refine PW.ext (r := .kw (KQ (((0 : Int) : Rat)).num (((((0 : Int) : Rat)).den : Int) - 1))) rfl rfl rfl rfl rfl ex20 (KQ.st _ _) rfl ?_
        refine PW.ext (r := .vl (.int .i64 6)) rfl rfl rfl rfl rfl ex21v (KV.st _) rfl ?_
        refine PW.alloc (BQ 38) rfl rfl rfl rfl rfl bQ ?_
        refine PW.store (x := .tmp 43) (r := .kw (KQ (((0 : Int) : Rat)).num (((((0 : Int) : Rat)).den : Int) - 1))) rfl rfl rfl rfl rfl rfl sh_Q ?_
        refine PW.assign rfl rfl rfl rfl rfl ?_
        refine PW.nil ?_
        refine SX.then ?_
        refine SC.seq ?_
        refine SC.region ?_
        refine PW.load rfl rfl rfl rfl rfl rfl ?_
        refine PW.load rfl rfl rfl rfl rfl rfl ?_
        refine PW.call (r := .kw (K2 (KR3 (((0 : Int) : Rat)).num ((((0 : Int) : Rat)).den : Int)) (KV (.int .i64 6)))) rfl rfl rfl rfl rfl rfl (K2.st (KR3.st _ _) (KV.st _)) rfl (k_jrnew0 hy) ?_
        refine PW.move rfl rfl rfl rfl rfl ?_
        refine PW.ext (r := .kw (KR3 (((0 : Int) : Rat)).num ((((0 : Int) : Rat)).den : Int))) rfl rfl rfl rfl rfl ex20 (KR3.st _ _) rfl ?_
        refine PW.ext (r := .vl (.int .i64 6)) rfl rfl rfl rfl rfl ex21v (KV.st _) rfl ?_
        refine PW.alloc (BQ 43) rfl rfl rfl rfl rfl bQJ ?_
        refine PW.store (x := .tmp 49) (r := .kw (KR3 (((0 : Int) : Rat)).num ((((0 : Int) : Rat)).den : Int))) rfl rfl rfl rfl rfl rfl sh_R3 ?_
        refine PW.assign rfl rfl rfl rfl rfl ?_
        refine PW.nil ?_
        refine SX.then ?_
        refine SC.seq ?_
        refine SC.region ?_
        refine PW.loadV rfl rfl rfl rfl rfl rfl ?_
        refine PW.callG (r := .kw (K2 (KQ (ofq z u).num (((ofq z u).den : Int) - 1)) (KR3 (ofq z u).num ((ofq z u).den : Int)))) ce_of3 rfl rfl rfl rfl rfl (K2.st (KQ.st _ _) (KR3.st _ _)) rfl (fun a W hf => by have e1 := hf.vl (s := 52) rfl; show Calls Tryz.prog _ #[a.tmps.getD 52 undef] W _; rw [e1]; exact of3_c (in_be h3 hf.be) (in_be h4 hf.be) hz3 hz4 Z U (by omega) (by omega) (by decide)) ?_
        refine PW.move rfl rfl rfl rfl rfl ?_
        refine PW.ext (r := .kw (KQ (ofq z u).num (((ofq z u).den : Int) - 1))) rfl rfl rfl rfl rfl ex20 (KQ.st _ _) rfl ?_
        refine PW.ext (r := .kw (KR3 (ofq z u).num ((ofq z u).den : Int))) rfl rfl rfl rfl rfl ex21 (KR3.st _ _) rfl ?_
        refine PW.alloc (BQ 38) rfl rfl rfl rfl rfl bQ ?_
        refine PW.alloc (BQ 43) rfl rfl rfl rfl rfl bQJ ?_
        refine PW.store (x := .tmp 54) (r := .kw (KQ (ofq z u).num (((ofq z u).den : Int) - 1))) rfl rfl rfl rfl rfl rfl sh_Q ?_
        refine PW.store (x := .tmp 55) (r := .kw (KR3 (ofq z u).num ((ofq z u).den : Int))) rfl rfl rfl rfl rfl rfl sh_R3 ?_
        refine PW.nil ?_
        refine SX.then ?_
        refine SC.seq ?_
        refine SC.dx [.val 56 (.vl (.int .i64 6)), .val 57 (.vl (.int .i64 6)), .val 58 (.vl (.bool true)), .val 59 (.vl (.bool true)), .val 60 (.kw (KQ (((0 : Int) : Rat)).num (((((0 : Int) : Rat)).den : Int) - 1))), .val 61 (.kw (KR3 (((0 : Int) : Rat)).num ((((0 : Int) : Rat)).den : Int))), .val 62 (.vl (.bool true)), .val 63 (.vl (.bool true)), .val 64 (.vl (.bool true)), .val 65 (.kw (KI (x))), .val 66 (.kw (KQ (((x : Int) : Rat)).num (((((x : Int) : Rat)).den : Int) - 1))), .val 67 (.kw (KJ (x))), .val 68 (.kw (KR3 (((x : Int) : Rat)).num ((((x : Int) : Rat)).den : Int))), .val 69 (.vl (.bool true)), .val 70 (.vl (.bool true)), .val 71 (.vl (.bool true)), .val 72 (.kw (KQ (ofq z u).num (((ofq z u).den : Int) - 1))), .val 73 (.kw (KR3 (ofq z u).num ((ofq z u).den : Int))), .val 74 (.vl (.bool true)), .val 75 (.vl (.bool true)), .val 76 (.vl (.bool true)), .val 77 (.kw (KQ (((0 : Int) : Rat)).num (((((0 : Int) : Rat)).den : Int) - 1))), .val 78 (.vl (.bool (decide ((((0 : Int) : Rat)).den = 1)))), .val 79 (.kw (KR3 (((0 : Int) : Rat)).num ((((0 : Int) : Rat)).den : Int))), .val 80 (.vl (.bool (decide ((((0 : Int) : Rat)).den = 1)))), .val 81 (.vl (.bool true)), .val 82 (.vl (.bool true)), .val 83 (.vl (.bool true)), .val 84 (.kw (KQ (((0 : Int) : Rat)).num (((((0 : Int) : Rat)).den : Int) - 1))), .val 85 (.vl (.int .i64 (sgq (((0 : Int) : Rat))))), .val 86 (.kw (KR3 (((0 : Int) : Rat)).num ((((0 : Int) : Rat)).den : Int))), .val 87 (.vl (.int .i64 (sgq (((0 : Int) : Rat))))), .val 88 (.vl (.bool true)), .val 89 (.vl (.bool true)), .val 90 (.vl (.bool true)), .val 91 (.kw (KQ (((0 : Int) : Rat)).num (((((0 : Int) : Rat)).den : Int) - 1))), .val 92 (.kw (KQ (ofq z u).num (((ofq z u).den : Int) - 1))), .val 93 (.vl (.int .i64 (cmpq (((0 : Int) : Rat)) (ofq z u)))), .val 94 (.kw (KR3 (((0 : Int) : Rat)).num ((((0 : Int) : Rat)).den : Int))), .val 95 (.kw (KR3 (ofq z u).num ((ofq z u).den : Int))), .val 96 (.vl (.int .i64 (cmpq (((0 : Int) : Rat)) (ofq z u)))), .val 97 (.vl (.bool true)), .val 98 (.vl (.bool true)), .val 99 (.vl (.bool true)), .val 100 (.vl (.bool true)), .val 101 (.vl (.bool true)), .val 6 (.vl (.bool true))] [([], [12]), ([], [14]), ([0, 1], []), ([2], []), ([3], [11]), ([3], [13]), ([4, 5, 3], []), ([3, 6], []), ([7], []), ([8], [7]), ([9, 8], []), ([8], [8]), ([11, 8], []), ([10, 12, 8], []), ([8, 13], []), ([14], []), ([15], [15]), ([15], [16]), ([16, 17, 15], []), ([15, 18], []), ([19], []), ([20], [11]), ([21, 20], []), ([20], [13]), ([23, 20], []), ([22, 24, 20], []), ([20, 25], []), ([26], []), ([27], [11]), ([28, 27], []), ([27], [13]), ([30, 27], []), ([29, 31, 27], []), ([27, 32], []), ([33], []), ([34], [11]), ([34], [15]), ([35, 36, 34], []), ([34], [13]), ([34], [16]), ([38, 39, 34], []), ([37, 40, 34], []), ([34, 41], []), ([42], []), ([43], []), ([43, 44], []), ([45], [])] rfl (by kernel_rfl) (by kernel_rfl) (by kernel_rfl) rfl ⟨?_, ?_, ?_, ?_, ?_, ?_, ?_, ?_, ?_, ?_, ?_, ?_, ?_, ?_, ?_, ?_, ?_, ?_, ?_, ?_, ?_, ?_, ?_, ?_, ?_, ?_, ?_, ?_, ?_, ?_, ?_, ?_, ?_, ?_, ?_, ?_, ?_, ?_, ?_, ?_, ?_, ?_, ?_, ?_, ?_, ?_, ?_, trivial⟩ ?_
        · exact DX.move rfl rfl rfl rfl rfl rfl
        · exact DX.move rfl rfl rfl rfl rfl rfl
        · exact DX.q2 (x := .tmp 56) (y := .tmp 57) (.bool true) rfl rfl rfl rfl rfl (fun ρ W h1 h2 => by go_simp)
        · exact DX.move rfl rfl rfl rfl rfl rfl
        · exact DX.load rfl rfl rfl rfl rfl rfl
        · exact DX.load rfl rfl rfl rfl rfl rfl
        · exact DX.call (r := .vl (.bool true)) rfl rfl rfl rfl rfl rfl (KV.st _) rfl (k_is3 (bq.int1 (bd.zero (a := 1))) (by first | decide | omega))
        · exact DX.pick (t := true) rfl rfl rfl rfl rfl rfl rfl
        · exact DX.move rfl rfl rfl rfl rfl rfl
        · exact DX.load rfl rfl rfl rfl rfl rfl
        · exact DX.call (r := .kw (KQ (((x : Int) : Rat)).num (((((x : Int) : Rat)).den : Int) - 1))) rfl rfl rfl rfl rfl rfl (KQ.st _ _) rfl (k_rof)
        · exact DX.load rfl rfl rfl rfl rfl rfl
        · exact DX.call (r := .kw (KR3 (((x : Int) : Rat)).num ((((x : Int) : Rat)).den : Int))) rfl rfl rfl rfl rfl rfl (KR3.st _ _) rfl (k_jrof)
        · exact DX.call (r := .vl (.bool true)) rfl rfl rfl rfl rfl rfl (KV.st _) rfl (k_is3 (bq.int1 X) (by first | decide | omega))
        · exact DX.pick (t := true) rfl rfl rfl rfl rfl rfl rfl
        · exact DX.move rfl rfl rfl rfl rfl rfl
        · exact DX.load rfl rfl rfl rfl rfl rfl
        · exact DX.load rfl rfl rfl rfl rfl rfl
        · exact DX.call (r := .vl (.bool true)) rfl rfl rfl rfl rfl rfl (KV.st _) rfl (k_is3 (bq.of Z U) (by first | decide | omega))
        · exact DX.pick (t := true) rfl rfl rfl rfl rfl rfl rfl
        · exact DX.move rfl rfl rfl rfl rfl rfl
        · exact DX.load rfl rfl rfl rfl rfl rfl
        · exact DX.call (r := .vl (.bool (decide ((((0 : Int) : Rat)).den = 1)))) rfl rfl rfl rfl rfl rfl (KV.st _) rfl (k_rwhole)
        · exact DX.load rfl rfl rfl rfl rfl rfl
        · exact DX.call (r := .vl (.bool (decide ((((0 : Int) : Rat)).den = 1)))) rfl rfl rfl rfl rfl rfl (KV.st _) rfl (k_jrwhole (bq.int1 (bd.zero (a := 1))) (by first | decide | omega))
        · exact DX.q2 (x := .tmp 78) (y := .tmp 80) (.bool true) rfl rfl rfl rfl rfl (fun ρ W h1 h2 => by go_simp; first | done | rfl | (split <;> rfl) | simp)
        · exact DX.pick (t := true) rfl rfl rfl rfl rfl rfl rfl
        · exact DX.move rfl rfl rfl rfl rfl rfl
        · exact DX.load rfl rfl rfl rfl rfl rfl
        · exact DX.call (r := .vl (.int .i64 (sgq (((0 : Int) : Rat))))) rfl rfl rfl rfl rfl rfl (KV.st _) rfl (k_rsign)
        · exact DX.load rfl rfl rfl rfl rfl rfl
        · exact DX.call (r := .vl (.int .i64 (sgq (((0 : Int) : Rat))))) rfl rfl rfl rfl rfl rfl (KV.st _) rfl (k_jrsign)
        · exact DX.q2 (x := .tmp 85) (y := .tmp 87) (.bool true) rfl rfl rfl rfl rfl (fun ρ W h1 h2 => by go_simp)
        · exact DX.pick (t := true) rfl rfl rfl rfl rfl rfl rfl
        · exact DX.move rfl rfl rfl rfl rfl rfl
        · exact DX.load rfl rfl rfl rfl rfl rfl
        · exact DX.load rfl rfl rfl rfl rfl rfl
        · exact DX.call (r := .vl (.int .i64 (cmpq (((0 : Int) : Rat)) (ofq z u)))) rfl rfl rfl rfl rfl rfl (KV.st _) rfl (k_rcmp (bq.int1 (bd.zero (a := 1))) (bq.of Z U) (by first | decide | omega) (by first | decide | omega))
        · exact DX.load rfl rfl rfl rfl rfl rfl
        · exact DX.load rfl rfl rfl rfl rfl rfl
        · exact DX.call (r := .vl (.int .i64 (cmpq (((0 : Int) : Rat)) (ofq z u)))) rfl rfl rfl rfl rfl rfl (KV.st _) rfl (k_jrcmp (bq.int1 (bd.zero (a := 1))) (bq.of Z U) (by first | decide | omega) (by first | decide | omega))
        · exact DX.q2 (x := .tmp 93) (y := .tmp 96) (.bool true) rfl rfl rfl rfl rfl (fun ρ W h1 h2 => by go_simp)
        · exact DX.pick (t := true) rfl rfl rfl rfl rfl rfl rfl
        · exact DX.move rfl rfl rfl rfl rfl rfl
        · exact DX.call (r := .vl (.bool true)) rfl rfl rfl rfl rfl rfl (KV.st _) rfl (k_awake3)
        · exact DX.pick (t := true) rfl rfl rfl rfl rfl rfl rfl
        · exact DX.assign rfl rfl rfl rfl rfl rfl
        refine SX.then ?_
        refine SC.ret ?_
        exact SX.done (r := .vl (.bool true)) rfl rfl rfl
      · refine SC.region ?_
        refine PW.load rfl rfl rfl rfl rfl rfl ?_
        refine PW.load rfl rfl rfl rfl rfl rfl ?_
        refine PW.call (r := .kw (K2 (KQ (Rat.divInt (x) (y)).num (((Rat.divInt (x) (y)).den : Int) - 1)) (KV (.int .i64 0)))) rfl rfl rfl rfl rfl rfl (K2.st (KQ.st _ _) (KV.st _)) rfl (k_rnew X Y hy (by first | decide | omega) (by first | decide | omega)) ?_
        refine PW.move rfl rfl rfl rfl rfl ?_
        refine PW.ext (r := .kw (KQ (Rat.divInt (x) (y)).num (((Rat.divInt (x) (y)).den : Int) - 1))) rfl rfl rfl rfl rfl ex20 (KQ.st _ _) rfl ?_
        refine PW.ext (r := .vl (.int .i64 0)) rfl rfl rfl rfl rfl ex21v (KV.st _) rfl ?_
        refine PW.alloc (BQ 38) rfl rfl rfl rfl rfl bQ ?_
        refine PW.store (x := .tmp 43) (r := .kw (KQ (Rat.divInt (x) (y)).num (((Rat.divInt (x) (y)).den : Int) - 1))) rfl rfl rfl rfl rfl rfl sh_Q ?_
        refine PW.assign rfl rfl rfl rfl rfl ?_
        refine PW.nil ?_
        refine SX.then ?_
        refine SC.seq ?_
        refine SC.region ?_
        refine PW.load rfl rfl rfl rfl rfl rfl ?_
        refine PW.load rfl rfl rfl rfl rfl rfl ?_
        refine PW.call (r := .kw (K2 (KR3 (Rat.divInt (x) (y)).num ((Rat.divInt (x) (y)).den : Int)) (KV (.int .i64 0)))) rfl rfl rfl rfl rfl rfl (K2.st (KR3.st _ _) (KV.st _)) rfl (k_jrnew X Y hy (by first | decide | omega) (by first | decide | omega)) ?_
        refine PW.move rfl rfl rfl rfl rfl ?_
        refine PW.ext (r := .kw (KR3 (Rat.divInt (x) (y)).num ((Rat.divInt (x) (y)).den : Int))) rfl rfl rfl rfl rfl ex20 (KR3.st _ _) rfl ?_
        refine PW.ext (r := .vl (.int .i64 0)) rfl rfl rfl rfl rfl ex21v (KV.st _) rfl ?_
        refine PW.alloc (BQ 43) rfl rfl rfl rfl rfl bQJ ?_
        refine PW.store (x := .tmp 49) (r := .kw (KR3 (Rat.divInt (x) (y)).num ((Rat.divInt (x) (y)).den : Int))) rfl rfl rfl rfl rfl rfl sh_R3 ?_
        refine PW.assign rfl rfl rfl rfl rfl ?_
        refine PW.nil ?_
        refine SX.then ?_
        refine SC.seq ?_
        refine SC.region ?_
        refine PW.loadV rfl rfl rfl rfl rfl rfl ?_
        refine PW.callG (r := .kw (K2 (KQ (ofq z u).num (((ofq z u).den : Int) - 1)) (KR3 (ofq z u).num ((ofq z u).den : Int)))) ce_of3 rfl rfl rfl rfl rfl (K2.st (KQ.st _ _) (KR3.st _ _)) rfl (fun a W hf => by have e1 := hf.vl (s := 52) rfl; show Calls Tryz.prog _ #[a.tmps.getD 52 undef] W _; rw [e1]; exact of3_c (in_be h3 hf.be) (in_be h4 hf.be) hz3 hz4 Z U (by omega) (by omega) (by decide)) ?_
        refine PW.move rfl rfl rfl rfl rfl ?_
        refine PW.ext (r := .kw (KQ (ofq z u).num (((ofq z u).den : Int) - 1))) rfl rfl rfl rfl rfl ex20 (KQ.st _ _) rfl ?_
        refine PW.ext (r := .kw (KR3 (ofq z u).num ((ofq z u).den : Int))) rfl rfl rfl rfl rfl ex21 (KR3.st _ _) rfl ?_
        refine PW.alloc (BQ 38) rfl rfl rfl rfl rfl bQ ?_
        refine PW.alloc (BQ 43) rfl rfl rfl rfl rfl bQJ ?_
        refine PW.store (x := .tmp 54) (r := .kw (KQ (ofq z u).num (((ofq z u).den : Int) - 1))) rfl rfl rfl rfl rfl rfl sh_Q ?_
        refine PW.store (x := .tmp 55) (r := .kw (KR3 (ofq z u).num ((ofq z u).den : Int))) rfl rfl rfl rfl rfl rfl sh_R3 ?_
        refine PW.nil ?_
        refine SX.then ?_
        refine SC.seq ?_
        refine SC.dx [.val 56 (.vl (.int .i64 0)), .val 57 (.vl (.int .i64 0)), .val 58 (.vl (.bool true)), .val 59 (.vl (.bool true)), .val 60 (.kw (KQ (Rat.divInt (x) (y)).num (((Rat.divInt (x) (y)).den : Int) - 1))), .val 61 (.kw (KR3 (Rat.divInt (x) (y)).num ((Rat.divInt (x) (y)).den : Int))), .val 62 (.vl (.bool true)), .val 63 (.vl (.bool true)), .val 64 (.vl (.bool true)), .val 65 (.kw (KI (x))), .val 66 (.kw (KQ (((x : Int) : Rat)).num (((((x : Int) : Rat)).den : Int) - 1))), .val 67 (.kw (KJ (x))), .val 68 (.kw (KR3 (((x : Int) : Rat)).num ((((x : Int) : Rat)).den : Int))), .val 69 (.vl (.bool true)), .val 70 (.vl (.bool true)), .val 71 (.vl (.bool true)), .val 72 (.kw (KQ (ofq z u).num (((ofq z u).den : Int) - 1))), .val 73 (.kw (KR3 (ofq z u).num ((ofq z u).den : Int))), .val 74 (.vl (.bool true)), .val 75 (.vl (.bool true)), .val 76 (.vl (.bool true)), .val 77 (.kw (KQ (Rat.divInt (x) (y)).num (((Rat.divInt (x) (y)).den : Int) - 1))), .val 78 (.vl (.bool (decide ((Rat.divInt (x) (y)).den = 1)))), .val 79 (.kw (KR3 (Rat.divInt (x) (y)).num ((Rat.divInt (x) (y)).den : Int))), .val 80 (.vl (.bool (decide ((Rat.divInt (x) (y)).den = 1)))), .val 81 (.vl (.bool true)), .val 82 (.vl (.bool true)), .val 83 (.vl (.bool true)), .val 84 (.kw (KQ (Rat.divInt (x) (y)).num (((Rat.divInt (x) (y)).den : Int) - 1))), .val 85 (.vl (.int .i64 (sgq (Rat.divInt (x) (y))))), .val 86 (.kw (KR3 (Rat.divInt (x) (y)).num ((Rat.divInt (x) (y)).den : Int))), .val 87 (.vl (.int .i64 (sgq (Rat.divInt (x) (y))))), .val 88 (.vl (.bool true)), .val 89 (.vl (.bool true)), .val 90 (.vl (.bool true)), .val 91 (.kw (KQ (Rat.divInt (x) (y)).num (((Rat.divInt (x) (y)).den : Int) - 1))), .val 92 (.kw (KQ (ofq z u).num (((ofq z u).den : Int) - 1))), .val 93 (.vl (.int .i64 (cmpq (Rat.divInt (x) (y)) (ofq z u)))), .val 94 (.kw (KR3 (Rat.divInt (x) (y)).num ((Rat.divInt (x) (y)).den : Int))), .val 95 (.kw (KR3 (ofq z u).num ((ofq z u).den : Int))), .val 96 (.vl (.int .i64 (cmpq (Rat.divInt (x) (y)) (ofq z u)))), .val 97 (.vl (.bool true)), .val 98 (.vl (.bool true)), .val 99 (.vl (.bool true)), .val 100 (.vl (.bool true)), .val 101 (.vl (.bool true)), .val 6 (.vl (.bool true))] [([], [12]), ([], [14]), ([0, 1], []), ([2], []), ([3], [11]), ([3], [13]), ([4, 5, 3], []), ([3, 6], []), ([7], []), ([8], [7]), ([9, 8], []), ([8], [8]), ([11, 8], []), ([10, 12, 8], []), ([8, 13], []), ([14], []), ([15], [15]), ([15], [16]), ([16, 17, 15], []), ([15, 18], []), ([19], []), ([20], [11]), ([21, 20], []), ([20], [13]), ([23, 20], []), ([22, 24, 20], []), ([20, 25], []), ([26], []), ([27], [11]), ([28, 27], []), ([27], [13]), ([30, 27], []), ([29, 31, 27], []), ([27, 32], []), ([33], []), ([34], [11]), ([34], [15]), ([35, 36, 34], []), ([34], [13]), ([34], [16]), ([38, 39, 34], []), ([37, 40, 34], []), ([34, 41], []), ([42], []), ([43], []), ([43, 44], []), ([45], [])] rfl (by kernel_rfl) (by kernel_rfl) (by kernel_rfl) rfl ⟨?_, ?_, ?_, ?_, ?_, ?_, ?_, ?_, ?_, ?_, ?_, ?_, ?_, ?_, ?_, ?_, ?_, ?_, ?_, ?_, ?_, ?_, ?_, ?_, ?_, ?_, ?_, ?_, ?_, ?_, ?_, ?_, ?_, ?_, ?_, ?_, ?_, ?_, ?_, ?_, ?_, ?_, ?_, ?_, ?_, ?_, ?_, trivial⟩ ?_
        · exact DX.move rfl rfl rfl rfl rfl rfl
        · exact DX.move rfl rfl rfl rfl rfl rfl
        · exact DX.q2 (x := .tmp 56) (y := .tmp 57) (.bool true) rfl rfl rfl rfl rfl (fun ρ W h1 h2 => by go_simp)
        · exact DX.move rfl rfl rfl rfl rfl rfl
        · exact DX.load rfl rfl rfl rfl rfl rfl
        · exact DX.load rfl rfl rfl rfl rfl rfl
        · exact DX.call (r := .vl (.bool true)) rfl rfl rfl rfl rfl rfl (KV.st _) rfl (k_is3 (bq.over X Y hy) (by first | decide | omega))
        · exact DX.pick (t := true) rfl rfl rfl rfl rfl rfl rfl
        · exact DX.move rfl rfl rfl rfl rfl rfl
        · exact DX.load rfl rfl rfl rfl rfl rfl
        · exact DX.call (r := .kw (KQ (((x : Int) : Rat)).num (((((x : Int) : Rat)).den : Int) - 1))) rfl rfl rfl rfl rfl rfl (KQ.st _ _) rfl (k_rof)
        · exact DX.load rfl rfl rfl rfl rfl rfl
        · exact DX.call (r := .kw (KR3 (((x : Int) : Rat)).num ((((x : Int) : Rat)).den : Int))) rfl rfl rfl rfl rfl rfl (KR3.st _ _) rfl (k_jrof)
        · exact DX.call (r := .vl (.bool true)) rfl rfl rfl rfl rfl rfl (KV.st _) rfl (k_is3 (bq.int1 X) (by first | decide | omega))
        · exact DX.pick (t := true) rfl rfl rfl rfl rfl rfl rfl
        · exact DX.move rfl rfl rfl rfl rfl rfl
        · exact DX.load rfl rfl rfl rfl rfl rfl
        · exact DX.load rfl rfl rfl rfl rfl rfl
        · exact DX.call (r := .vl (.bool true)) rfl rfl rfl rfl rfl rfl (KV.st _) rfl (k_is3 (bq.of Z U) (by first | decide | omega))
        · exact DX.pick (t := true) rfl rfl rfl rfl rfl rfl rfl
        · exact DX.move rfl rfl rfl rfl rfl rfl
        · exact DX.load rfl rfl rfl rfl rfl rfl
        · exact DX.call (r := .vl (.bool (decide ((Rat.divInt (x) (y)).den = 1)))) rfl rfl rfl rfl rfl rfl (KV.st _) rfl (k_rwhole)
        · exact DX.load rfl rfl rfl rfl rfl rfl
        · exact DX.call (r := .vl (.bool (decide ((Rat.divInt (x) (y)).den = 1)))) rfl rfl rfl rfl rfl rfl (KV.st _) rfl (k_jrwhole (bq.over X Y hy) (by first | decide | omega))
        · exact DX.q2 (x := .tmp 78) (y := .tmp 80) (.bool true) rfl rfl rfl rfl rfl (fun ρ W h1 h2 => by go_simp; first | done | rfl | (split <;> rfl) | simp)
        · exact DX.pick (t := true) rfl rfl rfl rfl rfl rfl rfl
        · exact DX.move rfl rfl rfl rfl rfl rfl
        · exact DX.load rfl rfl rfl rfl rfl rfl
        · exact DX.call (r := .vl (.int .i64 (sgq (Rat.divInt (x) (y))))) rfl rfl rfl rfl rfl rfl (KV.st _) rfl (k_rsign)
        · exact DX.load rfl rfl rfl rfl rfl rfl
        · exact DX.call (r := .vl (.int .i64 (sgq (Rat.divInt (x) (y))))) rfl rfl rfl rfl rfl rfl (KV.st _) rfl (k_jrsign)
        · exact DX.q2 (x := .tmp 85) (y := .tmp 87) (.bool true) rfl rfl rfl rfl rfl (fun ρ W h1 h2 => by go_simp)
        · exact DX.pick (t := true) rfl rfl rfl rfl rfl rfl rfl
        · exact DX.move rfl rfl rfl rfl rfl rfl
        · exact DX.load rfl rfl rfl rfl rfl rfl
        · exact DX.load rfl rfl rfl rfl rfl rfl
        · exact DX.call (r := .vl (.int .i64 (cmpq (Rat.divInt (x) (y)) (ofq z u)))) rfl rfl rfl rfl rfl rfl (KV.st _) rfl (k_rcmp (bq.over X Y hy) (bq.of Z U) (by first | decide | omega) (by first | decide | omega))
        · exact DX.load rfl rfl rfl rfl rfl rfl
        · exact DX.load rfl rfl rfl rfl rfl rfl
        · exact DX.call (r := .vl (.int .i64 (cmpq (Rat.divInt (x) (y)) (ofq z u)))) rfl rfl rfl rfl rfl rfl (KV.st _) rfl (k_jrcmp (bq.over X Y hy) (bq.of Z U) (by first | decide | omega) (by first | decide | omega))
        · exact DX.q2 (x := .tmp 93) (y := .tmp 96) (.bool true) rfl rfl rfl rfl rfl (fun ρ W h1 h2 => by go_simp)
        · exact DX.pick (t := true) rfl rfl rfl rfl rfl rfl rfl
        · exact DX.move rfl rfl rfl rfl rfl rfl
        · exact DX.call (r := .vl (.bool true)) rfl rfl rfl rfl rfl rfl (KV.st _) rfl (k_awake3)
        · exact DX.pick (t := true) rfl rfl rfl rfl rfl rfl rfl
        · exact DX.assign rfl rfl rfl rfl rfl rfl
        refine SX.then ?_
        refine SC.ret ?_
        exact SX.done (r := .vl (.bool true)) rfl rfl rfl
    · have hq : shQ 4 [((n3, A3, l3, c3), (n4, A4, l4, c4))] = false := by simpa using hq
      refine SC.region ?_
      refine PW.loadV rfl rfl rfl rfl rfl rfl ?_
      refine PW.loadV rfl rfl rfl rfl rfl rfl ?_
      refine PW.short 4 [(n1, A1, l1, c1), (n2, A2, l2, c2)] _ rfl rfl rfl (fun a W hf => r_bN2 (hf.vl (s := 17) rfl) (hf.vl (s := 18) rfl)) (fun W => ns_lit2 W) (by simp; exact ⟨In.lim h1, In.lim h2⟩) rfl rfl hs rfl rfl rfl rfl rfl rfl ?_
      refine PW.q1 (x := .tmp 20) (.bool false) rfl rfl rfl rfl (fun ρ W h1 => by go_simp) ?_
      refine PW.move rfl rfl rfl rfl rfl ?_
      refine PW.loadV rfl rfl rfl rfl rfl rfl ?_
      refine PW.short3 4 [((n3, A3, l3, c3), (n4, A4, l4, c4))] _ rfl rfl rfl (fun a W hf => r_bQ1 (hf.vl (s := 23) rfl)) (fun W => qs_lit1 W) (by simp; exact ⟨In.lim h3, In.lim h4⟩) rfl rfl hq rfl rfl rfl rfl rfl rfl ?_
      refine PW.q1 (x := .tmp 25) (.bool true) rfl rfl rfl rfl (fun ρ W h1 => by go_simp) ?_
      refine PW.pick (t := false) rfl rfl rfl rfl rfl rfl ?_
      refine PW.nil ?_
      refine SX.then ?_
      refine SC.cond (t := true) rfl ?_
      refine SC.seq ?_
      refine SC.region ?_
      refine PW.call (r := .vl (.bool true)) rfl rfl rfl rfl rfl rfl (KV.st _) rfl (k_awake3) ?_
      refine PW.assign rfl rfl rfl rfl rfl ?_
      refine PW.nil ?_
      refine SX.then ?_
      refine SC.ret ?_
      refine SX.thenR ?_
      exact SX.done (r := .vl (.bool true)) rfl rfl rfl
  · have hs : shB 4 [(n1, A1, l1, c1), (n2, A2, l2, c2)] = false := by simpa using hs
    refine SC.region ?_
    refine PW.loadV rfl rfl rfl rfl rfl rfl ?_
    refine PW.loadV rfl rfl rfl rfl rfl rfl ?_
    refine PW.short 4 [(n1, A1, l1, c1), (n2, A2, l2, c2)] _ rfl rfl rfl (fun a W hf => r_bN2 (hf.vl (s := 17) rfl) (hf.vl (s := 18) rfl)) (fun W => ns_lit2 W) (by simp; exact ⟨In.lim h1, In.lim h2⟩) rfl rfl hs rfl rfl rfl rfl rfl rfl ?_
    refine PW.q1 (x := .tmp 20) (.bool true) rfl rfl rfl rfl (fun ρ W h1 => by go_simp) ?_
    refine PW.move rfl rfl rfl rfl rfl ?_
    refine PW.skip rfl rfl rfl ?_
    refine PW.skip rfl rfl rfl ?_
    refine PW.skip rfl rfl rfl ?_
    refine PW.skip rfl rfl rfl ?_
    refine PW.pick (t := true) rfl rfl rfl rfl rfl rfl ?_
    refine PW.nil ?_
    refine SX.then ?_
    refine SC.cond (t := true) rfl ?_
    refine SC.seq ?_
    refine SC.region ?_
    refine PW.call (r := .vl (.bool true)) rfl rfl rfl rfl rfl rfl (KV.st _) rfl (k_awake3) ?_
    refine PW.assign rfl rfl rfl rfl rfl ?_
    refine PW.nil ?_
    refine SX.then ?_
    refine SC.ret ?_
    refine SX.thenR ?_
    exact SX.done (r := .vl (.bool true)) rfl rfl rfl
end Go.Proofs.YthpjmhhfcechmaaGreat
/- How plain data that came in read. -/
set_option linter.unusedVariables false
set_option linter.unusedSimpArgs false
namespace Go.Proofs.YthpjmhhfcechmaaGreat
open Go.RowKit Ma
theorem In.nil (W : World) : In W none 0 0 [] := ⟨rfl, Nat.le_refl _, Rd.nil _ _ _, dg_nil _⟩
theorem In.of {W : World} {x : Addr} {l c : Nat} {zs : List Int} (hl : l ≤ c) (hm : c ≤ maxLen) (hz : zs.length = c) (hcell : ∀ i, i < zs.length → W.cell? (x.add i) = some (.int .u32 (zs.getD i 0))) (hw : ∀ n ∈ zs, (Lit.int .u32 n).wf = true) : In W (some x) l c (zs.take l) := by
  have h1 : (zs.take l).length = l := by rw [List.length_take]; omega
  refine ⟨h1.symm, hl, ⟨by rw [h1]; unfold maxLen at hm; omega, fun i hi => ⟨x, rfl, ?_⟩⟩, fun n hn => ?_⟩
  · rw [h1] at hi
    rw [hcell i (by omega)]
    simp only [at0, List.getD_eq_getElem?_getD, List.getElem?_take, hi, if_true]
  · have h2 := hw n (List.mem_of_mem_take hn)
    simp only [Lit.wf, Bool.and_eq_true, decide_eq_true_eq] at h2
    have hm : IntKind.u32.max = 4294967295 := by simp [IntKind.max, IntKind.bits, IntKind.signed]
    have hn : IntKind.u32.min = 0 := by simp [IntKind.min, IntKind.signed]
    rw [hm, hn] at h2
    rw [b32_eq]
    omega
end Go.Proofs.YthpjmhhfcechmaaGreat
/- A fraction as plain data that came in, opened: two signs, two slices. -/
set_option linter.unusedVariables false
set_option linter.unusedSimpArgs false
namespace Go.Proofs.YthpjmhhfcechmaaGreat
open Go.ChangeShapes Go.WideShapes Go.ChangeAt Go.RowKit Go.Joins
set_option maxHeartbeats 1600000 in
set_option maxRecDepth 100000 in
theorem open_Q {H : Type} {enc : TypeId × Value → H} {w : World} {base : Nat} {spare : Nat → Bool} {held : Bool} {r : Reach} {b0 : Nat} {v : Value} {d : DataW H} {p : List MemPlace} (hv : Value.okWide Tryz.prog w r b0 26 v) (h : DataW.Trod enc Tryz.prog w base spare held 26 v d p) :
    ∃ (q0 q1 q2 q3 : Value) (y0 y1 y2 y3 : DataW H × List MemPlace) (n m : Nat), v = .agg #[q0, q1, q2, q3] ∧ DataW.trod enc Tryz.prog w base spare held n 4 [q0] = some y0 ∧ DataW.trod enc Tryz.prog w base spare held n 22 [q1] = some y1 ∧ DataW.trod enc Tryz.prog w base spare held m 4 [q2] = some y2 ∧ DataW.trod enc Tryz.prog w base spare held m 22 [q3] = some y3 := by
  obtain ⟨cs, rfl, hsz⟩ := okWide_struct Tryz.underlying26 hv
  have k4 : Tryz.prog.cellsOf 26 = 4 := by kernel_rfl
  have k2 : Tryz.prog.cellsOf 24 = 2 := by kernel_rfl
  have kb : Tryz.prog.cellsOf 4 = 1 := by kernel_rfl
  have ks : Tryz.prog.cellsOf 22 = 1 := by kernel_rfl
  obtain ⟨q0, q1, q2, q3, rfl⟩ := array4 (hsz.trans k4)
  obtain ⟨fuel, hf⟩ := h
  obtain ⟨y0, y1, n, hx, _, h0, h1⟩ := trod_struct2 Tryz.underlying26 hf
  have g0 : DataW.trod enc Tryz.prog w base spare held n 24 [q0, q1] = some y0 := by simpa [Value.cells, k2] using h0
  have g1 : DataW.trod enc Tryz.prog w base spare held n 24 [q2, q3] = some y1 := by simpa [Value.cells, k2] using h1
  obtain ⟨a0, a1, i, _, _, e0, e1⟩ := trod_struct2 Tryz.underlying24 g0
  obtain ⟨b0, b1, j, _, _, f0, f1⟩ := trod_struct2 Tryz.underlying24 g1
  exact ⟨q0, q1, q2, q3, a0, a1, b0, b1, i, j, rfl, by simpa [kb] using e0, by simpa [ks] using e1, by simpa [kb] using f0, by simpa [ks] using f1⟩
end Go.Proofs.YthpjmhhfcechmaaGreat
