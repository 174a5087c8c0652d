/- Parts In, in one file. -/
import Derived.Test.YtcgkgcciogibkaaLNumbers7
/- IntegerNumbers: the walk, by rules. -/
set_option linter.unusedVariables false
set_option linter.unusedSimpArgs false
namespace Go.Proofs.Ytcgkgcciogibkaa
open Go.RowKit Ma Sy
theorem callK {f : FuncId} {ks : List Know} {r r' : Know} (h : CallOk f ks r) (e : r = r') : CallOk f ks r' := e ▸ h
set_option maxHeartbeats 12800000 in
set_option maxRecDepth 100000 in
theorem integerNumbers_walk {n1 : Bool} {A1 : Option Addr} {l1 c1 : Nat} {xs1 : List Int} {n : Int}  {w : World} (h1 : In w A1 l1 c1 xs1) (hw : (Lit.int .i64 n).wf = true) :
    Calls Try.prog 7 #[.agg #[.bool n1, .slice A1 l1 c1], .int .i64 n] w (Ret w (KV (.bool true))) := by
  obtain ⟨x, hz1⟩ : ∃ z, z = sg n1 (lv b32 xs1) := ⟨_, rfl⟩
  have hnr := lit_i64 hw
  refine calls_sc (l := [.vl (.agg #[.bool n1, .slice A1 l1 c1]), .vl (.int .i64 n)]) (us := [.agg #[.bool n1, .slice A1 l1 c1], .int .i64 n]) 101 Try.func7 rfl Try.ntmps7 (by simp) ⟨rfl, rfl, rfl, rfl, trivial⟩ ?_
  refine SC.seq ?_
  refine SC.region ?_
  refine PW.box (x := .tmp 0) (r := .vl (.agg #[.bool n1, .slice A1 l1 c1])) (BI 24) rfl rfl rfl rfl rfl bN rfl sh_V ?_
  refine PW.assign rfl rfl rfl rfl rfl ?_
  refine PW.nil ?_
  refine SX.then ?_
  refine SC.seq ?_
  refine SC.seq ?_
  by_cases hs : shB 12 [(n1, A1, l1, c1)] = true
  · have hlehs : l1 ≤ 12 := by simpa [shB] using hs
    have X : bd 12 x := hz1 ▸ bd_sg h1.2.2.2 (by have := h1.1; omega)
    have hl1 : l1 ≤ 12 := by omega
    refine SC.region ?_
    refine PW.loadV rfl rfl rfl rfl rfl rfl ?_
    refine PW.short 12 [(n1, A1, l1, c1)] _ rfl rfl rfl (fun a W hf => r_bN1 (hf.vl (s := 15) rfl)) (fun W => ns_lit1 W) (by simp; exact In.lim h1) rfl rfl hs rfl rfl rfl rfl rfl rfl ?_
    refine PW.q1 (x := .tmp 17) (.bool false) rfl rfl rfl rfl (fun ρ W h1 => by go_simp) ?_
    refine PW.nil ?_
    refine SX.then ?_
    refine SC.cond (t := false) rfl ?_
    refine SC.skip ?_
    refine SX.then ?_
    refine SC.seq ?_
    refine SC.region ?_
    refine PW.loadV rfl rfl rfl rfl rfl rfl ?_
    refine PW.callG (r := .kw (K2 (KI (x)) (KJ (x)))) ce_of rfl rfl rfl rfl rfl (K2.st (KI.st _) (KJ.st _)) rfl (fun a W hf => by have e1 := hf.vl (s := 21) rfl; show Calls Try.prog _ #[a.tmps.getD 21 undef] W _; rw [e1]; exact of_in h1 hf.be (by omega) hz1) ?_
    refine PW.move rfl rfl rfl rfl rfl ?_
    refine PW.ext (r := .kw (KI (x))) rfl rfl rfl rfl rfl ex20 (KI.st _) rfl ?_
    refine PW.ext (r := .kw (KJ (x))) rfl rfl rfl rfl rfl ex21 (KJ.st _) rfl ?_
    refine PW.alloc (BI 28) rfl rfl rfl rfl rfl bI ?_
    refine PW.alloc (BI 31) rfl rfl rfl rfl rfl bJ ?_
    refine PW.store (x := .tmp 23) (r := .kw (KI (x))) rfl rfl rfl rfl rfl rfl sh_I ?_
    refine PW.store (x := .tmp 24) (r := .kw (KJ (x))) rfl rfl rfl rfl rfl rfl sh_J ?_
    refine PW.nil ?_
    refine SX.then ?_
    refine SC.seq ?_
    refine SC.region ?_
    refine PW.move rfl rfl rfl rfl rfl ?_
    refine PW.call (r := .kw (KI (n))) rfl rfl rfl rfl rfl rfl (KI.st _) rfl (k_new (by omega)) ?_
    refine PW.move rfl rfl rfl rfl rfl ?_
    refine PW.call (r := .kw (KJ (n))) rfl rfl rfl rfl rfl rfl (KJ.st _) rfl (k_jnew (by omega)) ?_
    refine PW.alloc (BI 28) rfl rfl rfl rfl rfl bI ?_
    refine PW.alloc (BI 31) rfl rfl rfl rfl rfl bJ ?_
    refine PW.store (x := .tmp 26) (r := .kw (KI (n))) rfl rfl rfl rfl rfl rfl sh_I ?_
    refine PW.store (x := .tmp 28) (r := .kw (KJ (n))) rfl rfl rfl rfl rfl rfl sh_J ?_
    refine PW.nil ?_
    refine SX.then ?_
    refine SC.seq ?_
    by_cases hx : -9223372036854775808 ≤ x ∧ x ≤ 9223372036854775807
    · refine SC.region ?_
      refine PW.load rfl rfl rfl rfl rfl rfl ?_
      refine PW.call (r := .kw (K2 (KV (.int .i64 x)) (KV (.bool true)))) rfl rfl rfl rfl rfl rfl (K2.st (KV.st _) (KV.st _)) rfl (callK (k_int64 X (by decide)) (KZ_yes hx.1 hx.2)) ?_
      refine PW.move rfl rfl rfl rfl rfl ?_
      refine PW.ext (r := .vl (.int .i64 x)) rfl rfl rfl rfl rfl ex20v (KV.st _) rfl ?_
      refine PW.ext (r := .vl (.bool true)) rfl rfl rfl rfl rfl ex21v (KV.st _) rfl ?_
      refine PW.assign rfl rfl rfl rfl rfl ?_
      refine PW.assign rfl rfl rfl rfl rfl ?_
      refine PW.nil ?_
      refine SX.then ?_
      refine SC.seq ?_
      refine SC.region ?_
      refine PW.load rfl rfl rfl rfl rfl rfl ?_
      refine PW.call (r := .kw (K2 (KV (.int .i64 x)) (KV (.bool true)))) rfl rfl rfl rfl rfl rfl (K2.st (KV.st _) (KV.st _)) rfl (callK (k_jint64 X (by decide)) (KZ_yes hx.1 hx.2)) ?_
      refine PW.move rfl rfl rfl rfl rfl ?_
      refine PW.ext (r := .vl (.int .i64 x)) rfl rfl rfl rfl rfl ex20v (KV.st _) rfl ?_
      refine PW.ext (r := .vl (.bool true)) rfl rfl rfl rfl rfl ex21v (KV.st _) rfl ?_
      refine PW.assign rfl rfl rfl rfl rfl ?_
      refine PW.assign rfl rfl rfl rfl rfl ?_
      refine PW.nil ?_
      refine SX.then ?_
      refine SC.seq ?_
      refine SC.region ?_
      refine PW.load rfl rfl rfl rfl rfl rfl ?_
      refine PW.call (r := .kw (K2 (KV (.int .i64 n)) (KV (.bool true)))) rfl rfl rfl rfl rfl rfl (K2.st (KV.st _) (KV.st _)) rfl (callK (k_int64 ((bd_i64 hnr)) (by decide)) (KZ_yes hnr.1 hnr.2)) ?_
      refine PW.move rfl rfl rfl rfl rfl ?_
      refine PW.ext (r := .vl (.int .i64 n)) rfl rfl rfl rfl rfl ex20v (KV.st _) rfl ?_
      refine PW.ext (r := .vl (.bool true)) rfl rfl rfl rfl rfl ex21v (KV.st _) rfl ?_
      refine PW.assign rfl rfl rfl rfl rfl ?_
      refine PW.assign rfl rfl rfl rfl rfl ?_
      refine PW.nil ?_
      refine SX.then ?_
      refine SC.seq ?_
      refine SC.dx [.val 44 (.kw (KI (x))), .val 45 (.kw (KJ (x))), .val 46 (.vl (.bool true)), .val 47 (.vl (.bool true)), .val 48 (.kw (KI (n))), .val 49 (.kw (KJ (n))), .val 50 (.vl (.bool true)), .val 51 (.vl (.bool true)), .val 52 (.vl (.bool true)), .val 53 (.vl (.int .i64 x)), .val 54 (.vl (.int .i64 x)), .val 55 (.vl (.bool true)), .val 56 (.vl (.bool true)), .val 57 (.vl (.bool true)), .val 58 (.vl (.bool true)), .val 59 (.vl (.bool true)), .val 60 (.vl (.bool true)), .val 61 (.vl (.bool true)), .val 62 (.vl (.bool true)), .val 63 (.vl (.int .i64 n)), .val 64 (.vl (.int .i64 n)), .val 65 (.vl (.bool true)), .val 66 (.vl (.bool true)), .val 67 (.vl (.bool true)), .val 68 (.vl (.bool true)), .val 69 (.vl (.bool true)), .val 70 (.vl (.bool true)), .val 71 (.kw (KI (x))), .val 72 (.vl (.int .i64 (sgn x))), .val 73 (.kw (KJ (x))), .val 74 (.vl (.int .i64 (sgn x))), .val 75 (.vl (.bool true)), .val 76 (.vl (.bool true)), .val 77 (.vl (.bool true)), .val 78 (.kw (KI (x))), .val 79 (.vl (.bool (decide (x % 2 = 1)))), .val 80 (.kw (KJ (x))), .val 81 (.vl (.bool (decide (x % 2 = 1)))), .val 82 (.vl (.bool true)), .val 83 (.vl (.bool true)), .val 84 (.vl (.bool true)), .val 85 (.kw (KI (x))), .val 86 (.vl (.int .i64 (wid (pat x) : Int))), .val 87 (.kw (KJ (x))), .val 88 (.vl (.int .i64 (wid (pat x) : Int))), .val 89 (.vl (.bool true)), .val 90 (.vl (.bool true)), .val 91 (.vl (.bool true)), .val 92 (.kw (KI (x))), .val 93 (.vl (.int .i64 (pc (pat x).toNat : Int))), .val 94 (.kw (KJ (x))), .val 95 (.vl (.int .i64 (pc (pat x).toNat : Int))), .val 96 (.vl (.bool true)), .val 97 (.vl (.bool true)), .val 98 (.vl (.bool true)), .val 99 (.vl (.bool true)), .val 100 (.vl (.bool true)), .val 4 (.vl (.bool true))] [([], [5]), ([], [6]), ([0, 1], []), ([2], []), ([3], [7]), ([3], [8]), ([4, 5, 3], []), ([3, 6], []), ([7], []), ([8], [9]), ([8], [11]), ([9, 10, 8], []), ([8, 11], []), ([12], []), ([13], [10]), ([13], [12]), ([14, 15, 13], []), ([13, 16], []), ([17], []), ([18], [13]), ([18], [1]), ([19, 20, 18], []), ([18, 21], []), ([22], []), ([23], [14]), ([23, 24], []), ([25], []), ([26], [5]), ([27, 26], []), ([26], [6]), ([29, 26], []), ([28, 30, 26], []), ([26, 31], []), ([32], []), ([33], [5]), ([34, 33], []), ([33], [6]), ([36, 33], []), ([35, 37, 33], []), ([33, 38], []), ([39], []), ([40], [5]), ([41, 40], []), ([40], [6]), ([43, 40], []), ([42, 44, 40], []), ([40, 45], []), ([46], []), ([47], [5]), ([48, 47], []), ([47], [6]), ([50, 47], []), ([49, 51, 47], []), ([47, 52], []), ([53], []), ([54], []), ([54, 55], []), ([56], [])] rfl (by kernel_rfl) (by kernel_rfl) (by kernel_rfl) rfl ⟨?_, ?_, ?_, ?_, ?_, ?_, ?_, ?_, ?_, ?_, ?_, ?_, ?_, ?_, ?_, ?_, ?_, ?_, ?_, ?_, ?_, ?_, ?_, ?_, ?_, ?_, ?_, ?_, ?_, ?_, ?_, ?_, ?_, ?_, ?_, ?_, ?_, ?_, ?_, ?_, ?_, ?_, ?_, ?_, ?_, ?_, ?_, ?_, ?_, ?_, ?_, ?_, ?_, ?_, ?_, ?_, ?_, ?_, trivial⟩ ?_
      · exact DX.load rfl rfl rfl rfl rfl rfl
      · exact DX.load rfl rfl rfl rfl rfl rfl
      · exact DX.call (r := .vl (.bool true)) rfl rfl rfl rfl rfl rfl (KV.st _) rfl (k_is X (by first | decide | omega) rfl)
      · exact DX.move rfl rfl rfl rfl rfl rfl
      · exact DX.load rfl rfl rfl rfl rfl rfl
      · exact DX.load rfl rfl rfl rfl rfl rfl
      · exact DX.call (r := .vl (.bool true)) rfl rfl rfl rfl rfl rfl (KV.st _) rfl (k_is ((bd_i64 hnr)) (by first | decide | omega) rfl)
      · exact DX.pick (t := true) rfl rfl rfl rfl rfl rfl rfl
      · exact DX.move rfl rfl rfl rfl rfl rfl
      · exact DX.move rfl rfl rfl rfl rfl rfl
      · exact DX.move rfl rfl rfl rfl rfl rfl
      · exact DX.q2 (x := .tmp 53) (y := .tmp 54) (.bool true) rfl rfl rfl rfl rfl (fun ρ W h1 h2 => by go_simp)
      · exact DX.pick (t := true) rfl rfl rfl rfl rfl rfl rfl
      · exact DX.move rfl rfl rfl rfl rfl rfl
      · exact DX.move rfl rfl rfl rfl rfl rfl
      · exact DX.move rfl rfl rfl rfl rfl rfl
      · exact DX.q2 (x := .tmp 58) (y := .tmp 59) (.bool true) rfl rfl rfl rfl rfl (fun ρ W h1 h2 => by go_simp)
      · exact DX.pick (t := true) rfl rfl rfl rfl rfl rfl rfl
      · exact DX.move rfl rfl rfl rfl rfl rfl
      · exact DX.move rfl rfl rfl rfl rfl rfl
      · exact DX.move rfl rfl rfl rfl rfl rfl
      · exact DX.q2 (x := .tmp 63) (y := .tmp 64) (.bool true) rfl rfl rfl rfl rfl (fun ρ W h1 h2 => by go_simp)
      · exact DX.pick (t := true) rfl rfl rfl rfl rfl rfl rfl
      · exact DX.move rfl rfl rfl rfl rfl rfl
      · exact DX.move rfl rfl rfl rfl rfl rfl
      · exact DX.pick (t := true) rfl rfl rfl rfl rfl rfl rfl
      · exact DX.move rfl rfl rfl rfl rfl rfl
      · exact DX.load rfl rfl rfl rfl rfl rfl
      · exact DX.call (r := .vl (.int .i64 (sgn x))) rfl rfl rfl rfl rfl rfl (KV.st _) rfl (k_sign rfl)
      · exact DX.load rfl rfl rfl rfl rfl rfl
      · exact DX.call (r := .vl (.int .i64 (sgn x))) rfl rfl rfl rfl rfl rfl (KV.st _) rfl (k_jsign rfl)
      · exact DX.q2 (x := .tmp 72) (y := .tmp 74) (.bool true) rfl rfl rfl rfl rfl (fun ρ W h1 h2 => by go_simp)
      · exact DX.pick (t := true) rfl rfl rfl rfl rfl rfl rfl
      · exact DX.move rfl rfl rfl rfl rfl rfl
      · exact DX.load rfl rfl rfl rfl rfl rfl
      · exact DX.call (r := .vl (.bool (decide (x % 2 = 1)))) rfl rfl rfl rfl rfl rfl (KV.st _) rfl (k_odd X (by decide))
      · exact DX.load rfl rfl rfl rfl rfl rfl
      · exact DX.call (r := .vl (.bool (decide (x % 2 = 1)))) rfl rfl rfl rfl rfl rfl (KV.st _) rfl (k_jodd X (by decide))
      · exact DX.q2 (x := .tmp 79) (y := .tmp 81) (.bool true) rfl rfl rfl rfl rfl (fun ρ W h1 h2 => by go_simp; first | done | rfl | (cases decide (x % 2 = 1) <;> rfl))
      · exact DX.pick (t := true) rfl rfl rfl rfl rfl rfl rfl
      · exact DX.move rfl rfl rfl rfl rfl rfl
      · exact DX.load rfl rfl rfl rfl rfl rfl
      · exact DX.call (r := .vl (.int .i64 (wid (pat x) : Int))) rfl rfl rfl rfl rfl rfl (KV.st _) rfl (k_len X (by decide) rfl)
      · exact DX.load rfl rfl rfl rfl rfl rfl
      · exact DX.call (r := .vl (.int .i64 (wid (pat x) : Int))) rfl rfl rfl rfl rfl rfl (KV.st _) rfl (k_jlen X (by decide))
      · exact DX.q2 (x := .tmp 86) (y := .tmp 88) (.bool true) rfl rfl rfl rfl rfl (fun ρ W h1 h2 => by go_simp)
      · exact DX.pick (t := true) rfl rfl rfl rfl rfl rfl rfl
      · exact DX.move rfl rfl rfl rfl rfl rfl
      · exact DX.load rfl rfl rfl rfl rfl rfl
      · exact DX.call (r := .vl (.int .i64 (pc (pat x).toNat : Int))) rfl rfl rfl rfl rfl rfl (KV.st _) rfl (k_count X (by decide) rfl)
      · exact DX.load rfl rfl rfl rfl rfl rfl
      · exact DX.call (r := .vl (.int .i64 (pc (pat x).toNat : Int))) rfl rfl rfl rfl rfl rfl (KV.st _) rfl (k_jcount X (by decide))
      · exact DX.q2 (x := .tmp 93) (y := .tmp 95) (.bool true) rfl rfl rfl rfl rfl (fun ρ W h1 h2 => by go_simp)
      · exact DX.pick (t := true) rfl rfl rfl rfl rfl rfl rfl
      · exact DX.move rfl rfl rfl rfl rfl rfl
      · exact DX.call (r := .vl (.bool true)) rfl rfl rfl rfl rfl rfl (KV.st _) rfl (k_awake)
      · exact DX.pick (t := true) rfl rfl rfl rfl rfl rfl rfl
      · exact DX.assign rfl rfl rfl rfl rfl rfl
      refine SX.then ?_
      refine SC.ret ?_
      exact SX.done (r := .vl (.bool true)) rfl rfl rfl
    · refine SC.region ?_
      refine PW.load rfl rfl rfl rfl rfl rfl ?_
      refine PW.call (r := .kw (K2 (KV (.int .i64 0)) (KV (.bool false)))) rfl rfl rfl rfl rfl rfl (K2.st (KV.st _) (KV.st _)) rfl (callK (k_int64 X (by decide)) (KZ_no hx)) ?_
      refine PW.move rfl rfl rfl rfl rfl ?_
      refine PW.ext (r := .vl (.int .i64 0)) rfl rfl rfl rfl rfl ex20v (KV.st _) rfl ?_
      refine PW.ext (r := .vl (.bool false)) rfl rfl rfl rfl rfl ex21v (KV.st _) rfl ?_
      refine PW.assign rfl rfl rfl rfl rfl ?_
      refine PW.assign rfl rfl rfl rfl rfl ?_
      refine PW.nil ?_
      refine SX.then ?_
      refine SC.seq ?_
      refine SC.region ?_
      refine PW.load rfl rfl rfl rfl rfl rfl ?_
      refine PW.call (r := .kw (K2 (KV (.int .i64 0)) (KV (.bool false)))) rfl rfl rfl rfl rfl rfl (K2.st (KV.st _) (KV.st _)) rfl (callK (k_jint64 X (by decide)) (KZ_no hx)) ?_
      refine PW.move rfl rfl rfl rfl rfl ?_
      refine PW.ext (r := .vl (.int .i64 0)) rfl rfl rfl rfl rfl ex20v (KV.st _) rfl ?_
      refine PW.ext (r := .vl (.bool false)) rfl rfl rfl rfl rfl ex21v (KV.st _) rfl ?_
      refine PW.assign rfl rfl rfl rfl rfl ?_
      refine PW.assign rfl rfl rfl rfl rfl ?_
      refine PW.nil ?_
      refine SX.then ?_
      refine SC.seq ?_
      refine SC.region ?_
      refine PW.load rfl rfl rfl rfl rfl rfl ?_
      refine PW.call (r := .kw (K2 (KV (.int .i64 n)) (KV (.bool true)))) rfl rfl rfl rfl rfl rfl (K2.st (KV.st _) (KV.st _)) rfl (callK (k_int64 ((bd_i64 hnr)) (by decide)) (KZ_yes hnr.1 hnr.2)) ?_
      refine PW.move rfl rfl rfl rfl rfl ?_
      refine PW.ext (r := .vl (.int .i64 n)) rfl rfl rfl rfl rfl ex20v (KV.st _) rfl ?_
      refine PW.ext (r := .vl (.bool true)) rfl rfl rfl rfl rfl ex21v (KV.st _) rfl ?_
      refine PW.assign rfl rfl rfl rfl rfl ?_
      refine PW.assign rfl rfl rfl rfl rfl ?_
      refine PW.nil ?_
      refine SX.then ?_
      refine SC.seq ?_
      refine SC.dx [.val 44 (.kw (KI (x))), .val 45 (.kw (KJ (x))), .val 46 (.vl (.bool true)), .val 47 (.vl (.bool true)), .val 48 (.kw (KI (n))), .val 49 (.kw (KJ (n))), .val 50 (.vl (.bool true)), .val 51 (.vl (.bool true)), .val 52 (.vl (.bool true)), .val 53 (.vl (.int .i64 0)), .val 54 (.vl (.int .i64 0)), .val 55 (.vl (.bool true)), .val 56 (.vl (.bool true)), .val 57 (.vl (.bool true)), .val 58 (.vl (.bool false)), .val 59 (.vl (.bool false)), .val 60 (.vl (.bool true)), .val 61 (.vl (.bool true)), .val 62 (.vl (.bool true)), .val 63 (.vl (.int .i64 n)), .val 64 (.vl (.int .i64 n)), .val 65 (.vl (.bool true)), .val 66 (.vl (.bool true)), .val 67 (.vl (.bool true)), .val 68 (.vl (.bool true)), .val 69 (.vl (.bool true)), .val 70 (.vl (.bool true)), .val 71 (.kw (KI (x))), .val 72 (.vl (.int .i64 (sgn x))), .val 73 (.kw (KJ (x))), .val 74 (.vl (.int .i64 (sgn x))), .val 75 (.vl (.bool true)), .val 76 (.vl (.bool true)), .val 77 (.vl (.bool true)), .val 78 (.kw (KI (x))), .val 79 (.vl (.bool (decide (x % 2 = 1)))), .val 80 (.kw (KJ (x))), .val 81 (.vl (.bool (decide (x % 2 = 1)))), .val 82 (.vl (.bool true)), .val 83 (.vl (.bool true)), .val 84 (.vl (.bool true)), .val 85 (.kw (KI (x))), .val 86 (.vl (.int .i64 (wid (pat x) : Int))), .val 87 (.kw (KJ (x))), .val 88 (.vl (.int .i64 (wid (pat x) : Int))), .val 89 (.vl (.bool true)), .val 90 (.vl (.bool true)), .val 91 (.vl (.bool true)), .val 92 (.kw (KI (x))), .val 93 (.vl (.int .i64 (pc (pat x).toNat : Int))), .val 94 (.kw (KJ (x))), .val 95 (.vl (.int .i64 (pc (pat x).toNat : Int))), .val 96 (.vl (.bool true)), .val 97 (.vl (.bool true)), .val 98 (.vl (.bool true)), .val 99 (.vl (.bool true)), .val 100 (.vl (.bool true)), .val 4 (.vl (.bool true))] [([], [5]), ([], [6]), ([0, 1], []), ([2], []), ([3], [7]), ([3], [8]), ([4, 5, 3], []), ([3, 6], []), ([7], []), ([8], [9]), ([8], [11]), ([9, 10, 8], []), ([8, 11], []), ([12], []), ([13], [10]), ([13], [12]), ([14, 15, 13], []), ([13, 16], []), ([17], []), ([18], [13]), ([18], [1]), ([19, 20, 18], []), ([18, 21], []), ([22], []), ([23], [14]), ([23, 24], []), ([25], []), ([26], [5]), ([27, 26], []), ([26], [6]), ([29, 26], []), ([28, 30, 26], []), ([26, 31], []), ([32], []), ([33], [5]), ([34, 33], []), ([33], [6]), ([36, 33], []), ([35, 37, 33], []), ([33, 38], []), ([39], []), ([40], [5]), ([41, 40], []), ([40], [6]), ([43, 40], []), ([42, 44, 40], []), ([40, 45], []), ([46], []), ([47], [5]), ([48, 47], []), ([47], [6]), ([50, 47], []), ([49, 51, 47], []), ([47, 52], []), ([53], []), ([54], []), ([54, 55], []), ([56], [])] rfl (by kernel_rfl) (by kernel_rfl) (by kernel_rfl) rfl ⟨?_, ?_, ?_, ?_, ?_, ?_, ?_, ?_, ?_, ?_, ?_, ?_, ?_, ?_, ?_, ?_, ?_, ?_, ?_, ?_, ?_, ?_, ?_, ?_, ?_, ?_, ?_, ?_, ?_, ?_, ?_, ?_, ?_, ?_, ?_, ?_, ?_, ?_, ?_, ?_, ?_, ?_, ?_, ?_, ?_, ?_, ?_, ?_, ?_, ?_, ?_, ?_, ?_, ?_, ?_, ?_, ?_, ?_, trivial⟩ ?_
      · exact DX.load rfl rfl rfl rfl rfl rfl
      · exact DX.load rfl rfl rfl rfl rfl rfl
      · exact DX.call (r := .vl (.bool true)) rfl rfl rfl rfl rfl rfl (KV.st _) rfl (k_is X (by first | decide | omega) rfl)
      · exact DX.move rfl rfl rfl rfl rfl rfl
      · exact DX.load rfl rfl rfl rfl rfl rfl
      · exact DX.load rfl rfl rfl rfl rfl rfl
      · exact DX.call (r := .vl (.bool true)) rfl rfl rfl rfl rfl rfl (KV.st _) rfl (k_is ((bd_i64 hnr)) (by first | decide | omega) rfl)
      · exact DX.pick (t := true) rfl rfl rfl rfl rfl rfl rfl
      · exact DX.move rfl rfl rfl rfl rfl rfl
      · exact DX.move rfl rfl rfl rfl rfl rfl
      · exact DX.move rfl rfl rfl rfl rfl rfl
      · exact DX.q2 (x := .tmp 53) (y := .tmp 54) (.bool true) rfl rfl rfl rfl rfl (fun ρ W h1 h2 => by go_simp)
      · exact DX.pick (t := true) rfl rfl rfl rfl rfl rfl rfl
      · exact DX.move rfl rfl rfl rfl rfl rfl
      · exact DX.move rfl rfl rfl rfl rfl rfl
      · exact DX.move rfl rfl rfl rfl rfl rfl
      · exact DX.q2 (x := .tmp 58) (y := .tmp 59) (.bool true) rfl rfl rfl rfl rfl (fun ρ W h1 h2 => by go_simp)
      · exact DX.pick (t := true) rfl rfl rfl rfl rfl rfl rfl
      · exact DX.move rfl rfl rfl rfl rfl rfl
      · exact DX.move rfl rfl rfl rfl rfl rfl
      · exact DX.move rfl rfl rfl rfl rfl rfl
      · exact DX.q2 (x := .tmp 63) (y := .tmp 64) (.bool true) rfl rfl rfl rfl rfl (fun ρ W h1 h2 => by go_simp)
      · exact DX.pick (t := true) rfl rfl rfl rfl rfl rfl rfl
      · exact DX.move rfl rfl rfl rfl rfl rfl
      · exact DX.move rfl rfl rfl rfl rfl rfl
      · exact DX.pick (t := true) rfl rfl rfl rfl rfl rfl rfl
      · exact DX.move rfl rfl rfl rfl rfl rfl
      · exact DX.load rfl rfl rfl rfl rfl rfl
      · exact DX.call (r := .vl (.int .i64 (sgn x))) rfl rfl rfl rfl rfl rfl (KV.st _) rfl (k_sign rfl)
      · exact DX.load rfl rfl rfl rfl rfl rfl
      · exact DX.call (r := .vl (.int .i64 (sgn x))) rfl rfl rfl rfl rfl rfl (KV.st _) rfl (k_jsign rfl)
      · exact DX.q2 (x := .tmp 72) (y := .tmp 74) (.bool true) rfl rfl rfl rfl rfl (fun ρ W h1 h2 => by go_simp)
      · exact DX.pick (t := true) rfl rfl rfl rfl rfl rfl rfl
      · exact DX.move rfl rfl rfl rfl rfl rfl
      · exact DX.load rfl rfl rfl rfl rfl rfl
      · exact DX.call (r := .vl (.bool (decide (x % 2 = 1)))) rfl rfl rfl rfl rfl rfl (KV.st _) rfl (k_odd X (by decide))
      · exact DX.load rfl rfl rfl rfl rfl rfl
      · exact DX.call (r := .vl (.bool (decide (x % 2 = 1)))) rfl rfl rfl rfl rfl rfl (KV.st _) rfl (k_jodd X (by decide))
      · exact DX.q2 (x := .tmp 79) (y := .tmp 81) (.bool true) rfl rfl rfl rfl rfl (fun ρ W h1 h2 => by go_simp; first | done | rfl | (cases decide (x % 2 = 1) <;> rfl))
      · exact DX.pick (t := true) rfl rfl rfl rfl rfl rfl rfl
      · exact DX.move rfl rfl rfl rfl rfl rfl
      · exact DX.load rfl rfl rfl rfl rfl rfl
      · exact DX.call (r := .vl (.int .i64 (wid (pat x) : Int))) rfl rfl rfl rfl rfl rfl (KV.st _) rfl (k_len X (by decide) rfl)
      · exact DX.load rfl rfl rfl rfl rfl rfl
      · exact DX.call (r := .vl (.int .i64 (wid (pat x) : Int))) rfl rfl rfl rfl rfl rfl (KV.st _) rfl (k_jlen X (by decide))
      · exact DX.q2 (x := .tmp 86) (y := .tmp 88) (.bool true) rfl rfl rfl rfl rfl (fun ρ W h1 h2 => by go_simp)
      · exact DX.pick (t := true) rfl rfl rfl rfl rfl rfl rfl
      · exact DX.move rfl rfl rfl rfl rfl rfl
      · exact DX.load rfl rfl rfl rfl rfl rfl
      · exact DX.call (r := .vl (.int .i64 (pc (pat x).toNat : Int))) rfl rfl rfl rfl rfl rfl (KV.st _) rfl (k_count X (by decide) rfl)
      · exact DX.load rfl rfl rfl rfl rfl rfl
      · exact DX.call (r := .vl (.int .i64 (pc (pat x).toNat : Int))) rfl rfl rfl rfl rfl rfl (KV.st _) rfl (k_jcount X (by decide))
      · exact DX.q2 (x := .tmp 93) (y := .tmp 95) (.bool true) rfl rfl rfl rfl rfl (fun ρ W h1 h2 => by go_simp)
      · exact DX.pick (t := true) rfl rfl rfl rfl rfl rfl rfl
      · exact DX.move rfl rfl rfl rfl rfl rfl
      · exact DX.call (r := .vl (.bool true)) rfl rfl rfl rfl rfl rfl (KV.st _) rfl (k_awake)
      · exact DX.pick (t := true) rfl rfl rfl rfl rfl rfl rfl
      · exact DX.assign rfl rfl rfl rfl rfl rfl
      refine SX.then ?_
      refine SC.ret ?_
      exact SX.done (r := .vl (.bool true)) rfl rfl rfl
  · have hs : shB 12 [(n1, A1, l1, c1)] = false := by simpa using hs
    refine SC.region ?_
    refine PW.loadV rfl rfl rfl rfl rfl rfl ?_
    refine PW.short 12 [(n1, A1, l1, c1)] _ rfl rfl rfl (fun a W hf => r_bN1 (hf.vl (s := 15) rfl)) (fun W => ns_lit1 W) (by simp; exact In.lim h1) rfl rfl hs rfl rfl rfl rfl rfl rfl ?_
    refine PW.q1 (x := .tmp 17) (.bool true) rfl rfl rfl rfl (fun ρ W h1 => by go_simp) ?_
    refine PW.nil ?_
    refine SX.then ?_
    refine SC.cond (t := true) rfl ?_
    refine SC.seq ?_
    refine SC.region ?_
    refine PW.call (r := .vl (.bool true)) rfl rfl rfl rfl rfl rfl (KV.st _) rfl (k_awake) ?_
    refine PW.assign rfl rfl rfl rfl rfl ?_
    refine PW.nil ?_
    refine SX.then ?_
    refine SC.ret ?_
    refine SX.thenR ?_
    exact SX.done (r := .vl (.bool true)) rfl rfl rfl
end Go.Proofs.Ytcgkgcciogibkaa
