/- Parts Rj, Rx, Cq, Ry, Szq, Rof, Lpw, Rs, Rs2, Rz, Rpo, D2, D3, in one file. -/
import Derived.RowKit
import Derived.WalkKit
import Derived.ProofKit
import Derived.OpenShut
import Derived.ShutString
import Derived.ChangeOld
import Derived.Lib.SmallJoins
import Derived.Test.YthpjmhhfcechmaaGreatLRPowers10
import Derived.Test.YthpjmhhfcechmaaGreatLRPowers3
import Derived.Test.YthpjmhhfcechmaaGreatLRPowers6
import Derived.Test.YthpjmhhfcechmaaGreatLRPowers8
import Derived.Test.YthpjmhhfcechmaaGreatLRPowers9
/- The reference's fractions, by rules. -/
set_option linter.unusedVariables false
set_option linter.unusedSimpArgs false
namespace Go.Proofs.YthpjmhhfcechmaaGreat.Sy
open Go Go.RowKit Ma
theorem k_jone : CallOk 81 [] (KJ 1) := by
 refine CallOk.enter (l := []) 2 (fun args W => by go_simp) Tryz.func81 rfl Tryz.ntmps81 (by simp) trivial fun w => ?_
 refine SC.seq (SC.region ?_)
 refine PW.alloc (BI 34) rfl rfl rfl rfl rfl bJ ?_
 refine PW.nil (SX.then (SC.seq (SC.region ?_)))
 refine PW.call (r := .kw (KJ (1))) rfl rfl rfl rfl rfl rfl (KJ.st _) rfl (k_jnew (by decide)) ?_
 refine PW.store (x := .tmp 1) (r := .kw (KJ (1))) rfl rfl rfl rfl rfl rfl sh_J ?_
 refine PW.nil (SX.then (SC.ret ?_))
 exact SX.doneC (s := 0) (.inl rfl) rfl rfl rfl
theorem ce_k_jrof : CE 20 := fun args W => by go_simp
set_option maxHeartbeats 3200000 in
set_option maxRecDepth 100000 in
theorem k_jrof {n : Int} : CallOk 20 [KJ (n)] (KR3 (((n : Int) : Rat)).num ((((n : Int) : Rat)).den : Int)) := by
 refine CallOk.enter (l := [.kw (KJ (n))]) 6 ce_k_jrof Tryz.func20 rfl Tryz.ntmps20 (by simp) ⟨(KJ.st _), rfl, trivial⟩ fun w => ?_
 refine SC.seq (SC.region ?_)
 refine PW.box (x := .tmp 0) (r := .kw (KJ (n))) (BI 34) rfl rfl rfl rfl rfl bJ rfl sh_J ?_
 refine PW.alloc (BQ 43) rfl rfl rfl rfl rfl bQJ ?_
 refine PW.nil (SX.then (SC.seq ?_))
 refine SC.dx [.val 3 (.kw (KJ (n))), .val 4 (.kw (KJ (1))), .val 5 (.kw (KR3 (n) (1))), .put 2 (BQ 43) (.kw (KR3 (n) (1)))] [([], [1]), ([], []), ([0, 1], []), ([2], [2])] rfl (by kernel_rfl) (by kernel_rfl) (by kernel_rfl) rfl ⟨?_, ?_, ?_, ?_, trivial⟩ ?_
 ·exact DX.load rfl rfl rfl rfl rfl rfl
 ·exact DX.call (r := .kw (KJ (1))) rfl rfl rfl rfl rfl rfl (KJ.st _) rfl (k_jone)
 ·exact DX.bldR (x := .tmp 3) (y := .tmp 4) (n := n) (e := 1) rfl rfl rfl rfl rfl (fun ρ W m m2 A A2 l c l2 c2 h1 h2 => r_bldR h1 h2)
 ·exact DX.store (x := .tmp 5) (r := .kw (KR3 (n) (1))) rfl rfl rfl rfl rfl rfl sh_R3
 refine SX.then (SC.ret ?_)
 rw [Rat.num_intCast, Rat.den_intCast]
 exact SX.doneC (s := 2) (.inl rfl) rfl rfl rfl
theorem ce_k_jrnew : CE 16 := fun args W => by go_simp
set_option maxHeartbeats 3200000 in
set_option maxRecDepth 100000 in
theorem k_jrnew {n d : Int} {a b : Nat} (N : bd a n) (D : bd b d) (h0 : d ≠ 0) (ha : a ≤ 150000) (hb : b ≤ 150000) : CallOk 16 [KJ (n), KJ (d)] (K2 (KR3 (Rat.divInt (n) (d)).num ((Rat.divInt (n) (d)).den : Int)) (KV (.int .i64 0))) := by
 refine CallOk.enter (l := [.kw (KJ (n)), .kw (KJ (d))]) 38 ce_k_jrnew Tryz.func16 rfl Tryz.ntmps16 (by simp) ⟨(KJ.st _), rfl, (KJ.st _), rfl, trivial⟩ fun w => ?_
 refine SC.seq (SC.region ?_)
 refine PW.box (x := .tmp 0) (r := .kw (KJ (n))) (BI 34) rfl rfl rfl rfl rfl bJ rfl sh_J ?_
 refine PW.box (x := .tmp 1) (r := .kw (KJ (d))) (BI 34) rfl rfl rfl rfl rfl bJ rfl sh_J ?_
 refine PW.alloc (BQ 43) rfl rfl rfl rfl rfl bQJ ?_
 refine PW.assign rfl rfl rfl rfl rfl (PW.nil (SX.then (SC.seq (SC.seq (SC.region ?_)))))
 refine PW.load rfl rfl rfl rfl rfl rfl ?_
 refine PW.call (r := .vl (.int .i64 (sgn d))) rfl rfl rfl rfl rfl rfl (KV.st _) rfl (k_jsign rfl) ?_
 refine PW.q2 (x := .tmp 8) (y := .const (.int .i64 0)) (.bool false) rfl rfl rfl rfl rfl (fun ρ W h1 h2 => by exact r_eqF h1 h2 (fun h => h0 (sgn_eq0.1 h))) ?_
 refine PW.nil (SX.then (SC.cond (t := false) rfl (SC.skip (SX.then (SC.seq (SC.seq ?_))))))
 by_cases hd : sgn d < 0
 ·have hd2 : d < 0 := sgn_lt.1 hd
  refine SC.region ?_
  refine PW.load rfl rfl rfl rfl rfl rfl ?_
  refine PW.call (r := .vl (.int .i64 (sgn d))) rfl rfl rfl rfl rfl rfl (KV.st _) rfl (k_jsign rfl) ?_
  refine PW.q2 (x := .tmp 12) (y := .const (.int .i64 0)) (.bool true) rfl rfl rfl rfl rfl (fun ρ W h1 h2 => by exact r_lt h1 h2 (decide_eq_true hd)) ?_
  refine PW.nil (SX.then (SC.cond (t := true) rfl ?_))
  refine SC.dx [.val 14 (.kw (KJ (n))), .val 15 (.kw (KJ (-n))), .val 16 (.kw (KJ (d))), .val 17 (.kw (KJ (-d))), .put 2 (BI 34) (.kw (KJ (-n))), .put 3 (BI 34) (.kw (KJ (-d)))] [([], [2]), ([0], []), ([], [3]), ([2], []), ([1], [2]), ([3], [3])] rfl (by kernel_rfl) (by kernel_rfl) (by kernel_rfl) rfl ⟨?_, ?_, ?_, ?_, ?_, ?_, trivial⟩ ?_
  ·exact DX.load rfl rfl rfl rfl rfl rfl
  ·exact DX.call (r := .kw (KJ (-n))) rfl rfl rfl rfl rfl rfl (KJ.st _) rfl (k_jneg)
  ·exact DX.load rfl rfl rfl rfl rfl rfl
  ·exact DX.call (r := .kw (KJ (-d))) rfl rfl rfl rfl rfl rfl (KJ.st _) rfl (k_jneg)
  ·exact DX.store (x := .tmp 15) (r := .kw (KJ (-n))) rfl rfl rfl rfl rfl rfl sh_J
  ·exact DX.store (x := .tmp 17) (r := .kw (KJ (-d))) rfl rfl rfl rfl rfl rfl sh_J
  refine SX.then (SC.seq (SC.region ?_))
  refine PW.load rfl rfl rfl rfl rfl rfl ?_
  refine PW.load rfl rfl rfl rfl rfl rfl ?_
  refine PW.call (r := .kw (KJ ((Int.gcd (-n) (-d) : Int)))) rfl rfl rfl rfl rfl rfl (KJ.st _) rfl (k_jgcd N.neg D.neg (by omega) (by omega)) ?_
  refine PW.alloc (BI 34) rfl rfl rfl rfl rfl bJ ?_
  refine PW.store (x := .tmp 20) (r := .kw (KJ ((Int.gcd (-n) (-d) : Int)))) rfl rfl rfl rfl rfl rfl sh_J ?_
  refine PW.nil (SX.then (SC.seq (SC.region ?_)))
  refine PW.load rfl rfl rfl rfl rfl rfl ?_
  refine PW.load rfl rfl rfl rfl rfl rfl ?_
  refine PW.call (r := .kw (K3 (KJ ((-n).tdiv ((Int.gcd (-n) (-d) : Int)))) (KJ ((-n).tmod ((Int.gcd (-n) (-d) : Int)))) (KV (.int .i64 0)))) rfl rfl rfl rfl rfl rfl (K3.st (KJ.st _) (KJ.st _) (KV.st _)) rfl (k_jdiv N.neg (bd.gcd N.neg D.neg) (by omega) (by omega) ((Int.ne_of_gt (gcd_pos (by omega))))) ?_
  refine PW.move rfl rfl rfl rfl rfl ?_
  refine PW.ext (r := .kw (KJ ((-n).tdiv ((Int.gcd (-n) (-d) : Int))))) rfl rfl rfl rfl rfl ex30 (KJ.st _) rfl ?_
  refine PW.ext (r := .kw (KJ ((-n).tmod ((Int.gcd (-n) (-d) : Int))))) rfl rfl rfl rfl rfl ex31 (KJ.st _) rfl ?_
  refine PW.ext (r := .vl (.int .i64 0)) rfl rfl rfl rfl rfl ex32v (KV.st _) rfl ?_
  refine PW.store (x := .tmp 25) (r := .kw (KJ ((-n).tdiv ((Int.gcd (-n) (-d) : Int))))) rfl rfl rfl rfl rfl rfl sh_J ?_
  refine PW.nil (SX.then (SC.seq (SC.region ?_)))
  refine PW.load rfl rfl rfl rfl rfl rfl ?_
  refine PW.load rfl rfl rfl rfl rfl rfl ?_
  refine PW.call (r := .kw (K3 (KJ ((-d).tdiv ((Int.gcd (-n) (-d) : Int)))) (KJ ((-d).tmod ((Int.gcd (-n) (-d) : Int)))) (KV (.int .i64 0)))) rfl rfl rfl rfl rfl rfl (K3.st (KJ.st _) (KJ.st _) (KV.st _)) rfl (k_jdiv D.neg (bd.gcd N.neg D.neg) (by omega) (by omega) ((Int.ne_of_gt (gcd_pos (by omega))))) ?_
  refine PW.move rfl rfl rfl rfl rfl ?_
  refine PW.ext (r := .kw (KJ ((-d).tdiv ((Int.gcd (-n) (-d) : Int))))) rfl rfl rfl rfl rfl ex30 (KJ.st _) rfl ?_
  refine PW.ext (r := .kw (KJ ((-d).tmod ((Int.gcd (-n) (-d) : Int))))) rfl rfl rfl rfl rfl ex31 (KJ.st _) rfl ?_
  refine PW.ext (r := .vl (.int .i64 0)) rfl rfl rfl rfl rfl ex32v (KV.st _) rfl ?_
  refine PW.store (x := .tmp 32) (r := .kw (KJ ((-d).tdiv ((Int.gcd (-n) (-d) : Int))))) rfl rfl rfl rfl rfl rfl sh_J ?_
  refine PW.nil (SX.then (SC.seq (SC.region ?_)))
  refine PW.load rfl rfl rfl rfl rfl rfl ?_
  refine PW.load rfl rfl rfl rfl rfl rfl ?_
  refine PW.bldR (x := .tmp 35) (y := .tmp 36) (n := (-n).tdiv ((Int.gcd (-n) (-d) : Int))) (e := (-d).tdiv ((Int.gcd (-n) (-d) : Int))) rfl rfl rfl rfl rfl (fun ρ W m m2 A A2 l c l2 c2 h1 h2 => r_bldR h1 h2) ?_
  refine PW.store (x := .tmp 37) (r := .kw (KR3 ((-n).tdiv ((Int.gcd (-n) (-d) : Int))) ((-d).tdiv ((Int.gcd (-n) (-d) : Int))))) rfl rfl rfl rfl rfl rfl sh_R3 ?_
  refine PW.assign rfl rfl rfl rfl rfl (PW.nil (SX.then (SC.ret ?_)))
  have eg : Int.gcd (-n) (-d) = Int.gcd n d := by simp
  rw [num_over h0, den_over h0, if_pos hd2, if_pos hd2, ← eg]
  exact SX.done2 (s := 4) (t := 5) (r := .vl (.int .i64 0)) (.inl rfl) rfl rfl rfl rfl
 ·have hd2 : ¬ d < 0 := fun h => hd (sgn_lt.2 h)
  refine SC.region ?_
  refine PW.load rfl rfl rfl rfl rfl rfl ?_
  refine PW.call (r := .vl (.int .i64 (sgn d))) rfl rfl rfl rfl rfl rfl (KV.st _) rfl (k_jsign rfl) ?_
  refine PW.q2 (x := .tmp 12) (y := .const (.int .i64 0)) (.bool false) rfl rfl rfl rfl rfl (fun ρ W h1 h2 => by exact r_lt h1 h2 (decide_eq_false hd)) ?_
  refine PW.nil (SX.then (SC.cond (t := false) rfl (SC.skip (SX.then (SC.seq (SC.region ?_))))))
  refine PW.load rfl rfl rfl rfl rfl rfl ?_
  refine PW.load rfl rfl rfl rfl rfl rfl ?_
  refine PW.call (r := .kw (KJ ((Int.gcd n d : Int)))) rfl rfl rfl rfl rfl rfl (KJ.st _) rfl (k_jgcd N D (by omega) (by omega)) ?_
  refine PW.alloc (BI 34) rfl rfl rfl rfl rfl bJ ?_
  refine PW.store (x := .tmp 20) (r := .kw (KJ ((Int.gcd n d : Int)))) rfl rfl rfl rfl rfl rfl sh_J ?_
  refine PW.nil (SX.then (SC.seq (SC.region ?_)))
  refine PW.load rfl rfl rfl rfl rfl rfl ?_
  refine PW.load rfl rfl rfl rfl rfl rfl ?_
  refine PW.call (r := .kw (K3 (KJ ((n).tdiv ((Int.gcd n d : Int)))) (KJ ((n).tmod ((Int.gcd n d : Int)))) (KV (.int .i64 0)))) rfl rfl rfl rfl rfl rfl (K3.st (KJ.st _) (KJ.st _) (KV.st _)) rfl (k_jdiv N (bd.gcd N D) (by omega) (by omega) ((Int.ne_of_gt (gcd_pos (by omega))))) ?_
  refine PW.move rfl rfl rfl rfl rfl ?_
  refine PW.ext (r := .kw (KJ ((n).tdiv ((Int.gcd n d : Int))))) rfl rfl rfl rfl rfl ex30 (KJ.st _) rfl ?_
  refine PW.ext (r := .kw (KJ ((n).tmod ((Int.gcd n d : Int))))) rfl rfl rfl rfl rfl ex31 (KJ.st _) rfl ?_
  refine PW.ext (r := .vl (.int .i64 0)) rfl rfl rfl rfl rfl ex32v (KV.st _) rfl ?_
  refine PW.store (x := .tmp 25) (r := .kw (KJ ((n).tdiv ((Int.gcd n d : Int))))) rfl rfl rfl rfl rfl rfl sh_J ?_
  refine PW.nil (SX.then (SC.seq (SC.region ?_)))
  refine PW.load rfl rfl rfl rfl rfl rfl ?_
  refine PW.load rfl rfl rfl rfl rfl rfl ?_
  refine PW.call (r := .kw (K3 (KJ ((d).tdiv ((Int.gcd n d : Int)))) (KJ ((d).tmod ((Int.gcd n d : Int)))) (KV (.int .i64 0)))) rfl rfl rfl rfl rfl rfl (K3.st (KJ.st _) (KJ.st _) (KV.st _)) rfl (k_jdiv D (bd.gcd N D) (by omega) (by omega) ((Int.ne_of_gt (gcd_pos (by omega))))) ?_
  refine PW.move rfl rfl rfl rfl rfl ?_
  refine PW.ext (r := .kw (KJ ((d).tdiv ((Int.gcd n d : Int))))) rfl rfl rfl rfl rfl ex30 (KJ.st _) rfl ?_
  refine PW.ext (r := .kw (KJ ((d).tmod ((Int.gcd n d : Int))))) rfl rfl rfl rfl rfl ex31 (KJ.st _) rfl ?_
  refine PW.ext (r := .vl (.int .i64 0)) rfl rfl rfl rfl rfl ex32v (KV.st _) rfl ?_
  refine PW.store (x := .tmp 32) (r := .kw (KJ ((d).tdiv ((Int.gcd n d : Int))))) rfl rfl rfl rfl rfl rfl sh_J ?_
  refine PW.nil (SX.then (SC.seq (SC.region ?_)))
  refine PW.load rfl rfl rfl rfl rfl rfl ?_
  refine PW.load rfl rfl rfl rfl rfl rfl ?_
  refine PW.bldR (x := .tmp 35) (y := .tmp 36) (n := (n).tdiv ((Int.gcd n d : Int))) (e := (d).tdiv ((Int.gcd n d : Int))) rfl rfl rfl rfl rfl (fun ρ W m m2 A A2 l c l2 c2 h1 h2 => r_bldR h1 h2) ?_
  refine PW.store (x := .tmp 37) (r := .kw (KR3 ((n).tdiv ((Int.gcd n d : Int))) ((d).tdiv ((Int.gcd n d : Int))))) rfl rfl rfl rfl rfl rfl sh_R3 ?_
  refine PW.assign rfl rfl rfl rfl rfl (PW.nil (SX.then (SC.ret ?_)))
  rw [num_over h0, den_over h0, if_neg hd2, if_neg hd2]
  exact SX.done2 (s := 4) (t := 5) (r := .vl (.int .i64 0)) (.inl rfl) rfl rfl rfl rfl
end Go.Proofs.YthpjmhhfcechmaaGreat.Sy
/- Is, Of of the laws of chapter 03, by rules. -/
namespace Go.Proofs.YthpjmhhfcechmaaGreat.Sy
open Go Go.RowKit Ma
def ofq (n d : Int) : Rat := if d ≠ 0 then Rat.divInt n d else (n : Rat)
theorem ofq_over {n d : Int} (h : d ≠ 0) : ofq n d = Rat.divInt n d := if_pos h
theorem ofq_int {n d : Int} (h : ¬ d ≠ 0) : ofq n d = (n : Rat) := if_neg h
theorem bq.of {m : Nat} {n d : Int} (N : bd m n) (D : bd m d) : bq (m + 1) (ofq n d) := by
 by_cases h : d ≠ 0
 ·rw [ofq_over h]; exact (bq.over N D h).mono (by omega)
 ·rw [ofq_int h]; exact bq.int1 N
theorem ce_of3 : CE 17 := fun args W => by go_simp
section
variable {p : Nat} {x1 x2 : Bool} {A1 A2 : Option Addr} {l1 c1 l2 c2 : Nat}
theorem facQ0 (W : World) (hh : Holds (BQ 26) p (.agg #[.bool x1, .slice A1 l1 c1, .bool x2, .slice A2 l2 c2]) W) : (Instr.fieldAt 26 (ptr p) 0).run Tryz.prog W = .ok (.pointer (some ⟨p, 0, none⟩)) W := by
 obtain ⟨q0, q1, q2, q3⟩ := holdsQ hh rfl
 go_simp
theorem facQ1 (W : World) (hh : Holds (BQ 26) p (.agg #[.bool x1, .slice A1 l1 c1, .bool x2, .slice A2 l2 c2]) W) : (Instr.fieldAt 26 (ptr p) 1).run Tryz.prog W = .ok (.pointer (some ⟨p, 2, none⟩)) W := by
 obtain ⟨q0, q1, q2, q3⟩ := holdsQ hh rfl
 go_simp
theorem flcQ0 (W : World) (hh : Holds (BQ 26) p (.agg #[.bool x1, .slice A1 l1 c1, .bool x2, .slice A2 l2 c2]) W) : (Instr.loadAt 24 (.pointer (some ⟨p, 0, none⟩))).run Tryz.prog W = .ok (.agg #[.bool x1, .slice A1 l1 c1]) W := by
 obtain ⟨q0, q1, q2, q3⟩ := holdsQ hh rfl
 go_simp
theorem flcQ1 (W : World) (hh : Holds (BQ 26) p (.agg #[.bool x1, .slice A1 l1 c1, .bool x2, .slice A2 l2 c2]) W) : (Instr.loadAt 24 (.pointer (some ⟨p, 2, none⟩))).run Tryz.prog W = .ok (.agg #[.bool x2, .slice A2 l2 c2]) W := by
 obtain ⟨q0, q1, q2, q3⟩ := holdsQ hh rfl
 go_simp
end

set_option maxHeartbeats 3200000 in
set_option maxRecDepth 100000 in
theorem of3_c {x1 x2 : Bool} {A1 A2 : Option Addr} {l1 c1 l2 c2 m : Nat} {xs1 xs2 : List Int} {n d : Int} {w : World} (h1 : In w A1 l1 c1 xs1) (h2 : In w A2 l2 c2 xs2) (hz1 : n = sg x1 (lv b32 xs1)) (hz2 : d = sg x2 (lv b32 xs2)) (N : bd m n) (D : bd m d) (hle1 : l1 ≤ 1000) (hle2 : l2 ≤ 1000) (hm : m ≤ 1000) :
  Calls Tryz.prog 17 #[.agg #[.bool x1, .slice A1 l1 c1, .bool x2, .slice A2 l2 c2]] w (Ret w (K2 (KQ (ofq n d).num (((ofq n d).den : Int) - 1)) (KR3 (ofq n d).num ((ofq n d).den : Int)))) := by
 refine calls_sc (l := [.vl (.agg #[.bool x1, .slice A1 l1 c1, .bool x2, .slice A2 l2 c2])]) (us := [.agg #[.bool x1, .slice A1 l1 c1, .bool x2, .slice A2 l2 c2]]) 45 Tryz.func17 rfl Tryz.ntmps17 (by simp) ⟨rfl, rfl, trivial⟩ ?_
 refine SC.seq (SC.region ?_)
 refine PW.boxc (x := .tmp 0) (BQ 26) rfl rfl rfl rfl rfl bQN rfl ⟨_, _, _, _, _, _, _, _, _, rfl, rfl⟩ fun pb1 => ?_
 refine PW.alloc (BQ 38) rfl rfl rfl rfl rfl bQ ?_
 refine PW.alloc (BQ 43) rfl rfl rfl rfl rfl bQJ ?_
 refine PW.nil (SX.then (SC.seq (SC.region ?_)))
 refine PW.fac ⟨pb1, 0, none⟩ rfl rfl rfl rfl rfl facQ0 ?_
 refine PW.flc (s := 1) (.agg #[.bool x1, .slice A1 l1 c1]) rfl rfl rfl rfl rfl rfl flcQ0 ?_
 refine PW.callG (r := .kw (K2 (KI (n)) (KJ (n)))) ce_of rfl rfl rfl rfl rfl (K2.st (KI.st _) (KJ.st _)) rfl (fun a W hf => by have e1 := hf.vl (s := 14) rfl; show Calls Tryz.prog _ #[a.tmps.getD 14 undef] W _; rw [e1]; exact of_in h1 hf.be (by omega) hz1) ?_
 refine PW.move rfl rfl rfl rfl rfl ?_
 refine PW.ext (r := .kw (KI (n))) rfl rfl rfl rfl rfl ex20 (KI.st _) rfl ?_
 refine PW.ext (r := .kw (KJ (n))) rfl rfl rfl rfl rfl ex21 (KJ.st _) rfl ?_
 refine PW.alloc (BI 31) rfl rfl rfl rfl rfl bI ?_
 refine PW.alloc (BI 34) rfl rfl rfl rfl rfl bJ ?_
 refine PW.store (x := .tmp 16) (r := .kw (KI (n))) rfl rfl rfl rfl rfl rfl sh_I ?_
 refine PW.store (x := .tmp 17) (r := .kw (KJ (n))) rfl rfl rfl rfl rfl rfl sh_J ?_
 refine PW.nil (SX.then (SC.seq (SC.region ?_)))
 refine PW.fac ⟨pb1, 2, none⟩ rfl rfl rfl rfl rfl facQ1 ?_
 refine PW.flc (s := 1) (.agg #[.bool x2, .slice A2 l2 c2]) rfl rfl rfl rfl rfl rfl flcQ1 ?_
 refine PW.callG (r := .kw (K2 (KI (d)) (KJ (d)))) ce_of rfl rfl rfl rfl rfl (K2.st (KI.st _) (KJ.st _)) rfl (fun a W hf => by have e1 := hf.vl (s := 20) rfl; show Calls Tryz.prog _ #[a.tmps.getD 20 undef] W _; rw [e1]; exact of_in h2 hf.be (by omega) hz2) ?_
 refine PW.move rfl rfl rfl rfl rfl ?_
 refine PW.ext (r := .kw (KI (d))) rfl rfl rfl rfl rfl ex20 (KI.st _) rfl ?_
 refine PW.ext (r := .kw (KJ (d))) rfl rfl rfl rfl rfl ex21 (KJ.st _) rfl ?_
 refine PW.alloc (BI 31) rfl rfl rfl rfl rfl bI ?_
 refine PW.alloc (BI 34) rfl rfl rfl rfl rfl bJ ?_
 refine PW.store (x := .tmp 22) (r := .kw (KI (d))) rfl rfl rfl rfl rfl rfl sh_I ?_
 refine PW.store (x := .tmp 23) (r := .kw (KJ (d))) rfl rfl rfl rfl rfl rfl sh_J ?_
 refine PW.nil (SX.then (SC.seq (SC.seq ?_)))
 by_cases h0 : d ≠ 0
 ·refine SC.region ?_
  refine PW.load rfl rfl rfl rfl rfl rfl ?_
  refine PW.call (r := .vl (.int .i64 (sgn d))) rfl rfl rfl rfl rfl rfl (KV.st _) rfl (k_jsign rfl) ?_
  refine PW.q2 (x := .tmp 25) (y := .const (.int .i64 0)) (.bool false) rfl rfl rfl rfl rfl (fun ρ W h1 h2 => by exact r_eqF h1 h2 (fun h => h0 (sgn_eq0.1 h))) ?_
  refine PW.nil (SX.then (SC.cond (t := false) rfl (SC.skip (SX.then (SC.seq (SC.region ?_))))))
  refine PW.load rfl rfl rfl rfl rfl rfl ?_
  refine PW.load rfl rfl rfl rfl rfl rfl ?_
  refine PW.call (r := .kw (K2 (KQ (Rat.divInt (n) (d)).num (((Rat.divInt (n) (d)).den : Int) - 1)) (KV (.int .i64 0)))) rfl rfl rfl rfl rfl rfl (K2.st (KQ.st _ _) (KV.st _)) rfl (k_rnew N D h0 (by omega) (by omega)) ?_
  refine PW.move rfl rfl rfl rfl rfl ?_
  refine PW.ext (r := .kw (KQ (Rat.divInt (n) (d)).num (((Rat.divInt (n) (d)).den : Int) - 1))) rfl rfl rfl rfl rfl ex20 (KQ.st _ _) rfl ?_
  refine PW.ext (r := .vl (.int .i64 0)) rfl rfl rfl rfl rfl ex21v (KV.st _) rfl ?_
  refine PW.alloc (BQ 38) rfl rfl rfl rfl rfl bQ ?_
  refine PW.store (x := .tmp 35) (r := .kw (KQ (Rat.divInt (n) (d)).num (((Rat.divInt (n) (d)).den : Int) - 1))) rfl rfl rfl rfl rfl rfl sh_Q ?_
  refine PW.assign rfl rfl rfl rfl rfl (PW.nil (SX.then (SC.seq (SC.region ?_))))
  refine PW.load rfl rfl rfl rfl rfl rfl ?_
  refine PW.load rfl rfl rfl rfl rfl rfl ?_
  refine PW.call (r := .kw (K2 (KR3 (Rat.divInt (n) (d)).num ((Rat.divInt (n) (d)).den : Int)) (KV (.int .i64 0)))) rfl rfl rfl rfl rfl rfl (K2.st (KR3.st _ _) (KV.st _)) rfl (k_jrnew N D h0 (by omega) (by omega)) ?_
  refine PW.move rfl rfl rfl rfl rfl ?_
  refine PW.ext (r := .kw (KR3 (Rat.divInt (n) (d)).num ((Rat.divInt (n) (d)).den : Int))) rfl rfl rfl rfl rfl ex20 (KR3.st _ _) rfl ?_
  refine PW.ext (r := .vl (.int .i64 0)) rfl rfl rfl rfl rfl ex21v (KV.st _) rfl ?_
  refine PW.alloc (BQ 43) rfl rfl rfl rfl rfl bQJ ?_
  refine PW.store (x := .tmp 41) (r := .kw (KR3 (Rat.divInt (n) (d)).num ((Rat.divInt (n) (d)).den : Int))) rfl rfl rfl rfl rfl rfl sh_R3 ?_
  refine PW.assign rfl rfl rfl rfl rfl (PW.nil (SX.then (SC.seq ?_)))
  refine SC.dx [.val 43 (.kw (KQ (Rat.divInt (n) (d)).num (((Rat.divInt (n) (d)).den : Int) - 1))), .val 44 (.kw (KR3 (Rat.divInt (n) (d)).num ((Rat.divInt (n) (d)).den : Int))), .put 2 (BQ 38) (.kw (KQ (Rat.divInt (n) (d)).num (((Rat.divInt (n) (d)).den : Int) - 1))), .put 3 (BQ 43) (.kw (KR3 (Rat.divInt (n) (d)).num ((Rat.divInt (n) (d)).den : Int)))] [([], [8]), ([], [10]), ([0], [2]), ([1], [3])] rfl (by kernel_rfl) (by kernel_rfl) (by kernel_rfl) rfl ⟨?_, ?_, ?_, ?_, trivial⟩ ?_
  ·exact DX.load rfl rfl rfl rfl rfl rfl
  ·exact DX.load rfl rfl rfl rfl rfl rfl
  ·exact DX.store (x := .tmp 43) (r := .kw (KQ (Rat.divInt (n) (d)).num (((Rat.divInt (n) (d)).den : Int) - 1))) rfl rfl rfl rfl rfl rfl sh_Q
  ·exact DX.store (x := .tmp 44) (r := .kw (KR3 (Rat.divInt (n) (d)).num ((Rat.divInt (n) (d)).den : Int))) rfl rfl rfl rfl rfl rfl sh_R3
  refine SX.then (SC.ret ?_)
  rw [ofq_over h0]
  exact SX.done2C (s := 2) (s' := 3) (.inl rfl) rfl rfl rfl rfl
 ·refine SC.region ?_
  refine PW.load rfl rfl rfl rfl rfl rfl ?_
  refine PW.call (r := .vl (.int .i64 (sgn d))) rfl rfl rfl rfl rfl rfl (KV.st _) rfl (k_jsign rfl) ?_
  refine PW.q2 (x := .tmp 25) (y := .const (.int .i64 0)) (.bool true) rfl rfl rfl rfl rfl (fun ρ W h1 h2 => by exact r_eqT h1 h2 (sgn_eq0.2 (Classical.not_not.1 h0))) ?_
  refine PW.nil (SX.then (SC.cond (t := true) rfl (SC.seq ?_)))
  refine SC.dx [.val 27 (.kw (KI (n))), .val 28 (.kw (KQ (((n : Int) : Rat)).num (((((n : Int) : Rat)).den : Int) - 1))), .val 29 (.kw (KJ (n))), .val 30 (.kw (KR3 (((n : Int) : Rat)).num ((((n : Int) : Rat)).den : Int))), .put 2 (BQ 38) (.kw (KQ (((n : Int) : Rat)).num (((((n : Int) : Rat)).den : Int) - 1))), .put 3 (BQ 43) (.kw (KR3 (((n : Int) : Rat)).num ((((n : Int) : Rat)).den : Int)))] [([], [4]), ([0], []), ([], [5]), ([2], []), ([1], [2]), ([3], [3])] rfl (by kernel_rfl) (by kernel_rfl) (by kernel_rfl) rfl ⟨?_, ?_, ?_, ?_, ?_, ?_, trivial⟩ ?_
  ·exact DX.load rfl rfl rfl rfl rfl rfl
  ·exact DX.call (r := .kw (KQ (((n : Int) : Rat)).num (((((n : Int) : Rat)).den : Int) - 1))) rfl rfl rfl rfl rfl rfl (KQ.st _ _) rfl (k_rof)
  ·exact DX.load rfl rfl rfl rfl rfl rfl
  ·exact DX.call (r := .kw (KR3 (((n : Int) : Rat)).num ((((n : Int) : Rat)).den : Int))) rfl rfl rfl rfl rfl rfl (KR3.st _ _) rfl (k_jrof)
  ·exact DX.store (x := .tmp 28) (r := .kw (KQ (((n : Int) : Rat)).num (((((n : Int) : Rat)).den : Int) - 1))) rfl rfl rfl rfl rfl rfl sh_Q
  ·exact DX.store (x := .tmp 30) (r := .kw (KR3 (((n : Int) : Rat)).num ((((n : Int) : Rat)).den : Int))) rfl rfl rfl rfl rfl rfl sh_R3
  refine SX.then (SC.ret (SX.thenR ?_))
  rw [ofq_int h0]
  exact SX.done2C (s := 2) (s' := 3) (.inl rfl) rfl rfl rfl rfl
end Go.Proofs.YthpjmhhfcechmaaGreat.Sy
/- The contract of chapter 03's Short. -/
namespace Go.Proofs.YthpjmhhfcechmaaGreat
open Go.RowKit Ma

abbrev Qq := Nn × Nn
def Qs (w : World) (b : Nat) (qs : List Qq) : Prop := ∀ i n A l c m D k d, qs[i]? = some ((n, A, l, c), (m, D, k, d)) → w.cell? ⟨b, i * 4, none⟩ = some (.bool n) ∧ w.cell? ⟨b, i * 4 + 1, none⟩ = some (.slice A l c) ∧ w.cell? ⟨b, i * 4 + 2, none⟩ = some (.bool m) ∧ w.cell? ⟨b, i * 4 + 3, none⟩ = some (.slice D k d)
theorem Qs.nw {w W : World} {b : Nat} {qs : List Qq} (h : Qs w b qs) (k : Nw w W) : Qs W b qs := fun i n A l c m D j d e => have ⟨h1, h2, h3, h4⟩ := h i n A l c m D j d e; ⟨k.c h1, k.c h2, k.c h3, k.c h4⟩
def shQ (most : Nat) (qs : List Qq) : Bool := qs.all fun x => shB most [x.1, x.2]
set_option maxHeartbeats 1600000 in
set_option maxRecDepth 100000 in
theorem short31_c {n m : Bool} {A D : Option Addr} {l c k d p most : Nat} {w : World} (hc : w.cell? ⟨p, 0, none⟩ = some (.int .i64 most)) (hl : l ≤ 9223372036854775807) (hk : k ≤ 9223372036854775807) (hm : most ≤ 1000) {b : Bool} (hb : (!shB most [(n, A, l, c), (m, D, k, d)]) = b) :
  Calls Tryz.prog 72 #[.agg #[.bool n, .slice A l c, .bool m, .slice D k d], .pointer (some ⟨p, 0, none⟩)] w (Ret w (KV (.bool b))) := by
 subst hb
 have nw1 := (Nw.refl w).alloc (.cells #[.bool n, .slice A l c, .bool m, .slice D k d] 26)
 have hc2 := nw1.c hc
 have nw2 := nw1.alloc (.cells #[.bool n, .slice A l c, .bool m, .slice D k d] 24)
 have hns : Ns ((w.alloc (.cells #[.bool n, .slice A l c, .bool m, .slice D k d] 26)).alloc (.cells #[.bool n, .slice A l c, .bool m, .slice D k d] 24)) (w.heap.size + 1) [(n, A, l, c), (m, D, k, d)] := by
  have := Sy.ns_lit2 (n1 := n) (A1 := A) (l1 := l) (c1 := c) (n2 := m) (A2 := D) (l2 := k) (c2 := d) (w.alloc (.cells #[.bool n, .slice A l c, .bool m, .slice D k d] 26))
  simpa using this
 have hLL : ∀ x ∈ [(n, A, l, c), (m, D, k, d)], x.2.2.1 ≤ 9223372036854775807 := fun x hx => by simp at hx; rcases hx with rfl | rfl <;> assumption
 have HN := Lib.hid hns
 have HL := Lib.hid hLL
 clear hns hLL
 go_enter Tryz.func72, Tryz.ntmps72
 go_wp2_with (go_at_call 11; refine (short_l (b := w.heap.size + 1) most [(n, A, l, c), (m, D, k, d)] rfl rfl HN.out hm (by simp) HL.out).mono ?_; rintro e w1 ⟨_, rfl, rfl, hb1⟩)
 go_ret
 exact ⟨_, rfl, rfl, nw2.trans hb1⟩
set_option maxHeartbeats 1600000 in
set_option maxRecDepth 100000 in
theorem shortx3_c {b c p most : Nat} {qs : List Qq} {w : World} (hc : w.cell? ⟨p, 0, none⟩ = some (.int .i64 most)) (hn : Qs w b qs) (hm : most ≤ 1000) (hl : qs.length ≤ 1000) (hL : ∀ x ∈ qs, x.1.2.2.1 ≤ 9223372036854775807 ∧ x.2.2.2.1 ≤ 9223372036854775807) :
  Calls Tryz.prog 115 #[.slice (some ⟨b, 0, none⟩) qs.length c, .func (.func 72) #[] #[.pointer (some ⟨p, 0, none⟩)]] w (Ret w (KIx (shQ most qs))) := by
 have HN := Lib.hid hn
 have HL := Lib.hid hL
 clear hn hL
 go_enter Tryz.func115, Tryz.ntmps115
 go_wp2
 go_loopw [5, 8] (fun _ ci wr => ∃ k : Nat, ci = .int .i64 k ∧ k ≤ qs.length ∧ shQ most (qs.take k) = true ∧ Nw w wr)
  (fun _ ci _ => qs.length - (intOf ci).toNat)
 case atStart => exact ⟨0, rfl, by omega, rfl, Nw.refl w⟩
 case round =>
  obtain ⟨k, rfl, hk, hs, hn⟩ := hrel
  have HS := Lib.hid hs
  clear hs
  have hc2 := hn.c hc
  by_cases hlt : k < qs.length
  ·obtain ⟨⟨⟨n, A, l, cc⟩, ⟨m, D, j, dd⟩⟩, he⟩ : ∃ x, qs[k]? = some x := ⟨_, List.getElem?_eq_getElem hlt⟩
   obtain ⟨h1, h2, h3, h4⟩ := (HN.out.nw hn) k n A l cc m D j dd he
   obtain ⟨hll, hjj⟩ := HL.out _ (List.mem_of_getElem? he)
   simp only at hll hjj
   have hk0 : (0 : Int) ≤ (k : Int) := by omega
   have hki : (k : Int) < (qs.length : Int) := by omega
   have ht : shQ most (qs.take (k + 1)) = (shQ most (qs.take k) && shB most [(n, A, l, cc), (m, D, j, dd)]) := by
    unfold shQ
    rw [List.take_add_one, he]
    simp
   have HE := Lib.hid he
   have HT := Lib.hid ht
   clear he ht
   by_cases hlm : shB most [(n, A, l, cc), (m, D, j, dd)] = false
   ·have hb : (!shB most [(n, A, l, cc), (m, D, j, dd)]) = true := by rw [hlm]; rfl
    have HB := Lib.hid hb
    clear hb
    have HM := Lib.hid hlm
    clear hlm
    go_wp2_with (go_at_call 72; refine (short31_c hc2 hll hjj hm HB.out).mono ?_; rintro e w1 ⟨_, rfl, rfl, hb1⟩)
    go_ret
    have hf : shQ most qs = false := by
     unfold shQ
     rw [List.all_eq_false]
     exact ⟨_, List.mem_of_getElem? HE.out, by simp [HM.out]⟩
    exact ⟨_, rfl, ⟨k, rfl, by rw [hf]; simp⟩, hn.trans hb1⟩
   ·have hlm : shB most [(n, A, l, cc), (m, D, j, dd)] = true := by simpa using hlm
    have hb : (!shB most [(n, A, l, cc), (m, D, j, dd)]) = false := by rw [hlm]; rfl
    have HB := Lib.hid hb
    clear hb
    have HM := Lib.hid hlm
    clear hlm
    go_wp2_with (go_at_call 72; refine (short31_c hc2 hll hjj hm HB.out).mono ?_; rintro e w1 ⟨_, rfl, rfl, hb1⟩)
    go_roundw
    case rel => exact ⟨k + 1, by go_num, by omega, by rw [HT.out, HS.out, HM.out]; rfl, hn.trans hb1⟩
    case measure => simp [intOf]; omega
  ·have hke : k = qs.length := by omega
   have hf : shQ most qs = true := by
    have := HS.out
    rwa [hke, List.take_length] at this
   have HF := Lib.hid hf
   clear hke hf
   go_wp2
   go_ret
   exact ⟨_, rfl, ⟨-1, rfl, by rw [HF.out]; simp⟩, hn⟩
set_option maxHeartbeats 1600000 in
set_option maxRecDepth 100000 in
theorem shortc3_c {b c p most : Nat} {qs : List Qq} {w : World} (hc : w.cell? ⟨p, 0, none⟩ = some (.int .i64 most)) (hn : Qs w b qs) (hm : most ≤ 1000) (hl : qs.length ≤ 1000) (hL : ∀ x ∈ qs, x.1.2.2.1 ≤ 9223372036854775807 ∧ x.2.2.2.1 ≤ 9223372036854775807) :
    Calls Tryz.prog 71 #[.slice (some ⟨b, 0, none⟩) qs.length c, .func (.func 72) #[] #[.pointer (some ⟨p, 0, none⟩)]] w (Ret w (KV (.bool (!shQ most qs)))) := by
  have HN := Lib.hid hn
  have HL := Lib.hid hL
  clear hn hL
  by_cases hs : shQ most qs = true
  all_goals
    have HS := Lib.hid hs
    clear hs
    go_enter Tryz.func71, Tryz.ntmps71
    go_wp2_with (go_at_call 115; refine (shortx3_c hc HN.out hm hl HL.out).mono ?_; rintro e w1 ⟨_, rfl, ⟨r, rfl, hr⟩, hb1⟩)
    go_ret
    have h1 := HS.out
    first
      | (rw [h1] at hr ⊢; exact Ret.Veq (by simp at hr ⊢; omega) hb1)
      | (have h1 : shQ most qs = false := by simpa using h1
         rw [h1] at hr ⊢; exact Ret.Veq (by simp at hr ⊢; omega) hb1)
set_option maxHeartbeats 1600000 in
set_option maxRecDepth 100000 in
theorem short3_c {b c most : Nat} {qs : List Qq} {w : World} (hn : Qs w b qs) (hm : most ≤ 1000) (hl : qs.length ≤ 1000) (hL : ∀ x ∈ qs, x.1.2.2.1 ≤ 9223372036854775807 ∧ x.2.2.2.1 ≤ 9223372036854775807) :
  Calls Tryz.prog 12 #[.int .i64 most, .slice (some ⟨b, 0, none⟩) qs.length c] w (Ret w (KV (.bool (shQ most qs)))) := by
 have nw1 : Nw w (w.alloc (.cells #[.int .i64 most] 3)) := (Nw.refl w).alloc _
 have hc : (w.alloc (.cells #[.int .i64 most] 3)).cell? ⟨w.heap.size, 0, none⟩ = some (.int .i64 most) := by go_simp
 have HN := Lib.hid (hn.nw nw1)
 have HL := Lib.hid hL
 clear hn hL
 go_enter Tryz.func12, Tryz.ntmps12
 go_wp2_with (go_at_call 71; refine (shortc3_c hc HN.out hm hl HL.out).mono ?_; rintro e w1 ⟨_, rfl, rfl, hb1⟩)
 go_ret
 exact Ret.Veq (by simp) (nw1.trans hb1)
end Go.Proofs.YthpjmhhfcechmaaGreat
/- Words for the laws of chapter 03: their Short, what came in. -/
namespace Go.Proofs.YthpjmhhfcechmaaGreat.Sy
open Go Go.RowKit Ma
theorem in_be {w W : World} {A : Option Addr} {l c : Nat} {xs : List Int} (h : In w A l c xs) (k : Below w.heap.size w W) : In W A l c xs := ⟨h.1, h.2.1, h.2.2.1.kept (IntK.of_below k), h.2.2.2⟩
theorem sh_VQ {T : TypeId} {x1 x2 : Bool} {A1 A2 : Option Addr} {l1 c1 l2 c2 : Nat} (v : Value) (W : World) (h : KV (.agg #[.bool x1, .slice A1 l1 c1, .bool x2, .slice A2 l2 c2]) v W) : ∃ cs, (BQ T).sh v cs := by
 obtain rfl : v = _ := h
 exact ⟨_, _, _, _, _, _, _, _, _, rfl, rfl⟩
section
variable {B N : Nat} {w0 : World} {ops : Array Oper} {o : Oper} {rest : List Oper} {fr : List (Nat × AV)} {Q : Exit → Act → World → Prop} {d : Nat}
theorem PW.short3 {o2 : Oper} {d2 : Nat} {c : Call} (most : Nat) (ns : List Qq) {t : Bool} (ob : Obj) (hw : wantB ops fr o = some true) (hd : o.dst = some d) (hN : Nat.blt d N = true)
  (hq : ∀ a W, Fr B N w0 fr a W → (execOp a.eval o).run Tryz.prog W = .ok (.value (.slice (some ⟨W.heap.size, 0, none⟩) ns.length ns.length)) (W.alloc ob)) (hns : ∀ W : World, Qs (W.alloc ob) W.heap.size ns) (hL : ∀ x ∈ ns, x.1.2.2.1 ≤ 9223372036854775807 ∧ x.2.2.2.1 ≤ 9223372036854775807) (hm : Nat.ble most 1000 = true) (hl : Nat.ble ns.length 1000 = true) (ht : shQ most ns = t)
  (hw2 : wantB ops ((d, .kw KT) :: fr) o2 = some true) (hd2 : o2.dst = some d2) (hN2 : Nat.blt d2 N = true) (ho : o2.op = .call c) (hc : c.callee = .value (.func 12)) (ha : c.args = #[.const (.int .i64 (most : Int)), .tmp d])
  (hk : PW B N w0 ops rest ((d2, .vl (.bool t)) :: (d, .kw KT) :: fr) Q) : PW B N w0 ops (o :: o2 :: rest) fr Q :=
 PW.step hw fun a W hf K' hK' => by
  unfold Oper.wp
  rw [hq a W hf, Oper.upon_value, hd]
  have hf1 := (hf.nw ((Nw.refl W).alloc ob)).set (v := .vl (.slice (some ⟨W.heap.size, 0, none⟩) ns.length ns.length)) hN (u := .slice (some ⟨W.heap.size, 0, none⟩) ns.length ns.length) rfl rfl
  have hf2 := (hf.nw ((Nw.refl W).alloc ob)).set (v := .kw KT) hN (u := .slice (some ⟨W.heap.size, 0, none⟩) ns.length ns.length) ⟨trivial, KT.st⟩ rfl
  refine hK' _ _ (wpList_step fun K2 hK2 => ?_)
  rw [if_pos (wantB_spec hf2 hw2)]
  have s1 : (a.put (some d) (.slice (some ⟨W.heap.size, 0, none⟩) ns.length ns.length)).eval (.tmp d) = .slice (some ⟨W.heap.size, 0, none⟩) ns.length ns.length := hf1.vl (s := d) (by rw [look_cons, if_pos rfl])
  obtain ⟨dst, op, ty, pos, after, guard⟩ := o2
  simp only at ho hd2
  subst ho
  subst hd2
  unfold Oper.wp
  have ce : CE 12 := fun args W => by go_simp
  rw [run_call ce hc _ rfl ty _]
  simp only [Oper.upon]
  have e0 : c.args.map (a.put (some d) (.slice (some ⟨W.heap.size, 0, none⟩) ns.length ns.length)).eval = #[.int .i64 (most : Int), .slice (some ⟨W.heap.size, 0, none⟩) ns.length ns.length] := by
   rw [ha, List.map_toArray]; exact congrArg (fun z => #[Value.int .i64 (most : Int), z]) s1
  rw [e0]
  refine (short3_c (b := W.heap.size) (c := ns.length) (hns W) (Nat.le_of_ble_eq_true hm) (Nat.le_of_ble_eq_true hl) hL).mono fun e W' ⟨v, he, hv, hn⟩ => ?_
  subst he
  obtain rfl : v = _ := hv
  exact hK2 _ _ (hk _ _ ((hf2.nw hn).set hN2 (v := .vl (.bool t)) (by show Value.bool _ = _; rw [ht]) rfl))
end
section
variable {x y z : Operand} {dst : Option Tmp} {ty : TypeId} {pos : String} {after : Array Edge} {guard : Option (Nat × Bool)} {ρ : Operand → Value} {W : World}
variable {n1 n2 n3 n4 : Bool} {A1 A2 A3 A4 : Option Addr} {l1 l2 l3 l4 c1 c2 c3 c4 : Nat}
theorem r_bQ1 (h1 : ρ x = .agg #[.bool n1, .slice A1 l1 c1, .bool n2, .slice A2 l2 c2]) : (execOp ρ ⟨dst, .buildSlice 105 1 #[(0, x)], ty, pos, after, guard⟩).run Tryz.prog W = .ok (.value (.slice (some ⟨W.heap.size, 0, none⟩) 1 1)) (W.alloc (.cells #[.bool n1, .slice A1 l1 c1, .bool n2, .slice A2 l2 c2] 26)) := by
 go_simp
end
section
variable {n1 n2 n3 n4 : Bool} {A1 A2 A3 A4 : Option Addr} {l1 l2 l3 l4 c1 c2 c3 c4 : Nat}
theorem qs_lit1 (W : World) : Qs (W.alloc (.cells #[.bool n1, .slice A1 l1 c1, .bool n2, .slice A2 l2 c2] 26)) W.heap.size [((n1, A1, l1, c1), (n2, A2, l2, c2))] := by
 intro i n A l c m D k d e
 match i, e with
 | 0, e => simp at e; obtain ⟨⟨rfl, rfl, rfl, rfl⟩, rfl, rfl, rfl, rfl⟩ := e; exact ⟨by go_simp, by go_simp, by go_simp, by go_simp⟩
 | i + 1, e => simp at e
end
end Go.Proofs.YthpjmhhfcechmaaGreat.Sy
/- A walk by rules: rows of the program's fractions. -/
namespace Go.Proofs.YthpjmhhfcechmaaGreat.Sy
open Go Go.RowKit Ma
def atq (zs : List Rat) (i : Nat) : Rat := zs.getD i 0
def flatq (rs : List Qq) : List Value := rs.flatMap fun x => [.bool x.1.1, .slice x.1.2.1 x.1.2.2.1 x.1.2.2.2, .bool x.2.1, .slice x.2.2.1 x.2.2.2.1 x.2.2.2.2]
def Rsq (w : World) (rs : List Qq) (zs : List Rat) : Prop := rs.length = zs.length ∧ ∀ i n A l c m D k d, rs[i]? = some ((n, A, l, c), (m, D, k, d)) → RI w n A l c (atq zs i).num ∧ RI w m D k d (((atq zs i).den : Int) - 1)
def RsQ (zs : List Rat) : List Value → World → Prop := fun xs w => ∃ rs, xs = flatq rs ∧ Rsq w rs zs
theorem RsQ.st (zs : List Rat) : ∀ xs w1 w2, IntK w1 w2 → RsQ zs xs w1 → RsQ zs xs w2 := fun xs w1 w2 hk ⟨rs, e, h1, h2⟩ => ⟨rs, e, h1, fun i n A l c m D k d e => have ⟨q1, q2⟩ := h2 i n A l c m D k d e; ⟨q1.kept hk, q2.kept hk⟩⟩
theorem flatq_one : ∀ (rs : List Qq) (u : Value), u ∈ flatq rs → u.oneCell' = true ∧ notInt u
 | [], u, h => by simp [flatq] at h
 | x :: rs, u, h => by
  have : u = .bool x.1.1 ∨ u = .slice x.1.2.1 x.1.2.2.1 x.1.2.2.2 ∨ u = .bool x.2.1 ∨ u = .slice x.2.2.1 x.2.2.2.1 x.2.2.2.2 ∨ u ∈ flatq rs := by simpa [flatq] using h
  rcases this with rfl | rfl | rfl | rfl | h
  ·exact ⟨rfl, fun k x => by simp⟩
  ·exact ⟨rfl, fun k x => by simp⟩
  ·exact ⟨rfl, fun k x => by simp⟩
  ·exact ⟨rfl, fun k x => by simp⟩
  ·exact flatq_one rs u h
theorem flatq_append (a b : List Qq) : flatq (a ++ b) = flatq a ++ flatq b := by simp [flatq]
theorem flatq_at : ∀ (rs : List Qq) (i : Nat) (n : Bool) (A : Option Addr) (l c : Nat) (m : Bool) (D : Option Addr) (k d : Nat), rs[i]? = some ((n, A, l, c), (m, D, k, d)) → (flatq rs)[i * 4]? = some (.bool n) ∧ (flatq rs)[i * 4 + 1]? = some (.slice A l c) ∧ (flatq rs)[i * 4 + 2]? = some (.bool m) ∧ (flatq rs)[i * 4 + 3]? = some (.slice D k d)
 | [], i, n, A, l, c, m, D, k, d, h => by simp at h
 | x :: rs, 0, n, A, l, c, m, D, k, d, h => by simp at h; subst h; exact ⟨rfl, rfl, rfl, rfl⟩
 | x :: rs, i + 1, n, A, l, c, m, D, k, d, h => by
  have := flatq_at rs i n A l c m D k d (by simpa using h)
  rw [show (i + 1) * 4 = i * 4 + 1 + 1 + 1 + 1 by omega]
  exact this
theorem RsQ.append {zs ys : List Rat} {xs us : List Value} {w : World} (h : RsQ zs xs w) (k : RsQ ys us w) : RsQ (zs ++ ys) (xs ++ us) w := by
 obtain ⟨rs, rfl, h1, h2⟩ := h
 obtain ⟨qs, rfl, k1, k2⟩ := k
 refine ⟨rs ++ qs, (flatq_append _ _).symm, by simp [h1, k1], fun i n A l c m D k d e => ?_⟩
 by_cases hi : i < rs.length
 ·rw [List.getElem?_append_left hi] at e
  have := h2 i n A l c m D k d e
  simpa only [atq, List.getD_eq_getElem?_getD, List.getElem?_append_left (show i < zs.length by omega)] using this
 ·rw [List.getElem?_append_right (by omega)] at e
  have := k2 _ n A l c m D k d e
  simpa only [atq, List.getD_eq_getElem?_getD, List.getElem?_append_right (show zs.length ≤ i by omega), h1] using this
theorem RsQ.nil (w : World) : RsQ [] [] w := ⟨[], rfl, rfl, fun i n A l c m D k d e => by simp at e⟩
theorem info_Ratio : (Tryz.prog.info? 38).map (fun i => (i.zero, i.size, i.bytes)) = some (some (.agg #[.bool false, .slice none 0 0, .bool false, .slice none 0 0]), 4, 64) := by kernel_rfl
section
variable {B N : Nat} {w0 : World} {ops : Array Oper} {o : Oper} {rest : List Oper} {fr : List (Nat × AV)} {Q : Exit → Act → World → Prop} {d : Nat}
theorem OwS.oneq {W : World} {n m : Bool} {A D : Option Addr} {l c k d : Nat} {z : Rat} (h : RI W n A l c z.num) (h2 : RI W m D k d ((z.den : Int) - 1)) : OwS (W.alloc (.cells #[.bool n, .slice A l c, .bool m, .slice D k d] 38)) W.heap.size 38 4 (.slice (some ⟨W.heap.size, 0, none⟩) 1 1) 1 (RsQ [z]) := by
 refine ⟨⟨[.bool n, .slice A l c, .bool m, .slice D k d], ⟨by simp, .inr ⟨W.heap.size, 1, _, rfl, Nat.le_refl _, heap_alloc_new W _, Nat.le_refl _, by unfold maxLen; omega, by simp, by simp⟩⟩, [((n, A, l, c), (m, D, k, d))], rfl, rfl, fun i n' A' l' c' m' D' k' d' e => ?_⟩, ?_, RsQ.st _⟩
 ·match i, e with
  | 0, e =>
   simp at e
   obtain ⟨⟨rfl, rfl, rfl, rfl⟩, rfl, rfl, rfl, rfl⟩ := e
   exact ⟨h.kept (IntK.alloc _ _), h2.kept (IntK.alloc _ _)⟩
  | i + 1, e => simp at e
 ·intro g hg
  injection hg with hg
  subst hg
  refine ⟨_, _, _, heap_alloc_new W _, fun u hu => ?_⟩
  have : u = .bool n ∨ u = .slice A l c ∨ u = .bool m ∨ u = .slice D k d := by simpa using hu
  rcases this with rfl | rfl | rfl | rfl
  ·exact fun k x => by simp
  ·exact fun k x => by simp
  ·exact fun k x => by simp
  ·exact fun k x => by simp
theorem PW.bq {z : Rat} {x : Operand} (hw : wantB ops fr o = some true) (hd : o.dst = some d) (hN : Nat.blt d N = true) (hx : opv fr x = some (.kw (KQ z.num ((z.den : Int) - 1))))
  (hr : ∀ (ρ : Operand → Value) (W : World) (n m : Bool) (A D : Option Addr) (l c k d : Nat), ρ x = .agg #[.bool n, .slice A l c, .bool m, .slice D k d] → (execOp ρ o).run Tryz.prog W = .ok (.value (.slice (some ⟨W.heap.size, 0, none⟩) 1 1)) (W.alloc (.cells #[.bool n, .slice A l c, .bool m, .slice D k d] 38))) (hk : PW B N w0 ops rest ((d, .rz 38 4 1 (RsQ [z])) :: fr) Q) : PW B N w0 ops (o :: rest) fr Q :=
 PW.step hw fun a W hf K' hK' => by
  obtain ⟨⟨n, A, l, c, m, D, k, d', e1, h1, h2⟩, _⟩ := (opv_spec hf hx).1
  unfold Oper.wp
  rw [hr a.eval W n m A D l c k d' e1, Oper.upon_value, hd]
  have hn : Nw W (W.alloc (.cells #[.bool n, .slice A l c, .bool m, .slice D k d'] 38)) := (Nw.refl W).alloc _
  refine hK' _ _ (hk _ _ ((hf.nw hn).put hN (v := .rz 38 4 1 (RsQ [z])) (OwS.weaken (OwS.oneq h1 h2) hf.bs) fun i v' q hi e1 e2 => ?_))
  have a1 := (OwS.oneq h1 h2).base q e1
  have a2 := (hf.ho i _ hi).blk e2
  omega
theorem PW.apq {T : TypeId} {K s x : Nat} {v : Value} {zs : List Rat} {z : Rat} (hw : wantB ops fr o = some true) (hd : o.dst = some d) (hN : Nat.blt d N = true) (ho : o.op = .call { callee := .builtin .append, args := #[.tmp s, .tmp x], argTypes := #[T, T] }) (hs : look fr s = some (.vl v)) (hx : look fr x = some (.rz 38 4 1 (RsQ [z])))
  (hK : look fr K = some (.rs v 38 4 zs.length (RsQ zs))) (hu : Tryz.prog.underlying T = some (.slice 38)) (hn : zs.length + 1 ≤ 2000000) (hKN : Nat.ble N K = true) (hk : ∀ v', PW B N w0 ops rest ((K, .rs v' 38 4 (zs ++ [z]).length (RsQ (zs ++ [z]))) :: (d, .vl v') :: fr) Q) : PW B N w0 ops (o :: rest) fr Q :=
 PW.step hw fun a W hf K' hK' => by
  have s1 : a.eval (.tmp s) = v := hf.ho s _ hs
  have own : OwS W B 38 4 v zs.length (RsQ zs) := hf.ho K _ hK
  have ownx : OwS W B 38 4 (a.eval (.tmp x)) 1 (RsQ [z]) := hf.ho x _ hx
  obtain ⟨⟨xs, p1, p2⟩, p3, p4⟩ := own
  obtain ⟨⟨us, x1, x2⟩, x3, x4⟩ := ownx
  rcases x1.2 with ⟨_, h0⟩ | ⟨gx, cx, curx, ex, _⟩
  ·cases h0
  obtain ⟨i0, q1, q2, q3, q4⟩ := info_parts info_Ratio
  obtain ⟨qs, rfl, hq⟩ := id x2
  have hone := flatq_one qs
  have hcells : ∀ j u, (flatq qs)[j]? = some u → W.cell? ((⟨gx, 0, none⟩ : Addr).add j) = some u := x1.cells (g := gx) (by rw [ex]; rfl)
  have hbytes : (zs.length + 1) * 64 ≤ 140737488355328 := by omega
  have h63 : zs.length + 1 ≤ maxLen := by unfold maxLen; omega
  have hz0 : ∀ u ∈ (Value.agg #[.bool false, .slice none 0 0, .bool false, .slice none 0 0]).cells.toList, notInt u := by
   intro u hu
   have : u = .bool false ∨ u = .slice none 0 0 := by
    have : u = .bool false ∨ u = .slice none 0 0 ∨ u = .bool false ∨ u = .slice none 0 0 := by simpa [Value.cells] using hu
    rcases this with h | h | h | h
    ·exact .inl h
    ·exact .inr h
    ·exact .inl h
    ·exact .inr h
   rcases this with rfl | rfl
   ·exact fun k x => by simp
   ·exact fun k x => by simp
  obtain ⟨v', W2, r1, r2, r3, _, r5⟩ := run_append_own_at (P := Tryz.prog) W B T o.type 38 i0 (.agg #[.bool false, .slice none 0 0, .bool false, .slice none 0 0]) 4 64 hu q1 q2 q3 q4 rfl (by decide) v zs.length xs p1 ⟨gx, 0, none⟩ 1 cx (flatq qs) x1.1 hcells (fun u hu => (hone u hu).1) h63 hbytes hf.bs
  have r6 := append_noI (P := Tryz.prog) W B T o.type 38 i0 (.agg #[.bool false, .slice none 0 0, .bool false, .slice none 0 0]) 4 64 hu q1 q2 q3 q4 rfl (by decide) v zs.length xs p1 ⟨gx, 0, none⟩ 1 cx (flatq qs) x1.1 hcells (fun u hu => (hone u hu).1) h63 hbytes hz0 (fun u hu => (hone u hu).2) p3 r1
  have hin : IntK W W2 := p3.intK r3
  have e2 : (execOp a.eval o).run Tryz.prog W = .ok (.value v') W2 := by
   unfold execOp
   simp only [ho, resolve, invoke, builtin, Sem.run_bind, Sem.run_pure, Result.andThen_ok, List.map_toArray, List.map_cons, List.map_nil, s1, ex, r1]
  unfold Oper.wp
  rw [e2, Oper.upon_value, hd]
  have own2 : OwS W2 B 38 4 v' (zs ++ [z]).length (RsQ (zs ++ [z])) := by
   rw [List.length_append]
   exact ⟨⟨xs ++ flatq qs, r2, RsQ.st _ _ _ _ hin (p2.append x2)⟩, r6, RsQ.st _⟩
  have hf2 := hf.sgrow hK r3 own2 r5 (Nat.le_refl _)
  have hf3 := hf2.set (v := .vl v') hN (u := v') rfl rfl
  refine hK' _ _ (hk v' _ _ (hf3.ext fun s' => ?_))
  have hdK : ¬ d = K := fun e => by subst e; simp [Nat.blt_eq] at hN hKN; omega
  simp only [look_cons]
  by_cases a1 : K = s'
  ·subst a1; rw [if_pos rfl, if_neg hdK, if_pos rfl]
  ·rw [if_neg a1, if_neg a1]
theorem Fr.nilq {a : Act} {W : World} (K : Nat) (hf : Fr B N w0 fr a W) : Fr B N w0 ((K, .rs (.slice none 0 0) 38 4 ([] : List Rat).length (RsQ [])) :: fr) a W :=
 hf.more (OwS.nil W B _ 4 _ (RsQ.nil W) (RsQ.st _)) fun j v' p hj e => by cases e
def KS (b : Nat) (e : TypeId) (s n : Nat) (R : List Value → World → Prop) : Know := fun v W => OwS W b e s v n R
theorem SX.doneS {fn : Func} {e : Exit} {s K1 : Nat} {v1 : Value} {et : TypeId} {sz n : Nat} {R : List Value → World → Prop} (he : e = .ret ∨ e = .normal) (hr : fn.results = #[.tmp s]) (hs : look fr s = some (.vl v1)) (h1 : look fr K1 = some (.rs v1 et sz n R)) (hB : B = w0.heap.size) :
  SX B N w0 e fr (bodyPost Tryz.prog fn (Ret w0 (KS w0.heap.size et sz n R))) := fun a W hf => by
 have a1 : a.tmps.getD s undef = _ := hf.ho s _ hs
 have o1 : OwS W B et sz v1 n R := hf.ho K1 _ h1
 have hrun : (results fn a.tmps).run Tryz.prog W = .ok (a.tmps.getD s undef) W := by
  unfold results
  simp [hr, go_sem]
 rw [a1] at hrun
 have key : a.defers = [] ∧ ∃ v, (results fn a.tmps).run Tryz.prog W = .ok v W ∧ Ret w0 (KS w0.heap.size et sz n R) (.returned v) W :=
  ⟨hf.df, _, hrun, ⟨_, rfl, hB ▸ o1, by have := hf.be; rw [hB] at this; exact this⟩⟩
 rcases he with rfl | rfl <;> exact key
theorem Fr.srow {a : Act} {W W' : World} {K : Nat} {v : Value} {e : TypeId} {s n : Nat} {R : List Value → World → Prop} (h : Fr B N w0 fr a W) (hn : Nw W W') (hg : ∀ g, v.ownBlock = some g → W.heap.size ≤ g) (ho : OwS W' B e s v n R) : Fr B N w0 ((K, .rs v e s n R) :: fr) a W' :=
 (h.nw hn).more ho fun j v' p hj e1 e2 => by
  have := hg p e1
  have := (h.ho j v' hj).blk e2
  omega
theorem PW.callS {o2 : Oper} {d2 : Nat} {c : Call} {f : FuncId} {e : TypeId} {s n m : Nat} {R : List Value → World → Prop} (K : Nat) (ob : Obj) (ce : CE f) (hw : wantB ops fr o = some true) (hd : o.dst = some d) (hN : Nat.blt d N = true)
  (hq : ∀ a W, Fr B N w0 fr a W → (execOp a.eval o).run Tryz.prog W = .ok (.value (.slice (some ⟨W.heap.size, 0, none⟩) m m)) (W.alloc ob))
  (hw2 : wantB ops ((d, .kw KT) :: fr) o2 = some true) (hd2 : o2.dst = some d2) (hN2 : Nat.blt d2 N = true) (ho : o2.op = .call c) (hc : c.callee = .value (.func f)) (ha : c.args = #[.tmp d]) (hn0 : Nat.blt 0 n = true) (hKN : Nat.ble N K = true)
  (h : ∀ a W, Fr B N w0 fr a W → Calls Tryz.prog f #[.slice (some ⟨W.heap.size, 0, none⟩) m m] (W.alloc ob) (Ret (W.alloc ob) (KS (W.alloc ob).heap.size e s n R)))
  (hk : ∀ g c, PW B N w0 ops rest ((K, .rs (.slice (some ⟨g, 0, none⟩) n c) e s n R) :: (d2, .vl (.slice (some ⟨g, 0, none⟩) n c)) :: (d, .kw KT) :: fr) Q) : PW B N w0 ops (o :: o2 :: rest) fr Q :=
 PW.step hw fun a W hf K' hK' => by
  unfold Oper.wp
  rw [hq a W hf, Oper.upon_value, hd]
  have hf1 := (hf.nw ((Nw.refl W).alloc ob)).set (v := .vl (.slice (some ⟨W.heap.size, 0, none⟩) m m)) hN (u := .slice (some ⟨W.heap.size, 0, none⟩) m m) rfl rfl
  have hf2 := (hf.nw ((Nw.refl W).alloc ob)).set (v := .kw KT) hN (u := .slice (some ⟨W.heap.size, 0, none⟩) m m) ⟨trivial, KT.st⟩ rfl
  refine hK' _ _ (wpList_step fun K2 hK2 => ?_)
  rw [if_pos (wantB_spec hf2 hw2)]
  have s1 : (a.put (some d) (.slice (some ⟨W.heap.size, 0, none⟩) m m)).eval (.tmp d) = .slice (some ⟨W.heap.size, 0, none⟩) m m := hf1.vl (s := d) (by rw [look_cons, if_pos rfl])
  obtain ⟨dst, op, ty, pos, after, guard⟩ := o2
  simp only at ho hd2
  subst ho
  subst hd2
  unfold Oper.wp
  rw [run_call ce hc _ rfl ty _]
  simp only [Oper.upon]
  have e0 : c.args.map (a.put (some d) (.slice (some ⟨W.heap.size, 0, none⟩) m m)).eval = #[.slice (some ⟨W.heap.size, 0, none⟩) m m] := by
   rw [ha, List.map_toArray]; exact congrArg (fun z => #[z]) s1
  rw [e0]
  refine (h a W hf).mono fun e9 W' ⟨v, he, hv, hn⟩ => ?_
  subst he
  have own : OwS W' (W.alloc ob).heap.size e s v n R := hv
  obtain ⟨A, c', e1, hc', h0⟩ := own.form
  rcases h0 with h0 | ⟨g, h0⟩
  ·subst h0; cases hn0
  ·subst e1 h0
   have hg : (W.alloc ob).heap.size ≤ g := own.base g rfl
   have hf3 := hf2.set (v := .vl (.slice (some ⟨g, 0, none⟩) n c')) hN2 (u := .slice (some ⟨g, 0, none⟩) n c') rfl rfl
   refine hK2 _ _ (hk g c' _ _ (hf3.srow hn (fun g' hg' => by injection hg' with hg'; rw [← hg']; exact hg) (OwS.weaken own ?_)))
   have := hf2.bs
   exact this
theorem r_ldR {x : Operand} {dst : Option Tmp} {ty : TypeId} {pos : String} {after : Array Edge} {guard : Option (Nat × Bool)} {ρ : Operand → Value} {W : World} {m n : Bool} {A D : Option Addr} {l c k d g q : Nat} (h1 : ρ x = .pointer (some ⟨g, q, none⟩)) (h2 : W.cell? ⟨g, q, none⟩ = some (.bool n)) (h3 : W.cell? ⟨g, q + 1, none⟩ = some (.slice A l c)) (h4 : W.cell? ⟨g, q + 2, none⟩ = some (.bool m)) (h5 : W.cell? ⟨g, q + 3, none⟩ = some (.slice D k d)) : (execOp ρ ⟨dst, .load 38 x, ty, pos, after, guard⟩).run Tryz.prog W = .ok (.value (.agg #[.bool n, .slice A l c, .bool m, .slice D k d])) W := by
 go_simp
theorem PW.ldq {K s g c i : Nat} {zs : List Rat} {ty : TypeId} {pos : String} {after : Array Edge} {guard : Option (Nat × Bool)} (hi : i < zs.length) (hw : wantB ops fr ⟨some d, .load 38 (.tmp s), ty, pos, after, guard⟩ = some true) (hN : Nat.blt d N = true) (hs : look fr s = some (.vl (.pointer (some ⟨g, i * 4, none⟩)))) (hK : look fr K = some (.rs (.slice (some ⟨g, 0, none⟩) zs.length c) 38 4 zs.length (RsQ zs)))
  (hk : PW B N w0 ops rest ((d, .kw (KQ (atq zs i).num (((atq zs i).den : Int) - 1))) :: fr) Q) : PW B N w0 ops (⟨some d, .load 38 (.tmp s), ty, pos, after, guard⟩ :: rest) fr Q :=
 PW.val (r := .kw (KQ (atq zs i).num (((atq zs i).den : Int) - 1))) hw rfl hN rfl (fun a W hf => by
  have h1 : a.eval (.tmp s) = .pointer (some ⟨g, i * 4, none⟩) := hf.ho s _ hs
  have own : OwS W B 38 4 (.slice (some ⟨g, 0, none⟩) zs.length c) zs.length (RsQ zs) := hf.ho K _ hK
  obtain ⟨⟨xs, p1, rs, rfl, hr1, hr2⟩, _⟩ := own
  have hcells : ∀ j u, (flatq rs)[j]? = some u → W.cell? ((⟨g, 0, none⟩ : Addr).add j) = some u := p1.cells (g := g) rfl
  obtain ⟨⟨⟨n, A, l, c1⟩, ⟨m, D, k, d1⟩⟩, he⟩ : ∃ x, rs[i]? = some x := ⟨_, List.getElem?_eq_getElem (by omega)⟩
  obtain ⟨f1, f2, f3, f4⟩ := flatq_at rs i n A l c1 m D k d1 he
  have c0 := hcells _ _ f1
  have c1' := hcells _ _ f2
  have c2 := hcells _ _ f3
  have c3 := hcells _ _ f4
  rw [addq, Nat.zero_add] at c0 c1' c2 c3
  obtain ⟨q1, q2⟩ := hr2 i n A l c1 m D k d1 he
  exact ⟨.agg #[.bool n, .slice A l c1, .bool m, .slice D k d1], r_ldR h1 c0 c1' c2 c3, ⟨n, A, l, c1, m, D, k, d1, rfl, q1, q2⟩, KQ.st _ _⟩) hk
end
section
variable {x y : Operand} {dst : Option Tmp} {ty : TypeId} {pos : String} {after : Array Edge} {guard : Option (Nat × Bool)} {ρ : Operand → Value} {W : World} {m n : Bool} {A D : Option Addr} {l c k d j : Nat}
theorem r_bq (h1 : ρ x = .agg #[.bool n, .slice A l c, .bool m, .slice D k d]) : (execOp ρ ⟨dst, .buildSlice 63 1 #[(0, x)], ty, pos, after, guard⟩).run Tryz.prog W = .ok (.value (.slice (some ⟨W.heap.size, 0, none⟩) 1 1)) (W.alloc (.cells #[.bool n, .slice A l c, .bool m, .slice D k d] 38)) := by
 go_simp
theorem r_idxq {g i : Nat} (h1 : ρ x = .slice (some ⟨g, 0, none⟩) j c) (h2 : ρ y = .int .i64 (i : Int)) (hi : i < j) : (execOp ρ ⟨dst, .indexAddr 63 x y, ty, pos, after, guard⟩).run Tryz.prog W = .ok (.value (.pointer (some ⟨g, i * 4, none⟩))) W := by
 go_simp
theorem r_idxQ {g i : Nat} (h1 : ρ x = .slice (some ⟨g, 0, none⟩) j c) (h2 : ρ y = .int .i64 (i : Int)) (hi : i < j) : (execOp ρ ⟨dst, .indexAddr 105 x y, ty, pos, after, guard⟩).run Tryz.prog W = .ok (.value (.pointer (some ⟨g, i * 4, none⟩))) W := by
 go_simp
theorem r_lenQ (h1 : ρ x = .slice A j c) : (execOp ρ ⟨dst, .call ⟨.builtin .len, #[x], #[105]⟩, ty, pos, after, guard⟩).run Tryz.prog W = .ok (.value (.int .i64 (j : Int))) W := by
 go_simp
theorem r_ldQ {g q : Nat} (h1 : ρ x = .pointer (some ⟨g, q, none⟩)) (h2 : W.cell? ⟨g, q, none⟩ = some (.bool n)) (h3 : W.cell? ⟨g, q + 1, none⟩ = some (.slice A l c)) (h4 : W.cell? ⟨g, q + 2, none⟩ = some (.bool m)) (h5 : W.cell? ⟨g, q + 3, none⟩ = some (.slice D k d)) : (execOp ρ ⟨dst, .load 26 x, ty, pos, after, guard⟩).run Tryz.prog W = .ok (.value (.agg #[.bool n, .slice A l c, .bool m, .slice D k d])) W := by
 go_simp
end
section
variable {B N : Nat} {w0 : World} {ops : Array Oper} {rest : List Oper} {fr : List (Nat × AV)} {Q : Exit → Act → World → Prop} {d : Nat} {ty : TypeId} {pos : String} {after : Array Edge}
theorem PW.ldQ {b i s : Nat} {qs : List Qq} {n m : Bool} {A D : Option Addr} {l c k e : Nat} {guard : Option (Nat × Bool)} (hq : Qs w0 b qs) (hi : qs[i]? = some ((n, A, l, c), (m, D, k, e))) (hB : B = w0.heap.size) (hw : wantB ops fr ⟨some d, .load 26 (.tmp s), ty, pos, after, guard⟩ = some true) (hN : Nat.blt d N = true) (hs : look fr s = some (.vl (.pointer (some ⟨b, i * 4, none⟩))))
  (hk : PW B N w0 ops rest ((d, .vl (.agg #[.bool n, .slice A l c, .bool m, .slice D k e])) :: fr) Q) : PW B N w0 ops (⟨some d, .load 26 (.tmp s), ty, pos, after, guard⟩ :: rest) fr Q :=
 PW.val (r := .vl (.agg #[.bool n, .slice A l c, .bool m, .slice D k e])) hw rfl hN rfl (fun a W hf => by
  have h1 : a.eval (.tmp s) = .pointer (some ⟨b, i * 4, none⟩) := hf.ho s _ hs
  obtain ⟨c0, c1, c2, c3⟩ := hq i n A l c m D k e hi
  have up : ∀ {p : Addr} {u : Value}, w0.cell? p = some u → W.cell? p = some u := fun {p u} h => by rw [hf.be.cell (by rw [hB]; exact World.block_lt_of_cell? w0 _ h)]; exact h
  exact ⟨_, r_ldQ h1 (up c0) (up c1) (up c2) (up c3), rfl⟩) hk
end
end Go.Proofs.YthpjmhhfcechmaaGreat.Sy
/- The laws' of: a row of fractions, by rules. -/
namespace Go.Proofs.YthpjmhhfcechmaaGreat.Sy
open Go Go.RowKit Ma
def Zqs (w : World) (m : Nat) (qs : List Qq) (zs : List Rat) : Prop := zs.length = qs.length ∧ ∀ i n A l c n2 D k d, qs[i]? = some ((n, A, l, c), (n2, D, k, d)) → ∃ xs1 xs2 x y, In w A l c xs1 ∧ In w D k d xs2 ∧ x = sg n (lv b32 xs1) ∧ y = sg n2 (lv b32 xs2) ∧ bd m x ∧ bd m y ∧ l ≤ 1000 ∧ k ≤ 1000 ∧ atq zs i = ofq x y
theorem take_snocq {zs : List Rat} {i : Nat} (h : i < zs.length) : zs.take i ++ [atq zs i] = zs.take (i + 1) := by
 rw [List.take_add_one, atq, List.getD_eq_getElem?_getD, List.getElem?_eq_getElem h]; simp
theorem ce_ofl : CE 31 := fun args W => by go_simp
set_option maxHeartbeats 6400000 in
set_option maxRecDepth 100000 in
theorem ofl_c {b c m : Nat} {qs : List Qq} {zs : List Rat} {w : World} (hn : Qs w b qs) (hz : Zqs w m qs zs) (hm : m ≤ 1000) (hl : qs.length ≤ 1000) :
  Calls Tryz.prog 31 #[.slice (some ⟨b, 0, none⟩) qs.length c] w (Ret w (KS w.heap.size 38 4 zs.length (RsQ zs))) := by
 have hzl := hz.1
 refine calls_sc (l := [.vl (.slice (some ⟨b, 0, none⟩) qs.length c)]) (us := [.slice (some ⟨b, 0, none⟩) qs.length c]) 25 Tryz.func31 rfl Tryz.ntmps31 (by simp) ⟨rfl, rfl, trivial⟩ ?_
 refine SC.seq (SC.region (PW.assign rfl rfl rfl rfl rfl (PW.nil (SX.then (SC.seq (SC.region (PW.assign rfl rfl rfl rfl rfl (PW.nil (SX.then (SC.seq (SC.seq (SC.region (PW.move rfl rfl rfl rfl rfl ?_)))))))))))))
 refine PW.qn [(.tmp 8, .slice (some ⟨b, 0, none⟩) qs.length c)] (.int .i64 (qs.length : Int)) rfl rfl rfl ⟨rfl, trivial⟩ (fun ρ W h => by obtain ⟨h1, _⟩ := h; exact r_lenQ h1) ?_
 refine PW.move rfl rfl rfl rfl rfl (PW.nil (SX.then (SC.block ?_)))
 refine SC.weak (fun a W hf => Fr.nilq 25 hf) ?_
 refine SC.loop (S := Value × Nat) (fun ⟨v, k⟩ => [(3, .vl (v)), (8, .vl (.slice (some ⟨b, 0, none⟩) qs.length c)), (9, .vl (.int .i64 (qs.length : Int))), (10, .vl (.int .i64 (k : Int))), (25, .rs (v) 38 4 (zs.take k : List Rat).length (RsQ (zs.take k)))]) (fun ⟨v, k⟩ => k ≤ qs.length) (fun ⟨v, k⟩ => qs.length - k) (.slice none 0 0, 0) (Nat.zero_le _) ⟨rfl, rfl, rfl, rfl, rfl, trivial⟩ ?_
 rintro ⟨v, k⟩ hP
 show SC _ _ _ _ [(3, .vl (v)), (8, .vl (.slice (some ⟨b, 0, none⟩) qs.length c)), (9, .vl (.int .i64 (qs.length : Int))), (10, .vl (.int .i64 (k : Int))), (25, .rs (v) 38 4 (zs.take k : List Rat).length (RsQ (zs.take k)))] _
 refine SC.seq ?_
 by_cases hk : k < qs.length
 ·obtain ⟨⟨⟨n1, A1, l1, c1⟩, ⟨n2, A2, l2, c2⟩⟩, hi⟩ : ∃ x, qs[k]? = some x := ⟨_, List.getElem?_eq_getElem hk⟩
  obtain ⟨xs1, xs2, x, y, h1, h2, hz1, hz2, X, Y, hl1, hl2, hq⟩ := hz.2 k n1 A1 l1 c1 n2 A2 l2 c2 hi
  have het : zs.take k ++ [ofq x y] = zs.take (k + 1) := by rw [← hq]; exact take_snocq (by have := hz.1; omega)
  refine SC.region ?_
  refine PW.q2 (x := .tmp 10) (y := .tmp 9) (.bool true) rfl rfl rfl rfl rfl (fun ρ W h1 h2 => by exact r_lt h1 h2 (decide_eq_true (by omega))) ?_
  refine PW.nil (SX.then (SC.seq (SC.cond (t := true) rfl (SC.skip (SX.then (SC.seq (SC.block (SC.seq (SC.region ?_)))))))))
  refine PW.q2 (x := .tmp 8) (y := .tmp 10) (.pointer (some ⟨b, k * 4, none⟩)) rfl rfl rfl rfl rfl (fun ρ W h1 h2 => r_idxQ (i := k) h1 h2 (by omega)) ?_
  refine PW.ldQ hn hi rfl rfl rfl rfl ?_
  refine PW.alloc (BQ 26) rfl rfl rfl rfl rfl bQN ?_
  refine PW.store (x := .tmp 13) (r := .vl (.agg #[.bool n1, .slice A1 l1 c1, .bool n2, .slice A2 l2 c2])) rfl rfl rfl rfl rfl rfl sh_VQ ?_
  refine PW.nil (SX.then (SC.seq (SC.region ?_)))
  refine PW.loadV rfl rfl rfl rfl rfl rfl ?_
  refine PW.callG (r := .kw (K2 (KQ (ofq x y).num (((ofq x y).den : Int) - 1)) (KR3 (ofq x y).num ((ofq x y).den : Int)))) ce_of3 rfl rfl rfl rfl rfl (K2.st (KQ.st _ _) (KR3.st _ _)) rfl (fun a W hf => by have e1 := hf.vl (s := 15) rfl; show Calls Tryz.prog _ #[a.tmps.getD 15 undef] W _; rw [e1]; exact of3_c (in_be h1 hf.be) (in_be h2 hf.be) hz1 hz2 X Y hl1 hl2 hm) ?_
  refine PW.move rfl rfl rfl rfl rfl ?_
  refine PW.ext (r := .kw (KQ (ofq x y).num (((ofq x y).den : Int) - 1))) rfl rfl rfl rfl rfl ex20 (KQ.st _ _) rfl ?_
  refine PW.ext (r := .kw (KR3 (ofq x y).num ((ofq x y).den : Int))) rfl rfl rfl rfl rfl ex21 (KR3.st _ _) rfl ?_
  refine PW.alloc (BQ 38) rfl rfl rfl rfl rfl bQ ?_
  refine PW.alloc (BQ 43) rfl rfl rfl rfl rfl bQJ ?_
  refine PW.store (x := .tmp 17) (r := .kw (KQ (ofq x y).num (((ofq x y).den : Int) - 1))) rfl rfl rfl rfl rfl rfl sh_Q ?_
  refine PW.store (x := .tmp 18) (r := .kw (KR3 (ofq x y).num ((ofq x y).den : Int))) rfl rfl rfl rfl rfl rfl sh_R3 ?_
  refine PW.nil (SX.then (SC.region (PW.move rfl rfl rfl rfl rfl ?_)))
  refine PW.load rfl rfl rfl rfl rfl rfl ?_
  refine PW.bq (z := ofq x y) (x := .tmp 20) rfl rfl rfl rfl (fun ρ W n m A D l c k d h1 => r_bq h1) ?_
  refine PW.apq (K := 25) rfl rfl rfl rfl rfl rfl rfl Tryz.underlying63 (by rw [List.length_take]; omega) rfl fun vz1 => ?_
  refine PW.assign rfl rfl rfl rfl rfl (PW.nil ?_)
  refine SX.blockN ?_
  refine SX.then (SC.region ?_)
  refine PW.q2 (x := .tmp 10) (y := .const (.int .i64 1)) (.int .i64 ((k + 1 : Nat))) rfl rfl rfl rfl rfl (fun ρ W h1 h2 => by exact r_add h1 h2 (by omega) (by omega)) ?_
  refine PW.move rfl rfl rfl rfl rfl (PW.nil ?_)
  rw [het]
  refine SX.back (vz1, k + 1) ?_ ?_ ?_
  ·exact (show k + 1 ≤ qs.length by omega)
  ·exact (show qs.length - (k + 1) < qs.length - k by omega)
  ·exact ⟨rfl, rfl, rfl, rfl, rfl, trivial⟩
 ·have het : zs.take k = zs := List.take_of_length_le (by have := hz.1; omega)
  refine SC.region ?_
  refine PW.q2 (x := .tmp 10) (y := .tmp 9) (.bool false) rfl rfl rfl rfl rfl (fun ρ W h1 h2 => by exact r_lt h1 h2 (decide_eq_false (by omega))) ?_
  refine PW.nil (SX.then (SC.seq (SC.cond (t := false) rfl (SC.exit (SX.thenE (SX.thenE (SX.blockE (SX.then (SC.seq (SC.region (PW.move rfl rfl rfl rfl rfl (PW.assign rfl rfl rfl rfl rfl ?_))))))))))))
  refine PW.nil (SX.then (SC.ret ?_))
  rw [het]
  exact SX.doneS (s := 2) (K1 := 25) (.inl rfl) rfl rfl rfl rfl
end Go.Proofs.YthpjmhhfcechmaaGreat.Sy
/- Plain laws: powers and roots of fractions, rounded quotients. -/
namespace Go.Proofs.YthpjmhhfcechmaaGreat.Sy
open Go Go.RowKit Ma
theorem divInt_pow (n d : Int) (k : Nat) : Rat.divInt (n ^ k) (d ^ k) = (Rat.divInt n d) ^ k := by
 induction k with
 | zero => rw [Int.pow_zero, Int.pow_zero, Rat.pow_zero]; rfl
 | succ k ih => rw [Int.pow_succ, Int.pow_succ, Rat.pow_succ, ← ih, Rat.divInt_mul_divInt]
theorem pow_over (x : Rat) (k : Nat) : x ^ k = Rat.divInt (x.num ^ k) ((x.den : Int) ^ k) := by
 rw [divInt_pow, Rat.num_divInt_den]
theorem inv_pow_over (x : Rat) (k : Nat) : x⁻¹ ^ k = Rat.divInt ((x.den : Int) ^ k) (x.num ^ k) := by
 rw [divInt_pow, ← Rat.inv_def]
theorem zpow_neg_nat (x : Rat) (k : Nat) : x ^ (-(k : Int)) = x⁻¹ ^ k := by
 rw [Rat.zpow_neg, Rat.zpow_natCast, inv_pow_over, pow_over, Rat.inv_divInt]
theorem unit_par {x : Rat} (h : x * x = 1) : ∀ i : Nat, x ^ i = x ^ (i % 2)
 | 0 => rfl
 | 1 => rfl
 | i + 2 => by
  rw [Rat.pow_succ, Rat.pow_succ, Rat.mul_assoc, h, Rat.mul_one, unit_par h i, Nat.add_mod_right]
theorem unit_pow {x : Rat} (h : x * x = 1) {i k : Nat} (e : i % 2 = k % 2) : x ^ i = x ^ k := by rw [unit_par h i, unit_par h k, e]
theorem unit_of {x : Rat} (h0 : x ≠ 0) (h1 : x.num.natAbs ≤ 1) (h2 : x.den = 1) : x = 1 ∨ x = -1 := by
  have hn : x.num ≠ 0 := fun e => h0 (Rat.num_eq_zero.1 e)
  by_cases hp : x.num = 1
  · exact .inl (Rat.ext hp h2)
  · exact .inr (Rat.ext (by have : x.num = -1 := by omega
                            rw [this]; rfl) h2)
theorem unit_sq {x : Rat} (h : x = 1 ∨ x = -1) : x * x = 1 := by
 rcases h with rfl | rfl
 ·decide +kernel
 ·decide +kernel
theorem unit_inv {x : Rat} (h : x = 1 ∨ x = -1) : x⁻¹ = x := by
 rcases h with rfl | rfl
 ·decide +kernel
 ·decide +kernel
theorem unit_abs {x : Rat} (h : x = 1 ∨ x = -1) : cmpq (absq x) ((1 : Int) : Rat) = 0 := by
 rcases h with rfl | rfl
 ·decide +kernel
 ·decide +kernel
theorem unit_zpow {x : Rat} (h : x = 1 ∨ x = -1) {n : Int} (hn : n < 0) {k : Nat} (e : (k : Int) % 2 = n % 2) : x ^ n = x⁻¹ ^ k := by
 obtain ⟨j, rfl⟩ : ∃ j : Nat, n = -(j : Int) := ⟨(-n).toNat, by omega⟩
 rw [zpow_neg_nat, unit_inv h]
 exact unit_pow (unit_sq h) (by omega)
theorem bd.pwn {a : Nat} {x : Int} (X : bd a x) : ∀ n : Nat, bd (a * n + 1) (x ^ n)
 | 0 => by rw [Int.pow_zero]; exact bd.lit (by decide)
 | n + 1 => by rw [Int.pow_succ]; exact ((bd.pwn X n).mul X).mono (by rw [Nat.mul_add]; omega)
theorem bq.pwn {a : Nat} {x : Rat} (X : bq a x) (n : Nat) : bq (a * n + 1) (x ^ n) := ⟨by rw [Rat.num_pow]; exact bd.pwn X.1 n, by rw [Rat.den_pow, Int.natCast_pow]; exact bd.pwn X.2 n⟩
theorem bq.inv {a : Nat} {x : Rat} (X : bq a x) (h : x ≠ 0) : bq a x⁻¹ := by
 rw [Rat.inv_def]
 exact (bq.over X.2 X.1 (fun e => h (Rat.num_eq_zero.1 e))).mono (by omega)
theorem bq.unit {x : Rat} (h : x = 1 ∨ x = -1) : bq 1 x := by
 rcases h with rfl | rfl
 ·exact ⟨bd.lit (by decide), bd.lit (by decide)⟩
 ·exact ⟨bd.lit (by decide), bd.lit (by decide)⟩
theorem bq.unit_pow {x : Rat} (h : x = 1 ∨ x = -1) (k : Nat) : bq 1 (x ^ k) := by
 rw [unit_par (unit_sq h) k]
 rcases Nat.mod_two_eq_zero_or_one k with e | e
 ·rw [e, Rat.pow_zero]; exact bq.unit (.inl rfl)
 ·rw [e, Rat.pow_one]; exact bq.unit h
theorem bq.zero_pow {k : Nat} : bq 1 ((0 : Rat) ^ k) := by
 cases k with
 | zero => rw [Rat.pow_zero]; exact bq.unit (.inl rfl)
 | succ k => rw [Rat.pow_succ, Rat.mul_zero]; exact ⟨bd.lit (by decide), bd.lit (by decide)⟩
def pwOk (x : Rat) (n : Int) : Prop := (-20 ≤ n ∧ n ≤ 20) ∨ (x.num.natAbs ≤ 1 ∧ x.den = 1)
theorem bq.pw_ok {x : Rat} {n : Nat} (X : bq 5 x) (h : pwOk x (n : Int)) : bq 101 (x ^ n) := by
 rcases h with ⟨_, h⟩ | ⟨h1, h2⟩
 ·exact (bq.pwn X n).mono (by omega)
 ·by_cases h0 : x = 0
  ·subst h0; exact bq.zero_pow.mono (by decide)
  ·exact (bq.unit_pow (unit_of h0 h1 h2) n).mono (by decide)
theorem cmpq_zero {x y : Rat} : cmpq x y = 0 ↔ x = y := by
 unfold cmpq
 constructor
 ·intro h
  split at h
  ·cases h
  ·split at h
   ·assumption
   ·cases h
 ·rintro rfl
  rw [if_neg Rat.lt_irrefl, if_pos rfl]
structure Rts (x : Rat) (r s : Int) : Prop where
 r0 : 0 ≤ r
 r1 : r * r ≤ x.num
 r2 : x.num < (r + 1) * (r + 1)
 s0 : 0 ≤ s
 s1 : s * s ≤ (x.den : Int)
 s2 : (x.den : Int) < (s + 1) * (s + 1)
theorem sq_of {r q : Int} (r0 : 0 ≤ r) (q0 : 0 ≤ q) (h1 : r * r ≤ q * q) (h2 : q * q < (r + 1) * (r + 1)) : r = q := by
 have a1 : ¬ q < r := fun h => by
  have := Int.mul_le_mul (show q + 1 ≤ r by omega) (show q + 1 ≤ r by omega) (by omega) (by omega)
  have e : (q + 1) * (q + 1) = q * q + q + q + 1 := by rw [Int.add_mul, Int.mul_add]; omega
  omega
 have a2 : ¬ r < q := fun h => by
  have := Int.mul_le_mul (show r + 1 ≤ q by omega) (show r + 1 ≤ q by omega) (by omega) (by omega)
  omega
 omega
theorem Rts.pos {x : Rat} {r s : Int} (h : Rts x r s) : 0 < s := by
 have := h.s0
 have := h.s2
 have := den_pos x
 apply Classical.byContradiction
 intro h2
 obtain rfl : s = 0 := by omega
 omega
theorem divInt_nonneg' {r s : Int} (hr : 0 ≤ r) (hs : 0 < s) : 0 ≤ (Rat.divInt r s).num := by
 rw [num_over (by omega), if_neg (by omega)]
 exact Int.tdiv_nonneg hr (by omega)
theorem Rts.eq {x : Rat} {r s : Int} (h : Rts x r s) (e : Rat.divInt r s * Rat.divInt r s = x) : (Rat.divInt r s).num = r ∧ ((Rat.divInt r s).den : Int) = s := by
 have e2 : (Rat.divInt r s) ^ 2 = x := by rw [Rat.pow_succ, Rat.pow_one]; exact e
 have n1 : x.num = (Rat.divInt r s).num * (Rat.divInt r s).num := by rw [← e2, Rat.num_pow, Int.pow_succ, Int.pow_succ, Int.pow_zero, Int.one_mul]
 have d1 : (x.den : Int) = ((Rat.divInt r s).den : Int) * ((Rat.divInt r s).den : Int) := by rw [← e2, Rat.den_pow, Int.natCast_pow, Int.pow_succ, Int.pow_succ, Int.pow_zero, Int.one_mul]
 have k0 := divInt_nonneg' h.r0 h.pos
 have h1 := h.r1
 have h2 := h.r2
 have h3 := h.s1
 have h4 := h.s2
 rw [n1] at h1 h2
 rw [d1] at h3 h4
 exact ⟨(sq_of h.r0 k0 h1 h2).symm, (sq_of h.s0 (by omega) h3 h4).symm⟩
theorem Rts.iff {x : Rat} {r s : Int} (h : Rts x r s) : Rat.divInt r s * Rat.divInt r s = x ↔ r * r = x.num ∧ s * s = (x.den : Int) := by
 constructor
 ·intro e
  obtain ⟨h1, h2⟩ := h.eq e
  have e2 : (Rat.divInt r s) ^ 2 = x := by rw [Rat.pow_succ, Rat.pow_one]; exact e
  have n1 : x.num = (Rat.divInt r s).num * (Rat.divInt r s).num := by rw [← e2, Rat.num_pow, Int.pow_succ, Int.pow_succ, Int.pow_zero, Int.one_mul]
  have d1 : (x.den : Int) = ((Rat.divInt r s).den : Int) * ((Rat.divInt r s).den : Int) := by rw [← e2, Rat.den_pow, Int.natCast_pow, Int.pow_succ, Int.pow_succ, Int.pow_zero, Int.one_mul]
  rw [h1] at n1
  rw [h2] at d1
  exact ⟨n1.symm, d1.symm⟩
 ·rintro ⟨h1, h2⟩
  rw [Rat.divInt_mul_divInt, h1, h2, Rat.num_divInt_den]
theorem Rts.cmp {x : Rat} {r s : Int} (h : Rts x r s) : cmpq (Rat.divInt r s * Rat.divInt r s) x = 0 ↔ (r * r = x.num ∧ s * s = (x.den : Int)) := by
 rw [← h.iff]
 exact cmpq_zero
theorem pow_ne {z : Int} (h : z ≠ 0) : ∀ k : Nat, z ^ k ≠ 0
 | 0 => by rw [Int.pow_zero]; decide
 | k + 1 => by rw [Int.pow_succ]; exact Int.mul_ne_zero (pow_ne h k) h
theorem and1_i64 (n : Int) : bits .and .i64 n 1 = n % 2 := by
 have h1 : (BitVec.ofInt 64 n).toNat = (n % 18446744073709551616).toNat := BitVec.toNat_ofInt ..
 show IntKind.i64.wrap ((BitVec.ofInt 64 n &&& BitVec.ofInt 64 1).toNat : Int) = _
 rw [BitVec.toNat_and, h1, show (BitVec.ofInt 64 1).toNat = 1 by decide, Nat.and_one_is_mod, IntKind.wrap_i64]
 omega
end Go.Proofs.YthpjmhhfcechmaaGreat.Sy
/- Power and Root of fractions, both sides, by rules. -/
namespace Go.Proofs.YthpjmhhfcechmaaGreat.Sy
open Go Go.RowKit Ma
theorem bd_rt {x r : Int} {n : Nat} (X : bd n x) (h0 : 0 ≤ r) (h1 : r * r ≤ x) : bd n r := by
 have c : r ≤ x := by
  by_cases e : r = 0
  ·rw [e] at h1 ⊢; omega
  ·have := Int.mul_le_mul_of_nonneg_right (show 1 ≤ r by omega) h0
   omega
 unfold bd at *
 omega
theorem zero_bq {x : Rat} (h : x = 0) : bq 1 x := by subst h; exact ⟨bd.lit (by decide), bd.lit (by decide)⟩
section
variable {x y : Operand} {dst : Option Tmp} {ty : TypeId} {pos : String} {after : Array Edge} {guard : Option (Nat × Bool)} {ρ : Operand → Value} {W : World} {a b : Int}
theorem r_and1q (h1 : ρ x = .int .i64 a) (h2 : ρ y = .int .i64 1) : (execOp ρ ⟨dst, .binOp .and 3 x y 3, ty, pos, after, guard⟩).run Tryz.prog W = .ok (.value (.int .i64 (a % 2))) W := by
 rw [← and1_i64 a]
 go_simp
theorem r_maxq {z : Int} (h1 : ρ x = .int .i64 a) (h2 : ρ y = .int .i64 b) (e : max a b = z) : (execOp ρ ⟨dst, .call ⟨.builtin .max, #[x, y], #[3, 3]⟩, ty, pos, after, guard⟩).run Tryz.prog W = .ok (.value (.int .i64 z)) W := by
 subst e
 go_simp
theorem r_negk {k : Int} (h1 : ρ x = .int .i64 (-k)) (hk : -9223372036854775808 ≤ k ∧ k < 9223372036854775808) : (execOp ρ ⟨dst, .unOp .neg 3 x, ty, pos, after, guard⟩).run Tryz.prog W = .ok (.value (.int .i64 k)) W := by
 go_simp
 exact (IntWalk.i64_in _ (by omega)).trans (by omega)
end

theorem ce_k_rpow : CE 57 := fun args W => by go_simp
set_option maxHeartbeats 3200000 in
set_option maxRecDepth 100000 in
theorem k_rpow {x : Rat} {n a m : Nat} (X : bq a x) (ha : a ≤ 1000) (hn : n ≤ 9223372036854775807) (Q : bq m (x ^ n)) (hm : m ≤ 2000) : CallOk 57 [KQ (x).num (((x).den : Int) - 1), KV (.int .i64 (n : Int))] (K2 (KQ (x ^ n).num (((x ^ n).den : Int) - 1)) (KV (.int .i64 0))) := by
 have P1 : bd m (x.num ^ n) := by have := Q.1; rwa [Rat.num_pow] at this
 have P2 : bd m ((x.den : Int) ^ n) := by have := Q.2; rwa [Rat.den_pow, Int.natCast_pow] at this
 refine CallOk.enter (l := [.kw (KQ (x).num (((x).den : Int) - 1)), .vl (.int .i64 (n : Int))]) 63 ce_k_rpow Tryz.func57 rfl Tryz.ntmps57 (by simp) ⟨(KQ.st _ _), rfl, (KV.st _), rfl, trivial⟩ fun w => ?_
 refine SC.seq (SC.region ?_)
 refine PW.box (x := .tmp 0) (r := .kw (KQ (x).num (((x).den : Int) - 1))) (BQ 38) rfl rfl rfl rfl rfl bQ rfl sh_Q ?_
 refine PW.alloc (BQ 38) rfl rfl rfl rfl rfl bQ ?_
 refine PW.assign rfl rfl rfl rfl rfl (PW.nil (SX.then (SC.seq ?_)))
 refine SC.fix (s := 2) rfl fun p2 => ?_
 refine SC.dx [.val 12 (.vl (.pointer (some ⟨p2, 0, none⟩))), .val 13 (.kw (KI ((x).num))), .val 14 (.kw (KQ (x).num (((x).den : Int) - 1))), .val 15 (.kw (KI ((x.den : Int)))), .new 6 (BI 31), .new 7 (BI 31), .put 6 (BI 31) (.kw (KI ((x).num))), .put 7 (BI 31) (.kw (KI ((x.den : Int))))] [([], [2]), ([0], [2]), ([], [2]), ([2], []), ([], []), ([], []), ([4, 1], []), ([5, 3], [])] rfl (by kernel_rfl) (by kernel_rfl) (by kernel_rfl) rfl ⟨?_, ?_, ?_, ?_, ?_, ?_, ?_, ?_, trivial⟩ ?_
 ·exact DX.fa ⟨p2, 0, none⟩ rfl rfl rfl rfl rfl faQ0
 ·exact DX.fl (s := 2) (r := .kw (KI ((x).num))) rfl rfl rfl rfl rfl rfl rfl (KI.st _) flQ0
 ·exact DX.loadp rfl rfl rfl rfl rfl rfl
 ·exact DX.call (r := .kw (KI ((x.den : Int)))) rfl rfl rfl rfl rfl rfl (KI.st _) rfl (k_rden X (by omega))
 ·exact DX.alloc (BI 31) rfl rfl rfl rfl bI rfl
 ·exact DX.alloc (BI 31) rfl rfl rfl rfl bI rfl
 ·exact DX.store (x := .tmp 13) (r := .kw (KI ((x).num))) rfl rfl rfl rfl rfl rfl sh_I
 ·exact DX.store (x := .tmp 15) (r := .kw (KI ((x.den : Int)))) rfl rfl rfl rfl rfl rfl sh_I
 refine SX.unfix (s := 2) rfl ?_
 refine SX.then (SC.seq (SC.seq (SC.region (PW.move rfl rfl rfl rfl rfl ?_))))
 refine PW.q2 (x := .tmp 16) (y := .const (.int .i64 0)) (.bool false) rfl rfl rfl rfl rfl (fun ρ W h1 h2 => by exact r_lt h1 h2 (decide_eq_false (by omega))) ?_
 refine PW.nil (SX.then (SC.cond (t := false) rfl (SC.skip (SX.then (SC.seq (SC.region ?_))))))
 refine PW.load rfl rfl rfl rfl rfl rfl (PW.move rfl rfl rfl rfl rfl ?_)
 refine PW.call (r := .kw (K2 (KI (((x).num) ^ n)) (KV (.int .i64 0)))) rfl rfl rfl rfl rfl rfl (K2.st (KI.st _) (KV.st _)) rfl (k_power_ok (n := n) ((X).1) (by omega) hn (by have := wid_bdp P1; omega)) ?_
 refine PW.move rfl rfl rfl rfl rfl ?_
 refine PW.ext (r := .kw (KI (((x).num) ^ n))) rfl rfl rfl rfl rfl ex20 (KI.st _) rfl ?_
 refine PW.ext (r := .vl (.int .i64 0)) rfl rfl rfl rfl rfl ex21v (KV.st _) rfl ?_
 refine PW.alloc (BI 31) rfl rfl rfl rfl rfl bI ?_
 refine PW.store (x := .tmp 45) (r := .kw (KI (((x).num) ^ n))) rfl rfl rfl rfl rfl rfl sh_I ?_
 refine PW.assign rfl rfl rfl rfl rfl (PW.nil (SX.then (SC.seq (SC.region ?_))))
 refine PW.load rfl rfl rfl rfl rfl rfl (PW.move rfl rfl rfl rfl rfl ?_)
 refine PW.call (r := .kw (K2 (KI (((x.den : Int)) ^ n)) (KV (.int .i64 0)))) rfl rfl rfl rfl rfl rfl (K2.st (KI.st _) (KV.st _)) rfl (k_power_ok (n := n) X.2 (by omega) hn (by have := wid_bdp P2; omega)) ?_
 refine PW.move rfl rfl rfl rfl rfl ?_
 refine PW.ext (r := .kw (KI (((x.den : Int)) ^ n))) rfl rfl rfl rfl rfl ex20 (KI.st _) rfl ?_
 refine PW.ext (r := .vl (.int .i64 0)) rfl rfl rfl rfl rfl ex21v (KV.st _) rfl ?_
 refine PW.alloc (BI 31) rfl rfl rfl rfl rfl bI ?_
 refine PW.store (x := .tmp 51) (r := .kw (KI (((x.den : Int)) ^ n))) rfl rfl rfl rfl rfl rfl sh_I ?_
 refine PW.assign rfl rfl rfl rfl rfl (PW.nil (SX.then (SC.seq (SC.seq (SC.region (PW.move rfl rfl rfl rfl rfl ?_))))))
 refine PW.q2 (x := .tmp 53) (y := .const (.int .i64 0)) (.bool false) rfl rfl rfl rfl rfl (fun ρ W h1 h2 => by go_simp) ?_
 refine PW.move rfl rfl rfl rfl rfl (PW.move rfl rfl rfl rfl rfl ?_)
 refine PW.q2 (x := .tmp 56) (y := .const (.int .i64 0)) (.bool false) rfl rfl rfl rfl rfl (fun ρ W h1 h2 => by go_simp) ?_
 refine PW.pick (t := false) rfl rfl rfl rfl rfl rfl ?_
 refine PW.nil (SX.then (SC.cond (t := false) rfl (SC.skip (SX.then (SC.seq (SC.region ?_))))))
 refine PW.load rfl rfl rfl rfl rfl rfl ?_
 refine PW.load rfl rfl rfl rfl rfl rfl ?_
 refine PW.call (r := .kw (KQ (Rat.divInt (((x).num) ^ n) (((x.den : Int)) ^ n)).num (((Rat.divInt (((x).num) ^ n) (((x.den : Int)) ^ n)).den : Int) - 1))) rfl rfl rfl rfl rfl rfl (KQ.st _ _) rfl (k_rmade P1 P2 (pow_ne (Int.ne_of_gt (den_pos x)) n) (by omega) (by omega)) ?_
 refine PW.store (x := .tmp 62) (r := .kw (KQ (Rat.divInt (((x).num) ^ n) (((x.den : Int)) ^ n)).num (((Rat.divInt (((x).num) ^ n) (((x.den : Int)) ^ n)).den : Int) - 1))) rfl rfl rfl rfl rfl rfl sh_Q ?_
 refine PW.assign rfl rfl rfl rfl rfl (PW.nil (SX.then (SC.ret ?_)))
 rw [pow_over x n]
 exact SX.done2 (s := 4) (t := 5) (r := .vl (.int .i64 0)) (.inl rfl) rfl rfl rfl rfl
set_option maxHeartbeats 3200000 in
set_option maxRecDepth 100000 in
theorem k_rpow0 {x : Rat} {n : Int} (h0 : x = 0) (hn : n < 0) : CallOk 57 [KQ (x).num (((x).den : Int) - 1), KV (.int .i64 (n))] (K2 (KQ 0 0) (KV (.int .i64 6))) := by
 refine CallOk.enter (l := [.kw (KQ (x).num (((x).den : Int) - 1)), .vl (.int .i64 (n))]) 63 ce_k_rpow Tryz.func57 rfl Tryz.ntmps57 (by simp) ⟨(KQ.st _ _), rfl, (KV.st _), rfl, trivial⟩ fun w => ?_
 refine SC.seq (SC.region ?_)
 refine PW.box (x := .tmp 0) (r := .kw (KQ (x).num (((x).den : Int) - 1))) (BQ 38) rfl rfl rfl rfl rfl bQ rfl sh_Q ?_
 refine PW.alloc (BQ 38) rfl rfl rfl rfl rfl bQ ?_
 refine PW.assign rfl rfl rfl rfl rfl (PW.nil (SX.then (SC.seq ?_)))
 refine SC.fix (s := 2) rfl fun p2 => ?_
 refine SC.dx [.val 12 (.vl (.pointer (some ⟨p2, 0, none⟩))), .val 13 (.kw (KI ((x).num))), .val 14 (.kw (KQ (x).num (((x).den : Int) - 1))), .val 15 (.kw (KI ((x.den : Int)))), .new 6 (BI 31), .new 7 (BI 31), .put 6 (BI 31) (.kw (KI ((x).num))), .put 7 (BI 31) (.kw (KI ((x.den : Int))))] [([], [2]), ([0], [2]), ([], [2]), ([2], []), ([], []), ([], []), ([4, 1], []), ([5, 3], [])] rfl (by kernel_rfl) (by kernel_rfl) (by kernel_rfl) rfl ⟨?_, ?_, ?_, ?_, ?_, ?_, ?_, ?_, trivial⟩ ?_
 ·exact DX.fa ⟨p2, 0, none⟩ rfl rfl rfl rfl rfl faQ0
 ·exact DX.fl (s := 2) (r := .kw (KI ((x).num))) rfl rfl rfl rfl rfl rfl rfl (KI.st _) flQ0
 ·exact DX.loadp rfl rfl rfl rfl rfl rfl
 ·exact DX.call (r := .kw (KI ((x.den : Int)))) rfl rfl rfl rfl rfl rfl (KI.st _) rfl (k_rden ((zero_bq h0)) (by omega))
 ·exact DX.alloc (BI 31) rfl rfl rfl rfl bI rfl
 ·exact DX.alloc (BI 31) rfl rfl rfl rfl bI rfl
 ·exact DX.store (x := .tmp 13) (r := .kw (KI ((x).num))) rfl rfl rfl rfl rfl rfl sh_I
 ·exact DX.store (x := .tmp 15) (r := .kw (KI ((x.den : Int)))) rfl rfl rfl rfl rfl rfl sh_I
 refine SX.unfix (s := 2) rfl ?_
 refine SX.then (SC.seq (SC.seq (SC.region (PW.move rfl rfl rfl rfl rfl ?_))))
 refine PW.q2 (x := .tmp 16) (y := .const (.int .i64 0)) (.bool true) rfl rfl rfl rfl rfl (fun ρ W h1 h2 => by exact r_lt h1 h2 (decide_eq_true (by omega))) ?_
 refine PW.nil (SX.then (SC.cond (t := true) rfl (SC.seq (SC.seq (SC.region ?_)))))
 refine PW.load rfl rfl rfl rfl rfl rfl ?_
 refine PW.call (r := .vl (.int .i64 (sgq x))) rfl rfl rfl rfl rfl rfl (KV.st _) rfl (k_rsign) ?_
 refine PW.q2 (x := .tmp 19) (y := .const (.int .i64 0)) (.bool true) rfl rfl rfl rfl rfl (fun ρ W h1 h2 => by exact r_eqT h1 h2 (sgq_eq0.2 h0)) ?_
 refine PW.nil (SX.then (SC.cond (t := true) rfl (SC.seq (SC.region ?_))))
 refine PW.val (r := .kw (KQ (0) (0))) rfl rfl rfl rfl (fun a W hf => ⟨_, r_bldQ0, zeroQ W, KQ.st _ _⟩) ?_
 refine PW.store (x := .tmp 21) (r := .kw (KQ (0) (0))) rfl rfl rfl rfl rfl rfl sh_Q ?_
 refine PW.assign rfl rfl rfl rfl rfl (PW.nil (SX.then (SC.ret (SX.thenR (SX.thenR ?_)))))
 exact SX.done2 (s := 4) (t := 5) (r := .vl (.int .i64 6)) (.inl rfl) rfl rfl rfl rfl
set_option maxHeartbeats 3200000 in
set_option maxRecDepth 100000 in
theorem k_rpown {x : Rat} {n : Int} {k a m : Nat} (X : bq a x) (ha : a ≤ 1000) (h0 : x ≠ 0) (hn0 : n < 0) (hn1 : -9223372036854775808 ≤ n) (hk : (k : Int) = -(max n (-262144 - n % 2))) (hor : cmpq (absq x) ((1 : Int) : Rat) = 0 ∨ -262144 ≤ n) (Q : bq m (x⁻¹ ^ k)) (P1 : bd m ((x.den : Int) ^ k)) (P2 : bd m (x.num ^ k)) (hm : m ≤ 2000) : CallOk 57 [KQ (x).num (((x).den : Int) - 1), KV (.int .i64 (n))] (K2 (KQ (x⁻¹ ^ k).num (((x⁻¹ ^ k).den : Int) - 1)) (KV (.int .i64 0))) := by
 have hn : k ≤ 9223372036854775807 := by omega
 refine CallOk.enter (l := [.kw (KQ (x).num (((x).den : Int) - 1)), .vl (.int .i64 (n))]) 63 ce_k_rpow Tryz.func57 rfl Tryz.ntmps57 (by simp) ⟨(KQ.st _ _), rfl, (KV.st _), rfl, trivial⟩ fun w => ?_
 refine SC.seq (SC.region ?_)
 refine PW.box (x := .tmp 0) (r := .kw (KQ (x).num (((x).den : Int) - 1))) (BQ 38) rfl rfl rfl rfl rfl bQ rfl sh_Q ?_
 refine PW.alloc (BQ 38) rfl rfl rfl rfl rfl bQ ?_
 refine PW.assign rfl rfl rfl rfl rfl (PW.nil (SX.then (SC.seq ?_)))
 refine SC.fix (s := 2) rfl fun p2 => ?_
 refine SC.dx [.val 12 (.vl (.pointer (some ⟨p2, 0, none⟩))), .val 13 (.kw (KI ((x).num))), .val 14 (.kw (KQ (x).num (((x).den : Int) - 1))), .val 15 (.kw (KI ((x.den : Int)))), .new 6 (BI 31), .new 7 (BI 31), .put 6 (BI 31) (.kw (KI ((x).num))), .put 7 (BI 31) (.kw (KI ((x.den : Int))))] [([], [2]), ([0], [2]), ([], [2]), ([2], []), ([], []), ([], []), ([4, 1], []), ([5, 3], [])] rfl (by kernel_rfl) (by kernel_rfl) (by kernel_rfl) rfl ⟨?_, ?_, ?_, ?_, ?_, ?_, ?_, ?_, trivial⟩ ?_
 ·exact DX.fa ⟨p2, 0, none⟩ rfl rfl rfl rfl rfl faQ0
 ·exact DX.fl (s := 2) (r := .kw (KI ((x).num))) rfl rfl rfl rfl rfl rfl rfl (KI.st _) flQ0
 ·exact DX.loadp rfl rfl rfl rfl rfl rfl
 ·exact DX.call (r := .kw (KI ((x.den : Int)))) rfl rfl rfl rfl rfl rfl (KI.st _) rfl (k_rden X (by omega))
 ·exact DX.alloc (BI 31) rfl rfl rfl rfl bI rfl
 ·exact DX.alloc (BI 31) rfl rfl rfl rfl bI rfl
 ·exact DX.store (x := .tmp 13) (r := .kw (KI ((x).num))) rfl rfl rfl rfl rfl rfl sh_I
 ·exact DX.store (x := .tmp 15) (r := .kw (KI ((x.den : Int)))) rfl rfl rfl rfl rfl rfl sh_I
 refine SX.unfix (s := 2) rfl ?_
 refine SX.then (SC.seq (SC.seq (SC.region (PW.move rfl rfl rfl rfl rfl ?_))))
 refine PW.q2 (x := .tmp 16) (y := .const (.int .i64 0)) (.bool true) rfl rfl rfl rfl rfl (fun ρ W h1 h2 => by exact r_lt h1 h2 (decide_eq_true (by omega))) ?_
 refine PW.nil (SX.then (SC.cond (t := true) rfl (SC.seq (SC.seq (SC.region ?_)))))
 refine PW.load rfl rfl rfl rfl rfl rfl ?_
 refine PW.call (r := .vl (.int .i64 (sgq x))) rfl rfl rfl rfl rfl rfl (KV.st _) rfl (k_rsign) ?_
 refine PW.q2 (x := .tmp 19) (y := .const (.int .i64 0)) (.bool false) rfl rfl rfl rfl rfl (fun ρ W h1 h2 => by exact r_eqF h1 h2 (fun h => h0 (sgq_eq0.1 h))) ?_
 refine PW.nil (SX.then (SC.cond (t := false) rfl (SC.skip (SX.then (SC.seq (SC.seq ?_))))))
 by_cases hc : cmpq (absq x) ((1 : Int) : Rat) = 0
 ·refine SC.region ?_
  refine PW.load rfl rfl rfl rfl rfl rfl ?_
  refine PW.call (r := .kw (KQ (absq x).num (((absq x).den : Int) - 1))) rfl rfl rfl rfl rfl rfl (KQ.st _ _) rfl (k_rabs) ?_
  refine PW.call (r := .kw (KI (1))) rfl rfl rfl rfl rfl rfl (KI.st _) rfl (k_one) ?_
  refine PW.call (r := .kw (KQ (((1 : Int) : Rat)).num (((((1 : Int) : Rat)).den : Int) - 1))) rfl rfl rfl rfl rfl rfl (KQ.st _ _) rfl (k_rof) ?_
  refine PW.call (r := .vl (.int .i64 (cmpq (absq x) (((1 : Int) : Rat))))) rfl rfl rfl rfl rfl rfl (KV.st _) rfl (k_rcmp X.abs (bq.int1 bd.one) (by omega) (by omega)) ?_
  refine PW.q2 (x := .tmp 26) (y := .const (.int .i64 0)) (.bool false) rfl rfl rfl rfl rfl (fun ρ W h1 h2 => by exact r_neF h1 h2 (hc)) ?_
  refine PW.move rfl rfl rfl rfl rfl ?_
  refine PW.skip rfl rfl rfl ?_
  refine PW.skip rfl rfl rfl ?_
  refine PW.pick (t := false) rfl rfl rfl rfl rfl rfl ?_
  refine PW.nil (SX.then (SC.cond (t := false) rfl (SC.skip (SX.then (SC.region ?_)))))
  refine PW.load rfl rfl rfl rfl rfl rfl ?_
  refine PW.load rfl rfl rfl rfl rfl rfl (PW.move rfl rfl rfl rfl rfl (PW.move rfl rfl rfl rfl rfl ?_))
  refine PW.q2 (x := .tmp 36) (y := .const (.int .i64 1)) (.int .i64 (n % 2)) rfl rfl rfl rfl rfl (fun ρ W h1 h2 => by exact r_and1q h1 h2) ?_
  refine PW.q2 (x := .const (.int .i64 (-262144))) (y := .tmp 37) (.int .i64 (-262144 - n % 2)) rfl rfl rfl rfl rfl (fun ρ W h1 h2 => by exact r_sub h1 h2 (rfl) (by omega)) ?_
  refine PW.qn [(.tmp 35, .int .i64 (n)), (.tmp 38, .int .i64 (-262144 - n % 2))] (.int .i64 (-(k : Int))) rfl rfl rfl ⟨rfl, rfl, trivial⟩ (fun ρ W h => by obtain ⟨h1, h2, _⟩ := h; exact r_maxq h1 h2 (by omega)) ?_
  refine PW.q1 (x := .tmp 39) (.int .i64 (k : Int)) rfl rfl rfl rfl (fun ρ W h1 => by exact r_negk h1 (by omega)) ?_
  refine PW.store (x := .tmp 33) (r := .kw (KI ((x.den : Int)))) rfl rfl rfl rfl rfl rfl sh_I ?_
  refine PW.store (x := .tmp 34) (r := .kw (KI ((x).num))) rfl rfl rfl rfl rfl rfl sh_I ?_
  refine PW.assign rfl rfl rfl rfl rfl (PW.nil (SX.then (SC.seq (SC.region ?_))))
  refine PW.load rfl rfl rfl rfl rfl rfl (PW.move rfl rfl rfl rfl rfl ?_)
  refine PW.call (r := .kw (K2 (KI (((x.den : Int)) ^ k)) (KV (.int .i64 0)))) rfl rfl rfl rfl rfl rfl (K2.st (KI.st _) (KV.st _)) rfl (k_power_ok (n := k) X.2 (by omega) hn (by have := wid_bdp P1; omega)) ?_
  refine PW.move rfl rfl rfl rfl rfl ?_
  refine PW.ext (r := .kw (KI (((x.den : Int)) ^ k))) rfl rfl rfl rfl rfl ex20 (KI.st _) rfl ?_
  refine PW.ext (r := .vl (.int .i64 0)) rfl rfl rfl rfl rfl ex21v (KV.st _) rfl ?_
  refine PW.alloc (BI 31) rfl rfl rfl rfl rfl bI ?_
  refine PW.store (x := .tmp 45) (r := .kw (KI (((x.den : Int)) ^ k))) rfl rfl rfl rfl rfl rfl sh_I ?_
  refine PW.assign rfl rfl rfl rfl rfl (PW.nil (SX.then (SC.seq (SC.region ?_))))
  refine PW.load rfl rfl rfl rfl rfl rfl (PW.move rfl rfl rfl rfl rfl ?_)
  refine PW.call (r := .kw (K2 (KI (((x).num) ^ k)) (KV (.int .i64 0)))) rfl rfl rfl rfl rfl rfl (K2.st (KI.st _) (KV.st _)) rfl (k_power_ok (n := k) ((X).1) (by omega) hn (by have := wid_bdp P2; omega)) ?_
  refine PW.move rfl rfl rfl rfl rfl ?_
  refine PW.ext (r := .kw (KI (((x).num) ^ k))) rfl rfl rfl rfl rfl ex20 (KI.st _) rfl ?_
  refine PW.ext (r := .vl (.int .i64 0)) rfl rfl rfl rfl rfl ex21v (KV.st _) rfl ?_
  refine PW.alloc (BI 31) rfl rfl rfl rfl rfl bI ?_
  refine PW.store (x := .tmp 51) (r := .kw (KI (((x).num) ^ k))) rfl rfl rfl rfl rfl rfl sh_I ?_
  refine PW.assign rfl rfl rfl rfl rfl (PW.nil (SX.then (SC.seq (SC.seq (SC.region (PW.move rfl rfl rfl rfl rfl ?_))))))
  refine PW.q2 (x := .tmp 53) (y := .const (.int .i64 0)) (.bool false) rfl rfl rfl rfl rfl (fun ρ W h1 h2 => by go_simp) ?_
  refine PW.move rfl rfl rfl rfl rfl (PW.move rfl rfl rfl rfl rfl ?_)
  refine PW.q2 (x := .tmp 56) (y := .const (.int .i64 0)) (.bool false) rfl rfl rfl rfl rfl (fun ρ W h1 h2 => by go_simp) ?_
  refine PW.pick (t := false) rfl rfl rfl rfl rfl rfl ?_
  refine PW.nil (SX.then (SC.cond (t := false) rfl (SC.skip (SX.then (SC.seq (SC.region ?_))))))
  refine PW.load rfl rfl rfl rfl rfl rfl ?_
  refine PW.load rfl rfl rfl rfl rfl rfl ?_
  refine PW.call (r := .kw (KQ (Rat.divInt (((x.den : Int)) ^ k) (((x).num) ^ k)).num (((Rat.divInt (((x.den : Int)) ^ k) (((x).num) ^ k)).den : Int) - 1))) rfl rfl rfl rfl rfl rfl (KQ.st _ _) rfl (k_rmade P1 P2 (pow_ne (fun e => h0 (Rat.num_eq_zero.1 e)) k) (by omega) (by omega)) ?_
  refine PW.store (x := .tmp 62) (r := .kw (KQ (Rat.divInt (((x.den : Int)) ^ k) (((x).num) ^ k)).num (((Rat.divInt (((x.den : Int)) ^ k) (((x).num) ^ k)).den : Int) - 1))) rfl rfl rfl rfl rfl rfl sh_Q ?_
  refine PW.assign rfl rfl rfl rfl rfl (PW.nil (SX.then (SC.ret ?_)))
  rw [inv_pow_over x k]
  exact SX.done2 (s := 4) (t := 5) (r := .vl (.int .i64 0)) (.inl rfl) rfl rfl rfl rfl
 ·refine SC.region ?_
  refine PW.load rfl rfl rfl rfl rfl rfl ?_
  refine PW.call (r := .kw (KQ (absq x).num (((absq x).den : Int) - 1))) rfl rfl rfl rfl rfl rfl (KQ.st _ _) rfl (k_rabs) ?_
  refine PW.call (r := .kw (KI (1))) rfl rfl rfl rfl rfl rfl (KI.st _) rfl (k_one) ?_
  refine PW.call (r := .kw (KQ (((1 : Int) : Rat)).num (((((1 : Int) : Rat)).den : Int) - 1))) rfl rfl rfl rfl rfl rfl (KQ.st _ _) rfl (k_rof) ?_
  refine PW.call (r := .vl (.int .i64 (cmpq (absq x) (((1 : Int) : Rat))))) rfl rfl rfl rfl rfl rfl (KV.st _) rfl (k_rcmp X.abs (bq.int1 bd.one) (by omega) (by omega)) ?_
  refine PW.q2 (x := .tmp 26) (y := .const (.int .i64 0)) (.bool true) rfl rfl rfl rfl rfl (fun ρ W h1 h2 => by exact r_neT h1 h2 (hc)) ?_
  refine PW.move rfl rfl rfl rfl rfl (PW.move rfl rfl rfl rfl rfl ?_)
  refine PW.q2 (x := .tmp 29) (y := .const (.int .i64 (-262144))) (.bool false) rfl rfl rfl rfl rfl (fun ρ W h1 h2 => by exact r_lt h1 h2 (decide_eq_false (by rcases hor with h | h; exact absurd h hc; omega))) ?_
  refine PW.pick (t := true) rfl rfl rfl rfl rfl rfl ?_
  refine PW.nil (SX.then (SC.cond (t := false) rfl (SC.skip (SX.then (SC.region ?_)))))
  refine PW.load rfl rfl rfl rfl rfl rfl ?_
  refine PW.load rfl rfl rfl rfl rfl rfl (PW.move rfl rfl rfl rfl rfl (PW.move rfl rfl rfl rfl rfl ?_))
  refine PW.q2 (x := .tmp 36) (y := .const (.int .i64 1)) (.int .i64 (n % 2)) rfl rfl rfl rfl rfl (fun ρ W h1 h2 => by exact r_and1q h1 h2) ?_
  refine PW.q2 (x := .const (.int .i64 (-262144))) (y := .tmp 37) (.int .i64 (-262144 - n % 2)) rfl rfl rfl rfl rfl (fun ρ W h1 h2 => by exact r_sub h1 h2 (rfl) (by omega)) ?_
  refine PW.qn [(.tmp 35, .int .i64 (n)), (.tmp 38, .int .i64 (-262144 - n % 2))] (.int .i64 (-(k : Int))) rfl rfl rfl ⟨rfl, rfl, trivial⟩ (fun ρ W h => by obtain ⟨h1, h2, _⟩ := h; exact r_maxq h1 h2 (by omega)) ?_
  refine PW.q1 (x := .tmp 39) (.int .i64 (k : Int)) rfl rfl rfl rfl (fun ρ W h1 => by exact r_negk h1 (by omega)) ?_
  refine PW.store (x := .tmp 33) (r := .kw (KI ((x.den : Int)))) rfl rfl rfl rfl rfl rfl sh_I ?_
  refine PW.store (x := .tmp 34) (r := .kw (KI ((x).num))) rfl rfl rfl rfl rfl rfl sh_I ?_
  refine PW.assign rfl rfl rfl rfl rfl (PW.nil (SX.then (SC.seq (SC.region ?_))))
  refine PW.load rfl rfl rfl rfl rfl rfl (PW.move rfl rfl rfl rfl rfl ?_)
  refine PW.call (r := .kw (K2 (KI (((x.den : Int)) ^ k)) (KV (.int .i64 0)))) rfl rfl rfl rfl rfl rfl (K2.st (KI.st _) (KV.st _)) rfl (k_power_ok (n := k) X.2 (by omega) hn (by have := wid_bdp P1; omega)) ?_
  refine PW.move rfl rfl rfl rfl rfl ?_
  refine PW.ext (r := .kw (KI (((x.den : Int)) ^ k))) rfl rfl rfl rfl rfl ex20 (KI.st _) rfl ?_
  refine PW.ext (r := .vl (.int .i64 0)) rfl rfl rfl rfl rfl ex21v (KV.st _) rfl ?_
  refine PW.alloc (BI 31) rfl rfl rfl rfl rfl bI ?_
  refine PW.store (x := .tmp 45) (r := .kw (KI (((x.den : Int)) ^ k))) rfl rfl rfl rfl rfl rfl sh_I ?_
  refine PW.assign rfl rfl rfl rfl rfl (PW.nil (SX.then (SC.seq (SC.region ?_))))
  refine PW.load rfl rfl rfl rfl rfl rfl (PW.move rfl rfl rfl rfl rfl ?_)
  refine PW.call (r := .kw (K2 (KI (((x).num) ^ k)) (KV (.int .i64 0)))) rfl rfl rfl rfl rfl rfl (K2.st (KI.st _) (KV.st _)) rfl (k_power_ok (n := k) ((X).1) (by omega) hn (by have := wid_bdp P2; omega)) ?_
  refine PW.move rfl rfl rfl rfl rfl ?_
  refine PW.ext (r := .kw (KI (((x).num) ^ k))) rfl rfl rfl rfl rfl ex20 (KI.st _) rfl ?_
  refine PW.ext (r := .vl (.int .i64 0)) rfl rfl rfl rfl rfl ex21v (KV.st _) rfl ?_
  refine PW.alloc (BI 31) rfl rfl rfl rfl rfl bI ?_
  refine PW.store (x := .tmp 51) (r := .kw (KI (((x).num) ^ k))) rfl rfl rfl rfl rfl rfl sh_I ?_
  refine PW.assign rfl rfl rfl rfl rfl (PW.nil (SX.then (SC.seq (SC.seq (SC.region (PW.move rfl rfl rfl rfl rfl ?_))))))
  refine PW.q2 (x := .tmp 53) (y := .const (.int .i64 0)) (.bool false) rfl rfl rfl rfl rfl (fun ρ W h1 h2 => by go_simp) ?_
  refine PW.move rfl rfl rfl rfl rfl (PW.move rfl rfl rfl rfl rfl ?_)
  refine PW.q2 (x := .tmp 56) (y := .const (.int .i64 0)) (.bool false) rfl rfl rfl rfl rfl (fun ρ W h1 h2 => by go_simp) ?_
  refine PW.pick (t := false) rfl rfl rfl rfl rfl rfl ?_
  refine PW.nil (SX.then (SC.cond (t := false) rfl (SC.skip (SX.then (SC.seq (SC.region ?_))))))
  refine PW.load rfl rfl rfl rfl rfl rfl ?_
  refine PW.load rfl rfl rfl rfl rfl rfl ?_
  refine PW.call (r := .kw (KQ (Rat.divInt (((x.den : Int)) ^ k) (((x).num) ^ k)).num (((Rat.divInt (((x.den : Int)) ^ k) (((x).num) ^ k)).den : Int) - 1))) rfl rfl rfl rfl rfl rfl (KQ.st _ _) rfl (k_rmade P1 P2 (pow_ne (fun e => h0 (Rat.num_eq_zero.1 e)) k) (by omega) (by omega)) ?_
  refine PW.store (x := .tmp 62) (r := .kw (KQ (Rat.divInt (((x.den : Int)) ^ k) (((x).num) ^ k)).num (((Rat.divInt (((x.den : Int)) ^ k) (((x).num) ^ k)).den : Int) - 1))) rfl rfl rfl rfl rfl rfl sh_Q ?_
  refine PW.assign rfl rfl rfl rfl rfl (PW.nil (SX.then (SC.ret ?_)))
  rw [inv_pow_over x k]
  exact SX.done2 (s := 4) (t := 5) (r := .vl (.int .i64 0)) (.inl rfl) rfl rfl rfl rfl
theorem ce_k_rroot : CE 56 := fun args W => by go_simp
set_option maxHeartbeats 3200000 in
set_option maxRecDepth 100000 in
theorem k_rroot {x : Rat} {a : Nat} {r s : Int} (X : bq a x) (ha : a ≤ 1000) (h : Rts x r s) (e : r * r = x.num ∧ s * s = (x.den : Int)) : CallOk 56 [KQ (x).num (((x).den : Int) - 1)] (K2 (KQ (Rat.divInt (r) (s)).num (((Rat.divInt (r) (s)).den : Int) - 1)) (KV (.int .i64 0))) := by
 have h0x : 0 ≤ x.num := Int.le_trans (Int.mul_nonneg h.r0 h.r0) h.r1
 refine CallOk.enter (l := [.kw (KQ (x).num (((x).den : Int) - 1))]) 36 ce_k_rroot Tryz.func56 rfl Tryz.ntmps56 (by simp) ⟨(KQ.st _ _), rfl, trivial⟩ fun w => ?_
 refine SC.seq (SC.region ?_)
 refine PW.box (x := .tmp 0) (r := .kw (KQ (x).num (((x).den : Int) - 1))) (BQ 38) rfl rfl rfl rfl rfl bQ rfl sh_Q ?_
 refine PW.alloc (BQ 38) rfl rfl rfl rfl rfl bQ ?_
 refine PW.assign rfl rfl rfl rfl rfl (PW.nil (SX.then (SC.seq (SC.seq (SC.region ?_)))))
 refine PW.load rfl rfl rfl rfl rfl rfl ?_
 refine PW.call (r := .vl (.int .i64 (sgq x))) rfl rfl rfl rfl rfl rfl (KV.st _) rfl (k_rsign) ?_
 refine PW.q2 (x := .tmp 10) (y := .const (.int .i64 0)) (.bool false) rfl rfl rfl rfl rfl (fun ρ W h1 h2 => by exact r_lt h1 h2 (decide_eq_false (fun k => by have := sgn_lt.1 k; omega))) ?_
 refine PW.nil (SX.then (SC.cond (t := false) rfl (SC.skip (SX.then (SC.seq (SC.region ?_))))))
 refine PW.fld (r := .kw (KI ((x).num))) rfl rfl rfl rfl rfl rfl rfl rfl rfl rfl rfl fldQ0 (KI.st _) ?_
 refine PW.call (r := .kw (K2 (KI (r)) (KV (.int .i64 0)))) rfl rfl rfl rfl rfl rfl (K2.st (KI.st _) (KV.st _)) rfl (k_root ((X).1) (by omega) h.r0 h.r1 h.r2) ?_
 refine PW.move rfl rfl rfl rfl rfl ?_
 refine PW.ext (r := .kw (KI (r))) rfl rfl rfl rfl rfl ex20 (KI.st _) rfl ?_
 refine PW.ext (r := .vl (.int .i64 0)) rfl rfl rfl rfl rfl ex21v (KV.st _) rfl ?_
 refine PW.alloc (BI 31) rfl rfl rfl rfl rfl bI ?_
 refine PW.store (x := .tmp 17) (r := .kw (KI (r))) rfl rfl rfl rfl rfl rfl sh_I ?_
 refine PW.assign rfl rfl rfl rfl rfl (PW.nil (SX.then (SC.seq (SC.region ?_))))
 refine PW.load rfl rfl rfl rfl rfl rfl ?_
 refine PW.call (r := .kw (KI ((x.den : Int)))) rfl rfl rfl rfl rfl rfl (KI.st _) rfl (k_rden X (by omega)) ?_
 refine PW.call (r := .kw (K2 (KI (s)) (KV (.int .i64 0)))) rfl rfl rfl rfl rfl rfl (K2.st (KI.st _) (KV.st _)) rfl (k_root X.2 (by omega) h.s0 h.s1 h.s2) ?_
 refine PW.move rfl rfl rfl rfl rfl ?_
 refine PW.ext (r := .kw (KI (s))) rfl rfl rfl rfl rfl ex20 (KI.st _) rfl ?_
 refine PW.ext (r := .vl (.int .i64 0)) rfl rfl rfl rfl rfl ex21v (KV.st _) rfl ?_
 refine PW.alloc (BI 31) rfl rfl rfl rfl rfl bI ?_
 refine PW.store (x := .tmp 23) (r := .kw (KI (s))) rfl rfl rfl rfl rfl rfl sh_I ?_
 refine PW.assign rfl rfl rfl rfl rfl (PW.nil (SX.then (SC.seq (SC.region ?_))))
 refine PW.load rfl rfl rfl rfl rfl rfl ?_
 refine PW.load rfl rfl rfl rfl rfl rfl ?_
 refine PW.call (r := .kw (KQ (Rat.divInt (r) (s)).num (((Rat.divInt (r) (s)).den : Int) - 1))) rfl rfl rfl rfl rfl rfl (KQ.st _ _) rfl (k_rmade ((bd_rt ((X).1) h.r0 h.r1)) ((bd_rt X.2 h.s0 h.s1)) (Int.ne_of_gt h.pos) (by omega) (by omega)) ?_
 refine PW.alloc (BQ 38) rfl rfl rfl rfl rfl bQ ?_
 refine PW.store (x := .tmp 27) (r := .kw (KQ (Rat.divInt (r) (s)).num (((Rat.divInt (r) (s)).den : Int) - 1))) rfl rfl rfl rfl rfl rfl sh_Q ?_
 refine PW.nil (SX.then (SC.seq (SC.seq ?_)))
 refine SC.dx [.val 28 (.kw (KQ (Rat.divInt (r) (s)).num (((Rat.divInt (r) (s)).den : Int) - 1))), .val 29 (.kw (KQ (Rat.divInt (r) (s)).num (((Rat.divInt (r) (s)).den : Int) - 1))), .val 30 (.kw (KQ ((Rat.divInt (r) (s)) * (Rat.divInt (r) (s))).num ((((Rat.divInt (r) (s)) * (Rat.divInt (r) (s))).den : Int) - 1))), .val 31 (.kw (KQ (x).num (((x).den : Int) - 1))), .val 32 (.vl (.int .i64 (cmpq ((Rat.divInt (r) (s)) * (Rat.divInt (r) (s))) x))), .val 33 (.vl (.bool false))] [([], [8]), ([], [8]), ([0, 1], []), ([], [1]), ([2, 3], []), ([4], [])] rfl (by kernel_rfl) (by kernel_rfl) (by kernel_rfl) rfl ⟨?_, ?_, ?_, ?_, ?_, ?_, trivial⟩ ?_
 ·exact DX.load rfl rfl rfl rfl rfl rfl
 ·exact DX.load rfl rfl rfl rfl rfl rfl
 ·exact DX.call (r := .kw (KQ ((Rat.divInt (r) (s)) * (Rat.divInt (r) (s))).num ((((Rat.divInt (r) (s)) * (Rat.divInt (r) (s))).den : Int) - 1))) rfl rfl rfl rfl rfl rfl (KQ.st _ _) rfl (k_rmul (bq.over ((bd_rt ((X).1) h.r0 h.r1)) ((bd_rt X.2 h.s0 h.s1)) (Int.ne_of_gt h.pos)) (bq.over ((bd_rt ((X).1) h.r0 h.r1)) ((bd_rt X.2 h.s0 h.s1)) (Int.ne_of_gt h.pos)) (by omega) (by omega))
 ·exact DX.load rfl rfl rfl rfl rfl rfl
 ·exact DX.call (r := .vl (.int .i64 (cmpq ((Rat.divInt (r) (s)) * (Rat.divInt (r) (s))) x))) rfl rfl rfl rfl rfl rfl (KV.st _) rfl (k_rcmp ((bq.over ((bd_rt ((X).1) h.r0 h.r1)) ((bd_rt X.2 h.s0 h.s1)) (Int.ne_of_gt h.pos)).mul (bq.over ((bd_rt ((X).1) h.r0 h.r1)) ((bd_rt X.2 h.s0 h.s1)) (Int.ne_of_gt h.pos))) X (by omega) (by omega))
 ·exact DX.q2 (x := .tmp 32) (y := .const (.int .i64 0)) (.bool false) rfl rfl rfl rfl rfl (fun ρ W h1 h2 => by exact r_neF h1 h2 (h.cmp.2 e))
 refine SX.then (SC.cond (t := false) rfl (SC.skip (SX.then (SC.seq (SC.region ?_)))))
 refine PW.load rfl rfl rfl rfl rfl rfl ?_
 refine PW.store (x := .tmp 35) (r := .kw (KQ (Rat.divInt (r) (s)).num (((Rat.divInt (r) (s)).den : Int) - 1))) rfl rfl rfl rfl rfl rfl sh_Q ?_
 refine PW.assign rfl rfl rfl rfl rfl (PW.nil (SX.then (SC.ret ?_)))
 exact SX.done2 (s := 2) (t := 3) (r := .vl (.int .i64 0)) (.inl rfl) rfl rfl rfl rfl
end Go.Proofs.YthpjmhhfcechmaaGreat.Sy
/- Div, Power, Root of fractions, both sides: one contract each, whatever comes in. -/
namespace Go.Proofs.YthpjmhhfcechmaaGreat.Sy
open Go Go.RowKit Ma
def epw (x : Rat) (n : Int) : Int := if x = 0 ∧ n < 0 then 6 else 0
theorem zero_zpow {n : Int} (hn : n < 0) : (0 : Rat) ^ n = 0 := by
 obtain ⟨j, rfl⟩ : ∃ j : Nat, n = -((j + 1 : Nat) : Int) := ⟨(-n - 1).toNat, by omega⟩
 rw [zpow_neg_nat, Rat.inv_zero, Rat.pow_succ, Rat.mul_zero]
theorem bq.pwt {x : Rat} {n : Int} (X : bq 5 x) (h : pwOk x n) : bq 101 (x ^ n) := by
 by_cases hn : 0 ≤ n
 ·obtain ⟨k, rfl⟩ := Int.eq_ofNat_of_zero_le hn
  exact bq.pw_ok X h
 ·by_cases h0 : x = 0
  ·subst h0
   rw [zero_zpow (by omega)]
   exact (zero_bq rfl).mono (by omega)
  ·obtain ⟨k, rfl⟩ : ∃ k : Nat, n = -(k : Int) := ⟨(-n).toNat, by omega⟩
   rw [zpow_neg_nat]
   rcases h with h | ⟨h1, h2⟩
   ·exact (bq.pwn (bq.inv X h0) k).mono (by omega)
   ·have u := unit_of h0 h1 h2
    rw [unit_inv u]
    exact (bq.unit_pow u k).mono (by omega)
theorem k_rpowt {x : Rat} {n : Int} (X : bq 5 x) (h : pwOk x n) (hn1 : -9223372036854775808 ≤ n) (hn2 : n ≤ 9223372036854775807) : CallOk 57 [KQ (x).num (((x).den : Int) - 1), KV (.int .i64 (n))] (K2 (KQ (x ^ n).num (((x ^ n).den : Int) - 1)) (KV (.int .i64 (epw x n)))) := by
 unfold epw
 by_cases hn : 0 ≤ n
 ·obtain ⟨k, rfl⟩ := Int.eq_ofNat_of_zero_le hn
  rw [if_neg (fun e => by omega)]
  have := k_rpow X (by omega) (n := k) (by omega) (bq.pw_ok X h) (by omega)
  exact this
 ·by_cases h0 : x = 0
  ·rw [if_pos ⟨h0, by omega⟩]
   have k := k_rpow0 h0 (n := n) (by omega)
   subst h0
   rw [zero_zpow (by omega)]
   exact k
  ·rw [if_neg (fun e => h0 e.1)]
   obtain ⟨k, hk⟩ : ∃ k : Nat, (k : Int) = -(max n (-262144 - n % 2)) := ⟨(-(max n (-262144 - n % 2))).toNat, by omega⟩
   rcases h with h | ⟨h1, h2⟩
   ·have e : n = -(k : Int) := by omega
    have r := k_rpown X (by omega) h0 (by omega) hn1 hk (.inr (by omega)) (bq.pwn (bq.inv X h0) k) (bd.pwn X.2 k) (bd.pwn X.1 k) (by omega)
    rw [← zpow_neg_nat, ← e] at r
    exact r
   ·have u := unit_of h0 h1 h2
    have q := bq.unit_pow u k
    have r := k_rpown (m := 1) X (by omega) h0 (by omega) hn1 hk (.inl (unit_abs u)) (by rw [unit_inv u]; exact q) (by have := q.2; rwa [Rat.den_pow, Int.natCast_pow] at this) (by have := q.1; rwa [Rat.num_pow] at this) (by omega)
    rw [← unit_zpow u (n := n) (by omega) (by omega)] at r
    exact r
end Go.Proofs.YthpjmhhfcechmaaGreat.Sy
/- Words for laws that use of and same. -/
namespace Go.Proofs.YthpjmhhfcechmaaGreat.Sy
open Go Go.RowKit Ma
theorem ofl_l {b c m L : Nat} {qs : List Qq} {zs : List Rat} {w : World} (hL : L = qs.length) (hn : Qs w b qs) (hz : Zqs w m qs zs) (hm : m ≤ 1000) (hl : qs.length ≤ 1000) : Calls Tryz.prog 31 #[.slice (some ⟨b, 0, none⟩) L c] w (Ret w (KS w.heap.size 38 4 zs.length (RsQ zs))) := by subst hL; exact ofl_c hn hz hm hl
theorem Zqs.nil (w : World) (m : Nat) : Zqs w m [] [] := ⟨rfl, fun i n A l c m D k d e => by simp at e⟩
theorem Zqs.cons {w : World} {m : Nat} {qs : List Qq} {zs : List Rat} {n1 n2 : Bool} {A1 A2 : Option Addr} {l1 c1 l2 c2 : Nat} {xs1 xs2 : List Int} {x y : Int} (h1 : In w A1 l1 c1 xs1) (h2 : In w A2 l2 c2 xs2) (hz1 : x = sg n1 (lv b32 xs1)) (hz2 : y = sg n2 (lv b32 xs2)) (X : bd m x) (Y : bd m y) (hl1 : l1 ≤ 1000) (hl2 : l2 ≤ 1000) (h : Zqs w m qs zs) : Zqs w m (((n1, A1, l1, c1), (n2, A2, l2, c2)) :: qs) (ofq x y :: zs) := by
 refine ⟨by simp [h.1], fun i n A l c n' D k d e => ?_⟩
 match i, e with
 | 0, e => simp at e; obtain ⟨⟨rfl, rfl, rfl, rfl⟩, rfl, rfl, rfl, rfl⟩ := e; exact ⟨xs1, xs2, x, y, h1, h2, hz1, hz2, X, Y, hl1, hl2, rfl⟩
 | i + 1, e => exact h.2 i n A l c n' D k d (by simpa using e)
theorem in_al {w W : World} {ob : Obj} {A : Option Addr} {l c : Nat} {xs : List Int} (h : In w A l c xs) (k : Below w.heap.size w W) : In (W.alloc ob) A l c xs := in_be h (k.alloc k.size _)
theorem root_sq {x : Rat} {a : Nat} (X : bq a x) (ha : a ≤ 400) : CallOk 56 [KQ (x * x).num (((x * x).den : Int) - 1)] (K2 (KQ (absq x).num (((absq x).den : Int) - 1)) (KV (.int .i64 0))) := by
 have e2 : x * x = x ^ 2 := by rw [Rat.pow_succ, Rat.pow_one]
 have n1 : (x * x).num = x.num * x.num := by rw [e2, Rat.num_pow, Int.pow_succ, Int.pow_succ, Int.pow_zero, Int.one_mul]
 have d1 : ((x * x).den : Int) = (x.den : Int) * (x.den : Int) := by rw [e2, Rat.den_pow, Int.natCast_pow, Int.pow_succ, Int.pow_succ, Int.pow_zero, Int.one_mul]
 have hd := den_pos x
 have lt : ∀ z : Int, 0 ≤ z → z * z < (z + 1) * (z + 1) := fun z hz => by rw [Int.add_mul, Int.mul_add]; omega
 have r : Rts (x * x) (x.num.natAbs : Int) (x.den : Int) := ⟨by omega, by rw [n1, Int.natAbs_mul_self']; exact Int.le_refl _, by have := lt (x.num.natAbs : Int) (by omega); rw [Int.natAbs_mul_self'] at this; rw [n1]; exact this, by omega, by rw [d1]; exact Int.le_refl _, by rw [d1]; exact lt _ (by omega)⟩
 have k := k_rroot (X.mul X) (by omega) r ⟨by rw [n1, Int.natAbs_mul_self'], d1.symm⟩
 have e : Rat.divInt (x.num.natAbs : Int) (x.den : Int) = absq x := by rw [← abs_num, ← abs_den]; exact Rat.num_divInt_den _
 rwa [e] at k
theorem k_rpowi {x : Rat} {n : Int} (X : bq 5 x) (h0 : x ≠ 0) (h : -20 ≤ n ∧ n ≤ 20) : CallOk 57 [KQ (x).num (((x).den : Int) - 1), KV (.int .i64 (n))] (K2 (KQ (x ^ n).num (((x ^ n).den : Int) - 1)) (KV (.int .i64 0))) := by
 have k := k_rpowt X (n := n) (.inl h) (by omega) (by omega)
 unfold epw at k
 rwa [if_neg (fun e => h0 e.1)] at k
section
variable {x y : Operand} {dst : Option Tmp} {ty : TypeId} {pos : String} {after : Array Edge} {guard : Option (Nat × Bool)} {ρ : Operand → Value} {W : World} {a : Int}
theorem r_tmod8 {b : Int} (h1 : ρ x = .int .i8 a) (h2 : ρ y = .int .i8 b) (hb : b ≠ 0) (hz : -128 ≤ a.tmod b ∧ a.tmod b ≤ 127) : (execOp ρ ⟨dst, .binOp .rem 91 x y 91, ty, pos, after, guard⟩).run Tryz.prog W = .ok (.value (.int .i8 (a.tmod b))) W := by
 have e : IntKind.i8.wrap (a.tmod b) = a.tmod b := IntWalk.i8_in _ hz
 go_simp
theorem r_i8 (h1 : ρ x = .int .i8 a) (h : -128 ≤ a ∧ a ≤ 127) : (execOp ρ ⟨dst, .convert 91 3 x, ty, pos, after, guard⟩).run Tryz.prog W = .ok (.value (.int .i64 a)) W := by
 have e : IntKind.i64.wrap a = a := IntWalk.i64_in _ (by omega)
 go_simp
end

theorem ce_k_sameT : CE 35 := fun args W => by go_simp
set_option maxHeartbeats 3200000 in
set_option maxRecDepth 100000 in
theorem k_sameT {x y : Rat} {a b : Nat} (X : bq a x) (Y : bq b y) (ha : a ≤ 50000) (hb : b ≤ 50000) (e : x = y) : CallOk 35 [KQ (x).num (((x).den : Int) - 1), KQ (y).num (((y).den : Int) - 1)] (KV (.bool true)) := by
 refine CallOk.enter (l := [.kw (KQ (x).num (((x).den : Int) - 1)), .kw (KQ (y).num (((y).den : Int) - 1))]) 9 ce_k_sameT Tryz.func35 rfl Tryz.ntmps35 (by simp) ⟨(KQ.st _ _), rfl, (KQ.st _ _), rfl, trivial⟩ fun w => ?_
 refine SC.seq (SC.region ?_)
 refine PW.box (x := .tmp 0) (r := .kw (KQ (x).num (((x).den : Int) - 1))) (BQ 38) rfl rfl rfl rfl rfl bQ rfl sh_Q ?_
 refine PW.box (x := .tmp 1) (r := .kw (KQ (y).num (((y).den : Int) - 1))) (BQ 38) rfl rfl rfl rfl rfl bQ rfl sh_Q ?_
 refine PW.assign rfl rfl rfl rfl rfl (PW.nil (SX.then (SC.seq (SC.region ?_))))
 refine PW.load rfl rfl rfl rfl rfl rfl ?_
 refine PW.load rfl rfl rfl rfl rfl rfl ?_
 refine PW.call (r := .vl (.int .i64 (cmpq x y))) rfl rfl rfl rfl rfl rfl (KV.st _) rfl (k_rcmp X Y (by omega) (by omega)) ?_
 refine PW.q2 (x := .tmp 7) (y := .const (.int .i64 0)) (.bool true) rfl rfl rfl rfl rfl (fun ρ W h1 h2 => by exact r_eqT h1 h2 (cmpq_zero.2 e)) ?_
 refine PW.assign rfl rfl rfl rfl rfl (PW.nil (SX.then (SC.ret ?_)))
 exact SX.done (s := 4) (r := .vl (.bool true)) rfl rfl rfl
end Go.Proofs.YthpjmhhfcechmaaGreat.Sy
/- RationalPowers: the walk, by rules. -/
namespace Go.Proofs.YthpjmhhfcechmaaGreat
open Go.RowKit Ma Sy
set_option maxHeartbeats 12800000 in
set_option maxRecDepth 100000 in
theorem rationalPowers_walk {n1 n2 : Bool} {A1 A2 : Option Addr} {l1 l2 c1 c2 : Nat} {xs1 xs2 : List Int} {m : Int} {n : Int} {w : World} (h1 : In w A1 l1 c1 xs1) (h2 : In w A2 l2 c2 xs2) (hv : (Lit.int .i8 m).wf = true) (hw : (Lit.int .i8 n).wf = true) :
  Calls Tryz.prog 9 #[.agg #[.bool n1, .slice A1 l1 c1, .bool n2, .slice A2 l2 c2], .int .i8 m, .int .i8 n] w (Ret w (KV (.bool true))) := by
 obtain ⟨x, hz1⟩ : ∃ z, z = sg n1 (lv b32 xs1) := ⟨_, rfl⟩
 obtain ⟨y, hz2⟩ : ∃ z, z = sg n2 (lv b32 xs2) := ⟨_, rfl⟩
 obtain ⟨i, hi⟩ : ∃ i, m.tmod 6 = i := ⟨_, rfl⟩
 obtain ⟨k, hk⟩ : ∃ k, n.tmod 6 = k := ⟨_, rfl⟩
 have hi1 := Int.tmod_lt_of_pos m (show (0 : Int) < 6 by decide)
 have hi2 := Int.lt_tmod_of_pos m (show (0 : Int) < 6 by decide)
 have hk1 := Int.tmod_lt_of_pos n (show (0 : Int) < 6 by decide)
 have hk2 := Int.lt_tmod_of_pos n (show (0 : Int) < 6 by decide)
 refine calls_sc (l := [.vl (.agg #[.bool n1, .slice A1 l1 c1, .bool n2, .slice A2 l2 c2]), .vl (.int .i8 m), .vl (.int .i8 n)]) (us := [.agg #[.bool n1, .slice A1 l1 c1, .bool n2, .slice A2 l2 c2], .int .i8 m, .int .i8 n]) 88 Tryz.func9 rfl Tryz.ntmps9 (by simp) ⟨rfl, rfl, rfl, rfl, rfl, rfl, trivial⟩ ?_
 refine SC.seq (SC.region ?_)
 refine PW.box (x := .tmp 0) (r := .vl (.agg #[.bool n1, .slice A1 l1 c1, .bool n2, .slice A2 l2 c2])) (BQ 26) rfl rfl rfl rfl rfl bQN rfl sh_VQ ?_
 refine PW.assign rfl rfl rfl rfl rfl (PW.nil (SX.then (SC.seq (SC.seq ?_))))
 by_cases hq : shQ 3 [((n1, A1, l1, c1), (n2, A2, l2, c2))] = true
 ·have hlehq : (l1 ≤ 3 ∧ l2 ≤ 3) := by simpa [shB, shQ] using hq
  have X : bd 3 x := hz1 ▸ bd_sg h1.2.2.2 (by have := h1.1; omega)
  have Y : bd 3 y := hz2 ▸ bd_sg h2.2.2.2 (by have := h2.1; omega)
  have hl1 : l1 ≤ 3 := by omega
  have hl2 : l2 ≤ 3 := by omega
  refine SC.region ?_
  refine PW.loadV rfl rfl rfl rfl rfl rfl ?_
  refine PW.short3 3 [((n1, A1, l1, c1), (n2, A2, l2, c2))] _ rfl rfl rfl (fun a W hf => r_bQ1 (hf.vl (s := 17) rfl)) (fun W => qs_lit1 W) (by simp; exact ⟨In.lim h1, In.lim h2⟩) rfl rfl hq rfl rfl rfl rfl rfl rfl ?_
  refine PW.q1 (x := .tmp 19) (.bool false) rfl rfl rfl rfl (fun ρ W h1 => by go_simp) ?_
  refine PW.nil (SX.then (SC.cond (t := false) rfl (SC.skip (SX.then (SC.seq (SC.region ?_))))))
  refine PW.loadV rfl rfl rfl rfl rfl rfl ?_
  refine PW.callS (n := ([ofq x y] : List Rat).length) (R := RsQ [ofq x y]) 88 _ ce_ofl rfl rfl rfl (fun a W hf => r_bQ1 (hf.vl (s := 22) rfl)) rfl rfl rfl rfl rfl rfl rfl rfl (fun a W hf => ofl_l (b := W.heap.size) (zs := [ofq x y]) (by rfl) (qs_lit1 W) (Zqs.cons (in_al h1 hf.be) (in_al h2 hf.be) hz1 hz2 X Y (by omega) (by omega) (Zqs.nil _ _)) (by decide) (by simp)) fun gq cq => ?_
  refine PW.q2 (x := .tmp 24) (y := .const (.int .i64 0)) (.pointer (some ⟨gq, 0 * 4, none⟩)) rfl rfl rfl rfl rfl (fun ρ W h1 h2 => r_idxq (i := 0) h1 h2 (by simp)) ?_
  refine PW.ldq (K := 88) (i := 0) (by simp) rfl rfl rfl rfl ?_
  refine PW.alloc (BQ 38) rfl rfl rfl rfl rfl bQ ?_
  refine PW.store (x := .tmp 26) (r := .kw (KQ (ofq x y).num (((ofq x y).den : Int) - 1))) rfl rfl rfl rfl rfl rfl sh_Q ?_
  refine PW.nil (SX.then (SC.seq (SC.region ?_)))
  refine PW.load rfl rfl rfl rfl rfl rfl ?_
  refine PW.load rfl rfl rfl rfl rfl rfl ?_
  refine PW.call (r := .kw (KQ ((ofq x y) * (ofq x y)).num ((((ofq x y) * (ofq x y)).den : Int) - 1))) rfl rfl rfl rfl rfl rfl (KQ.st _ _) rfl (k_rmul ((bq.of X Y)) ((bq.of X Y)) (by omega) (by omega)) ?_
  refine PW.call (r := .kw (K2 (KQ (absq (ofq x y)).num (((absq (ofq x y)).den : Int) - 1)) (KV (.int .i64 0)))) rfl rfl rfl rfl rfl rfl (K2.st (KQ.st _ _) (KV.st _)) rfl (root_sq (bq.of X Y) (by decide)) ?_
  refine PW.move rfl rfl rfl rfl rfl ?_
  refine PW.ext (r := .kw (KQ (absq (ofq x y)).num (((absq (ofq x y)).den : Int) - 1))) rfl rfl rfl rfl rfl ex20 (KQ.st _ _) rfl ?_
  refine PW.ext (r := .vl (.int .i64 0)) rfl rfl rfl rfl rfl ex21v (KV.st _) rfl ?_
  refine PW.alloc (BQ 38) rfl rfl rfl rfl rfl bQ ?_
  refine PW.store (x := .tmp 32) (r := .kw (KQ (absq (ofq x y)).num (((absq (ofq x y)).den : Int) - 1))) rfl rfl rfl rfl rfl rfl sh_Q ?_
  refine PW.assign rfl rfl rfl rfl rfl (PW.nil (SX.then (SC.seq (SC.seq ?_))))
  refine SC.dx [.val 34 (.vl (.int .i64 0)), .val 35 (.vl (.bool false)), .val 36 (.vl (.bool false)), .val 37 (.kw (KQ (absq (ofq x y)).num (((absq (ofq x y)).den : Int) - 1))), .val 38 (.kw (KQ (ofq x y).num (((ofq x y).den : Int) - 1))), .val 39 (.kw (KQ (absq (ofq x y)).num (((absq (ofq x y)).den : Int) - 1))), .val 40 (.vl (.bool true)), .val 41 (.vl (.bool false)), .val 42 (.vl (.bool false))] [([], [9]), ([0], []), ([1], []), ([2], [8]), ([2], [7]), ([4, 2], []), ([3, 5, 2], []), ([6, 2], []), ([2, 7], [])] rfl (by kernel_rfl) (by kernel_rfl) (by kernel_rfl) rfl ⟨?_, ?_, ?_, ?_, ?_, ?_, ?_, ?_, ?_, trivial⟩ ?_
  ·exact DX.move rfl rfl rfl rfl rfl rfl
  ·exact DX.q2 (x := .tmp 34) (y := .const (.int .i64 0)) (.bool false) rfl rfl rfl rfl rfl (fun ρ W h1 h2 => by go_simp)
  ·exact DX.move rfl rfl rfl rfl rfl rfl
  ·exact DX.load rfl rfl rfl rfl rfl rfl
  ·exact DX.load rfl rfl rfl rfl rfl rfl
  ·exact DX.call (r := .kw (KQ (absq (ofq x y)).num (((absq (ofq x y)).den : Int) - 1))) rfl rfl rfl rfl rfl rfl (KQ.st _ _) rfl (k_rabs)
  ·exact DX.call (r := .vl (.bool true)) rfl rfl rfl rfl rfl rfl (KV.st _) rfl (k_sameT ((bq.abs (bq.of X Y))) (((bq.of X Y)).abs) (by omega) (by omega) (rfl))
  ·exact DX.q1 (x := .tmp 40) (.bool false) rfl rfl rfl rfl (fun ρ W h1 => by go_simp)
  ·exact DX.pick (t := false) rfl rfl rfl rfl rfl rfl rfl
  refine SX.then (SC.cond (t := false) rfl (SC.skip (SX.then (SC.seq (SC.seq ?_)))))
  by_cases h0 : ofq x y ≠ 0
  ·have B5 : bq 5 (ofq x y) := (bq.of X Y).mono (by omega)
   refine SC.region ?_
   refine PW.load rfl rfl rfl rfl rfl rfl ?_
   refine PW.call (r := .vl (.int .i64 (sgq (ofq x y)))) rfl rfl rfl rfl rfl rfl (KV.st _) rfl (k_rsign) ?_
   refine PW.q2 (x := .tmp 44) (y := .const (.int .i64 0)) (.bool false) rfl rfl rfl rfl rfl (fun ρ W h1 h2 => by exact r_eqF h1 h2 (fun h => h0 (sgq_eq0.1 h))) ?_
   refine PW.nil (SX.then (SC.cond (t := false) rfl (SC.skip (SX.then (SC.seq (SC.region (PW.move rfl rfl rfl rfl rfl ?_)))))))
   refine PW.q2 (x := .tmp 47) (y := .const (.int .i8 6)) (.int .i8 (i)) rfl rfl rfl rfl rfl (fun ρ W h1 h2 => by rw [← hi]; exact r_tmod8 h1 h2 (by decide) (by omega)) ?_
   refine PW.q1 (x := .tmp 48) (.int .i64 (i)) rfl rfl rfl rfl (fun ρ W h1 => by exact r_i8 h1 (by omega)) ?_
   refine PW.move rfl rfl rfl rfl rfl ?_
   refine PW.q2 (x := .tmp 50) (y := .const (.int .i8 6)) (.int .i8 (k)) rfl rfl rfl rfl rfl (fun ρ W h1 h2 => by rw [← hk]; exact r_tmod8 h1 h2 (by decide) (by omega)) ?_
   refine PW.q1 (x := .tmp 51) (.int .i64 (k)) rfl rfl rfl rfl (fun ρ W h1 => by exact r_i8 h1 (by omega)) ?_
   refine PW.assign rfl rfl rfl rfl rfl (PW.assign rfl rfl rfl rfl rfl (PW.nil (SX.then (SC.seq (SC.region ?_)))))
   refine PW.load rfl rfl rfl rfl rfl rfl (PW.move rfl rfl rfl rfl rfl ?_)
   refine PW.call (r := .kw (K2 (KQ ((ofq x y) ^ i).num ((((ofq x y) ^ i).den : Int) - 1)) (KV (.int .i64 0)))) rfl rfl rfl rfl rfl rfl (K2.st (KQ.st _ _) (KV.st _)) rfl (k_rpowi B5 h0 (by omega)) ?_
   refine PW.move rfl rfl rfl rfl rfl ?_
   refine PW.ext (r := .kw (KQ ((ofq x y) ^ i).num ((((ofq x y) ^ i).den : Int) - 1))) rfl rfl rfl rfl rfl ex20 (KQ.st _ _) rfl ?_
   refine PW.ext (r := .vl (.int .i64 0)) rfl rfl rfl rfl rfl ex21v (KV.st _) rfl ?_
   refine PW.alloc (BQ 38) rfl rfl rfl rfl rfl bQ ?_
   refine PW.store (x := .tmp 57) (r := .kw (KQ ((ofq x y) ^ i).num ((((ofq x y) ^ i).den : Int) - 1))) rfl rfl rfl rfl rfl rfl sh_Q ?_
   refine PW.assign rfl rfl rfl rfl rfl (PW.nil (SX.then (SC.seq (SC.region ?_))))
   refine PW.load rfl rfl rfl rfl rfl rfl (PW.move rfl rfl rfl rfl rfl ?_)
   refine PW.call (r := .kw (K2 (KQ ((ofq x y) ^ k).num ((((ofq x y) ^ k).den : Int) - 1)) (KV (.int .i64 0)))) rfl rfl rfl rfl rfl rfl (K2.st (KQ.st _ _) (KV.st _)) rfl (k_rpowi B5 h0 (by omega)) ?_
   refine PW.move rfl rfl rfl rfl rfl ?_
   refine PW.ext (r := .kw (KQ ((ofq x y) ^ k).num ((((ofq x y) ^ k).den : Int) - 1))) rfl rfl rfl rfl rfl ex20 (KQ.st _ _) rfl ?_
   refine PW.ext (r := .vl (.int .i64 0)) rfl rfl rfl rfl rfl ex21v (KV.st _) rfl ?_
   refine PW.alloc (BQ 38) rfl rfl rfl rfl rfl bQ ?_
   refine PW.store (x := .tmp 63) (r := .kw (KQ ((ofq x y) ^ k).num ((((ofq x y) ^ k).den : Int) - 1))) rfl rfl rfl rfl rfl rfl sh_Q ?_
   refine PW.assign rfl rfl rfl rfl rfl (PW.nil (SX.then (SC.seq (SC.region ?_))))
   refine PW.load rfl rfl rfl rfl rfl rfl (PW.move rfl rfl rfl rfl rfl (PW.move rfl rfl rfl rfl rfl ?_))
   refine PW.q2 (x := .tmp 67) (y := .tmp 68) (.int .i64 (i + k)) rfl rfl rfl rfl rfl (fun ρ W h1 h2 => by exact r_add h1 h2 (rfl) (by omega)) ?_
   refine PW.call (r := .kw (K2 (KQ ((ofq x y) ^ (i + k)).num ((((ofq x y) ^ (i + k)).den : Int) - 1)) (KV (.int .i64 0)))) rfl rfl rfl rfl rfl rfl (K2.st (KQ.st _ _) (KV.st _)) rfl (k_rpowi B5 h0 (by omega)) ?_
   refine PW.move rfl rfl rfl rfl rfl ?_
   refine PW.ext (r := .kw (KQ ((ofq x y) ^ (i + k)).num ((((ofq x y) ^ (i + k)).den : Int) - 1))) rfl rfl rfl rfl rfl ex20 (KQ.st _ _) rfl ?_
   refine PW.ext (r := .vl (.int .i64 0)) rfl rfl rfl rfl rfl ex21v (KV.st _) rfl ?_
   refine PW.alloc (BQ 38) rfl rfl rfl rfl rfl bQ ?_
   refine PW.store (x := .tmp 71) (r := .kw (KQ ((ofq x y) ^ (i + k)).num ((((ofq x y) ^ (i + k)).den : Int) - 1))) rfl rfl rfl rfl rfl rfl sh_Q ?_
   refine PW.assign rfl rfl rfl rfl rfl (PW.nil (SX.then (SC.seq ?_)))
   refine SC.dx [.val 73 (.vl (.int .i64 0)), .val 74 (.vl (.int .i64 0)), .val 75 (.vl (.int .i64 0)), .val 76 (.vl (.int .i64 (0))), .val 77 (.vl (.bool true)), .val 78 (.vl (.bool true)), .val 79 (.kw (KQ ((ofq x y) ^ i).num ((((ofq x y) ^ i).den : Int) - 1))), .val 80 (.kw (KQ ((ofq x y) ^ k).num ((((ofq x y) ^ k).den : Int) - 1))), .val 81 (.kw (KQ (((ofq x y) ^ i) * ((ofq x y) ^ k)).num (((((ofq x y) ^ i) * ((ofq x y) ^ k)).den : Int) - 1))), .val 82 (.kw (KQ ((ofq x y) ^ (i + k)).num ((((ofq x y) ^ (i + k)).den : Int) - 1))), .val 83 (.vl (.bool true)), .val 84 (.vl (.bool true)), .val 85 (.vl (.bool true)), .val 86 (.vl (.bool true)), .val 87 (.vl (.bool true)), .val 6 (.vl (.bool true))] [([], [9]), ([], [14]), ([], [16]), ([0, 1, 2], []), ([3], []), ([4], []), ([5], [12]), ([5], [13]), ([6, 7, 5], []), ([5], [15]), ([8, 9, 5], []), ([5, 10], []), ([11], []), ([12], []), ([12, 13], []), ([14], [])] rfl (by kernel_rfl) (by kernel_rfl) (by kernel_rfl) rfl ⟨?_, ?_, ?_, ?_, ?_, ?_, ?_, ?_, ?_, ?_, ?_, ?_, ?_, ?_, ?_, ?_, trivial⟩ ?_
   ·exact DX.move rfl rfl rfl rfl rfl rfl
   ·exact DX.move rfl rfl rfl rfl rfl rfl
   ·exact DX.move rfl rfl rfl rfl rfl rfl
   ·exact DX.qn [(.tmp 73, .int .i64 0), (.tmp 74, .int .i64 0), (.tmp 75, .int .i64 0)] (.int .i64 (0)) rfl rfl rfl ⟨rfl, rfl, rfl, trivial⟩ (fun ρ W h => by obtain ⟨h1, h2, h3, _⟩ := h; go_simp)
   ·exact DX.q2 (x := .tmp 76) (y := .const (.int .i64 0)) (.bool true) rfl rfl rfl rfl rfl (fun ρ W h1 h2 => by go_simp)
   ·exact DX.move rfl rfl rfl rfl rfl rfl
   ·exact DX.load rfl rfl rfl rfl rfl rfl
   ·exact DX.load rfl rfl rfl rfl rfl rfl
   ·exact DX.call (r := .kw (KQ (((ofq x y) ^ i) * ((ofq x y) ^ k)).num (((((ofq x y) ^ i) * ((ofq x y) ^ k)).den : Int) - 1))) rfl rfl rfl rfl rfl rfl (KQ.st _ _) rfl (k_rmul ((bq.pwt B5 (.inl (by omega)))) ((bq.pwt B5 (.inl (by omega)))) (by omega) (by omega))
   ·exact DX.load rfl rfl rfl rfl rfl rfl
   ·exact DX.call (r := .vl (.bool true)) rfl rfl rfl rfl rfl rfl (KV.st _) rfl (k_sameT (((bq.pwt B5 (.inl (by omega)))).mul ((bq.pwt B5 (.inl (by omega))))) ((bq.pwt B5 (.inl (by omega)))) (by omega) (by omega) (Rat.zpow_add h0 i k).symm)
   ·exact DX.pick (t := true) rfl rfl rfl rfl rfl rfl rfl
   ·exact DX.move rfl rfl rfl rfl rfl rfl
   ·exact DX.call (r := .vl (.bool true)) rfl rfl rfl rfl rfl rfl (KV.st _) rfl (k_awake3)
   ·exact DX.pick (t := true) rfl rfl rfl rfl rfl rfl rfl
   ·exact DX.assign rfl rfl rfl rfl rfl rfl
   refine SX.then (SC.ret ?_)
   exact SX.done (r := .vl (.bool true)) rfl rfl rfl
  ·refine SC.region ?_
   refine PW.load rfl rfl rfl rfl rfl rfl ?_
   refine PW.call (r := .vl (.int .i64 (sgq (ofq x y)))) rfl rfl rfl rfl rfl rfl (KV.st _) rfl (k_rsign) ?_
   refine PW.q2 (x := .tmp 44) (y := .const (.int .i64 0)) (.bool true) rfl rfl rfl rfl rfl (fun ρ W h1 h2 => by exact r_eqT h1 h2 (sgq_eq0.2 (Classical.not_not.1 h0))) ?_
   refine PW.nil (SX.then (SC.cond (t := true) rfl (SC.seq (SC.region ?_))))
   refine PW.call (r := .vl (.bool true)) rfl rfl rfl rfl rfl rfl (KV.st _) rfl (k_awake3) ?_
   refine PW.assign rfl rfl rfl rfl rfl (PW.nil (SX.then (SC.ret (SX.thenR ?_))))
   exact SX.done (r := .vl (.bool true)) rfl rfl rfl
 ·have hq : shQ 3 [((n1, A1, l1, c1), (n2, A2, l2, c2))] = false := by simpa using hq
  refine SC.region ?_
  refine PW.loadV rfl rfl rfl rfl rfl rfl ?_
  refine PW.short3 3 [((n1, A1, l1, c1), (n2, A2, l2, c2))] _ rfl rfl rfl (fun a W hf => r_bQ1 (hf.vl (s := 17) rfl)) (fun W => qs_lit1 W) (by simp; exact ⟨In.lim h1, In.lim h2⟩) rfl rfl hq rfl rfl rfl rfl rfl rfl ?_
  refine PW.q1 (x := .tmp 19) (.bool true) rfl rfl rfl rfl (fun ρ W h1 => by go_simp) ?_
  refine PW.nil (SX.then (SC.cond (t := true) rfl (SC.seq (SC.region ?_))))
  refine PW.call (r := .vl (.bool true)) rfl rfl rfl rfl rfl rfl (KV.st _) rfl (k_awake3) ?_
  refine PW.assign rfl rfl rfl rfl rfl (PW.nil (SX.then (SC.ret (SX.thenR ?_))))
  exact SX.done (r := .vl (.bool true)) rfl rfl rfl
end Go.Proofs.YthpjmhhfcechmaaGreat
/- How plain data that came in read. -/
namespace Go.Proofs.YthpjmhhfcechmaaGreat
open Go.RowKit Ma
theorem In.nil (W : World) : In W none 0 0 [] := ⟨rfl, Nat.le_refl _, Rd.nil _ _ _, dg_nil _⟩
theorem In.of {W : World} {x : Addr} {l c : Nat} {zs : List Int} (hl : l ≤ c) (hm : c ≤ maxLen) (hz : zs.length = c) (hcell : ∀ i, i < zs.length → W.cell? (x.add i) = some (.int .u32 (zs.getD i 0))) (hw : ∀ n ∈ zs, (Lit.int .u32 n).wf = true) : In W (some x) l c (zs.take l) := by
 have h1 : (zs.take l).length = l := by rw [List.length_take]; omega
 refine ⟨h1.symm, hl, ⟨by rw [h1]; unfold maxLen at hm; omega, fun i hi => ⟨x, rfl, ?_⟩⟩, fun n hn => ?_⟩
 ·rw [h1] at hi
  rw [hcell i (by omega)]
  simp only [at0, List.getD_eq_getElem?_getD, List.getElem?_take, hi, if_true]
 ·have h2 := hw n (List.mem_of_mem_take hn)
  simp only [Lit.wf, Bool.and_eq_true, decide_eq_true_eq] at h2
  have hm : IntKind.u32.max = 4294967295 := by simp [IntKind.max, IntKind.bits, IntKind.signed]
  have hn : IntKind.u32.min = 0 := by simp [IntKind.min, IntKind.signed]
  rw [hm, hn] at h2
  rw [b32_eq]
  omega
end Go.Proofs.YthpjmhhfcechmaaGreat
/- A fraction as plain data that came in, opened: two signs, two slices. -/
namespace Go.Proofs.YthpjmhhfcechmaaGreat
open Go.ChangeShapes Go.WideShapes Go.ChangeAt Go.RowKit Go.Joins
set_option maxHeartbeats 1600000 in
set_option maxRecDepth 100000 in
theorem open_Q {H : Type} {enc : TypeId × Value → H} {w : World} {base : Nat} {spare : Nat → Bool} {held : Bool} {r : Reach} {b0 : Nat} {v : Value} {d : DataW H} {p : List MemPlace} (hv : Value.okWide Tryz.prog w r b0 26 v) (h : DataW.Trod enc Tryz.prog w base spare held 26 v d p) :
  ∃ (q0 q1 q2 q3 : Value) (y0 y1 y2 y3 : DataW H × List MemPlace) (n m : Nat), v = .agg #[q0, q1, q2, q3] ∧ DataW.trod enc Tryz.prog w base spare held n 4 [q0] = some y0 ∧ DataW.trod enc Tryz.prog w base spare held n 22 [q1] = some y1 ∧ DataW.trod enc Tryz.prog w base spare held m 4 [q2] = some y2 ∧ DataW.trod enc Tryz.prog w base spare held m 22 [q3] = some y3 := by
 obtain ⟨cs, rfl, hsz⟩ := okWide_struct Tryz.underlying26 hv
 have k4 : Tryz.prog.cellsOf 26 = 4 := by kernel_rfl
 have k2 : Tryz.prog.cellsOf 24 = 2 := by kernel_rfl
 have kb : Tryz.prog.cellsOf 4 = 1 := by kernel_rfl
 have ks : Tryz.prog.cellsOf 22 = 1 := by kernel_rfl
 obtain ⟨q0, q1, q2, q3, rfl⟩ := array4 (hsz.trans k4)
 obtain ⟨fuel, hf⟩ := h
 obtain ⟨y0, y1, n, hx, _, h0, h1⟩ := trod_struct2 Tryz.underlying26 hf
 have g0 : DataW.trod enc Tryz.prog w base spare held n 24 [q0, q1] = some y0 := by simpa [Value.cells, k2] using h0
 have g1 : DataW.trod enc Tryz.prog w base spare held n 24 [q2, q3] = some y1 := by simpa [Value.cells, k2] using h1
 obtain ⟨a0, a1, i, _, _, e0, e1⟩ := trod_struct2 Tryz.underlying24 g0
 obtain ⟨b0, b1, j, _, _, f0, f1⟩ := trod_struct2 Tryz.underlying24 g1
 exact ⟨q0, q1, q2, q3, a0, a1, b0, b1, i, j, rfl, by simpa [kb] using e0, by simpa [ks] using e1, by simpa [kb] using f0, by simpa [ks] using f1⟩
end Go.Proofs.YthpjmhhfcechmaaGreat
