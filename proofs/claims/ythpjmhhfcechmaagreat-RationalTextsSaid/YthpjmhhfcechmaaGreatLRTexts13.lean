/- Parts Rj, Rx, Rp, Cq, Ry, Rtx, D2, D3, in one file. -/
import Derived.RowKit
import Derived.WalkKit
import Derived.ProofKit
import Derived.OpenShut
import Derived.ShutString
import Derived.ChangeOld
import Derived.Lib.SmallJoins
import Derived.Test.YthpjmhhfcechmaaGreatLRTexts11
import Derived.Test.YthpjmhhfcechmaaGreatLRTexts12
import Derived.Test.YthpjmhhfcechmaaGreatLRTexts3
import Derived.Test.YthpjmhhfcechmaaGreatLRTexts6
import Derived.Test.YthpjmhhfcechmaaGreatLRTexts8
/- The reference's fractions, by rules. -/
set_option linter.unusedVariables false
set_option linter.unusedSimpArgs false
namespace Go.Proofs.YthpjmhhfcechmaaGreat.Sy
open Go Go.RowKit Ma
theorem cmp_den1 {x : Rat} : cmp (x.den : Int) 1 = 0 ↔ x.den = 1 := by unfold cmp; have := den_pos x; split <;> (try split) <;> omega
theorem k_jone : CallOk 81 [] (KJ 1) := by
 refine CallOk.enter (l := []) 2 (fun args W => by go_simp) Tryz.func81 rfl Tryz.ntmps81 (by simp) trivial fun w => ?_
 refine SC.seq ?_
 refine SC.region ?_
 refine PW.alloc (BI 34) rfl rfl rfl rfl rfl bJ ?_
 refine PW.nil ?_
 refine SX.then ?_
 refine SC.seq ?_
 refine SC.region ?_
 refine PW.call (r := .kw (KJ (1))) rfl rfl rfl rfl rfl rfl (KJ.st _) rfl (k_jnew (by decide)) ?_
 refine PW.store (x := .tmp 1) (r := .kw (KJ (1))) rfl rfl rfl rfl rfl rfl sh_J ?_
 refine PW.nil ?_
 refine SX.then ?_
 refine SC.ret ?_
 exact SX.doneC (s := 0) (.inl rfl) rfl rfl rfl
theorem ce_k_jrof : CE 20 := fun args W => by go_simp
set_option maxHeartbeats 3200000 in
set_option maxRecDepth 100000 in
theorem k_jrof {n : Int} : CallOk 20 [KJ (n)] (KR3 (((n : Int) : Rat)).num ((((n : Int) : Rat)).den : Int)) := by
 refine CallOk.enter (l := [.kw (KJ (n))]) 6 ce_k_jrof Tryz.func20 rfl Tryz.ntmps20 (by simp) ⟨(KJ.st _), rfl, trivial⟩ fun w => ?_
 refine SC.seq ?_
 refine SC.region ?_
 refine PW.box (x := .tmp 0) (r := .kw (KJ (n))) (BI 34) rfl rfl rfl rfl rfl bJ rfl sh_J ?_
 refine PW.alloc (BQ 43) rfl rfl rfl rfl rfl bQJ ?_
 refine PW.nil ?_
 refine SX.then ?_
 refine SC.seq ?_
 refine SC.dx [.val 3 (.kw (KJ (n))), .val 4 (.kw (KJ (1))), .val 5 (.kw (KR3 (n) (1))), .put 2 (BQ 43) (.kw (KR3 (n) (1)))] [([], [1]), ([], []), ([0, 1], []), ([2], [2])] rfl (by kernel_rfl) (by kernel_rfl) (by kernel_rfl) rfl ⟨?_, ?_, ?_, ?_, trivial⟩ ?_
 ·exact DX.load rfl rfl rfl rfl rfl rfl
 ·exact DX.call (r := .kw (KJ (1))) rfl rfl rfl rfl rfl rfl (KJ.st _) rfl (k_jone)
 ·exact DX.bldR (x := .tmp 3) (y := .tmp 4) (n := n) (e := 1) rfl rfl rfl rfl rfl (fun ρ W m m2 A A2 l c l2 c2 h1 h2 => r_bldR h1 h2)
 ·exact DX.store (x := .tmp 5) (r := .kw (KR3 (n) (1))) rfl rfl rfl rfl rfl rfl sh_R3
 refine SX.then ?_
 refine SC.ret ?_
 rw [Rat.num_intCast, Rat.den_intCast]
 exact SX.doneC (s := 2) (.inl rfl) rfl rfl rfl
theorem ce_k_jrint : CE 77 := fun args W => by go_simp
set_option maxHeartbeats 3200000 in
set_option maxRecDepth 100000 in
theorem k_jrint {n : Int} (h : -4294967296 < n ∧ n < 4294967296) : CallOk 77 [KV (.int .i64 (n))] (KR3 (((n : Int) : Rat)).num ((((n : Int) : Rat)).den : Int)) := by
 refine CallOk.enter (l := [.vl (.int .i64 (n))]) 6 ce_k_jrint Tryz.func77 rfl Tryz.ntmps77 (by simp) ⟨(KV.st _), rfl, trivial⟩ fun w => ?_
 refine SC.seq ?_
 refine SC.region ?_
 refine PW.alloc (BQ 43) rfl rfl rfl rfl rfl bQJ ?_
 refine PW.nil ?_
 refine SX.then ?_
 refine SC.seq ?_
 refine SC.region ?_
 refine PW.move rfl rfl rfl rfl rfl ?_
 refine PW.call (r := .kw (KJ (n))) rfl rfl rfl rfl rfl rfl (KJ.st _) rfl (k_jnew (by omega)) ?_
 refine PW.call (r := .kw (KR3 (((n : Int) : Rat)).num ((((n : Int) : Rat)).den : Int))) rfl rfl rfl rfl rfl rfl (KR3.st _ _) rfl (k_jrof) ?_
 refine PW.store (x := .tmp 5) (r := .kw (KR3 (((n : Int) : Rat)).num ((((n : Int) : Rat)).den : Int))) rfl rfl rfl rfl rfl rfl sh_R3 ?_
 refine PW.nil ?_
 refine SX.then ?_
 refine SC.ret ?_
 exact SX.doneC (s := 2) (.inl rfl) rfl rfl rfl
theorem ce_k_jrnew : CE 16 := fun args W => by go_simp
set_option maxHeartbeats 3200000 in
set_option maxRecDepth 100000 in
theorem k_jrnew {n d : Int} {a b : Nat} (N : bd a n) (D : bd b d) (h0 : d ≠ 0) (ha : a ≤ 150000) (hb : b ≤ 150000) : CallOk 16 [KJ (n), KJ (d)] (K2 (KR3 (Rat.divInt (n) (d)).num ((Rat.divInt (n) (d)).den : Int)) (KV (.int .i64 0))) := by
 refine CallOk.enter (l := [.kw (KJ (n)), .kw (KJ (d))]) 38 ce_k_jrnew Tryz.func16 rfl Tryz.ntmps16 (by simp) ⟨(KJ.st _), rfl, (KJ.st _), rfl, trivial⟩ fun w => ?_
 refine SC.seq ?_
 refine SC.region ?_
 refine PW.box (x := .tmp 0) (r := .kw (KJ (n))) (BI 34) rfl rfl rfl rfl rfl bJ rfl sh_J ?_
 refine PW.box (x := .tmp 1) (r := .kw (KJ (d))) (BI 34) rfl rfl rfl rfl rfl bJ rfl sh_J ?_
 refine PW.alloc (BQ 43) rfl rfl rfl rfl rfl bQJ ?_
 refine PW.assign rfl rfl rfl rfl rfl ?_
 refine PW.nil ?_
 refine SX.then ?_
 refine SC.seq ?_
 refine SC.seq ?_
 refine SC.region ?_
 refine PW.load rfl rfl rfl rfl rfl rfl ?_
 refine PW.call (r := .vl (.int .i64 (sgn d))) rfl rfl rfl rfl rfl rfl (KV.st _) rfl (k_jsign rfl) ?_
 refine PW.q2 (x := .tmp 8) (y := .const (.int .i64 0)) (.bool false) rfl rfl rfl rfl rfl (fun ρ W h1 h2 => by exact r_eqF h1 h2 (fun h => h0 (sgn_eq0.1 h))) ?_
 refine PW.nil ?_
 refine SX.then ?_
 refine SC.cond (t := false) rfl ?_
 refine SC.skip ?_
 refine SX.then ?_
 refine SC.seq ?_
 refine SC.seq ?_
 by_cases hd : sgn d < 0
 ·have hd2 : d < 0 := sgn_lt.1 hd
  refine SC.region ?_
  refine PW.load rfl rfl rfl rfl rfl rfl ?_
  refine PW.call (r := .vl (.int .i64 (sgn d))) rfl rfl rfl rfl rfl rfl (KV.st _) rfl (k_jsign rfl) ?_
  refine PW.q2 (x := .tmp 12) (y := .const (.int .i64 0)) (.bool true) rfl rfl rfl rfl rfl (fun ρ W h1 h2 => by exact r_lt h1 h2 (decide_eq_true hd)) ?_
  refine PW.nil ?_
  refine SX.then ?_
  refine SC.cond (t := true) rfl ?_
  refine SC.dx [.val 14 (.kw (KJ (n))), .val 15 (.kw (KJ (-n))), .val 16 (.kw (KJ (d))), .val 17 (.kw (KJ (-d))), .put 2 (BI 34) (.kw (KJ (-n))), .put 3 (BI 34) (.kw (KJ (-d)))] [([], [2]), ([0], []), ([], [3]), ([2], []), ([1], [2]), ([3], [3])] rfl (by kernel_rfl) (by kernel_rfl) (by kernel_rfl) rfl ⟨?_, ?_, ?_, ?_, ?_, ?_, trivial⟩ ?_
  ·exact DX.load rfl rfl rfl rfl rfl rfl
  ·exact DX.call (r := .kw (KJ (-n))) rfl rfl rfl rfl rfl rfl (KJ.st _) rfl (k_jneg)
  ·exact DX.load rfl rfl rfl rfl rfl rfl
  ·exact DX.call (r := .kw (KJ (-d))) rfl rfl rfl rfl rfl rfl (KJ.st _) rfl (k_jneg)
  ·exact DX.store (x := .tmp 15) (r := .kw (KJ (-n))) rfl rfl rfl rfl rfl rfl sh_J
  ·exact DX.store (x := .tmp 17) (r := .kw (KJ (-d))) rfl rfl rfl rfl rfl rfl sh_J
  refine SX.then ?_
  refine SC.seq ?_
  refine SC.region ?_
  refine PW.load rfl rfl rfl rfl rfl rfl ?_
  refine PW.load rfl rfl rfl rfl rfl rfl ?_
  refine PW.call (r := .kw (KJ ((Int.gcd (-n) (-d) : Int)))) rfl rfl rfl rfl rfl rfl (KJ.st _) rfl (k_jgcd N.neg D.neg (by first | decide | omega) (by first | decide | omega)) ?_
  refine PW.alloc (BI 34) rfl rfl rfl rfl rfl bJ ?_
  refine PW.store (x := .tmp 20) (r := .kw (KJ ((Int.gcd (-n) (-d) : Int)))) rfl rfl rfl rfl rfl rfl sh_J ?_
  refine PW.nil ?_
  refine SX.then ?_
  refine SC.seq ?_
  refine SC.region ?_
  refine PW.load rfl rfl rfl rfl rfl rfl ?_
  refine PW.load rfl rfl rfl rfl rfl rfl ?_
  refine PW.call (r := .kw (K3 (KJ ((-n).tdiv ((Int.gcd (-n) (-d) : Int)))) (KJ ((-n).tmod ((Int.gcd (-n) (-d) : Int)))) (KV (.int .i64 0)))) rfl rfl rfl rfl rfl rfl (K3.st (KJ.st _) (KJ.st _) (KV.st _)) rfl (k_jdiv N.neg (bd.gcd N.neg D.neg) (by first | decide | omega) (by first | decide | omega) ((Int.ne_of_gt (gcd_pos (by omega))))) ?_
  refine PW.move rfl rfl rfl rfl rfl ?_
  refine PW.ext (r := .kw (KJ ((-n).tdiv ((Int.gcd (-n) (-d) : Int))))) rfl rfl rfl rfl rfl ex30 (KJ.st _) rfl ?_
  refine PW.ext (r := .kw (KJ ((-n).tmod ((Int.gcd (-n) (-d) : Int))))) rfl rfl rfl rfl rfl ex31 (KJ.st _) rfl ?_
  refine PW.ext (r := .vl (.int .i64 0)) rfl rfl rfl rfl rfl ex32v (KV.st _) rfl ?_
  refine PW.store (x := .tmp 25) (r := .kw (KJ ((-n).tdiv ((Int.gcd (-n) (-d) : Int))))) rfl rfl rfl rfl rfl rfl sh_J ?_
  refine PW.nil ?_
  refine SX.then ?_
  refine SC.seq ?_
  refine SC.region ?_
  refine PW.load rfl rfl rfl rfl rfl rfl ?_
  refine PW.load rfl rfl rfl rfl rfl rfl ?_
  refine PW.call (r := .kw (K3 (KJ ((-d).tdiv ((Int.gcd (-n) (-d) : Int)))) (KJ ((-d).tmod ((Int.gcd (-n) (-d) : Int)))) (KV (.int .i64 0)))) rfl rfl rfl rfl rfl rfl (K3.st (KJ.st _) (KJ.st _) (KV.st _)) rfl (k_jdiv D.neg (bd.gcd N.neg D.neg) (by first | decide | omega) (by first | decide | omega) ((Int.ne_of_gt (gcd_pos (by omega))))) ?_
  refine PW.move rfl rfl rfl rfl rfl ?_
  refine PW.ext (r := .kw (KJ ((-d).tdiv ((Int.gcd (-n) (-d) : Int))))) rfl rfl rfl rfl rfl ex30 (KJ.st _) rfl ?_
  refine PW.ext (r := .kw (KJ ((-d).tmod ((Int.gcd (-n) (-d) : Int))))) rfl rfl rfl rfl rfl ex31 (KJ.st _) rfl ?_
  refine PW.ext (r := .vl (.int .i64 0)) rfl rfl rfl rfl rfl ex32v (KV.st _) rfl ?_
  refine PW.store (x := .tmp 32) (r := .kw (KJ ((-d).tdiv ((Int.gcd (-n) (-d) : Int))))) rfl rfl rfl rfl rfl rfl sh_J ?_
  refine PW.nil ?_
  refine SX.then ?_
  refine SC.seq ?_
  refine SC.region ?_
  refine PW.load rfl rfl rfl rfl rfl rfl ?_
  refine PW.load rfl rfl rfl rfl rfl rfl ?_
  refine PW.bldR (x := .tmp 35) (y := .tmp 36) (n := (-n).tdiv ((Int.gcd (-n) (-d) : Int))) (e := (-d).tdiv ((Int.gcd (-n) (-d) : Int))) rfl rfl rfl rfl rfl (fun ρ W m m2 A A2 l c l2 c2 h1 h2 => r_bldR h1 h2) ?_
  refine PW.store (x := .tmp 37) (r := .kw (KR3 ((-n).tdiv ((Int.gcd (-n) (-d) : Int))) ((-d).tdiv ((Int.gcd (-n) (-d) : Int))))) rfl rfl rfl rfl rfl rfl sh_R3 ?_
  refine PW.assign rfl rfl rfl rfl rfl ?_
  refine PW.nil ?_
  refine SX.then ?_
  refine SC.ret ?_
  have eg : Int.gcd (-n) (-d) = Int.gcd n d := by simp
  rw [num_over h0, den_over h0, if_pos hd2, if_pos hd2, ← eg]
  exact SX.done2 (s := 4) (t := 5) (r := .vl (.int .i64 0)) (.inl rfl) rfl rfl rfl rfl
 ·have hd2 : ¬ d < 0 := fun h => hd (sgn_lt.2 h)
  refine SC.region ?_
  refine PW.load rfl rfl rfl rfl rfl rfl ?_
  refine PW.call (r := .vl (.int .i64 (sgn d))) rfl rfl rfl rfl rfl rfl (KV.st _) rfl (k_jsign rfl) ?_
  refine PW.q2 (x := .tmp 12) (y := .const (.int .i64 0)) (.bool false) rfl rfl rfl rfl rfl (fun ρ W h1 h2 => by exact r_lt h1 h2 (decide_eq_false hd)) ?_
  refine PW.nil ?_
  refine SX.then ?_
  refine SC.cond (t := false) rfl ?_
  refine SC.skip ?_
  refine SX.then ?_
  refine SC.seq ?_
  refine SC.region ?_
  refine PW.load rfl rfl rfl rfl rfl rfl ?_
  refine PW.load rfl rfl rfl rfl rfl rfl ?_
  refine PW.call (r := .kw (KJ ((Int.gcd n d : Int)))) rfl rfl rfl rfl rfl rfl (KJ.st _) rfl (k_jgcd N D (by first | decide | omega) (by first | decide | omega)) ?_
  refine PW.alloc (BI 34) rfl rfl rfl rfl rfl bJ ?_
  refine PW.store (x := .tmp 20) (r := .kw (KJ ((Int.gcd n d : Int)))) rfl rfl rfl rfl rfl rfl sh_J ?_
  refine PW.nil ?_
  refine SX.then ?_
  refine SC.seq ?_
  refine SC.region ?_
  refine PW.load rfl rfl rfl rfl rfl rfl ?_
  refine PW.load rfl rfl rfl rfl rfl rfl ?_
  refine PW.call (r := .kw (K3 (KJ ((n).tdiv ((Int.gcd n d : Int)))) (KJ ((n).tmod ((Int.gcd n d : Int)))) (KV (.int .i64 0)))) rfl rfl rfl rfl rfl rfl (K3.st (KJ.st _) (KJ.st _) (KV.st _)) rfl (k_jdiv N (bd.gcd N D) (by first | decide | omega) (by first | decide | omega) ((Int.ne_of_gt (gcd_pos (by omega))))) ?_
  refine PW.move rfl rfl rfl rfl rfl ?_
  refine PW.ext (r := .kw (KJ ((n).tdiv ((Int.gcd n d : Int))))) rfl rfl rfl rfl rfl ex30 (KJ.st _) rfl ?_
  refine PW.ext (r := .kw (KJ ((n).tmod ((Int.gcd n d : Int))))) rfl rfl rfl rfl rfl ex31 (KJ.st _) rfl ?_
  refine PW.ext (r := .vl (.int .i64 0)) rfl rfl rfl rfl rfl ex32v (KV.st _) rfl ?_
  refine PW.store (x := .tmp 25) (r := .kw (KJ ((n).tdiv ((Int.gcd n d : Int))))) rfl rfl rfl rfl rfl rfl sh_J ?_
  refine PW.nil ?_
  refine SX.then ?_
  refine SC.seq ?_
  refine SC.region ?_
  refine PW.load rfl rfl rfl rfl rfl rfl ?_
  refine PW.load rfl rfl rfl rfl rfl rfl ?_
  refine PW.call (r := .kw (K3 (KJ ((d).tdiv ((Int.gcd n d : Int)))) (KJ ((d).tmod ((Int.gcd n d : Int)))) (KV (.int .i64 0)))) rfl rfl rfl rfl rfl rfl (K3.st (KJ.st _) (KJ.st _) (KV.st _)) rfl (k_jdiv D (bd.gcd N D) (by first | decide | omega) (by first | decide | omega) ((Int.ne_of_gt (gcd_pos (by omega))))) ?_
  refine PW.move rfl rfl rfl rfl rfl ?_
  refine PW.ext (r := .kw (KJ ((d).tdiv ((Int.gcd n d : Int))))) rfl rfl rfl rfl rfl ex30 (KJ.st _) rfl ?_
  refine PW.ext (r := .kw (KJ ((d).tmod ((Int.gcd n d : Int))))) rfl rfl rfl rfl rfl ex31 (KJ.st _) rfl ?_
  refine PW.ext (r := .vl (.int .i64 0)) rfl rfl rfl rfl rfl ex32v (KV.st _) rfl ?_
  refine PW.store (x := .tmp 32) (r := .kw (KJ ((d).tdiv ((Int.gcd n d : Int))))) rfl rfl rfl rfl rfl rfl sh_J ?_
  refine PW.nil ?_
  refine SX.then ?_
  refine SC.seq ?_
  refine SC.region ?_
  refine PW.load rfl rfl rfl rfl rfl rfl ?_
  refine PW.load rfl rfl rfl rfl rfl rfl ?_
  refine PW.bldR (x := .tmp 35) (y := .tmp 36) (n := (n).tdiv ((Int.gcd n d : Int))) (e := (d).tdiv ((Int.gcd n d : Int))) rfl rfl rfl rfl rfl (fun ρ W m m2 A A2 l c l2 c2 h1 h2 => r_bldR h1 h2) ?_
  refine PW.store (x := .tmp 37) (r := .kw (KR3 ((n).tdiv ((Int.gcd n d : Int))) ((d).tdiv ((Int.gcd n d : Int))))) rfl rfl rfl rfl rfl rfl sh_R3 ?_
  refine PW.assign rfl rfl rfl rfl rfl ?_
  refine PW.nil ?_
  refine SX.then ?_
  refine SC.ret ?_
  rw [num_over h0, den_over h0, if_neg hd2, if_neg hd2]
  exact SX.done2 (s := 4) (t := 5) (r := .vl (.int .i64 0)) (.inl rfl) rfl rfl rfl rfl
set_option maxHeartbeats 3200000 in
set_option maxRecDepth 100000 in
theorem k_jrnew0 {n d : Int} (h0 : d = 0) : CallOk 16 [KJ (n), KJ (d)] (K2 (KR3 ((0 : Int) : Rat).num (((0 : Int) : Rat).den : Int)) (KV (.int .i64 6))) := by
 refine CallOk.enter (l := [.kw (KJ (n)), .kw (KJ (d))]) 38 ce_k_jrnew Tryz.func16 rfl Tryz.ntmps16 (by simp) ⟨(KJ.st _), rfl, (KJ.st _), rfl, trivial⟩ fun w => ?_
 refine SC.seq ?_
 refine SC.region ?_
 refine PW.box (x := .tmp 0) (r := .kw (KJ (n))) (BI 34) rfl rfl rfl rfl rfl bJ rfl sh_J ?_
 refine PW.box (x := .tmp 1) (r := .kw (KJ (d))) (BI 34) rfl rfl rfl rfl rfl bJ rfl sh_J ?_
 refine PW.alloc (BQ 43) rfl rfl rfl rfl rfl bQJ ?_
 refine PW.assign rfl rfl rfl rfl rfl ?_
 refine PW.nil ?_
 refine SX.then ?_
 refine SC.seq ?_
 refine SC.seq ?_
 refine SC.region ?_
 refine PW.load rfl rfl rfl rfl rfl rfl ?_
 refine PW.call (r := .vl (.int .i64 (sgn d))) rfl rfl rfl rfl rfl rfl (KV.st _) rfl (k_jsign rfl) ?_
 refine PW.q2 (x := .tmp 8) (y := .const (.int .i64 0)) (.bool true) rfl rfl rfl rfl rfl (fun ρ W h1 h2 => by exact r_eqT h1 h2 (sgn_eq0.2 h0)) ?_
 refine PW.nil ?_
 refine SX.then ?_
 refine SC.cond (t := true) rfl ?_
 refine SC.seq ?_
 refine SC.region ?_
 refine PW.call (r := .kw (KR3 (((0 : Int) : Rat)).num ((((0 : Int) : Rat)).den : Int))) rfl rfl rfl rfl rfl rfl (KR3.st _ _) rfl (k_jrint (by decide)) ?_
 refine PW.store (x := .tmp 10) (r := .kw (KR3 (((0 : Int) : Rat)).num ((((0 : Int) : Rat)).den : Int))) rfl rfl rfl rfl rfl rfl sh_R3 ?_
 refine PW.assign rfl rfl rfl rfl rfl ?_
 refine PW.nil ?_
 refine SX.then ?_
 refine SC.ret ?_
 refine SX.thenR ?_
 exact SX.done2 (s := 4) (t := 5) (r := .vl (.int .i64 6)) (.inl rfl) rfl rfl rfl rfl
theorem ce_k_jrwhole : CE 22 := fun args W => by go_simp
set_option maxHeartbeats 3200000 in
set_option maxRecDepth 100000 in
theorem k_jrwhole {x : Rat} {a : Nat} (X : bq a x) (ha : a ≤ 50000) : CallOk 22 [KR3 (x).num ((x).den : Int)] (KV (.bool (decide (x.den = 1)))) := by
 refine CallOk.enter (l := [.kw (KR3 (x).num ((x).den : Int))]) 8 ce_k_jrwhole Tryz.func22 rfl Tryz.ntmps22 (by simp) ⟨(KR3.st _ _), rfl, trivial⟩ fun w => ?_
 refine SC.seq ?_
 refine SC.region ?_
 refine PW.box (x := .tmp 0) (r := .kw (KR3 (x).num ((x).den : Int))) (BQ 43) rfl rfl rfl rfl rfl bQJ rfl sh_R3 ?_
 refine PW.assign rfl rfl rfl rfl rfl ?_
 refine PW.nil ?_
 refine SX.then ?_
 refine SC.seq ?_
 by_cases hw : x.den = 1
 ·refine SC.fix (s := 1) rfl fun p1 => ?_
  refine SC.dx [.val 3 (.vl (.pointer (some ⟨p1, 2, none⟩))), .val 4 (.kw (KJ (((x).den : Int)))), .val 5 (.kw (KJ (1))), .val 6 (.vl (.int .i64 (cmp (((x).den : Int)) 1))), .val 7 (.vl (.bool true)), .val 2 (.vl (.bool true))] [([], [1]), ([0], [1]), ([], []), ([1, 2], []), ([3], []), ([4], [])] rfl (by kernel_rfl) (by kernel_rfl) (by kernel_rfl) rfl ⟨?_, ?_, ?_, ?_, ?_, ?_, trivial⟩ ?_
  ·exact DX.fa ⟨p1, 2, none⟩ rfl rfl rfl rfl rfl faR1
  ·exact DX.fl (s := 1) (r := .kw (KJ (((x).den : Int)))) rfl rfl rfl rfl rfl rfl rfl (KJ.st _) flR1
  ·exact DX.call (r := .kw (KJ (1))) rfl rfl rfl rfl rfl rfl (KJ.st _) rfl (k_jone)
  ·exact DX.call (r := .vl (.int .i64 (cmp (((x).den : Int)) 1))) rfl rfl rfl rfl rfl rfl (KV.st _) rfl (k_jcmp ((X).2) bd.one (by first | decide | omega) (by first | decide | omega) rfl)
  ·exact DX.q2 (x := .tmp 6) (y := .const (.int .i64 0)) (.bool true) rfl rfl rfl rfl rfl (fun ρ W h1 h2 => by exact r_eqT h1 h2 (cmp_den1.2 hw))
  ·exact DX.assign rfl rfl rfl rfl rfl rfl
  refine SX.unfix (s := 1) rfl ?_
  refine SX.then ?_
  refine SC.ret ?_
  rw [decide_eq_true hw]
  exact SX.done (s := 2) (r := .vl (.bool true)) rfl rfl rfl
 ·refine SC.fix (s := 1) rfl fun p1 => ?_
  refine SC.dx [.val 3 (.vl (.pointer (some ⟨p1, 2, none⟩))), .val 4 (.kw (KJ (((x).den : Int)))), .val 5 (.kw (KJ (1))), .val 6 (.vl (.int .i64 (cmp (((x).den : Int)) 1))), .val 7 (.vl (.bool false)), .val 2 (.vl (.bool false))] [([], [1]), ([0], [1]), ([], []), ([1, 2], []), ([3], []), ([4], [])] rfl (by kernel_rfl) (by kernel_rfl) (by kernel_rfl) rfl ⟨?_, ?_, ?_, ?_, ?_, ?_, trivial⟩ ?_
  ·exact DX.fa ⟨p1, 2, none⟩ rfl rfl rfl rfl rfl faR1
  ·exact DX.fl (s := 1) (r := .kw (KJ (((x).den : Int)))) rfl rfl rfl rfl rfl rfl rfl (KJ.st _) flR1
  ·exact DX.call (r := .kw (KJ (1))) rfl rfl rfl rfl rfl rfl (KJ.st _) rfl (k_jone)
  ·exact DX.call (r := .vl (.int .i64 (cmp (((x).den : Int)) 1))) rfl rfl rfl rfl rfl rfl (KV.st _) rfl (k_jcmp ((X).2) bd.one (by first | decide | omega) (by first | decide | omega) rfl)
  ·exact DX.q2 (x := .tmp 6) (y := .const (.int .i64 0)) (.bool false) rfl rfl rfl rfl rfl (fun ρ W h1 h2 => by exact r_eqF h1 h2 (fun h => hw (cmp_den1.1 h)))
  ·exact DX.assign rfl rfl rfl rfl rfl rfl
  refine SX.unfix (s := 1) rfl ?_
  refine SX.then ?_
  refine SC.ret ?_
  rw [decide_eq_false hw]
  exact SX.done (s := 2) (r := .vl (.bool false)) rfl rfl rfl
end Go.Proofs.YthpjmhhfcechmaaGreat.Sy
/- Is, Of of the laws of chapter 03, by rules. -/
set_option linter.unusedVariables false
set_option linter.unusedSimpArgs false
namespace Go.Proofs.YthpjmhhfcechmaaGreat.Sy
open Go Go.RowKit Ma
def ofq (n d : Int) : Rat := if d ≠ 0 then Rat.divInt n d else (n : Rat)
theorem ofq_over {n d : Int} (h : d ≠ 0) : ofq n d = Rat.divInt n d := if_pos h
theorem ofq_int {n d : Int} (h : ¬ d ≠ 0) : ofq n d = (n : Rat) := if_neg h
theorem bq.of {m : Nat} {n d : Int} (N : bd m n) (D : bd m d) : bq (m + 1) (ofq n d) := by
 by_cases h : d ≠ 0
 ·rw [ofq_over h]; exact (bq.over N D h).mono (by omega)
 ·rw [ofq_int h]; exact bq.int1 N
theorem ce_of3 : CE 17 := fun args W => by go_simp
section
variable {p : Nat} {x1 x2 : Bool} {A1 A2 : Option Addr} {l1 c1 l2 c2 : Nat}
theorem facQ0 (W : World) (hh : Holds (BQ 26) p (.agg #[.bool x1, .slice A1 l1 c1, .bool x2, .slice A2 l2 c2]) W) : (Instr.fieldAt 26 (ptr p) 0).run Tryz.prog W = .ok (.pointer (some ⟨p, 0, none⟩)) W := by
 obtain ⟨q0, q1, q2, q3⟩ := holdsQ hh rfl
 go_simp
theorem facQ1 (W : World) (hh : Holds (BQ 26) p (.agg #[.bool x1, .slice A1 l1 c1, .bool x2, .slice A2 l2 c2]) W) : (Instr.fieldAt 26 (ptr p) 1).run Tryz.prog W = .ok (.pointer (some ⟨p, 2, none⟩)) W := by
 obtain ⟨q0, q1, q2, q3⟩ := holdsQ hh rfl
 go_simp
theorem flcQ0 (W : World) (hh : Holds (BQ 26) p (.agg #[.bool x1, .slice A1 l1 c1, .bool x2, .slice A2 l2 c2]) W) : (Instr.loadAt 24 (.pointer (some ⟨p, 0, none⟩))).run Tryz.prog W = .ok (.agg #[.bool x1, .slice A1 l1 c1]) W := by
 obtain ⟨q0, q1, q2, q3⟩ := holdsQ hh rfl
 go_simp
theorem flcQ1 (W : World) (hh : Holds (BQ 26) p (.agg #[.bool x1, .slice A1 l1 c1, .bool x2, .slice A2 l2 c2]) W) : (Instr.loadAt 24 (.pointer (some ⟨p, 2, none⟩))).run Tryz.prog W = .ok (.agg #[.bool x2, .slice A2 l2 c2]) W := by
 obtain ⟨q0, q1, q2, q3⟩ := holdsQ hh rfl
 go_simp
end

theorem ce_k_is3 : CE 18 := fun args W => by go_simp
set_option maxHeartbeats 3200000 in
set_option maxRecDepth 100000 in
theorem k_is3 {x : Rat} {m : Nat} (X : bq m x) (hm : m ≤ 50000) : CallOk 18 [KQ (x).num (((x).den : Int) - 1), KR3 (x).num ((x).den : Int)] (KV (.bool true)) := by
 refine CallOk.enter (l := [.kw (KQ (x).num (((x).den : Int) - 1)), .kw (KR3 (x).num ((x).den : Int))]) 17 ce_k_is3 Tryz.func18 rfl Tryz.ntmps18 (by simp) ⟨(KQ.st _ _), rfl, (KR3.st _ _), rfl, trivial⟩ fun w => ?_
 refine SC.seq ?_
 refine SC.region ?_
 refine PW.box (x := .tmp 0) (r := .kw (KQ (x).num (((x).den : Int) - 1))) (BQ 38) rfl rfl rfl rfl rfl bQ rfl sh_Q ?_
 refine PW.box (x := .tmp 1) (r := .kw (KR3 (x).num ((x).den : Int))) (BQ 43) rfl rfl rfl rfl rfl bQJ rfl sh_R3 ?_
 refine PW.assign rfl rfl rfl rfl rfl ?_
 refine PW.nil ?_
 refine SX.then ?_
 refine SC.seq ?_
 refine SC.fix (s := 3) rfl fun p3 => ?_
 refine SC.dx [.val 5 (.kw (KQ (x).num (((x).den : Int) - 1))), .val 6 (.kw (KI (x.num))), .val 7 (.vl (.pointer (some ⟨p3, 0, none⟩))), .val 8 (.kw (KJ ((x).num))), .val 9 (.vl (.bool true)), .val 10 (.vl (.bool true)), .val 11 (.kw (KQ (x).num (((x).den : Int) - 1))), .val 12 (.kw (KI ((x.den : Int)))), .val 13 (.vl (.pointer (some ⟨p3, 2, none⟩))), .val 14 (.kw (KJ (((x).den : Int)))), .val 15 (.vl (.bool true)), .val 16 (.vl (.bool true)), .val 4 (.vl (.bool true))] [([], [2]), ([0], []), ([], [3]), ([2], [3]), ([1, 3], []), ([4], []), ([5], [2]), ([6, 5], []), ([5], [3]), ([8, 5], [3]), ([7, 9, 5], []), ([5, 10], []), ([11], [])] rfl (by kernel_rfl) (by kernel_rfl) (by kernel_rfl) rfl ⟨?_, ?_, ?_, ?_, ?_, ?_, ?_, ?_, ?_, ?_, ?_, ?_, ?_, trivial⟩ ?_
 ·exact DX.load rfl rfl rfl rfl rfl rfl
 ·exact DX.call (r := .kw (KI (x.num))) rfl rfl rfl rfl rfl rfl (KI.st _) rfl (k_rNum)
 ·exact DX.fa ⟨p3, 0, none⟩ rfl rfl rfl rfl rfl faR0
 ·exact DX.fl (s := 3) (r := .kw (KJ ((x).num))) rfl rfl rfl rfl rfl rfl rfl (KJ.st _) flR0
 ·exact DX.call (r := .vl (.bool true)) rfl rfl rfl rfl rfl rfl (KV.st _) rfl (k_is X.1 (by first | decide | omega) rfl)
 ·exact DX.move rfl rfl rfl rfl rfl rfl
 ·exact DX.load rfl rfl rfl rfl rfl rfl
 ·exact DX.call (r := .kw (KI ((x.den : Int)))) rfl rfl rfl rfl rfl rfl (KI.st _) rfl (k_rDen X (by first | decide | omega))
 ·exact DX.fa ⟨p3, 2, none⟩ rfl rfl rfl rfl rfl faR1
 ·exact DX.fl (s := 3) (r := .kw (KJ (((x).den : Int)))) rfl rfl rfl rfl rfl rfl rfl (KJ.st _) flR1
 ·exact DX.call (r := .vl (.bool true)) rfl rfl rfl rfl rfl rfl (KV.st _) rfl (k_is X.2 (by first | decide | omega) rfl)
 ·exact DX.pick (t := true) rfl rfl rfl rfl rfl rfl rfl
 ·exact DX.assign rfl rfl rfl rfl rfl rfl
 refine SX.unfix (s := 3) rfl ?_
 refine SX.then ?_
 refine SC.ret ?_
 exact SX.done (s := 4) (r := .vl (.bool true)) rfl rfl rfl
set_option maxHeartbeats 3200000 in
set_option maxRecDepth 100000 in
theorem of3_c {x1 x2 : Bool} {A1 A2 : Option Addr} {l1 c1 l2 c2 m : Nat} {xs1 xs2 : List Int} {n d : Int} {w : World} (h1 : In w A1 l1 c1 xs1) (h2 : In w A2 l2 c2 xs2) (hz1 : n = sg x1 (lv b32 xs1)) (hz2 : d = sg x2 (lv b32 xs2)) (N : bd m n) (D : bd m d) (hle1 : l1 ≤ 1000) (hle2 : l2 ≤ 1000) (hm : m ≤ 1000) :
  Calls Tryz.prog 17 #[.agg #[.bool x1, .slice A1 l1 c1, .bool x2, .slice A2 l2 c2]] w (Ret w (K2 (KQ (ofq n d).num (((ofq n d).den : Int) - 1)) (KR3 (ofq n d).num ((ofq n d).den : Int)))) := by
 refine calls_sc (l := [.vl (.agg #[.bool x1, .slice A1 l1 c1, .bool x2, .slice A2 l2 c2])]) (us := [.agg #[.bool x1, .slice A1 l1 c1, .bool x2, .slice A2 l2 c2]]) 45 Tryz.func17 rfl Tryz.ntmps17 (by simp) ⟨rfl, rfl, trivial⟩ ?_
 refine SC.seq ?_
 refine SC.region ?_
 refine PW.boxc (x := .tmp 0) (BQ 26) rfl rfl rfl rfl rfl bQN rfl ⟨_, _, _, _, _, _, _, _, _, rfl, rfl⟩ fun pb1 => ?_
 refine PW.alloc (BQ 38) rfl rfl rfl rfl rfl bQ ?_
 refine PW.alloc (BQ 43) rfl rfl rfl rfl rfl bQJ ?_
 refine PW.nil ?_
 refine SX.then ?_
 refine SC.seq ?_
 refine SC.region ?_
 refine PW.fac ⟨pb1, 0, none⟩ rfl rfl rfl rfl rfl facQ0 ?_
 refine PW.flc (s := 1) (.agg #[.bool x1, .slice A1 l1 c1]) rfl rfl rfl rfl rfl rfl flcQ0 ?_
 refine PW.callG (r := .kw (K2 (KI (n)) (KJ (n)))) ce_of rfl rfl rfl rfl rfl (K2.st (KI.st _) (KJ.st _)) rfl (fun a W hf => by have e1 := hf.vl (s := 14) rfl; show Calls Tryz.prog _ #[a.tmps.getD 14 undef] W _; rw [e1]; exact of_in h1 hf.be (by omega) hz1) ?_
 refine PW.move rfl rfl rfl rfl rfl ?_
 refine PW.ext (r := .kw (KI (n))) rfl rfl rfl rfl rfl ex20 (KI.st _) rfl ?_
 refine PW.ext (r := .kw (KJ (n))) rfl rfl rfl rfl rfl ex21 (KJ.st _) rfl ?_
 refine PW.alloc (BI 31) rfl rfl rfl rfl rfl bI ?_
 refine PW.alloc (BI 34) rfl rfl rfl rfl rfl bJ ?_
 refine PW.store (x := .tmp 16) (r := .kw (KI (n))) rfl rfl rfl rfl rfl rfl sh_I ?_
 refine PW.store (x := .tmp 17) (r := .kw (KJ (n))) rfl rfl rfl rfl rfl rfl sh_J ?_
 refine PW.nil ?_
 refine SX.then ?_
 refine SC.seq ?_
 refine SC.region ?_
 refine PW.fac ⟨pb1, 2, none⟩ rfl rfl rfl rfl rfl facQ1 ?_
 refine PW.flc (s := 1) (.agg #[.bool x2, .slice A2 l2 c2]) rfl rfl rfl rfl rfl rfl flcQ1 ?_
 refine PW.callG (r := .kw (K2 (KI (d)) (KJ (d)))) ce_of rfl rfl rfl rfl rfl (K2.st (KI.st _) (KJ.st _)) rfl (fun a W hf => by have e1 := hf.vl (s := 20) rfl; show Calls Tryz.prog _ #[a.tmps.getD 20 undef] W _; rw [e1]; exact of_in h2 hf.be (by omega) hz2) ?_
 refine PW.move rfl rfl rfl rfl rfl ?_
 refine PW.ext (r := .kw (KI (d))) rfl rfl rfl rfl rfl ex20 (KI.st _) rfl ?_
 refine PW.ext (r := .kw (KJ (d))) rfl rfl rfl rfl rfl ex21 (KJ.st _) rfl ?_
 refine PW.alloc (BI 31) rfl rfl rfl rfl rfl bI ?_
 refine PW.alloc (BI 34) rfl rfl rfl rfl rfl bJ ?_
 refine PW.store (x := .tmp 22) (r := .kw (KI (d))) rfl rfl rfl rfl rfl rfl sh_I ?_
 refine PW.store (x := .tmp 23) (r := .kw (KJ (d))) rfl rfl rfl rfl rfl rfl sh_J ?_
 refine PW.nil ?_
 refine SX.then ?_
 refine SC.seq ?_
 refine SC.seq ?_
 by_cases h0 : d ≠ 0
 ·refine SC.region ?_
  refine PW.load rfl rfl rfl rfl rfl rfl ?_
  refine PW.call (r := .vl (.int .i64 (sgn d))) rfl rfl rfl rfl rfl rfl (KV.st _) rfl (k_jsign rfl) ?_
  refine PW.q2 (x := .tmp 25) (y := .const (.int .i64 0)) (.bool false) rfl rfl rfl rfl rfl (fun ρ W h1 h2 => by exact r_eqF h1 h2 (fun h => h0 (sgn_eq0.1 h))) ?_
  refine PW.nil ?_
  refine SX.then ?_
  refine SC.cond (t := false) rfl ?_
  refine SC.skip ?_
  refine SX.then ?_
  refine SC.seq ?_
  refine SC.region ?_
  refine PW.load rfl rfl rfl rfl rfl rfl ?_
  refine PW.load rfl rfl rfl rfl rfl rfl ?_
  refine PW.call (r := .kw (K2 (KQ (Rat.divInt (n) (d)).num (((Rat.divInt (n) (d)).den : Int) - 1)) (KV (.int .i64 0)))) rfl rfl rfl rfl rfl rfl (K2.st (KQ.st _ _) (KV.st _)) rfl (k_rnew N D h0 (by first | decide | omega) (by first | decide | omega)) ?_
  refine PW.move rfl rfl rfl rfl rfl ?_
  refine PW.ext (r := .kw (KQ (Rat.divInt (n) (d)).num (((Rat.divInt (n) (d)).den : Int) - 1))) rfl rfl rfl rfl rfl ex20 (KQ.st _ _) rfl ?_
  refine PW.ext (r := .vl (.int .i64 0)) rfl rfl rfl rfl rfl ex21v (KV.st _) rfl ?_
  refine PW.alloc (BQ 38) rfl rfl rfl rfl rfl bQ ?_
  refine PW.store (x := .tmp 35) (r := .kw (KQ (Rat.divInt (n) (d)).num (((Rat.divInt (n) (d)).den : Int) - 1))) rfl rfl rfl rfl rfl rfl sh_Q ?_
  refine PW.assign rfl rfl rfl rfl rfl ?_
  refine PW.nil ?_
  refine SX.then ?_
  refine SC.seq ?_
  refine SC.region ?_
  refine PW.load rfl rfl rfl rfl rfl rfl ?_
  refine PW.load rfl rfl rfl rfl rfl rfl ?_
  refine PW.call (r := .kw (K2 (KR3 (Rat.divInt (n) (d)).num ((Rat.divInt (n) (d)).den : Int)) (KV (.int .i64 0)))) rfl rfl rfl rfl rfl rfl (K2.st (KR3.st _ _) (KV.st _)) rfl (k_jrnew N D h0 (by first | decide | omega) (by first | decide | omega)) ?_
  refine PW.move rfl rfl rfl rfl rfl ?_
  refine PW.ext (r := .kw (KR3 (Rat.divInt (n) (d)).num ((Rat.divInt (n) (d)).den : Int))) rfl rfl rfl rfl rfl ex20 (KR3.st _ _) rfl ?_
  refine PW.ext (r := .vl (.int .i64 0)) rfl rfl rfl rfl rfl ex21v (KV.st _) rfl ?_
  refine PW.alloc (BQ 43) rfl rfl rfl rfl rfl bQJ ?_
  refine PW.store (x := .tmp 41) (r := .kw (KR3 (Rat.divInt (n) (d)).num ((Rat.divInt (n) (d)).den : Int))) rfl rfl rfl rfl rfl rfl sh_R3 ?_
  refine PW.assign rfl rfl rfl rfl rfl ?_
  refine PW.nil ?_
  refine SX.then ?_
  refine SC.seq ?_
  refine SC.dx [.val 43 (.kw (KQ (Rat.divInt (n) (d)).num (((Rat.divInt (n) (d)).den : Int) - 1))), .val 44 (.kw (KR3 (Rat.divInt (n) (d)).num ((Rat.divInt (n) (d)).den : Int))), .put 2 (BQ 38) (.kw (KQ (Rat.divInt (n) (d)).num (((Rat.divInt (n) (d)).den : Int) - 1))), .put 3 (BQ 43) (.kw (KR3 (Rat.divInt (n) (d)).num ((Rat.divInt (n) (d)).den : Int)))] [([], [8]), ([], [10]), ([0], [2]), ([1], [3])] rfl (by kernel_rfl) (by kernel_rfl) (by kernel_rfl) rfl ⟨?_, ?_, ?_, ?_, trivial⟩ ?_
  ·exact DX.load rfl rfl rfl rfl rfl rfl
  ·exact DX.load rfl rfl rfl rfl rfl rfl
  ·exact DX.store (x := .tmp 43) (r := .kw (KQ (Rat.divInt (n) (d)).num (((Rat.divInt (n) (d)).den : Int) - 1))) rfl rfl rfl rfl rfl rfl sh_Q
  ·exact DX.store (x := .tmp 44) (r := .kw (KR3 (Rat.divInt (n) (d)).num ((Rat.divInt (n) (d)).den : Int))) rfl rfl rfl rfl rfl rfl sh_R3
  refine SX.then ?_
  refine SC.ret ?_
  rw [ofq_over h0]
  exact SX.done2C (s := 2) (s' := 3) (.inl rfl) rfl rfl rfl rfl
 ·refine SC.region ?_
  refine PW.load rfl rfl rfl rfl rfl rfl ?_
  refine PW.call (r := .vl (.int .i64 (sgn d))) rfl rfl rfl rfl rfl rfl (KV.st _) rfl (k_jsign rfl) ?_
  refine PW.q2 (x := .tmp 25) (y := .const (.int .i64 0)) (.bool true) rfl rfl rfl rfl rfl (fun ρ W h1 h2 => by exact r_eqT h1 h2 (sgn_eq0.2 (Classical.not_not.1 h0))) ?_
  refine PW.nil ?_
  refine SX.then ?_
  refine SC.cond (t := true) rfl ?_
  refine SC.seq ?_
  refine SC.dx [.val 27 (.kw (KI (n))), .val 28 (.kw (KQ (((n : Int) : Rat)).num (((((n : Int) : Rat)).den : Int) - 1))), .val 29 (.kw (KJ (n))), .val 30 (.kw (KR3 (((n : Int) : Rat)).num ((((n : Int) : Rat)).den : Int))), .put 2 (BQ 38) (.kw (KQ (((n : Int) : Rat)).num (((((n : Int) : Rat)).den : Int) - 1))), .put 3 (BQ 43) (.kw (KR3 (((n : Int) : Rat)).num ((((n : Int) : Rat)).den : Int)))] [([], [4]), ([0], []), ([], [5]), ([2], []), ([1], [2]), ([3], [3])] rfl (by kernel_rfl) (by kernel_rfl) (by kernel_rfl) rfl ⟨?_, ?_, ?_, ?_, ?_, ?_, trivial⟩ ?_
  ·exact DX.load rfl rfl rfl rfl rfl rfl
  ·exact DX.call (r := .kw (KQ (((n : Int) : Rat)).num (((((n : Int) : Rat)).den : Int) - 1))) rfl rfl rfl rfl rfl rfl (KQ.st _ _) rfl (k_rof)
  ·exact DX.load rfl rfl rfl rfl rfl rfl
  ·exact DX.call (r := .kw (KR3 (((n : Int) : Rat)).num ((((n : Int) : Rat)).den : Int))) rfl rfl rfl rfl rfl rfl (KR3.st _ _) rfl (k_jrof)
  ·exact DX.store (x := .tmp 28) (r := .kw (KQ (((n : Int) : Rat)).num (((((n : Int) : Rat)).den : Int) - 1))) rfl rfl rfl rfl rfl rfl sh_Q
  ·exact DX.store (x := .tmp 30) (r := .kw (KR3 (((n : Int) : Rat)).num ((((n : Int) : Rat)).den : Int))) rfl rfl rfl rfl rfl rfl sh_R3
  refine SX.then ?_
  refine SC.ret ?_
  refine SX.thenR ?_
  rw [ofq_int h0]
  exact SX.done2C (s := 2) (s' := 3) (.inl rfl) rfl rfl rfl rfl
end Go.Proofs.YthpjmhhfcechmaaGreat.Sy
/- The reference's Text, Parse of fractions by rules. -/
set_option linter.unusedVariables false
set_option linter.unusedSimpArgs false
namespace Go.Proofs.YthpjmhhfcechmaaGreat.Sy
open Go Go.RowKit Ma
def KPF : Except Int Rat → Know
 | .ok q => K2 (KR3 q.num (q.den : Int)) (KV (.int .i64 0))
 | .error e => K2 (KR3 ((0 : Int) : Rat).num (((0 : Int) : Rat).den : Int)) (KV (.int .i64 e))
theorem ce_jqtext : CE 28 := fun args W => by go_simp
set_option maxHeartbeats 3200000 in
set_option maxRecDepth 100000 in
theorem k_jqtext_bad {x : Rat} {r : Int} {m : Nat} (X : bq m x) (hm : m ≤ 50000) (h : ¬ (2 ≤ r ∧ r ≤ 36)) : CallOk 28 [KR3 (x).num ((x).den : Int), KV (.int .i64 (r))] (K2 (KV (.string ⟨#[]⟩)) (KV (.int .i64 1))) := by
 refine CallOk.enter (l := [.kw (KR3 (x).num ((x).den : Int)), .vl (.int .i64 (r))]) 36 ce_jqtext Tryz.func28 rfl Tryz.ntmps28 (by simp) ⟨(KR3.st _ _), rfl, (KV.st _), rfl, trivial⟩ fun w => ?_
 refine SC.seq ?_
 refine SC.region ?_
 refine PW.box (x := .tmp 0) (r := .kw (KR3 (x).num ((x).den : Int))) (BQ 43) rfl rfl rfl rfl rfl bQJ rfl sh_R3 ?_
 refine PW.assign rfl rfl rfl rfl rfl ?_
 refine PW.assign rfl rfl rfl rfl rfl ?_
 refine PW.nil ?_
 refine SX.then ?_
 refine SC.seq ?_
 refine SC.region ?_
 refine PW.fld (r := .kw (KJ ((x).num))) rfl rfl rfl rfl rfl rfl rfl rfl rfl rfl rfl fldR0 (KJ.st _) ?_
 refine PW.move rfl rfl rfl rfl rfl ?_
 refine PW.call (r := .kw (K2 (KV (.string ⟨#[]⟩)) (KV (.int .i64 1)))) rfl rfl rfl rfl rfl rfl (K2.st (KV.st _) (KV.st _)) rfl (k_jtext_bad h) ?_
 refine PW.move rfl rfl rfl rfl rfl ?_
 refine PW.ext (r := .vl (.string ⟨#[]⟩)) rfl rfl rfl rfl rfl ex20v (KV.st _) rfl ?_
 refine PW.ext (r := .vl (.int .i64 1)) rfl rfl rfl rfl rfl ex21v (KV.st _) rfl ?_
 refine PW.assign rfl rfl rfl rfl rfl ?_
 refine PW.assign rfl rfl rfl rfl rfl ?_
 refine PW.nil ?_
 refine SX.then ?_
 refine SC.seq ?_
 refine SC.seq ?_
 refine SC.region ?_
 refine PW.move rfl rfl rfl rfl rfl ?_
 refine PW.q2 (x := .tmp 17) (y := .const (.int .i64 0)) (.bool true) rfl rfl rfl rfl rfl (fun ρ W h1 h2 => by go_simp) ?_
 refine PW.move rfl rfl rfl rfl rfl ?_
 refine PW.skip rfl rfl rfl ?_
 refine PW.skip rfl rfl rfl ?_
 refine PW.pick (t := true) rfl rfl rfl rfl rfl rfl ?_
 refine PW.nil ?_
 refine SX.then ?_
 refine SC.cond (t := true) rfl ?_
 refine SC.seq ?_
 refine SC.region ?_
 refine PW.move rfl rfl rfl rfl rfl ?_
 refine PW.move rfl rfl rfl rfl rfl ?_
 refine PW.assign rfl rfl rfl rfl rfl ?_
 refine PW.assign rfl rfl rfl rfl rfl ?_
 refine PW.nil ?_
 refine SX.then ?_
 refine SC.ret ?_
 refine SX.thenR ?_
 exact SX.done2v (s := 4) (t := 5) (.inl rfl) rfl rfl rfl rfl
set_option maxHeartbeats 3200000 in
set_option maxRecDepth 100000 in
theorem k_jqtext_w {x : Rat} {r : Int} {m : Nat} (X : bq m x) (hm : m ≤ 50000) (h : 2 ≤ r ∧ r ≤ 36) (hd : x.den = 1) : CallOk 28 [KR3 (x).num ((x).den : Int), KV (.int .i64 (r))] (K2 (KV (.string (txq r x))) (KV (.int .i64 0))) := by
 refine CallOk.enter (l := [.kw (KR3 (x).num ((x).den : Int)), .vl (.int .i64 (r))]) 36 ce_jqtext Tryz.func28 rfl Tryz.ntmps28 (by simp) ⟨(KR3.st _ _), rfl, (KV.st _), rfl, trivial⟩ fun w => ?_
 refine SC.seq ?_
 refine SC.region ?_
 refine PW.box (x := .tmp 0) (r := .kw (KR3 (x).num ((x).den : Int))) (BQ 43) rfl rfl rfl rfl rfl bQJ rfl sh_R3 ?_
 refine PW.assign rfl rfl rfl rfl rfl ?_
 refine PW.assign rfl rfl rfl rfl rfl ?_
 refine PW.nil ?_
 refine SX.then ?_
 refine SC.seq ?_
 refine SC.region ?_
 refine PW.fld (r := .kw (KJ ((x).num))) rfl rfl rfl rfl rfl rfl rfl rfl rfl rfl rfl fldR0 (KJ.st _) ?_
 refine PW.move rfl rfl rfl rfl rfl ?_
 refine PW.call (r := .kw (K2 (KV (.string (tstr r ((x).num)))) (KV (.int .i64 0)))) rfl rfl rfl rfl rfl rfl (K2.st (KV.st _) (KV.st _)) rfl (k_jtext ((X).1) (by first | decide | omega) h) ?_
 refine PW.move rfl rfl rfl rfl rfl ?_
 refine PW.ext (r := .vl (.string (tstr r ((x).num)))) rfl rfl rfl rfl rfl ex20v (KV.st _) rfl ?_
 refine PW.ext (r := .vl (.int .i64 0)) rfl rfl rfl rfl rfl ex21v (KV.st _) rfl ?_
 refine PW.assign rfl rfl rfl rfl rfl ?_
 refine PW.assign rfl rfl rfl rfl rfl ?_
 refine PW.nil ?_
 refine SX.then ?_
 refine SC.seq ?_
 refine SC.seq ?_
 refine SC.region ?_
 refine PW.move rfl rfl rfl rfl rfl ?_
 refine PW.q2 (x := .tmp 17) (y := .const (.int .i64 0)) (.bool false) rfl rfl rfl rfl rfl (fun ρ W h1 h2 => by go_simp) ?_
 refine PW.move rfl rfl rfl rfl rfl ?_
 refine PW.load rfl rfl rfl rfl rfl rfl ?_
 refine PW.call (r := .vl (.bool true)) rfl rfl rfl rfl rfl rfl (KV.st _) rfl (callK (k_jrwhole X (by first | decide | omega)) (by rw [decide_eq_true hd]; rfl)) ?_
 refine PW.pick (t := false) rfl rfl rfl rfl rfl rfl ?_
 refine PW.nil ?_
 refine SX.then ?_
 refine SC.cond (t := true) rfl ?_
 refine SC.seq ?_
 refine SC.region ?_
 refine PW.move rfl rfl rfl rfl rfl ?_
 refine PW.move rfl rfl rfl rfl rfl ?_
 refine PW.assign rfl rfl rfl rfl rfl ?_
 refine PW.assign rfl rfl rfl rfl rfl ?_
 refine PW.nil ?_
 refine SX.then ?_
 refine SC.ret ?_
 refine SX.thenR ?_
 rw [txq_whole hd]
 exact SX.done2v (s := 4) (t := 5) (.inl rfl) rfl rfl rfl rfl
set_option maxHeartbeats 3200000 in
set_option maxRecDepth 100000 in
theorem k_jqtext_f {x : Rat} {r : Int} {m : Nat} (X : bq m x) (hm : m ≤ 50000) (h : 2 ≤ r ∧ r ≤ 36) (hd : ¬ x.den = 1) : CallOk 28 [KR3 (x).num ((x).den : Int), KV (.int .i64 (r))] (K2 (KV (.string (txq r x))) (KV (.int .i64 0))) := by
 refine CallOk.enter (l := [.kw (KR3 (x).num ((x).den : Int)), .vl (.int .i64 (r))]) 36 ce_jqtext Tryz.func28 rfl Tryz.ntmps28 (by simp) ⟨(KR3.st _ _), rfl, (KV.st _), rfl, trivial⟩ fun w => ?_
 refine SC.seq ?_
 refine SC.region ?_
 refine PW.box (x := .tmp 0) (r := .kw (KR3 (x).num ((x).den : Int))) (BQ 43) rfl rfl rfl rfl rfl bQJ rfl sh_R3 ?_
 refine PW.assign rfl rfl rfl rfl rfl ?_
 refine PW.assign rfl rfl rfl rfl rfl ?_
 refine PW.nil ?_
 refine SX.then ?_
 refine SC.seq ?_
 refine SC.region ?_
 refine PW.fld (r := .kw (KJ ((x).num))) rfl rfl rfl rfl rfl rfl rfl rfl rfl rfl rfl fldR0 (KJ.st _) ?_
 refine PW.move rfl rfl rfl rfl rfl ?_
 refine PW.call (r := .kw (K2 (KV (.string (tstr r ((x).num)))) (KV (.int .i64 0)))) rfl rfl rfl rfl rfl rfl (K2.st (KV.st _) (KV.st _)) rfl (k_jtext ((X).1) (by first | decide | omega) h) ?_
 refine PW.move rfl rfl rfl rfl rfl ?_
 refine PW.ext (r := .vl (.string (tstr r ((x).num)))) rfl rfl rfl rfl rfl ex20v (KV.st _) rfl ?_
 refine PW.ext (r := .vl (.int .i64 0)) rfl rfl rfl rfl rfl ex21v (KV.st _) rfl ?_
 refine PW.assign rfl rfl rfl rfl rfl ?_
 refine PW.assign rfl rfl rfl rfl rfl ?_
 refine PW.nil ?_
 refine SX.then ?_
 refine SC.seq ?_
 refine SC.seq ?_
 refine SC.region ?_
 refine PW.move rfl rfl rfl rfl rfl ?_
 refine PW.q2 (x := .tmp 17) (y := .const (.int .i64 0)) (.bool false) rfl rfl rfl rfl rfl (fun ρ W h1 h2 => by go_simp) ?_
 refine PW.move rfl rfl rfl rfl rfl ?_
 refine PW.load rfl rfl rfl rfl rfl rfl ?_
 refine PW.call (r := .vl (.bool false)) rfl rfl rfl rfl rfl rfl (KV.st _) rfl (callK (k_jrwhole X (by first | decide | omega)) (by rw [decide_eq_false hd]; rfl)) ?_
 refine PW.pick (t := false) rfl rfl rfl rfl rfl rfl ?_
 refine PW.nil ?_
 refine SX.then ?_
 refine SC.cond (t := false) rfl ?_
 refine SC.skip ?_
 refine SX.then ?_
 refine SC.seq ?_
 refine SC.region ?_
 refine PW.fld (r := .kw (KJ (((x).den : Int)))) rfl rfl rfl rfl rfl rfl rfl rfl rfl rfl rfl fldR1 (KJ.st _) ?_
 refine PW.move rfl rfl rfl rfl rfl ?_
 refine PW.call (r := .kw (K2 (KV (.string (tstr r (((x).den : Int))))) (KV (.int .i64 0)))) rfl rfl rfl rfl rfl rfl (K2.st (KV.st _) (KV.st _)) rfl (k_jtext ((X).2) (by first | decide | omega) h) ?_
 refine PW.move rfl rfl rfl rfl rfl ?_
 refine PW.ext (r := .vl (.string (tstr r (((x).den : Int))))) rfl rfl rfl rfl rfl ex20v (KV.st _) rfl ?_
 refine PW.ext (r := .vl (.int .i64 0)) rfl rfl rfl rfl rfl ex21v (KV.st _) rfl ?_
 refine PW.assign rfl rfl rfl rfl rfl ?_
 refine PW.assign rfl rfl rfl rfl rfl ?_
 refine PW.nil ?_
 refine SX.then ?_
 refine SC.seq ?_
 refine SC.region ?_
 refine PW.move rfl rfl rfl rfl rfl ?_
 refine PW.q2 (x := .tmp 32) (y := .const (.string ⟨#[47]⟩)) (.string (tstr r x.num ++ ⟨#[47]⟩)) rfl rfl rfl rfl rfl (fun ρ W h1 h2 => by exact r_sadd h1 h2 (by have q1 := tstr_size (r := r) h.1 X.1; have q2 := tstr_size (r := r) h.1 X.2; simp only [ByteArray.size_append, bsz1]; omega)) ?_
 refine PW.move rfl rfl rfl rfl rfl ?_
 refine PW.q2 (x := .tmp 33) (y := .tmp 34) (.string (tstr r x.num ++ ⟨#[47]⟩ ++ tstr r (x.den : Int))) rfl rfl rfl rfl rfl (fun ρ W h1 h2 => by exact r_sadd h1 h2 (by have q1 := tstr_size (r := r) h.1 X.1; have q2 := tstr_size (r := r) h.1 X.2; simp only [ByteArray.size_append, bsz1]; omega)) ?_
 refine PW.assign rfl rfl rfl rfl rfl ?_
 refine PW.assign rfl rfl rfl rfl rfl ?_
 refine PW.nil ?_
 refine SX.then ?_
 refine SC.ret ?_
 rw [txq_frac hd]
 exact SX.done2v (s := 4) (t := 5) (.inl rfl) rfl rfl rfl rfl
theorem k_jqtext {x : Rat} {r : Int} {m : Nat} (X : bq m x) (hm : m ≤ 50000) (h : 2 ≤ r ∧ r ≤ 36) : CallOk 28 [KR3 (x).num ((x).den : Int), KV (.int .i64 (r))] (K2 (KV (.string (txq r x))) (KV (.int .i64 0))) := by
 by_cases hd : x.den = 1
 ·exact k_jqtext_w X hm h hd
 ·exact k_jqtext_f X hm h hd
theorem ce_jqparse : CE 30 := fun args W => by go_simp
set_option maxHeartbeats 6400000 in
set_option maxRecDepth 100000 in
theorem k_jqparse_radix {s : ByteArray} {r : Int} (h : ¬ (2 ≤ r ∧ r ≤ 36)) : CallOk 30 [KV (.string s), KV (.int .i64 (r))] (KPF (parseQ r s)) := by
 refine CallOk.enter (l := [.vl (.string s), .vl (.int .i64 (r))]) 93 ce_jqparse Tryz.func30 rfl Tryz.ntmps30 (by simp) ⟨(KV.st _), rfl, (KV.st _), rfl, trivial⟩ fun w => ?_
 refine SC.seq ?_
 refine SC.region ?_
 refine PW.alloc (BQ 43) rfl rfl rfl rfl rfl bQJ ?_
 refine PW.assign rfl rfl rfl rfl rfl ?_
 refine PW.nil ?_
 refine SX.then ?_
 refine SC.seq ?_
 refine SC.seq ?_
 by_cases hr2 : r < 2
 ·refine SC.region ?_
  refine PW.move rfl rfl rfl rfl rfl ?_
  refine PW.q2 (x := .tmp 14) (y := .const (.int .i64 2)) (.bool true) rfl rfl rfl rfl rfl (fun ρ W h1 h2 => by exact r_lt h1 h2 (decide_eq_true hr2)) ?_
  refine PW.move rfl rfl rfl rfl rfl ?_
  refine PW.skip rfl rfl rfl ?_
  refine PW.skip rfl rfl rfl ?_
  refine PW.pick (t := true) rfl rfl rfl rfl rfl rfl ?_
  refine PW.nil ?_
  refine SX.then ?_
  refine SC.cond (t := true) rfl ?_
  refine SC.seq ?_
  refine SC.region ?_
  refine PW.call (r := .kw (KR3 (((0 : Int) : Rat)).num ((((0 : Int) : Rat)).den : Int))) rfl rfl rfl rfl rfl rfl (KR3.st _ _) rfl (k_jrint (by decide)) ?_
  refine PW.store (x := .tmp 20) (r := .kw (KR3 (((0 : Int) : Rat)).num ((((0 : Int) : Rat)).den : Int))) rfl rfl rfl rfl rfl rfl sh_R3 ?_
  refine PW.assign rfl rfl rfl rfl rfl ?_
  refine PW.nil ?_
  refine SX.then ?_
  refine SC.ret ?_
  refine SX.thenR ?_
  rw [parseQ_radix h]
  exact SX.done2 (s := 4) (t := 5) (r := .vl (.int .i64 1)) (.inl rfl) rfl rfl rfl rfl
 ·refine SC.region ?_
  refine PW.move rfl rfl rfl rfl rfl ?_
  refine PW.q2 (x := .tmp 14) (y := .const (.int .i64 2)) (.bool false) rfl rfl rfl rfl rfl (fun ρ W h1 h2 => by exact r_lt h1 h2 (decide_eq_false hr2)) ?_
  refine PW.move rfl rfl rfl rfl rfl ?_
  refine PW.move rfl rfl rfl rfl rfl ?_
  refine PW.q2 (x := .tmp 17) (y := .const (.int .i64 36)) (.bool true) rfl rfl rfl rfl rfl (fun ρ W h1 h2 => by exact r_gt h1 h2 (decide_eq_true (by omega))) ?_
  refine PW.pick (t := false) rfl rfl rfl rfl rfl rfl ?_
  refine PW.nil ?_
  refine SX.then ?_
  refine SC.cond (t := true) rfl ?_
  refine SC.seq ?_
  refine SC.region ?_
  refine PW.call (r := .kw (KR3 (((0 : Int) : Rat)).num ((((0 : Int) : Rat)).den : Int))) rfl rfl rfl rfl rfl rfl (KR3.st _ _) rfl (k_jrint (by decide)) ?_
  refine PW.store (x := .tmp 20) (r := .kw (KR3 (((0 : Int) : Rat)).num ((((0 : Int) : Rat)).den : Int))) rfl rfl rfl rfl rfl rfl sh_R3 ?_
  refine PW.assign rfl rfl rfl rfl rfl ?_
  refine PW.nil ?_
  refine SX.then ?_
  refine SC.ret ?_
  refine SX.thenR ?_
  rw [parseQ_radix h]
  exact SX.done2 (s := 4) (t := 5) (r := .vl (.int .i64 1)) (.inl rfl) rfl rfl rfl rfl
set_option maxHeartbeats 6400000 in
set_option maxRecDepth 100000 in
theorem k_jqparse_long {s : ByteArray} {r : Int} (h : 2 ≤ r ∧ r ≤ 36) (hl : 20000 < s.size) : CallOk 30 [KV (.string s), KV (.int .i64 (r))] (KPF (parseQ r s)) := by
 refine CallOk.enter (l := [.vl (.string s), .vl (.int .i64 (r))]) 93 ce_jqparse Tryz.func30 rfl Tryz.ntmps30 (by simp) ⟨(KV.st _), rfl, (KV.st _), rfl, trivial⟩ fun w => ?_
 refine SC.seq ?_
 refine SC.region ?_
 refine PW.alloc (BQ 43) rfl rfl rfl rfl rfl bQJ ?_
 refine PW.assign rfl rfl rfl rfl rfl ?_
 refine PW.nil ?_
 refine SX.then ?_
 refine SC.seq ?_
 refine SC.seq ?_
 refine SC.region ?_
 refine PW.move rfl rfl rfl rfl rfl ?_
 refine PW.q2 (x := .tmp 14) (y := .const (.int .i64 2)) (.bool false) rfl rfl rfl rfl rfl (fun ρ W h1 h2 => by exact r_lt h1 h2 (decide_eq_false (by omega))) ?_
 refine PW.move rfl rfl rfl rfl rfl ?_
 refine PW.move rfl rfl rfl rfl rfl ?_
 refine PW.q2 (x := .tmp 17) (y := .const (.int .i64 36)) (.bool false) rfl rfl rfl rfl rfl (fun ρ W h1 h2 => by exact r_gt h1 h2 (decide_eq_false (by omega))) ?_
 refine PW.pick (t := false) rfl rfl rfl rfl rfl rfl ?_
 refine PW.nil ?_
 refine SX.then ?_
 refine SC.cond (t := false) rfl ?_
 refine SC.skip ?_
 refine SX.then ?_
 refine SC.seq ?_
 refine SC.seq ?_
 refine SC.region ?_
 refine PW.move rfl rfl rfl rfl rfl ?_
 refine PW.qn [(.tmp 21, .string s)] (.int .i64 (s.size : Int)) rfl rfl rfl ⟨rfl, trivial⟩ (fun ρ W h => by obtain ⟨h1, _⟩ := h; exact r_slen h1) ?_
 refine PW.q2 (x := .tmp 22) (y := .const (.int .i64 20000)) (.bool true) rfl rfl rfl rfl rfl (fun ρ W h1 h2 => by exact r_gt h1 h2 (decide_eq_true (by omega))) ?_
 refine PW.nil ?_
 refine SX.then ?_
 refine SC.cond (t := true) rfl ?_
 refine SC.seq ?_
 refine SC.region ?_
 refine PW.call (r := .kw (KR3 (((0 : Int) : Rat)).num ((((0 : Int) : Rat)).den : Int))) rfl rfl rfl rfl rfl rfl (KR3.st _ _) rfl (k_jrint (by decide)) ?_
 refine PW.store (x := .tmp 24) (r := .kw (KR3 (((0 : Int) : Rat)).num ((((0 : Int) : Rat)).den : Int))) rfl rfl rfl rfl rfl rfl sh_R3 ?_
 refine PW.assign rfl rfl rfl rfl rfl ?_
 refine PW.nil ?_
 refine SX.then ?_
 refine SC.ret ?_
 refine SX.thenR ?_
 rw [parseQ_long h hl]
 exact SX.done2 (s := 4) (t := 5) (r := .vl (.int .i64 14)) (.inl rfl) rfl rfl rfl rfl
set_option maxHeartbeats 6400000 in
set_option maxRecDepth 100000 in
theorem k_jqparse_ok {s : ByteArray} {r : Int} (h : 2 ≤ r ∧ r ≤ 36) (hl : ¬ 20000 < s.size) : CallOk 30 [KV (.string s), KV (.int .i64 (r))] (KPF (parseQ r s)) := by
 refine CallOk.enter (l := [.vl (.string s), .vl (.int .i64 (r))]) 93 ce_jqparse Tryz.func30 rfl Tryz.ntmps30 (by simp) ⟨(KV.st _), rfl, (KV.st _), rfl, trivial⟩ fun w => ?_
 refine SC.seq ?_
 refine SC.region ?_
 refine PW.alloc (BQ 43) rfl rfl rfl rfl rfl bQJ ?_
 refine PW.assign rfl rfl rfl rfl rfl ?_
 refine PW.nil ?_
 refine SX.then ?_
 refine SC.seq ?_
 refine SC.seq ?_
 refine SC.region ?_
 refine PW.move rfl rfl rfl rfl rfl ?_
 refine PW.q2 (x := .tmp 14) (y := .const (.int .i64 2)) (.bool false) rfl rfl rfl rfl rfl (fun ρ W h1 h2 => by exact r_lt h1 h2 (decide_eq_false (by omega))) ?_
 refine PW.move rfl rfl rfl rfl rfl ?_
 refine PW.move rfl rfl rfl rfl rfl ?_
 refine PW.q2 (x := .tmp 17) (y := .const (.int .i64 36)) (.bool false) rfl rfl rfl rfl rfl (fun ρ W h1 h2 => by exact r_gt h1 h2 (decide_eq_false (by omega))) ?_
 refine PW.pick (t := false) rfl rfl rfl rfl rfl rfl ?_
 refine PW.nil ?_
 refine SX.then ?_
 refine SC.cond (t := false) rfl ?_
 refine SC.skip ?_
 refine SX.then ?_
 refine SC.seq ?_
 refine SC.seq ?_
 refine SC.region ?_
 refine PW.move rfl rfl rfl rfl rfl ?_
 refine PW.qn [(.tmp 21, .string s)] (.int .i64 (s.size : Int)) rfl rfl rfl ⟨rfl, trivial⟩ (fun ρ W h => by obtain ⟨h1, _⟩ := h; exact r_slen h1) ?_
 refine PW.q2 (x := .tmp 22) (y := .const (.int .i64 20000)) (.bool false) rfl rfl rfl rfl rfl (fun ρ W h1 h2 => by exact r_gt h1 h2 (decide_eq_false (by omega))) ?_
 refine PW.nil ?_
 refine SX.then ?_
 refine SC.cond (t := false) rfl ?_
 refine SC.skip ?_
 refine SX.then ?_
 refine SC.seq ?_
 refine SC.region ?_
 refine PW.assign rfl rfl rfl rfl rfl ?_
 refine PW.nil ?_
 refine SX.then ?_
 refine SC.seq ?_
 refine SC.seq ?_
 refine SC.region ?_
 refine PW.assign rfl rfl rfl rfl rfl ?_
 refine PW.nil ?_
 refine SX.then ?_
 refine SC.block ?_
 refine SC.loop (S := Nat × Int) (fun ⟨j, q⟩ => [(0, .vl (.string s)), (1, .vl (.int .i64 (r))), (4, .nb (BQ 43)), (5, .vl (.int .i64 0)), (6, .vl (.int .i64 (q))), (7, .vl (.int .i64 (j : Int)))]) (fun ⟨j, q⟩ => LsI s j q) (fun ⟨j, q⟩ => s.size - j) (0, -1) (LsI.start s) ⟨rfl, rfl, rfl, rfl, rfl, rfl, trivial⟩ ?_
 rintro ⟨j, q⟩ hI
 show SC _ _ _ _ [(0, .vl (.string s)), (1, .vl (.int .i64 (r))), (4, .nb (BQ 43)), (5, .vl (.int .i64 0)), (6, .vl (.int .i64 (q))), (7, .vl (.int .i64 (j : Int)))] _
 refine SC.seq ?_
 refine SC.seq ?_
 by_cases hj : (j : Int) < (s.size : Int)
 ·refine SC.region ?_
  refine PW.move rfl rfl rfl rfl rfl ?_
  refine PW.move rfl rfl rfl rfl rfl ?_
  refine PW.qn [(.tmp 26, .string s)] (.int .i64 (s.size : Int)) rfl rfl rfl ⟨rfl, trivial⟩ (fun ρ W h => by obtain ⟨h1, _⟩ := h; exact r_slen h1) ?_
  refine PW.q2 (x := .tmp 25) (y := .tmp 27) (.bool true) rfl rfl rfl rfl rfl (fun ρ W h1 h2 => by exact r_lt h1 h2 (decide_eq_true hj)) ?_
  refine PW.nil ?_
  refine SX.then ?_
  refine SC.cond (t := true) rfl ?_
  refine SC.skip ?_
  refine SX.then ?_
  refine SC.seq ?_
  refine SC.block ?_
  refine SC.seq ?_
  by_cases hc : at0 (byl s) j = 47
  ·refine SC.region ?_
   refine PW.move rfl rfl rfl rfl rfl ?_
   refine PW.move rfl rfl rfl rfl rfl ?_
   refine PW.qn [(.tmp 31, .string s), (.tmp 32, .int .i64 (j : Int))] (.int .u8 (at0 (byl s) j)) rfl rfl rfl ⟨rfl, rfl, trivial⟩ (fun ρ W h => by obtain ⟨h1, h2, _⟩ := h; exact r_sidx h1 h2 (by omega)) ?_
   refine PW.q2 (x := .tmp 33) (y := .const (.int .u8 47)) (.bool true) rfl rfl rfl rfl rfl (fun ρ W h1 h2 => by exact r_eq8 h1 h2 (decide_eq_true hc)) ?_
   refine PW.nil ?_
   refine SX.then ?_
   refine SC.cond (t := true) rfl ?_
   refine SC.region ?_
   refine PW.move rfl rfl rfl rfl rfl ?_
   refine PW.assign rfl rfl rfl rfl rfl ?_
   refine PW.nil ?_
   refine SX.blockN ?_
   refine SX.then ?_
   refine SC.region ?_
   refine PW.move rfl rfl rfl rfl rfl ?_
   refine PW.q2 (x := .tmp 29) (y := .const (.int .i64 1)) (.int .i64 ((j + 1 : Nat))) rfl rfl rfl rfl rfl (fun ρ W h1 h2 => by exact r_add h1 h2 (by omega) (by omega)) ?_
   refine PW.assign rfl rfl rfl rfl rfl ?_
   refine PW.nil ?_
   refine SX.back (j + 1, (j : Int)) ?_ ?_ ?_
   ·exact (hI.yes (by omega) hc)
   ·exact (show s.size - (j + 1) < s.size - j by omega)
   ·exact ⟨rfl, rfl, rfl, rfl, rfl, rfl, trivial⟩
  ·refine SC.region ?_
   refine PW.move rfl rfl rfl rfl rfl ?_
   refine PW.move rfl rfl rfl rfl rfl ?_
   refine PW.qn [(.tmp 31, .string s), (.tmp 32, .int .i64 (j : Int))] (.int .u8 (at0 (byl s) j)) rfl rfl rfl ⟨rfl, rfl, trivial⟩ (fun ρ W h => by obtain ⟨h1, h2, _⟩ := h; exact r_sidx h1 h2 (by omega)) ?_
   refine PW.q2 (x := .tmp 33) (y := .const (.int .u8 47)) (.bool false) rfl rfl rfl rfl rfl (fun ρ W h1 h2 => by exact r_eq8 h1 h2 (decide_eq_false hc)) ?_
   refine PW.nil ?_
   refine SX.then ?_
   refine SC.cond (t := false) rfl ?_
   refine SC.skip ?_
   refine SX.blockN ?_
   refine SX.then ?_
   refine SC.region ?_
   refine PW.move rfl rfl rfl rfl rfl ?_
   refine PW.q2 (x := .tmp 29) (y := .const (.int .i64 1)) (.int .i64 ((j + 1 : Nat))) rfl rfl rfl rfl rfl (fun ρ W h1 h2 => by exact r_add h1 h2 (by omega) (by omega)) ?_
   refine PW.assign rfl rfl rfl rfl rfl ?_
   refine PW.nil ?_
   refine SX.back (j + 1, (q)) ?_ ?_ ?_
   ·exact (hI.no (by omega) hc)
   ·exact (show s.size - (j + 1) < s.size - j by omega)
   ·exact ⟨rfl, rfl, rfl, rfl, rfl, rfl, trivial⟩
 ·obtain rfl : j = s.size := by have := hI.le; omega
  refine SC.region ?_
  refine PW.move rfl rfl rfl rfl rfl ?_
  refine PW.move rfl rfl rfl rfl rfl ?_
  refine PW.qn [(.tmp 26, .string s)] (.int .i64 (s.size : Int)) rfl rfl rfl ⟨rfl, trivial⟩ (fun ρ W h => by obtain ⟨h1, _⟩ := h; exact r_slen h1) ?_
  refine PW.q2 (x := .tmp 25) (y := .tmp 27) (.bool false) rfl rfl rfl rfl rfl (fun ρ W h1 h2 => by exact r_lt h1 h2 (decide_eq_false hj)) ?_
  refine PW.nil ?_
  refine SX.then ?_
  refine SC.cond (t := false) rfl ?_
  refine SC.exit ?_
  refine SX.thenE ?_
  refine SX.thenE ?_
  refine SX.blockE ?_
  refine SX.then ?_
  refine SC.seq ?_
  refine SC.seq ?_
  by_cases hq : q < 0
  ·have hi := hI.none hq
   refine SC.region ?_
   refine PW.move rfl rfl rfl rfl rfl ?_
   refine PW.q2 (x := .tmp 36) (y := .const (.int .i64 0)) (.bool true) rfl rfl rfl rfl rfl (fun ρ W h1 h2 => by exact r_lt h1 h2 (decide_eq_true hq)) ?_
   refine PW.nil ?_
   refine SX.then ?_
   refine SC.cond (t := true) rfl ?_
   refine SC.seq ?_
   by_cases hn : ∃ z, parseR r (byl (s)) = .ok z
   ·obtain ⟨n, hn⟩ := hn
    have NB := parse_bd9 (n := 20000) (m := 4000) hn (by omega) (by decide) (by decide)
    refine SC.region ?_
    refine PW.move rfl rfl rfl rfl rfl ?_
    refine PW.move rfl rfl rfl rfl rfl ?_
    refine PW.call (r := .kw (K2 (KJ (n)) (KV (.int .i64 0)))) rfl rfl rfl rfl rfl rfl (K2.st (KJ.st _) (KV.st _)) rfl (callK k_jparse (by rw [hn]; rfl)) ?_
    refine PW.move rfl rfl rfl rfl rfl ?_
    refine PW.ext (r := .kw (KJ (n))) rfl rfl rfl rfl rfl ex20 (KJ.st _) rfl ?_
    refine PW.ext (r := .vl (.int .i64 0)) rfl rfl rfl rfl rfl ex21v (KV.st _) rfl ?_
    refine PW.alloc (BI 34) rfl rfl rfl rfl rfl bJ ?_
    refine PW.store (x := .tmp 42) (r := .kw (KJ (n))) rfl rfl rfl rfl rfl rfl sh_J ?_
    refine PW.assign rfl rfl rfl rfl rfl ?_
    refine PW.nil ?_
    refine SX.then ?_
    refine SC.seq ?_
    refine SC.seq ?_
    refine SC.region ?_
    refine PW.move rfl rfl rfl rfl rfl ?_
    refine PW.q2 (x := .tmp 44) (y := .const (.int .i64 0)) (.bool false) rfl rfl rfl rfl rfl (fun ρ W h1 h2 => by go_simp) ?_
    refine PW.nil ?_
    refine SX.then ?_
    refine SC.cond (t := false) rfl ?_
    refine SC.skip ?_
    refine SX.then ?_
    refine SC.seq ?_
    refine SC.region ?_
    refine PW.load rfl rfl rfl rfl rfl rfl ?_
    refine PW.call (r := .kw (KR3 (((n : Int) : Rat)).num ((((n : Int) : Rat)).den : Int))) rfl rfl rfl rfl rfl rfl (KR3.st _ _) rfl (k_jrof) ?_
    refine PW.store (x := .tmp 49) (r := .kw (KR3 (((n : Int) : Rat)).num ((((n : Int) : Rat)).den : Int))) rfl rfl rfl rfl rfl rfl sh_R3 ?_
    refine PW.assign rfl rfl rfl rfl rfl ?_
    refine PW.nil ?_
    refine SX.then ?_
    refine SC.ret ?_
    refine SX.thenR ?_
    rw [parseQ_n1 h hl hi hn]
    exact SX.done2 (s := 4) (t := 5) (r := .vl (.int .i64 0)) (.inl rfl) rfl rfl rfl rfl
   ·obtain ⟨en, en0⟩ := parse_err hn
    refine SC.region ?_
    refine PW.move rfl rfl rfl rfl rfl ?_
    refine PW.move rfl rfl rfl rfl rfl ?_
    refine PW.call (r := .kw (K2 (KJ (0)) (KV (.int .i64 en)))) rfl rfl rfl rfl rfl rfl (K2.st (KJ.st _) (KV.st _)) rfl (callK k_jparse (by rw [en0]; rfl)) ?_
    refine PW.move rfl rfl rfl rfl rfl ?_
    refine PW.ext (r := .kw (KJ (0))) rfl rfl rfl rfl rfl ex20 (KJ.st _) rfl ?_
    refine PW.ext (r := .vl (.int .i64 en)) rfl rfl rfl rfl rfl ex21v (KV.st _) rfl ?_
    refine PW.alloc (BI 34) rfl rfl rfl rfl rfl bJ ?_
    refine PW.store (x := .tmp 42) (r := .kw (KJ (0))) rfl rfl rfl rfl rfl rfl sh_J ?_
    refine PW.assign rfl rfl rfl rfl rfl ?_
    refine PW.nil ?_
    refine SX.then ?_
    refine SC.seq ?_
    refine SC.seq ?_
    refine SC.region ?_
    refine PW.move rfl rfl rfl rfl rfl ?_
    refine PW.q2 (x := .tmp 44) (y := .const (.int .i64 0)) (.bool true) rfl rfl rfl rfl rfl (fun ρ W h1 h2 => by exact r_neE h1 h2 (parse_ne en0)) ?_
    refine PW.nil ?_
    refine SX.then ?_
    refine SC.cond (t := true) rfl ?_
    refine SC.seq ?_
    refine SC.region ?_
    refine PW.call (r := .kw (KR3 (((0 : Int) : Rat)).num ((((0 : Int) : Rat)).den : Int))) rfl rfl rfl rfl rfl rfl (KR3.st _ _) rfl (k_jrint (by decide)) ?_
    refine PW.move rfl rfl rfl rfl rfl ?_
    refine PW.store (x := .tmp 46) (r := .kw (KR3 (((0 : Int) : Rat)).num ((((0 : Int) : Rat)).den : Int))) rfl rfl rfl rfl rfl rfl sh_R3 ?_
    refine PW.assign rfl rfl rfl rfl rfl ?_
    refine PW.nil ?_
    refine SX.then ?_
    refine SC.ret ?_
    refine SX.thenR ?_
    refine SX.thenR ?_
    rw [parseQ_n2 h hl hi en0]
    exact SX.done2 (s := 4) (t := 5) (r := .vl (.int .i64 en)) (.inl rfl) rfl rfl rfl rfl
  ·obtain ⟨k, rfl, hk1, hk2, hk3⟩ := hI.some hq
   refine SC.region ?_
   refine PW.move rfl rfl rfl rfl rfl ?_
   refine PW.q2 (x := .tmp 36) (y := .const (.int .i64 0)) (.bool false) rfl rfl rfl rfl rfl (fun ρ W h1 h2 => by exact r_lt h1 h2 (decide_eq_false hq)) ?_
   refine PW.nil ?_
   refine SX.then ?_
   refine SC.cond (t := false) rfl ?_
   refine SC.skip ?_
   refine SX.then ?_
   refine SC.seq ?_
   by_cases hn : ∃ z, parseR r (byl (s.extract 0 k)) = .ok z
   ·obtain ⟨n, hn⟩ := hn
    have NB := parse_bd9 (n := 20000) (m := 4000) hn (by rw [ext_size]; omega) (by decide) (by decide)
    refine SC.region ?_
    refine PW.move rfl rfl rfl rfl rfl ?_
    refine PW.move rfl rfl rfl rfl rfl ?_
    refine PW.qn [(.tmp 51, .string s), (.tmp 52, .int .i64 (k : Int))] (.string (s.extract 0 k)) rfl rfl rfl ⟨rfl, rfl, trivial⟩ (fun ρ W h => by obtain ⟨h1, h2, _⟩ := h; exact r_sto h1 h2 (by omega)) ?_
    refine PW.move rfl rfl rfl rfl rfl ?_
    refine PW.call (r := .kw (K2 (KJ (n)) (KV (.int .i64 0)))) rfl rfl rfl rfl rfl rfl (K2.st (KJ.st _) (KV.st _)) rfl (callK k_jparse (by rw [hn]; rfl)) ?_
    refine PW.move rfl rfl rfl rfl rfl ?_
    refine PW.ext (r := .kw (KJ (n))) rfl rfl rfl rfl rfl ex20 (KJ.st _) rfl ?_
    refine PW.ext (r := .vl (.int .i64 0)) rfl rfl rfl rfl rfl ex21v (KV.st _) rfl ?_
    refine PW.alloc (BI 34) rfl rfl rfl rfl rfl bJ ?_
    refine PW.store (x := .tmp 56) (r := .kw (KJ (n))) rfl rfl rfl rfl rfl rfl sh_J ?_
    refine PW.assign rfl rfl rfl rfl rfl ?_
    refine PW.nil ?_
    refine SX.then ?_
    refine SC.seq ?_
    by_cases hd : ∃ z, parseR r (byl (s.extract (k + 1) s.size)) = .ok z
    ·obtain ⟨d, hd⟩ := hd
     have DB := parse_bd9 (n := 20000) (m := 4000) hd (by rw [ext_size]; omega) (by decide) (by decide)
     refine SC.region ?_
     refine PW.move rfl rfl rfl rfl rfl ?_
     refine PW.move rfl rfl rfl rfl rfl ?_
     refine PW.q2 (x := .tmp 60) (y := .const (.int .i64 1)) (.int .i64 (((k + 1 : Nat) : Int))) rfl rfl rfl rfl rfl (fun ρ W h1 h2 => by exact r_add h1 h2 (by omega) (by omega)) ?_
     refine PW.qn [(.tmp 59, .string s), (.tmp 61, .int .i64 (((k + 1 : Nat) : Int)))] (.string (s.extract (k + 1) s.size)) rfl rfl rfl ⟨rfl, rfl, trivial⟩ (fun ρ W h => by obtain ⟨h1, h2, _⟩ := h; exact r_sfrom h1 h2 (by omega)) ?_
     refine PW.move rfl rfl rfl rfl rfl ?_
     refine PW.call (r := .kw (K2 (KJ (d)) (KV (.int .i64 0)))) rfl rfl rfl rfl rfl rfl (K2.st (KJ.st _) (KV.st _)) rfl (callK k_jparse (by rw [hd]; rfl)) ?_
     refine PW.move rfl rfl rfl rfl rfl ?_
     refine PW.ext (r := .kw (KJ (d))) rfl rfl rfl rfl rfl ex20 (KJ.st _) rfl ?_
     refine PW.ext (r := .vl (.int .i64 0)) rfl rfl rfl rfl rfl ex21v (KV.st _) rfl ?_
     refine PW.alloc (BI 34) rfl rfl rfl rfl rfl bJ ?_
     refine PW.store (x := .tmp 65) (r := .kw (KJ (d))) rfl rfl rfl rfl rfl rfl sh_J ?_
     refine PW.assign rfl rfl rfl rfl rfl ?_
     refine PW.nil ?_
     refine SX.then ?_
     refine SC.seq ?_
     refine SC.seq ?_
     by_cases hp : at0 (byl s) (k + 1) = 43
     ·refine SC.region ?_
      refine PW.move rfl rfl rfl rfl rfl ?_
      refine PW.q2 (x := .tmp 67) (y := .const (.int .i64 0)) (.bool false) rfl rfl rfl rfl rfl (fun ρ W h1 h2 => by go_simp) ?_
      refine PW.move rfl rfl rfl rfl rfl ?_
      refine PW.move rfl rfl rfl rfl rfl ?_
      refine PW.q2 (x := .tmp 70) (y := .const (.int .i64 0)) (.bool false) rfl rfl rfl rfl rfl (fun ρ W h1 h2 => by go_simp) ?_
      refine PW.pick (t := false) rfl rfl rfl rfl rfl rfl ?_
      refine PW.move rfl rfl rfl rfl rfl ?_
      refine PW.move rfl rfl rfl rfl rfl ?_
      refine PW.move rfl rfl rfl rfl rfl ?_
      refine PW.q2 (x := .tmp 75) (y := .const (.int .i64 1)) (.int .i64 (((k + 1 : Nat) : Int))) rfl rfl rfl rfl rfl (fun ρ W h1 h2 => by exact r_add h1 h2 (by omega) (by omega)) ?_
      refine PW.qn [(.tmp 74, .string s), (.tmp 76, .int .i64 (((k + 1 : Nat) : Int)))] (.int .u8 (at0 (byl s) (k + 1))) rfl rfl rfl ⟨rfl, rfl, trivial⟩ (fun ρ W h => by obtain ⟨h1, h2, _⟩ := h; exact r_sidx (i := k + 1) h1 h2 (parse_len hd)) ?_
      refine PW.q2 (x := .tmp 77) (y := .const (.int .u8 43)) (.bool true) rfl rfl rfl rfl rfl (fun ρ W h1 h2 => by exact r_eq8 h1 h2 (decide_eq_true hp)) ?_
      refine PW.pick (t := false) rfl rfl rfl rfl rfl rfl ?_
      refine PW.move rfl rfl rfl rfl rfl ?_
      refine PW.skip rfl rfl rfl ?_
      refine PW.skip rfl rfl rfl ?_
      refine PW.skip rfl rfl rfl ?_
      refine PW.skip rfl rfl rfl ?_
      refine PW.skip rfl rfl rfl ?_
      refine PW.pick (t := true) rfl rfl rfl rfl rfl rfl ?_
      refine PW.nil ?_
      refine SX.then ?_
      refine SC.cond (t := true) rfl ?_
      refine SC.seq ?_
      refine SC.region ?_
      refine PW.call (r := .kw (KR3 (((0 : Int) : Rat)).num ((((0 : Int) : Rat)).den : Int))) rfl rfl rfl rfl rfl rfl (KR3.st _ _) rfl (k_jrint (by decide)) ?_
      refine PW.store (x := .tmp 87) (r := .kw (KR3 (((0 : Int) : Rat)).num ((((0 : Int) : Rat)).den : Int))) rfl rfl rfl rfl rfl rfl sh_R3 ?_
      refine PW.assign rfl rfl rfl rfl rfl ?_
      refine PW.nil ?_
      refine SX.then ?_
      refine SC.ret ?_
      refine SX.thenR ?_
      rw [pq_sgn h hl hk1 hk2 hk3 hn hd (.inl hp)]
      exact SX.done2 (s := 4) (t := 5) (r := .vl (.int .i64 2)) (.inl rfl) rfl rfl rfl rfl
     ·by_cases hm : at0 (byl s) (k + 1) = 45
      ·refine SC.region ?_
       refine PW.move rfl rfl rfl rfl rfl ?_
       refine PW.q2 (x := .tmp 67) (y := .const (.int .i64 0)) (.bool false) rfl rfl rfl rfl rfl (fun ρ W h1 h2 => by go_simp) ?_
       refine PW.move rfl rfl rfl rfl rfl ?_
       refine PW.move rfl rfl rfl rfl rfl ?_
       refine PW.q2 (x := .tmp 70) (y := .const (.int .i64 0)) (.bool false) rfl rfl rfl rfl rfl (fun ρ W h1 h2 => by go_simp) ?_
       refine PW.pick (t := false) rfl rfl rfl rfl rfl rfl ?_
       refine PW.move rfl rfl rfl rfl rfl ?_
       refine PW.move rfl rfl rfl rfl rfl ?_
       refine PW.move rfl rfl rfl rfl rfl ?_
       refine PW.q2 (x := .tmp 75) (y := .const (.int .i64 1)) (.int .i64 (((k + 1 : Nat) : Int))) rfl rfl rfl rfl rfl (fun ρ W h1 h2 => by exact r_add h1 h2 (by omega) (by omega)) ?_
       refine PW.qn [(.tmp 74, .string s), (.tmp 76, .int .i64 (((k + 1 : Nat) : Int)))] (.int .u8 (at0 (byl s) (k + 1))) rfl rfl rfl ⟨rfl, rfl, trivial⟩ (fun ρ W h => by obtain ⟨h1, h2, _⟩ := h; exact r_sidx (i := k + 1) h1 h2 (parse_len hd)) ?_
       refine PW.q2 (x := .tmp 77) (y := .const (.int .u8 43)) (.bool false) rfl rfl rfl rfl rfl (fun ρ W h1 h2 => by exact r_eq8 h1 h2 (decide_eq_false hp)) ?_
       refine PW.pick (t := false) rfl rfl rfl rfl rfl rfl ?_
       refine PW.move rfl rfl rfl rfl rfl ?_
       refine PW.move rfl rfl rfl rfl rfl ?_
       refine PW.move rfl rfl rfl rfl rfl ?_
       refine PW.q2 (x := .tmp 82) (y := .const (.int .i64 1)) (.int .i64 (((k + 1 : Nat) : Int))) rfl rfl rfl rfl rfl (fun ρ W h1 h2 => by exact r_add h1 h2 (by omega) (by omega)) ?_
       refine PW.qn [(.tmp 81, .string s), (.tmp 83, .int .i64 (((k + 1 : Nat) : Int)))] (.int .u8 (at0 (byl s) (k + 1))) rfl rfl rfl ⟨rfl, rfl, trivial⟩ (fun ρ W h => by obtain ⟨h1, h2, _⟩ := h; exact r_sidx (i := k + 1) h1 h2 (parse_len hd)) ?_
       refine PW.q2 (x := .tmp 84) (y := .const (.int .u8 45)) (.bool true) rfl rfl rfl rfl rfl (fun ρ W h1 h2 => by exact r_eq8 h1 h2 (decide_eq_true hm)) ?_
       refine PW.pick (t := false) rfl rfl rfl rfl rfl rfl ?_
       refine PW.nil ?_
       refine SX.then ?_
       refine SC.cond (t := true) rfl ?_
       refine SC.seq ?_
       refine SC.region ?_
       refine PW.call (r := .kw (KR3 (((0 : Int) : Rat)).num ((((0 : Int) : Rat)).den : Int))) rfl rfl rfl rfl rfl rfl (KR3.st _ _) rfl (k_jrint (by decide)) ?_
       refine PW.store (x := .tmp 87) (r := .kw (KR3 (((0 : Int) : Rat)).num ((((0 : Int) : Rat)).den : Int))) rfl rfl rfl rfl rfl rfl sh_R3 ?_
       refine PW.assign rfl rfl rfl rfl rfl ?_
       refine PW.nil ?_
       refine SX.then ?_
       refine SC.ret ?_
       refine SX.thenR ?_
       rw [pq_sgn h hl hk1 hk2 hk3 hn hd (.inr hm)]
       exact SX.done2 (s := 4) (t := 5) (r := .vl (.int .i64 2)) (.inl rfl) rfl rfl rfl rfl
      ·refine SC.region ?_
       refine PW.move rfl rfl rfl rfl rfl ?_
       refine PW.q2 (x := .tmp 67) (y := .const (.int .i64 0)) (.bool false) rfl rfl rfl rfl rfl (fun ρ W h1 h2 => by go_simp) ?_
       refine PW.move rfl rfl rfl rfl rfl ?_
       refine PW.move rfl rfl rfl rfl rfl ?_
       refine PW.q2 (x := .tmp 70) (y := .const (.int .i64 0)) (.bool false) rfl rfl rfl rfl rfl (fun ρ W h1 h2 => by go_simp) ?_
       refine PW.pick (t := false) rfl rfl rfl rfl rfl rfl ?_
       refine PW.move rfl rfl rfl rfl rfl ?_
       refine PW.move rfl rfl rfl rfl rfl ?_
       refine PW.move rfl rfl rfl rfl rfl ?_
       refine PW.q2 (x := .tmp 75) (y := .const (.int .i64 1)) (.int .i64 (((k + 1 : Nat) : Int))) rfl rfl rfl rfl rfl (fun ρ W h1 h2 => by exact r_add h1 h2 (by omega) (by omega)) ?_
       refine PW.qn [(.tmp 74, .string s), (.tmp 76, .int .i64 (((k + 1 : Nat) : Int)))] (.int .u8 (at0 (byl s) (k + 1))) rfl rfl rfl ⟨rfl, rfl, trivial⟩ (fun ρ W h => by obtain ⟨h1, h2, _⟩ := h; exact r_sidx (i := k + 1) h1 h2 (parse_len hd)) ?_
       refine PW.q2 (x := .tmp 77) (y := .const (.int .u8 43)) (.bool false) rfl rfl rfl rfl rfl (fun ρ W h1 h2 => by exact r_eq8 h1 h2 (decide_eq_false hp)) ?_
       refine PW.pick (t := false) rfl rfl rfl rfl rfl rfl ?_
       refine PW.move rfl rfl rfl rfl rfl ?_
       refine PW.move rfl rfl rfl rfl rfl ?_
       refine PW.move rfl rfl rfl rfl rfl ?_
       refine PW.q2 (x := .tmp 82) (y := .const (.int .i64 1)) (.int .i64 (((k + 1 : Nat) : Int))) rfl rfl rfl rfl rfl (fun ρ W h1 h2 => by exact r_add h1 h2 (by omega) (by omega)) ?_
       refine PW.qn [(.tmp 81, .string s), (.tmp 83, .int .i64 (((k + 1 : Nat) : Int)))] (.int .u8 (at0 (byl s) (k + 1))) rfl rfl rfl ⟨rfl, rfl, trivial⟩ (fun ρ W h => by obtain ⟨h1, h2, _⟩ := h; exact r_sidx (i := k + 1) h1 h2 (parse_len hd)) ?_
       refine PW.q2 (x := .tmp 84) (y := .const (.int .u8 45)) (.bool false) rfl rfl rfl rfl rfl (fun ρ W h1 h2 => by exact r_eq8 h1 h2 (decide_eq_false hm)) ?_
       refine PW.pick (t := false) rfl rfl rfl rfl rfl rfl ?_
       refine PW.nil ?_
       refine SX.then ?_
       refine SC.cond (t := false) rfl ?_
       refine SC.skip ?_
       refine SX.then ?_
       refine SC.seq ?_
       by_cases h0 : d = 0
       ·refine SC.region ?_
        refine PW.load rfl rfl rfl rfl rfl rfl ?_
        refine PW.load rfl rfl rfl rfl rfl rfl ?_
        refine PW.call (r := .kw (K2 (KR3 (((0 : Int) : Rat)).num ((((0 : Int) : Rat)).den : Int)) (KV (.int .i64 6)))) rfl rfl rfl rfl rfl rfl (K2.st (KR3.st _ _) (KV.st _)) rfl (k_jrnew0 h0) ?_
        refine PW.ext (r := .kw (KR3 (((0 : Int) : Rat)).num ((((0 : Int) : Rat)).den : Int))) rfl rfl rfl rfl rfl ex20 (KR3.st _ _) rfl ?_
        refine PW.ext (r := .vl (.int .i64 6)) rfl rfl rfl rfl rfl ex21v (KV.st _) rfl ?_
        refine PW.store (x := .tmp 91) (r := .kw (KR3 (((0 : Int) : Rat)).num ((((0 : Int) : Rat)).den : Int))) rfl rfl rfl rfl rfl rfl sh_R3 ?_
        refine PW.assign rfl rfl rfl rfl rfl ?_
        refine PW.nil ?_
        refine SX.then ?_
        refine SC.ret ?_
        rw [pq_zero h hl hk1 hk2 hk3 hn hd hp hm h0]
        exact SX.done2 (s := 4) (t := 5) (r := .vl (.int .i64 6)) (.inl rfl) rfl rfl rfl rfl
       ·refine SC.region ?_
        refine PW.load rfl rfl rfl rfl rfl rfl ?_
        refine PW.load rfl rfl rfl rfl rfl rfl ?_
        refine PW.call (r := .kw (K2 (KR3 (Rat.divInt (n) (d)).num ((Rat.divInt (n) (d)).den : Int)) (KV (.int .i64 0)))) rfl rfl rfl rfl rfl rfl (K2.st (KR3.st _ _) (KV.st _)) rfl (k_jrnew NB DB h0 (by omega) (by omega)) ?_
        refine PW.ext (r := .kw (KR3 (Rat.divInt (n) (d)).num ((Rat.divInt (n) (d)).den : Int))) rfl rfl rfl rfl rfl ex20 (KR3.st _ _) rfl ?_
        refine PW.ext (r := .vl (.int .i64 0)) rfl rfl rfl rfl rfl ex21v (KV.st _) rfl ?_
        refine PW.store (x := .tmp 91) (r := .kw (KR3 (Rat.divInt (n) (d)).num ((Rat.divInt (n) (d)).den : Int))) rfl rfl rfl rfl rfl rfl sh_R3 ?_
        refine PW.assign rfl rfl rfl rfl rfl ?_
        refine PW.nil ?_
        refine SX.then ?_
        refine SC.ret ?_
        rw [pq_ok h hl hk1 hk2 hk3 hn hd hp hm h0]
        exact SX.done2 (s := 4) (t := 5) (r := .vl (.int .i64 0)) (.inl rfl) rfl rfl rfl rfl
    ·obtain ⟨ed, ed0⟩ := parse_err hd
     refine SC.region ?_
     refine PW.move rfl rfl rfl rfl rfl ?_
     refine PW.move rfl rfl rfl rfl rfl ?_
     refine PW.q2 (x := .tmp 60) (y := .const (.int .i64 1)) (.int .i64 (((k + 1 : Nat) : Int))) rfl rfl rfl rfl rfl (fun ρ W h1 h2 => by exact r_add h1 h2 (by omega) (by omega)) ?_
     refine PW.qn [(.tmp 59, .string s), (.tmp 61, .int .i64 (((k + 1 : Nat) : Int)))] (.string (s.extract (k + 1) s.size)) rfl rfl rfl ⟨rfl, rfl, trivial⟩ (fun ρ W h => by obtain ⟨h1, h2, _⟩ := h; exact r_sfrom h1 h2 (by omega)) ?_
     refine PW.move rfl rfl rfl rfl rfl ?_
     refine PW.call (r := .kw (K2 (KJ (0)) (KV (.int .i64 ed)))) rfl rfl rfl rfl rfl rfl (K2.st (KJ.st _) (KV.st _)) rfl (callK k_jparse (by rw [ed0]; rfl)) ?_
     refine PW.move rfl rfl rfl rfl rfl ?_
     refine PW.ext (r := .kw (KJ (0))) rfl rfl rfl rfl rfl ex20 (KJ.st _) rfl ?_
     refine PW.ext (r := .vl (.int .i64 ed)) rfl rfl rfl rfl rfl ex21v (KV.st _) rfl ?_
     refine PW.alloc (BI 34) rfl rfl rfl rfl rfl bJ ?_
     refine PW.store (x := .tmp 65) (r := .kw (KJ (0))) rfl rfl rfl rfl rfl rfl sh_J ?_
     refine PW.assign rfl rfl rfl rfl rfl ?_
     refine PW.nil ?_
     refine SX.then ?_
     refine SC.seq ?_
     refine SC.seq ?_
     refine SC.region ?_
     refine PW.move rfl rfl rfl rfl rfl ?_
     refine PW.q2 (x := .tmp 67) (y := .const (.int .i64 0)) (.bool false) rfl rfl rfl rfl rfl (fun ρ W h1 h2 => by go_simp) ?_
     refine PW.move rfl rfl rfl rfl rfl ?_
     refine PW.move rfl rfl rfl rfl rfl ?_
     refine PW.q2 (x := .tmp 70) (y := .const (.int .i64 0)) (.bool true) rfl rfl rfl rfl rfl (fun ρ W h1 h2 => by exact r_neE h1 h2 (parse_ne ed0)) ?_
     refine PW.pick (t := false) rfl rfl rfl rfl rfl rfl ?_
     refine PW.move rfl rfl rfl rfl rfl ?_
     refine PW.skip rfl rfl rfl ?_
     refine PW.skip rfl rfl rfl ?_
     refine PW.skip rfl rfl rfl ?_
     refine PW.skip rfl rfl rfl ?_
     refine PW.skip rfl rfl rfl ?_
     refine PW.pick (t := true) rfl rfl rfl rfl rfl rfl ?_
     refine PW.move rfl rfl rfl rfl rfl ?_
     refine PW.skip rfl rfl rfl ?_
     refine PW.skip rfl rfl rfl ?_
     refine PW.skip rfl rfl rfl ?_
     refine PW.skip rfl rfl rfl ?_
     refine PW.skip rfl rfl rfl ?_
     refine PW.pick (t := true) rfl rfl rfl rfl rfl rfl ?_
     refine PW.nil ?_
     refine SX.then ?_
     refine SC.cond (t := true) rfl ?_
     refine SC.seq ?_
     refine SC.region ?_
     refine PW.call (r := .kw (KR3 (((0 : Int) : Rat)).num ((((0 : Int) : Rat)).den : Int))) rfl rfl rfl rfl rfl rfl (KR3.st _ _) rfl (k_jrint (by decide)) ?_
     refine PW.store (x := .tmp 87) (r := .kw (KR3 (((0 : Int) : Rat)).num ((((0 : Int) : Rat)).den : Int))) rfl rfl rfl rfl rfl rfl sh_R3 ?_
     refine PW.assign rfl rfl rfl rfl rfl ?_
     refine PW.nil ?_
     refine SX.then ?_
     refine SC.ret ?_
     refine SX.thenR ?_
     rw [pq_bot h hl hk1 hk2 hk3 hn ed0]
     exact SX.done2 (s := 4) (t := 5) (r := .vl (.int .i64 2)) (.inl rfl) rfl rfl rfl rfl
   ·obtain ⟨en, en0⟩ := parse_err hn
    refine SC.region ?_
    refine PW.move rfl rfl rfl rfl rfl ?_
    refine PW.move rfl rfl rfl rfl rfl ?_
    refine PW.qn [(.tmp 51, .string s), (.tmp 52, .int .i64 (k : Int))] (.string (s.extract 0 k)) rfl rfl rfl ⟨rfl, rfl, trivial⟩ (fun ρ W h => by obtain ⟨h1, h2, _⟩ := h; exact r_sto h1 h2 (by omega)) ?_
    refine PW.move rfl rfl rfl rfl rfl ?_
    refine PW.call (r := .kw (K2 (KJ (0)) (KV (.int .i64 en)))) rfl rfl rfl rfl rfl rfl (K2.st (KJ.st _) (KV.st _)) rfl (callK k_jparse (by rw [en0]; rfl)) ?_
    refine PW.move rfl rfl rfl rfl rfl ?_
    refine PW.ext (r := .kw (KJ (0))) rfl rfl rfl rfl rfl ex20 (KJ.st _) rfl ?_
    refine PW.ext (r := .vl (.int .i64 en)) rfl rfl rfl rfl rfl ex21v (KV.st _) rfl ?_
    refine PW.alloc (BI 34) rfl rfl rfl rfl rfl bJ ?_
    refine PW.store (x := .tmp 56) (r := .kw (KJ (0))) rfl rfl rfl rfl rfl rfl sh_J ?_
    refine PW.assign rfl rfl rfl rfl rfl ?_
    refine PW.nil ?_
    refine SX.then ?_
    refine SC.seq ?_
    by_cases hd : ∃ z, parseR r (byl (s.extract (k + 1) s.size)) = .ok z
    ·obtain ⟨d, hd⟩ := hd
     have DB := parse_bd9 (n := 20000) (m := 4000) hd (by rw [ext_size]; omega) (by decide) (by decide)
     refine SC.region ?_
     refine PW.move rfl rfl rfl rfl rfl ?_
     refine PW.move rfl rfl rfl rfl rfl ?_
     refine PW.q2 (x := .tmp 60) (y := .const (.int .i64 1)) (.int .i64 (((k + 1 : Nat) : Int))) rfl rfl rfl rfl rfl (fun ρ W h1 h2 => by exact r_add h1 h2 (by omega) (by omega)) ?_
     refine PW.qn [(.tmp 59, .string s), (.tmp 61, .int .i64 (((k + 1 : Nat) : Int)))] (.string (s.extract (k + 1) s.size)) rfl rfl rfl ⟨rfl, rfl, trivial⟩ (fun ρ W h => by obtain ⟨h1, h2, _⟩ := h; exact r_sfrom h1 h2 (by omega)) ?_
     refine PW.move rfl rfl rfl rfl rfl ?_
     refine PW.call (r := .kw (K2 (KJ (d)) (KV (.int .i64 0)))) rfl rfl rfl rfl rfl rfl (K2.st (KJ.st _) (KV.st _)) rfl (callK k_jparse (by rw [hd]; rfl)) ?_
     refine PW.move rfl rfl rfl rfl rfl ?_
     refine PW.ext (r := .kw (KJ (d))) rfl rfl rfl rfl rfl ex20 (KJ.st _) rfl ?_
     refine PW.ext (r := .vl (.int .i64 0)) rfl rfl rfl rfl rfl ex21v (KV.st _) rfl ?_
     refine PW.alloc (BI 34) rfl rfl rfl rfl rfl bJ ?_
     refine PW.store (x := .tmp 65) (r := .kw (KJ (d))) rfl rfl rfl rfl rfl rfl sh_J ?_
     refine PW.assign rfl rfl rfl rfl rfl ?_
     refine PW.nil ?_
     refine SX.then ?_
     refine SC.seq ?_
     refine SC.seq ?_
     refine SC.region ?_
     refine PW.move rfl rfl rfl rfl rfl ?_
     refine PW.q2 (x := .tmp 67) (y := .const (.int .i64 0)) (.bool true) rfl rfl rfl rfl rfl (fun ρ W h1 h2 => by exact r_neE h1 h2 (parse_ne en0)) ?_
     refine PW.move rfl rfl rfl rfl rfl ?_
     refine PW.skip rfl rfl rfl ?_
     refine PW.skip rfl rfl rfl ?_
     refine PW.pick (t := true) rfl rfl rfl rfl rfl rfl ?_
     refine PW.move rfl rfl rfl rfl rfl ?_
     refine PW.skip rfl rfl rfl ?_
     refine PW.skip rfl rfl rfl ?_
     refine PW.skip rfl rfl rfl ?_
     refine PW.skip rfl rfl rfl ?_
     refine PW.skip rfl rfl rfl ?_
     refine PW.pick (t := true) rfl rfl rfl rfl rfl rfl ?_
     refine PW.move rfl rfl rfl rfl rfl ?_
     refine PW.skip rfl rfl rfl ?_
     refine PW.skip rfl rfl rfl ?_
     refine PW.skip rfl rfl rfl ?_
     refine PW.skip rfl rfl rfl ?_
     refine PW.skip rfl rfl rfl ?_
     refine PW.pick (t := true) rfl rfl rfl rfl rfl rfl ?_
     refine PW.nil ?_
     refine SX.then ?_
     refine SC.cond (t := true) rfl ?_
     refine SC.seq ?_
     refine SC.region ?_
     refine PW.call (r := .kw (KR3 (((0 : Int) : Rat)).num ((((0 : Int) : Rat)).den : Int))) rfl rfl rfl rfl rfl rfl (KR3.st _ _) rfl (k_jrint (by decide)) ?_
     refine PW.store (x := .tmp 87) (r := .kw (KR3 (((0 : Int) : Rat)).num ((((0 : Int) : Rat)).den : Int))) rfl rfl rfl rfl rfl rfl sh_R3 ?_
     refine PW.assign rfl rfl rfl rfl rfl ?_
     refine PW.nil ?_
     refine SX.then ?_
     refine SC.ret ?_
     refine SX.thenR ?_
     rw [pq_top h hl hk1 hk2 hk3 en0]
     exact SX.done2 (s := 4) (t := 5) (r := .vl (.int .i64 2)) (.inl rfl) rfl rfl rfl rfl
    ·obtain ⟨ed, ed0⟩ := parse_err hd
     refine SC.region ?_
     refine PW.move rfl rfl rfl rfl rfl ?_
     refine PW.move rfl rfl rfl rfl rfl ?_
     refine PW.q2 (x := .tmp 60) (y := .const (.int .i64 1)) (.int .i64 (((k + 1 : Nat) : Int))) rfl rfl rfl rfl rfl (fun ρ W h1 h2 => by exact r_add h1 h2 (by omega) (by omega)) ?_
     refine PW.qn [(.tmp 59, .string s), (.tmp 61, .int .i64 (((k + 1 : Nat) : Int)))] (.string (s.extract (k + 1) s.size)) rfl rfl rfl ⟨rfl, rfl, trivial⟩ (fun ρ W h => by obtain ⟨h1, h2, _⟩ := h; exact r_sfrom h1 h2 (by omega)) ?_
     refine PW.move rfl rfl rfl rfl rfl ?_
     refine PW.call (r := .kw (K2 (KJ (0)) (KV (.int .i64 ed)))) rfl rfl rfl rfl rfl rfl (K2.st (KJ.st _) (KV.st _)) rfl (callK k_jparse (by rw [ed0]; rfl)) ?_
     refine PW.move rfl rfl rfl rfl rfl ?_
     refine PW.ext (r := .kw (KJ (0))) rfl rfl rfl rfl rfl ex20 (KJ.st _) rfl ?_
     refine PW.ext (r := .vl (.int .i64 ed)) rfl rfl rfl rfl rfl ex21v (KV.st _) rfl ?_
     refine PW.alloc (BI 34) rfl rfl rfl rfl rfl bJ ?_
     refine PW.store (x := .tmp 65) (r := .kw (KJ (0))) rfl rfl rfl rfl rfl rfl sh_J ?_
     refine PW.assign rfl rfl rfl rfl rfl ?_
     refine PW.nil ?_
     refine SX.then ?_
     refine SC.seq ?_
     refine SC.seq ?_
     refine SC.region ?_
     refine PW.move rfl rfl rfl rfl rfl ?_
     refine PW.q2 (x := .tmp 67) (y := .const (.int .i64 0)) (.bool true) rfl rfl rfl rfl rfl (fun ρ W h1 h2 => by exact r_neE h1 h2 (parse_ne en0)) ?_
     refine PW.move rfl rfl rfl rfl rfl ?_
     refine PW.skip rfl rfl rfl ?_
     refine PW.skip rfl rfl rfl ?_
     refine PW.pick (t := true) rfl rfl rfl rfl rfl rfl ?_
     refine PW.move rfl rfl rfl rfl rfl ?_
     refine PW.skip rfl rfl rfl ?_
     refine PW.skip rfl rfl rfl ?_
     refine PW.skip rfl rfl rfl ?_
     refine PW.skip rfl rfl rfl ?_
     refine PW.skip rfl rfl rfl ?_
     refine PW.pick (t := true) rfl rfl rfl rfl rfl rfl ?_
     refine PW.move rfl rfl rfl rfl rfl ?_
     refine PW.skip rfl rfl rfl ?_
     refine PW.skip rfl rfl rfl ?_
     refine PW.skip rfl rfl rfl ?_
     refine PW.skip rfl rfl rfl ?_
     refine PW.skip rfl rfl rfl ?_
     refine PW.pick (t := true) rfl rfl rfl rfl rfl rfl ?_
     refine PW.nil ?_
     refine SX.then ?_
     refine SC.cond (t := true) rfl ?_
     refine SC.seq ?_
     refine SC.region ?_
     refine PW.call (r := .kw (KR3 (((0 : Int) : Rat)).num ((((0 : Int) : Rat)).den : Int))) rfl rfl rfl rfl rfl rfl (KR3.st _ _) rfl (k_jrint (by decide)) ?_
     refine PW.store (x := .tmp 87) (r := .kw (KR3 (((0 : Int) : Rat)).num ((((0 : Int) : Rat)).den : Int))) rfl rfl rfl rfl rfl rfl sh_R3 ?_
     refine PW.assign rfl rfl rfl rfl rfl ?_
     refine PW.nil ?_
     refine SX.then ?_
     refine SC.ret ?_
     refine SX.thenR ?_
     rw [pq_top h hl hk1 hk2 hk3 en0]
     exact SX.done2 (s := 4) (t := 5) (r := .vl (.int .i64 2)) (.inl rfl) rfl rfl rfl rfl
theorem k_jqparse {s : ByteArray} {r : Int} : CallOk 30 [KV (.string s), KV (.int .i64 (r))] (KPF (parseQ r s)) := by
 by_cases h : 2 ≤ r ∧ r ≤ 36
 ·by_cases hl : 20000 < s.size
  ·exact k_jqparse_long h hl
  ·exact k_jqparse_ok h hl
 ·exact k_jqparse_radix h
end Go.Proofs.YthpjmhhfcechmaaGreat.Sy
/- The contract of chapter 03's Short. -/
set_option linter.unusedVariables false
set_option linter.unusedSimpArgs false
namespace Go.Proofs.YthpjmhhfcechmaaGreat
open Go.RowKit Ma

abbrev Qq := Nn × Nn
def Qs (w : World) (b : Nat) (qs : List Qq) : Prop := ∀ i n A l c m D k d, qs[i]? = some ((n, A, l, c), (m, D, k, d)) → w.cell? ⟨b, i * 4, none⟩ = some (.bool n) ∧ w.cell? ⟨b, i * 4 + 1, none⟩ = some (.slice A l c) ∧ w.cell? ⟨b, i * 4 + 2, none⟩ = some (.bool m) ∧ w.cell? ⟨b, i * 4 + 3, none⟩ = some (.slice D k d)
theorem Qs.nw {w W : World} {b : Nat} {qs : List Qq} (h : Qs w b qs) (k : Nw w W) : Qs W b qs := fun i n A l c m D j d e => have ⟨h1, h2, h3, h4⟩ := h i n A l c m D j d e; ⟨k.c h1, k.c h2, k.c h3, k.c h4⟩
def shQ (most : Nat) (qs : List Qq) : Bool := qs.all fun x => shB most [x.1, x.2]
set_option maxHeartbeats 1600000 in
set_option maxRecDepth 100000 in
theorem short31_c {n m : Bool} {A D : Option Addr} {l c k d p most : Nat} {w : World} (hc : w.cell? ⟨p, 0, none⟩ = some (.int .i64 most)) (hl : l ≤ 9223372036854775807) (hk : k ≤ 9223372036854775807) (hm : most ≤ 1000) {b : Bool} (hb : (!shB most [(n, A, l, c), (m, D, k, d)]) = b) :
  Calls Tryz.prog 72 #[.agg #[.bool n, .slice A l c, .bool m, .slice D k d], .pointer (some ⟨p, 0, none⟩)] w (Ret w (KV (.bool b))) := by
 subst hb
 have nw1 := (Nw.refl w).alloc (.cells #[.bool n, .slice A l c, .bool m, .slice D k d] 26)
 have hc2 := nw1.c hc
 have nw2 := nw1.alloc (.cells #[.bool n, .slice A l c, .bool m, .slice D k d] 24)
 have hns : Ns ((w.alloc (.cells #[.bool n, .slice A l c, .bool m, .slice D k d] 26)).alloc (.cells #[.bool n, .slice A l c, .bool m, .slice D k d] 24)) (w.heap.size + 1) [(n, A, l, c), (m, D, k, d)] := by
  have := Sy.ns_lit2 (n1 := n) (A1 := A) (l1 := l) (c1 := c) (n2 := m) (A2 := D) (l2 := k) (c2 := d) (w.alloc (.cells #[.bool n, .slice A l c, .bool m, .slice D k d] 26))
  simpa using this
 have hLL : ∀ x ∈ [(n, A, l, c), (m, D, k, d)], x.2.2.1 ≤ 9223372036854775807 := fun x hx => by simp at hx; rcases hx with rfl | rfl <;> assumption
 have HN := Lib.hid hns
 have HL := Lib.hid hLL
 clear hns hLL
 go_enter Tryz.func72, Tryz.ntmps72
 go_wp2_with (go_at_call 11; refine (short_l (b := w.heap.size + 1) most [(n, A, l, c), (m, D, k, d)] rfl rfl HN.out hm (by simp) HL.out).mono ?_; rintro e w1 ⟨_, rfl, rfl, hb1⟩)
 go_ret
 exact ⟨_, rfl, rfl, nw2.trans hb1⟩
set_option maxHeartbeats 1600000 in
set_option maxRecDepth 100000 in
theorem shortx3_c {b c p most : Nat} {qs : List Qq} {w : World} (hc : w.cell? ⟨p, 0, none⟩ = some (.int .i64 most)) (hn : Qs w b qs) (hm : most ≤ 1000) (hl : qs.length ≤ 1000) (hL : ∀ x ∈ qs, x.1.2.2.1 ≤ 9223372036854775807 ∧ x.2.2.2.1 ≤ 9223372036854775807) :
  Calls Tryz.prog 115 #[.slice (some ⟨b, 0, none⟩) qs.length c, .func (.func 72) #[] #[.pointer (some ⟨p, 0, none⟩)]] w (Ret w (KIx (shQ most qs))) := by
 have HN := Lib.hid hn
 have HL := Lib.hid hL
 clear hn hL
 go_enter Tryz.func115, Tryz.ntmps115
 go_wp2
 go_loopw [5, 8] (fun _ ci wr => ∃ k : Nat, ci = .int .i64 k ∧ k ≤ qs.length ∧ shQ most (qs.take k) = true ∧ Nw w wr)
  (fun _ ci _ => qs.length - (intOf ci).toNat)
 case atStart => exact ⟨0, rfl, by omega, rfl, Nw.refl w⟩
 case round =>
  obtain ⟨k, rfl, hk, hs, hn⟩ := hrel
  have HS := Lib.hid hs
  clear hs
  have hc2 := hn.c hc
  by_cases hlt : k < qs.length
  ·obtain ⟨⟨⟨n, A, l, cc⟩, ⟨m, D, j, dd⟩⟩, he⟩ : ∃ x, qs[k]? = some x := ⟨_, List.getElem?_eq_getElem hlt⟩
   obtain ⟨h1, h2, h3, h4⟩ := (HN.out.nw hn) k n A l cc m D j dd he
   obtain ⟨hll, hjj⟩ := HL.out _ (List.mem_of_getElem? he)
   simp only at hll hjj
   have hk0 : (0 : Int) ≤ (k : Int) := by omega
   have hki : (k : Int) < (qs.length : Int) := by omega
   have ht : shQ most (qs.take (k + 1)) = (shQ most (qs.take k) && shB most [(n, A, l, cc), (m, D, j, dd)]) := by
    unfold shQ
    rw [List.take_add_one, he]
    simp
   have HE := Lib.hid he
   have HT := Lib.hid ht
   clear he ht
   by_cases hlm : shB most [(n, A, l, cc), (m, D, j, dd)] = false
   ·have hb : (!shB most [(n, A, l, cc), (m, D, j, dd)]) = true := by rw [hlm]; rfl
    have HB := Lib.hid hb
    clear hb
    have HM := Lib.hid hlm
    clear hlm
    go_wp2_with (go_at_call 72; refine (short31_c hc2 hll hjj hm HB.out).mono ?_; rintro e w1 ⟨_, rfl, rfl, hb1⟩)
    go_ret
    have hf : shQ most qs = false := by
     unfold shQ
     rw [List.all_eq_false]
     exact ⟨_, List.mem_of_getElem? HE.out, by simp [HM.out]⟩
    exact ⟨_, rfl, ⟨k, rfl, by rw [hf]; simp⟩, hn.trans hb1⟩
   ·have hlm : shB most [(n, A, l, cc), (m, D, j, dd)] = true := by simpa using hlm
    have hb : (!shB most [(n, A, l, cc), (m, D, j, dd)]) = false := by rw [hlm]; rfl
    have HB := Lib.hid hb
    clear hb
    have HM := Lib.hid hlm
    clear hlm
    go_wp2_with (go_at_call 72; refine (short31_c hc2 hll hjj hm HB.out).mono ?_; rintro e w1 ⟨_, rfl, rfl, hb1⟩)
    go_roundw
    case rel => exact ⟨k + 1, by go_num, by omega, by rw [HT.out, HS.out, HM.out]; rfl, hn.trans hb1⟩
    case measure => simp [intOf]; omega
  ·have hke : k = qs.length := by omega
   have hf : shQ most qs = true := by
    have := HS.out
    rwa [hke, List.take_length] at this
   have HF := Lib.hid hf
   clear hke hf
   go_wp2
   go_ret
   exact ⟨_, rfl, ⟨-1, rfl, by rw [HF.out]; simp⟩, hn⟩
set_option maxHeartbeats 1600000 in
set_option maxRecDepth 100000 in
theorem shortc3_c {b c p most : Nat} {qs : List Qq} {w : World} (hc : w.cell? ⟨p, 0, none⟩ = some (.int .i64 most)) (hn : Qs w b qs) (hm : most ≤ 1000) (hl : qs.length ≤ 1000) (hL : ∀ x ∈ qs, x.1.2.2.1 ≤ 9223372036854775807 ∧ x.2.2.2.1 ≤ 9223372036854775807) :
    Calls Tryz.prog 71 #[.slice (some ⟨b, 0, none⟩) qs.length c, .func (.func 72) #[] #[.pointer (some ⟨p, 0, none⟩)]] w (Ret w (KV (.bool (!shQ most qs)))) := by
  have HN := Lib.hid hn
  have HL := Lib.hid hL
  clear hn hL
  by_cases hs : shQ most qs = true
  all_goals
    have HS := Lib.hid hs
    clear hs
    go_enter Tryz.func71, Tryz.ntmps71
    go_wp2_with (go_at_call 115; refine (shortx3_c hc HN.out hm hl HL.out).mono ?_; rintro e w1 ⟨_, rfl, ⟨r, rfl, hr⟩, hb1⟩)
    go_ret
    have h1 := HS.out
    first
      | (rw [h1] at hr ⊢; exact Ret.Veq (by simp at hr ⊢; omega) hb1)
      | (have h1 : shQ most qs = false := by simpa using h1
         rw [h1] at hr ⊢; exact Ret.Veq (by simp at hr ⊢; omega) hb1)
set_option maxHeartbeats 1600000 in
set_option maxRecDepth 100000 in
theorem short3_c {b c most : Nat} {qs : List Qq} {w : World} (hn : Qs w b qs) (hm : most ≤ 1000) (hl : qs.length ≤ 1000) (hL : ∀ x ∈ qs, x.1.2.2.1 ≤ 9223372036854775807 ∧ x.2.2.2.1 ≤ 9223372036854775807) :
  Calls Tryz.prog 12 #[.int .i64 most, .slice (some ⟨b, 0, none⟩) qs.length c] w (Ret w (KV (.bool (shQ most qs)))) := by
 have nw1 : Nw w (w.alloc (.cells #[.int .i64 most] 3)) := (Nw.refl w).alloc _
 have hc : (w.alloc (.cells #[.int .i64 most] 3)).cell? ⟨w.heap.size, 0, none⟩ = some (.int .i64 most) := by go_simp
 have HN := Lib.hid (hn.nw nw1)
 have HL := Lib.hid hL
 clear hn hL
 go_enter Tryz.func12, Tryz.ntmps12
 go_wp2_with (go_at_call 71; refine (shortc3_c hc HN.out hm hl HL.out).mono ?_; rintro e w1 ⟨_, rfl, rfl, hb1⟩)
 go_ret
 exact Ret.Veq (by simp) (nw1.trans hb1)
end Go.Proofs.YthpjmhhfcechmaaGreat
/- Words for the laws of chapter 03: their Short, what came in. -/
set_option linter.unusedVariables false
set_option linter.unusedSimpArgs false
namespace Go.Proofs.YthpjmhhfcechmaaGreat.Sy
open Go Go.RowKit Ma
theorem in_be {w W : World} {A : Option Addr} {l c : Nat} {xs : List Int} (h : In w A l c xs) (k : Below w.heap.size w W) : In W A l c xs := ⟨h.1, h.2.1, h.2.2.1.kept (IntK.of_below k), h.2.2.2⟩
theorem sh_VQ {T : TypeId} {x1 x2 : Bool} {A1 A2 : Option Addr} {l1 c1 l2 c2 : Nat} (v : Value) (W : World) (h : KV (.agg #[.bool x1, .slice A1 l1 c1, .bool x2, .slice A2 l2 c2]) v W) : ∃ cs, (BQ T).sh v cs := by
 obtain rfl : v = _ := h
 exact ⟨_, _, _, _, _, _, _, _, _, rfl, rfl⟩
section
variable {B N : Nat} {w0 : World} {ops : Array Oper} {o : Oper} {rest : List Oper} {fr : List (Nat × AV)} {Q : Exit → Act → World → Prop} {d : Nat}
theorem PW.short3 {o2 : Oper} {d2 : Nat} {c : Call} (most : Nat) (ns : List Qq) {t : Bool} (ob : Obj) (hw : wantB ops fr o = some true) (hd : o.dst = some d) (hN : Nat.blt d N = true)
  (hq : ∀ a W, Fr B N w0 fr a W → (execOp a.eval o).run Tryz.prog W = .ok (.value (.slice (some ⟨W.heap.size, 0, none⟩) ns.length ns.length)) (W.alloc ob)) (hns : ∀ W : World, Qs (W.alloc ob) W.heap.size ns) (hL : ∀ x ∈ ns, x.1.2.2.1 ≤ 9223372036854775807 ∧ x.2.2.2.1 ≤ 9223372036854775807) (hm : Nat.ble most 1000 = true) (hl : Nat.ble ns.length 1000 = true) (ht : shQ most ns = t)
  (hw2 : wantB ops ((d, .kw KT) :: fr) o2 = some true) (hd2 : o2.dst = some d2) (hN2 : Nat.blt d2 N = true) (ho : o2.op = .call c) (hc : c.callee = .value (.func 12)) (ha : c.args = #[.const (.int .i64 (most : Int)), .tmp d])
  (hk : PW B N w0 ops rest ((d2, .vl (.bool t)) :: (d, .kw KT) :: fr) Q) : PW B N w0 ops (o :: o2 :: rest) fr Q :=
 PW.step hw fun a W hf K' hK' => by
  unfold Oper.wp
  rw [hq a W hf, Oper.upon_value, hd]
  have hf1 := (hf.nw ((Nw.refl W).alloc ob)).set (v := .vl (.slice (some ⟨W.heap.size, 0, none⟩) ns.length ns.length)) hN (u := .slice (some ⟨W.heap.size, 0, none⟩) ns.length ns.length) rfl rfl
  have hf2 := (hf.nw ((Nw.refl W).alloc ob)).set (v := .kw KT) hN (u := .slice (some ⟨W.heap.size, 0, none⟩) ns.length ns.length) ⟨trivial, KT.st⟩ rfl
  refine hK' _ _ (wpList_step fun K2 hK2 => ?_)
  rw [if_pos (wantB_spec hf2 hw2)]
  have s1 : (a.put (some d) (.slice (some ⟨W.heap.size, 0, none⟩) ns.length ns.length)).eval (.tmp d) = .slice (some ⟨W.heap.size, 0, none⟩) ns.length ns.length := hf1.vl (s := d) (by rw [look_cons, if_pos rfl])
  obtain ⟨dst, op, ty, pos, after, guard⟩ := o2
  simp only at ho hd2
  subst ho
  subst hd2
  unfold Oper.wp
  have ce : CE 12 := fun args W => by go_simp
  rw [run_call ce hc _ rfl ty _]
  simp only [Oper.upon]
  have e0 : c.args.map (a.put (some d) (.slice (some ⟨W.heap.size, 0, none⟩) ns.length ns.length)).eval = #[.int .i64 (most : Int), .slice (some ⟨W.heap.size, 0, none⟩) ns.length ns.length] := by
   rw [ha, List.map_toArray]; exact congrArg (fun z => #[Value.int .i64 (most : Int), z]) s1
  rw [e0]
  refine (short3_c (b := W.heap.size) (c := ns.length) (hns W) (Nat.le_of_ble_eq_true hm) (Nat.le_of_ble_eq_true hl) hL).mono fun e W' ⟨v, he, hv, hn⟩ => ?_
  subst he
  obtain rfl : v = _ := hv
  exact hK2 _ _ (hk _ _ ((hf2.nw hn).set hN2 (v := .vl (.bool t)) (by show Value.bool _ = _; rw [ht]) rfl))
end
section
variable {x y z : Operand} {dst : Option Tmp} {ty : TypeId} {pos : String} {after : Array Edge} {guard : Option (Nat × Bool)} {ρ : Operand → Value} {W : World}
variable {n1 n2 n3 n4 : Bool} {A1 A2 A3 A4 : Option Addr} {l1 l2 l3 l4 c1 c2 c3 c4 : Nat}
theorem r_bQ1 (h1 : ρ x = .agg #[.bool n1, .slice A1 l1 c1, .bool n2, .slice A2 l2 c2]) : (execOp ρ ⟨dst, .buildSlice 105 1 #[(0, x)], ty, pos, after, guard⟩).run Tryz.prog W = .ok (.value (.slice (some ⟨W.heap.size, 0, none⟩) 1 1)) (W.alloc (.cells #[.bool n1, .slice A1 l1 c1, .bool n2, .slice A2 l2 c2] 26)) := by
 go_simp
end
section
variable {n1 n2 n3 n4 : Bool} {A1 A2 A3 A4 : Option Addr} {l1 l2 l3 l4 c1 c2 c3 c4 : Nat}
theorem qs_lit1 (W : World) : Qs (W.alloc (.cells #[.bool n1, .slice A1 l1 c1, .bool n2, .slice A2 l2 c2] 26)) W.heap.size [((n1, A1, l1, c1), (n2, A2, l2, c2))] := by
 intro i n A l c m D k d e
 match i, e with
 | 0, e => simp at e; obtain ⟨⟨rfl, rfl, rfl, rfl⟩, rfl, rfl, rfl, rfl⟩ := e; exact ⟨by go_simp, by go_simp, by go_simp, by go_simp⟩
 | i + 1, e => simp at e
end
end Go.Proofs.YthpjmhhfcechmaaGreat.Sy
/- RationalTexts: the walk, by rules. -/
set_option linter.unusedVariables false
set_option linter.unusedSimpArgs false
namespace Go.Proofs.YthpjmhhfcechmaaGreat
open Go.RowKit Ma Sy
theorem parseQ_bd {r : Int} {s : ByteArray} {z : Rat} (h : parseQ r s = .ok z) : bq 4001 z := by
 by_cases hr : 2 ≤ r ∧ r ≤ 36
 ·by_cases hl : 20000 < s.size
  ·rw [parseQ_long hr hl] at h; cases h
  ·rcases cut_cases s with hi | ⟨i, hi, hs⟩
   ·cases hn : parseR r (byl s) with
    | error e => rw [parseQ_n2 hr hl hi hn] at h; cases h
    | ok n =>
     rw [parseQ_n1 hr hl hi hn] at h
     injection h with h
     subst h
     exact bq.int1 (parse_bd9 (n := 20000) (m := 4000) hn (by omega) (by decide) (by decide))
   ·cases hn : parseR r (byl (s.extract 0 i)) with
    | error e => rw [parseQ_y1 hr hl hi hn] at h; cases h
    | ok n =>
     have NB := parse_bd9 (n := 20000) (m := 4000) hn (by rw [ext_size]; omega) (by decide) (by decide)
     by_cases hg : (0 < (s.extract (i + 1) s.size).size ∧ at0 (byl (s.extract (i + 1) s.size)) 0 = 43) ∨ (0 < (s.extract (i + 1) s.size).size ∧ at0 (byl (s.extract (i + 1) s.size)) 0 = 45)
     ·rw [parseQ_y2 hr hl hi hn hg] at h; cases h
     ·cases hd : parseR r (byl (s.extract (i + 1) s.size)) with
      | error e => rw [parseQ_y3 hr hl hi hn hg hd] at h; cases h
      | ok d =>
       have DB := parse_bd9 (n := 20000) (m := 4000) hd (by rw [ext_size]; omega) (by decide) (by decide)
       by_cases h0 : d = 0
       ·rw [parseQ_y4 hr hl hi hn hg hd h0] at h; cases h
       ·rw [parseQ_y5 hr hl hi hn hg hd h0] at h
        injection h with h
        subst h
        exact (bq.over NB DB h0).mono (by decide)
 ·rw [parseQ_radix hr] at h; cases h
theorem parseQ_err {r : Int} {s : ByteArray} (h : ¬ ∃ z, parseQ r s = .ok z) : ∃ e, parseQ r s = .error e := by
 cases e0 : parseQ r s with
 | ok z => exact absurd ⟨z, e0⟩ h
 | error e => exact ⟨e, rfl⟩
set_option maxHeartbeats 12800000 in
set_option maxRecDepth 100000 in
theorem rationalTexts_walk {n1 n2 : Bool} {A1 A2 : Option Addr} {l1 l2 c1 c2 : Nat} {xs1 xs2 : List Int} {t : ByteArray} {r : Int} {w : World} (h1 : In w A1 l1 c1 xs1) (h2 : In w A2 l2 c2 xs2) (hw : t.size ≤ 140737488351232) (hv : (Lit.int .i64 r).wf = true) :
  Calls Tryz.prog 4 #[.agg #[.bool n1, .slice A1 l1 c1, .bool n2, .slice A2 l2 c2], .string t, .int .i64 r] w (Ret w (KV (.bool true))) := by
 obtain ⟨x, hz1⟩ : ∃ z, z = sg n1 (lv b32 xs1) := ⟨_, rfl⟩
 obtain ⟨y, hz2⟩ : ∃ z, z = sg n2 (lv b32 xs2) := ⟨_, rfl⟩
 refine calls_sc (l := [.vl (.agg #[.bool n1, .slice A1 l1 c1, .bool n2, .slice A2 l2 c2]), .vl (.string t), .vl (.int .i64 r)]) (us := [.agg #[.bool n1, .slice A1 l1 c1, .bool n2, .slice A2 l2 c2], .string t, .int .i64 r]) 77 Tryz.func4 rfl Tryz.ntmps4 (by simp) ⟨rfl, rfl, rfl, rfl, rfl, rfl, trivial⟩ ?_
 refine SC.seq ?_
 refine SC.region ?_
 refine PW.box (x := .tmp 0) (r := .vl (.agg #[.bool n1, .slice A1 l1 c1, .bool n2, .slice A2 l2 c2])) (BQ 26) rfl rfl rfl rfl rfl bQN rfl sh_VQ ?_
 refine PW.assign rfl rfl rfl rfl rfl ?_
 refine PW.nil ?_
 refine SX.then ?_
 refine SC.seq ?_
 refine SC.seq ?_
 by_cases hq : shQ 6 [((n1, A1, l1, c1), (n2, A2, l2, c2))] = true
 ·have hlehq : (l1 ≤ 6 ∧ l2 ≤ 6) := by simpa [shB, shQ] using hq
  have X : bd 6 x := hz1 ▸ bd_sg h1.2.2.2 (by have := h1.1; omega)
  have Y : bd 6 y := hz2 ▸ bd_sg h2.2.2.2 (by have := h2.1; omega)
  have hl1 : l1 ≤ 6 := by omega
  have hl2 : l2 ≤ 6 := by omega
  by_cases hg : (t.size : Int) > 150
  ·refine SC.region ?_
   refine PW.loadV rfl rfl rfl rfl rfl rfl ?_
   refine PW.short3 6 [((n1, A1, l1, c1), (n2, A2, l2, c2))] _ rfl rfl rfl (fun a W hf => r_bQ1 (hf.vl (s := 17) rfl)) (fun W => qs_lit1 W) (by simp; exact ⟨In.lim h1, In.lim h2⟩) rfl rfl hq rfl rfl rfl rfl rfl rfl ?_
   refine PW.q1 (x := .tmp 19) (.bool false) rfl rfl rfl rfl (fun ρ W h1 => by go_simp) ?_
   refine PW.move rfl rfl rfl rfl rfl ?_
   refine PW.move rfl rfl rfl rfl rfl ?_
   refine PW.qn [(.tmp 22, .string t)] (.int .i64 (t.size : Int)) rfl rfl rfl ⟨rfl, trivial⟩ (fun ρ W h => by obtain ⟨h1, _⟩ := h; exact r_slen h1) ?_
   refine PW.q2 (x := .tmp 23) (y := .const (.int .i64 150)) (.bool true) rfl rfl rfl rfl rfl (fun ρ W h1 h2 => by exact r_gt h1 h2 (decide_eq_true hg)) ?_
   refine PW.pick (t := false) rfl rfl rfl rfl rfl rfl ?_
   refine PW.nil ?_
   refine SX.then ?_
   refine SC.cond (t := true) rfl ?_
   refine SC.seq ?_
   refine SC.region ?_
   refine PW.call (r := .vl (.bool true)) rfl rfl rfl rfl rfl rfl (KV.st _) rfl (k_awake3) ?_
   refine PW.assign rfl rfl rfl rfl rfl ?_
   refine PW.nil ?_
   refine SX.then ?_
   refine SC.ret ?_
   refine SX.thenR ?_
   exact SX.done (r := .vl (.bool true)) rfl rfl rfl
  ·refine SC.region ?_
   refine PW.loadV rfl rfl rfl rfl rfl rfl ?_
   refine PW.short3 6 [((n1, A1, l1, c1), (n2, A2, l2, c2))] _ rfl rfl rfl (fun a W hf => r_bQ1 (hf.vl (s := 17) rfl)) (fun W => qs_lit1 W) (by simp; exact ⟨In.lim h1, In.lim h2⟩) rfl rfl hq rfl rfl rfl rfl rfl rfl ?_
   refine PW.q1 (x := .tmp 19) (.bool false) rfl rfl rfl rfl (fun ρ W h1 => by go_simp) ?_
   refine PW.move rfl rfl rfl rfl rfl ?_
   refine PW.move rfl rfl rfl rfl rfl ?_
   refine PW.qn [(.tmp 22, .string t)] (.int .i64 (t.size : Int)) rfl rfl rfl ⟨rfl, trivial⟩ (fun ρ W h => by obtain ⟨h1, _⟩ := h; exact r_slen h1) ?_
   refine PW.q2 (x := .tmp 23) (y := .const (.int .i64 150)) (.bool false) rfl rfl rfl rfl rfl (fun ρ W h1 h2 => by exact r_gt h1 h2 (decide_eq_false hg)) ?_
   refine PW.pick (t := false) rfl rfl rfl rfl rfl rfl ?_
   refine PW.nil ?_
   refine SX.then ?_
   refine SC.cond (t := false) rfl ?_
   refine SC.skip ?_
   refine SX.then ?_
   refine SC.seq ?_
   refine SC.region ?_
   refine PW.loadV rfl rfl rfl rfl rfl rfl ?_
   refine PW.callG (r := .kw (K2 (KQ (ofq x y).num (((ofq x y).den : Int) - 1)) (KR3 (ofq x y).num ((ofq x y).den : Int)))) ce_of3 rfl rfl rfl rfl rfl (K2.st (KQ.st _ _) (KR3.st _ _)) rfl (fun a W hf => by have e1 := hf.vl (s := 28) rfl; show Calls Tryz.prog _ #[a.tmps.getD 28 undef] W _; rw [e1]; exact of3_c (in_be h1 hf.be) (in_be h2 hf.be) hz1 hz2 X Y (by omega) (by omega) (by decide)) ?_
   refine PW.move rfl rfl rfl rfl rfl ?_
   refine PW.ext (r := .kw (KQ (ofq x y).num (((ofq x y).den : Int) - 1))) rfl rfl rfl rfl rfl ex20 (KQ.st _ _) rfl ?_
   refine PW.ext (r := .kw (KR3 (ofq x y).num ((ofq x y).den : Int))) rfl rfl rfl rfl rfl ex21 (KR3.st _ _) rfl ?_
   refine PW.alloc (BQ 38) rfl rfl rfl rfl rfl bQ ?_
   refine PW.alloc (BQ 43) rfl rfl rfl rfl rfl bQJ ?_
   refine PW.store (x := .tmp 30) (r := .kw (KQ (ofq x y).num (((ofq x y).den : Int) - 1))) rfl rfl rfl rfl rfl rfl sh_Q ?_
   refine PW.store (x := .tmp 31) (r := .kw (KR3 (ofq x y).num ((ofq x y).den : Int))) rfl rfl rfl rfl rfl rfl sh_R3 ?_
   refine PW.nil ?_
   refine SX.then ?_
   refine SC.seq ?_
   by_cases hr : 2 ≤ r ∧ r ≤ 36
   ·refine SC.region ?_
    refine PW.load rfl rfl rfl rfl rfl rfl ?_
    refine PW.move rfl rfl rfl rfl rfl ?_
    refine PW.call (r := .kw (K2 (KV (.string (txq r (ofq x y)))) (KV (.int .i64 0)))) rfl rfl rfl rfl rfl rfl (K2.st (KV.st _) (KV.st _)) rfl (k_qtext (bq.of X Y) (by decide) hr) ?_
    refine PW.move rfl rfl rfl rfl rfl ?_
    refine PW.ext (r := .vl (.string (txq r (ofq x y)))) rfl rfl rfl rfl rfl ex20v (KV.st _) rfl ?_
    refine PW.ext (r := .vl (.int .i64 0)) rfl rfl rfl rfl rfl ex21v (KV.st _) rfl ?_
    refine PW.assign rfl rfl rfl rfl rfl ?_
    refine PW.assign rfl rfl rfl rfl rfl ?_
    refine PW.nil ?_
    refine SX.then ?_
    refine SC.seq ?_
    refine SC.region ?_
    refine PW.load rfl rfl rfl rfl rfl rfl ?_
    refine PW.move rfl rfl rfl rfl rfl ?_
    refine PW.call (r := .kw (K2 (KV (.string (txq r (ofq x y)))) (KV (.int .i64 0)))) rfl rfl rfl rfl rfl rfl (K2.st (KV.st _) (KV.st _)) rfl (k_jqtext (bq.of X Y) (by decide) hr) ?_
    refine PW.move rfl rfl rfl rfl rfl ?_
    refine PW.ext (r := .vl (.string (txq r (ofq x y)))) rfl rfl rfl rfl rfl ex20v (KV.st _) rfl ?_
    refine PW.ext (r := .vl (.int .i64 0)) rfl rfl rfl rfl rfl ex21v (KV.st _) rfl ?_
    refine PW.assign rfl rfl rfl rfl rfl ?_
    refine PW.assign rfl rfl rfl rfl rfl ?_
    refine PW.nil ?_
    refine SX.then ?_
    refine SC.seq ?_
    by_cases hz : ∃ z, parseQ r t = .ok z
    ·obtain ⟨z, hz⟩ := hz
     have Z := parseQ_bd hz
     refine SC.region ?_
     refine PW.move rfl rfl rfl rfl rfl ?_
     refine PW.move rfl rfl rfl rfl rfl ?_
     refine PW.call (r := .kw (K2 (KQ (z).num (((z).den : Int) - 1)) (KV (.int .i64 0)))) rfl rfl rfl rfl rfl rfl (K2.st (KQ.st _ _) (KV.st _)) rfl (callK k_qparse (by rw [hz]; rfl)) ?_
     refine PW.move rfl rfl rfl rfl rfl ?_
     refine PW.ext (r := .kw (KQ (z).num (((z).den : Int) - 1))) rfl rfl rfl rfl rfl ex20 (KQ.st _ _) rfl ?_
     refine PW.ext (r := .vl (.int .i64 0)) rfl rfl rfl rfl rfl ex21v (KV.st _) rfl ?_
     refine PW.alloc (BQ 38) rfl rfl rfl rfl rfl bQ ?_
     refine PW.store (x := .tmp 48) (r := .kw (KQ (z).num (((z).den : Int) - 1))) rfl rfl rfl rfl rfl rfl sh_Q ?_
     refine PW.assign rfl rfl rfl rfl rfl ?_
     refine PW.nil ?_
     refine SX.then ?_
     refine SC.seq ?_
     refine SC.region ?_
     refine PW.move rfl rfl rfl rfl rfl ?_
     refine PW.move rfl rfl rfl rfl rfl ?_
     refine PW.call (r := .kw (K2 (KR3 (z).num ((z).den : Int)) (KV (.int .i64 0)))) rfl rfl rfl rfl rfl rfl (K2.st (KR3.st _ _) (KV.st _)) rfl (callK k_jqparse (by rw [hz]; rfl)) ?_
     refine PW.move rfl rfl rfl rfl rfl ?_
     refine PW.ext (r := .kw (KR3 (z).num ((z).den : Int))) rfl rfl rfl rfl rfl ex20 (KR3.st _ _) rfl ?_
     refine PW.ext (r := .vl (.int .i64 0)) rfl rfl rfl rfl rfl ex21v (KV.st _) rfl ?_
     refine PW.alloc (BQ 43) rfl rfl rfl rfl rfl bQJ ?_
     refine PW.store (x := .tmp 54) (r := .kw (KR3 (z).num ((z).den : Int))) rfl rfl rfl rfl rfl rfl sh_R3 ?_
     refine PW.assign rfl rfl rfl rfl rfl ?_
     refine PW.nil ?_
     refine SX.then ?_
     refine SC.seq ?_
     refine SC.region ?_
     refine PW.move rfl rfl rfl rfl rfl ?_
     refine PW.move rfl rfl rfl rfl rfl ?_
     refine PW.q2 (x := .tmp 56) (y := .tmp 57) (.bool true) rfl rfl rfl rfl rfl (fun ρ W h1 h2 => by go_simp) ?_
     refine PW.move rfl rfl rfl rfl rfl ?_
     refine PW.move rfl rfl rfl rfl rfl ?_
     refine PW.move rfl rfl rfl rfl rfl ?_
     refine PW.q2 (x := .tmp 60) (y := .tmp 61) (.bool true) rfl rfl rfl rfl rfl (fun ρ W h1 h2 => by exact r_seq h1 h2 (by simp)) ?_
     refine PW.pick (t := true) rfl rfl rfl rfl rfl rfl ?_
     refine PW.move rfl rfl rfl rfl rfl ?_
     refine PW.move rfl rfl rfl rfl rfl ?_
     refine PW.move rfl rfl rfl rfl rfl ?_
     refine PW.q2 (x := .tmp 65) (y := .tmp 66) (.bool true) rfl rfl rfl rfl rfl (fun ρ W h1 h2 => by go_simp) ?_
     refine PW.pick (t := true) rfl rfl rfl rfl rfl rfl ?_
     refine PW.move rfl rfl rfl rfl rfl ?_
     refine PW.load rfl rfl rfl rfl rfl rfl ?_
     refine PW.load rfl rfl rfl rfl rfl rfl ?_
     refine PW.call (r := .vl (.bool true)) rfl rfl rfl rfl rfl rfl (KV.st _) rfl (k_is3 Z (by first | decide | omega)) ?_
     refine PW.pick (t := true) rfl rfl rfl rfl rfl rfl ?_
     refine PW.move rfl rfl rfl rfl rfl ?_
     refine PW.call (r := .vl (.bool true)) rfl rfl rfl rfl rfl rfl (KV.st _) rfl (k_awake3) ?_
     refine PW.pick (t := true) rfl rfl rfl rfl rfl rfl ?_
     refine PW.assign rfl rfl rfl rfl rfl ?_
     refine PW.nil ?_
     refine SX.then ?_
     refine SC.ret ?_
     exact SX.done (r := .vl (.bool true)) rfl rfl rfl
    ·obtain ⟨e, he⟩ := parseQ_err hz
     refine SC.region ?_
     refine PW.move rfl rfl rfl rfl rfl ?_
     refine PW.move rfl rfl rfl rfl rfl ?_
     refine PW.call (r := .kw (K2 (KQ (((0 : Int) : Rat)).num (((((0 : Int) : Rat)).den : Int) - 1)) (KV (.int .i64 e)))) rfl rfl rfl rfl rfl rfl (K2.st (KQ.st _ _) (KV.st _)) rfl (callK k_qparse (by rw [he]; rfl)) ?_
     refine PW.move rfl rfl rfl rfl rfl ?_
     refine PW.ext (r := .kw (KQ (((0 : Int) : Rat)).num (((((0 : Int) : Rat)).den : Int) - 1))) rfl rfl rfl rfl rfl ex20 (KQ.st _ _) rfl ?_
     refine PW.ext (r := .vl (.int .i64 e)) rfl rfl rfl rfl rfl ex21v (KV.st _) rfl ?_
     refine PW.alloc (BQ 38) rfl rfl rfl rfl rfl bQ ?_
     refine PW.store (x := .tmp 48) (r := .kw (KQ (((0 : Int) : Rat)).num (((((0 : Int) : Rat)).den : Int) - 1))) rfl rfl rfl rfl rfl rfl sh_Q ?_
     refine PW.assign rfl rfl rfl rfl rfl ?_
     refine PW.nil ?_
     refine SX.then ?_
     refine SC.seq ?_
     refine SC.region ?_
     refine PW.move rfl rfl rfl rfl rfl ?_
     refine PW.move rfl rfl rfl rfl rfl ?_
     refine PW.call (r := .kw (K2 (KR3 (((0 : Int) : Rat)).num ((((0 : Int) : Rat)).den : Int)) (KV (.int .i64 e)))) rfl rfl rfl rfl rfl rfl (K2.st (KR3.st _ _) (KV.st _)) rfl (callK k_jqparse (by rw [he]; rfl)) ?_
     refine PW.move rfl rfl rfl rfl rfl ?_
     refine PW.ext (r := .kw (KR3 (((0 : Int) : Rat)).num ((((0 : Int) : Rat)).den : Int))) rfl rfl rfl rfl rfl ex20 (KR3.st _ _) rfl ?_
     refine PW.ext (r := .vl (.int .i64 e)) rfl rfl rfl rfl rfl ex21v (KV.st _) rfl ?_
     refine PW.alloc (BQ 43) rfl rfl rfl rfl rfl bQJ ?_
     refine PW.store (x := .tmp 54) (r := .kw (KR3 (((0 : Int) : Rat)).num ((((0 : Int) : Rat)).den : Int))) rfl rfl rfl rfl rfl rfl sh_R3 ?_
     refine PW.assign rfl rfl rfl rfl rfl ?_
     refine PW.nil ?_
     refine SX.then ?_
     refine SC.seq ?_
     refine SC.region ?_
     refine PW.move rfl rfl rfl rfl rfl ?_
     refine PW.move rfl rfl rfl rfl rfl ?_
     refine PW.q2 (x := .tmp 56) (y := .tmp 57) (.bool true) rfl rfl rfl rfl rfl (fun ρ W h1 h2 => by go_simp) ?_
     refine PW.move rfl rfl rfl rfl rfl ?_
     refine PW.move rfl rfl rfl rfl rfl ?_
     refine PW.move rfl rfl rfl rfl rfl ?_
     refine PW.q2 (x := .tmp 60) (y := .tmp 61) (.bool true) rfl rfl rfl rfl rfl (fun ρ W h1 h2 => by exact r_seq h1 h2 (by simp)) ?_
     refine PW.pick (t := true) rfl rfl rfl rfl rfl rfl ?_
     refine PW.move rfl rfl rfl rfl rfl ?_
     refine PW.move rfl rfl rfl rfl rfl ?_
     refine PW.move rfl rfl rfl rfl rfl ?_
     refine PW.q2 (x := .tmp 65) (y := .tmp 66) (.bool true) rfl rfl rfl rfl rfl (fun ρ W h1 h2 => by go_simp) ?_
     refine PW.pick (t := true) rfl rfl rfl rfl rfl rfl ?_
     refine PW.move rfl rfl rfl rfl rfl ?_
     refine PW.load rfl rfl rfl rfl rfl rfl ?_
     refine PW.load rfl rfl rfl rfl rfl rfl ?_
     refine PW.call (r := .vl (.bool true)) rfl rfl rfl rfl rfl rfl (KV.st _) rfl (k_is3 (bq.int1 (bd.zero (a := 1))) (by first | decide | omega)) ?_
     refine PW.pick (t := true) rfl rfl rfl rfl rfl rfl ?_
     refine PW.move rfl rfl rfl rfl rfl ?_
     refine PW.call (r := .vl (.bool true)) rfl rfl rfl rfl rfl rfl (KV.st _) rfl (k_awake3) ?_
     refine PW.pick (t := true) rfl rfl rfl rfl rfl rfl ?_
     refine PW.assign rfl rfl rfl rfl rfl ?_
     refine PW.nil ?_
     refine SX.then ?_
     refine SC.ret ?_
     exact SX.done (r := .vl (.bool true)) rfl rfl rfl
   ·refine SC.region ?_
    refine PW.load rfl rfl rfl rfl rfl rfl ?_
    refine PW.move rfl rfl rfl rfl rfl ?_
    refine PW.call (r := .kw (K2 (KV (.string ⟨#[]⟩)) (KV (.int .i64 1)))) rfl rfl rfl rfl rfl rfl (K2.st (KV.st _) (KV.st _)) rfl (k_qtext_bad (bq.of X Y) (by decide) hr) ?_
    refine PW.move rfl rfl rfl rfl rfl ?_
    refine PW.ext (r := .vl (.string ⟨#[]⟩)) rfl rfl rfl rfl rfl ex20v (KV.st _) rfl ?_
    refine PW.ext (r := .vl (.int .i64 1)) rfl rfl rfl rfl rfl ex21v (KV.st _) rfl ?_
    refine PW.assign rfl rfl rfl rfl rfl ?_
    refine PW.assign rfl rfl rfl rfl rfl ?_
    refine PW.nil ?_
    refine SX.then ?_
    refine SC.seq ?_
    refine SC.region ?_
    refine PW.load rfl rfl rfl rfl rfl rfl ?_
    refine PW.move rfl rfl rfl rfl rfl ?_
    refine PW.call (r := .kw (K2 (KV (.string ⟨#[]⟩)) (KV (.int .i64 1)))) rfl rfl rfl rfl rfl rfl (K2.st (KV.st _) (KV.st _)) rfl (k_jqtext_bad (bq.of X Y) (by decide) hr) ?_
    refine PW.move rfl rfl rfl rfl rfl ?_
    refine PW.ext (r := .vl (.string ⟨#[]⟩)) rfl rfl rfl rfl rfl ex20v (KV.st _) rfl ?_
    refine PW.ext (r := .vl (.int .i64 1)) rfl rfl rfl rfl rfl ex21v (KV.st _) rfl ?_
    refine PW.assign rfl rfl rfl rfl rfl ?_
    refine PW.assign rfl rfl rfl rfl rfl ?_
    refine PW.nil ?_
    refine SX.then ?_
    refine SC.seq ?_
    by_cases hz : ∃ z, parseQ r t = .ok z
    ·obtain ⟨z, hz⟩ := hz
     have Z := parseQ_bd hz
     refine SC.region ?_
     refine PW.move rfl rfl rfl rfl rfl ?_
     refine PW.move rfl rfl rfl rfl rfl ?_
     refine PW.call (r := .kw (K2 (KQ (z).num (((z).den : Int) - 1)) (KV (.int .i64 0)))) rfl rfl rfl rfl rfl rfl (K2.st (KQ.st _ _) (KV.st _)) rfl (callK k_qparse (by rw [hz]; rfl)) ?_
     refine PW.move rfl rfl rfl rfl rfl ?_
     refine PW.ext (r := .kw (KQ (z).num (((z).den : Int) - 1))) rfl rfl rfl rfl rfl ex20 (KQ.st _ _) rfl ?_
     refine PW.ext (r := .vl (.int .i64 0)) rfl rfl rfl rfl rfl ex21v (KV.st _) rfl ?_
     refine PW.alloc (BQ 38) rfl rfl rfl rfl rfl bQ ?_
     refine PW.store (x := .tmp 48) (r := .kw (KQ (z).num (((z).den : Int) - 1))) rfl rfl rfl rfl rfl rfl sh_Q ?_
     refine PW.assign rfl rfl rfl rfl rfl ?_
     refine PW.nil ?_
     refine SX.then ?_
     refine SC.seq ?_
     refine SC.region ?_
     refine PW.move rfl rfl rfl rfl rfl ?_
     refine PW.move rfl rfl rfl rfl rfl ?_
     refine PW.call (r := .kw (K2 (KR3 (z).num ((z).den : Int)) (KV (.int .i64 0)))) rfl rfl rfl rfl rfl rfl (K2.st (KR3.st _ _) (KV.st _)) rfl (callK k_jqparse (by rw [hz]; rfl)) ?_
     refine PW.move rfl rfl rfl rfl rfl ?_
     refine PW.ext (r := .kw (KR3 (z).num ((z).den : Int))) rfl rfl rfl rfl rfl ex20 (KR3.st _ _) rfl ?_
     refine PW.ext (r := .vl (.int .i64 0)) rfl rfl rfl rfl rfl ex21v (KV.st _) rfl ?_
     refine PW.alloc (BQ 43) rfl rfl rfl rfl rfl bQJ ?_
     refine PW.store (x := .tmp 54) (r := .kw (KR3 (z).num ((z).den : Int))) rfl rfl rfl rfl rfl rfl sh_R3 ?_
     refine PW.assign rfl rfl rfl rfl rfl ?_
     refine PW.nil ?_
     refine SX.then ?_
     refine SC.seq ?_
     refine SC.region ?_
     refine PW.move rfl rfl rfl rfl rfl ?_
     refine PW.move rfl rfl rfl rfl rfl ?_
     refine PW.q2 (x := .tmp 56) (y := .tmp 57) (.bool true) rfl rfl rfl rfl rfl (fun ρ W h1 h2 => by go_simp) ?_
     refine PW.move rfl rfl rfl rfl rfl ?_
     refine PW.move rfl rfl rfl rfl rfl ?_
     refine PW.move rfl rfl rfl rfl rfl ?_
     refine PW.q2 (x := .tmp 60) (y := .tmp 61) (.bool true) rfl rfl rfl rfl rfl (fun ρ W h1 h2 => by exact r_seq h1 h2 (by simp)) ?_
     refine PW.pick (t := true) rfl rfl rfl rfl rfl rfl ?_
     refine PW.move rfl rfl rfl rfl rfl ?_
     refine PW.move rfl rfl rfl rfl rfl ?_
     refine PW.move rfl rfl rfl rfl rfl ?_
     refine PW.q2 (x := .tmp 65) (y := .tmp 66) (.bool true) rfl rfl rfl rfl rfl (fun ρ W h1 h2 => by go_simp) ?_
     refine PW.pick (t := true) rfl rfl rfl rfl rfl rfl ?_
     refine PW.move rfl rfl rfl rfl rfl ?_
     refine PW.load rfl rfl rfl rfl rfl rfl ?_
     refine PW.load rfl rfl rfl rfl rfl rfl ?_
     refine PW.call (r := .vl (.bool true)) rfl rfl rfl rfl rfl rfl (KV.st _) rfl (k_is3 Z (by first | decide | omega)) ?_
     refine PW.pick (t := true) rfl rfl rfl rfl rfl rfl ?_
     refine PW.move rfl rfl rfl rfl rfl ?_
     refine PW.call (r := .vl (.bool true)) rfl rfl rfl rfl rfl rfl (KV.st _) rfl (k_awake3) ?_
     refine PW.pick (t := true) rfl rfl rfl rfl rfl rfl ?_
     refine PW.assign rfl rfl rfl rfl rfl ?_
     refine PW.nil ?_
     refine SX.then ?_
     refine SC.ret ?_
     exact SX.done (r := .vl (.bool true)) rfl rfl rfl
    ·obtain ⟨e, he⟩ := parseQ_err hz
     refine SC.region ?_
     refine PW.move rfl rfl rfl rfl rfl ?_
     refine PW.move rfl rfl rfl rfl rfl ?_
     refine PW.call (r := .kw (K2 (KQ (((0 : Int) : Rat)).num (((((0 : Int) : Rat)).den : Int) - 1)) (KV (.int .i64 e)))) rfl rfl rfl rfl rfl rfl (K2.st (KQ.st _ _) (KV.st _)) rfl (callK k_qparse (by rw [he]; rfl)) ?_
     refine PW.move rfl rfl rfl rfl rfl ?_
     refine PW.ext (r := .kw (KQ (((0 : Int) : Rat)).num (((((0 : Int) : Rat)).den : Int) - 1))) rfl rfl rfl rfl rfl ex20 (KQ.st _ _) rfl ?_
     refine PW.ext (r := .vl (.int .i64 e)) rfl rfl rfl rfl rfl ex21v (KV.st _) rfl ?_
     refine PW.alloc (BQ 38) rfl rfl rfl rfl rfl bQ ?_
     refine PW.store (x := .tmp 48) (r := .kw (KQ (((0 : Int) : Rat)).num (((((0 : Int) : Rat)).den : Int) - 1))) rfl rfl rfl rfl rfl rfl sh_Q ?_
     refine PW.assign rfl rfl rfl rfl rfl ?_
     refine PW.nil ?_
     refine SX.then ?_
     refine SC.seq ?_
     refine SC.region ?_
     refine PW.move rfl rfl rfl rfl rfl ?_
     refine PW.move rfl rfl rfl rfl rfl ?_
     refine PW.call (r := .kw (K2 (KR3 (((0 : Int) : Rat)).num ((((0 : Int) : Rat)).den : Int)) (KV (.int .i64 e)))) rfl rfl rfl rfl rfl rfl (K2.st (KR3.st _ _) (KV.st _)) rfl (callK k_jqparse (by rw [he]; rfl)) ?_
     refine PW.move rfl rfl rfl rfl rfl ?_
     refine PW.ext (r := .kw (KR3 (((0 : Int) : Rat)).num ((((0 : Int) : Rat)).den : Int))) rfl rfl rfl rfl rfl ex20 (KR3.st _ _) rfl ?_
     refine PW.ext (r := .vl (.int .i64 e)) rfl rfl rfl rfl rfl ex21v (KV.st _) rfl ?_
     refine PW.alloc (BQ 43) rfl rfl rfl rfl rfl bQJ ?_
     refine PW.store (x := .tmp 54) (r := .kw (KR3 (((0 : Int) : Rat)).num ((((0 : Int) : Rat)).den : Int))) rfl rfl rfl rfl rfl rfl sh_R3 ?_
     refine PW.assign rfl rfl rfl rfl rfl ?_
     refine PW.nil ?_
     refine SX.then ?_
     refine SC.seq ?_
     refine SC.region ?_
     refine PW.move rfl rfl rfl rfl rfl ?_
     refine PW.move rfl rfl rfl rfl rfl ?_
     refine PW.q2 (x := .tmp 56) (y := .tmp 57) (.bool true) rfl rfl rfl rfl rfl (fun ρ W h1 h2 => by go_simp) ?_
     refine PW.move rfl rfl rfl rfl rfl ?_
     refine PW.move rfl rfl rfl rfl rfl ?_
     refine PW.move rfl rfl rfl rfl rfl ?_
     refine PW.q2 (x := .tmp 60) (y := .tmp 61) (.bool true) rfl rfl rfl rfl rfl (fun ρ W h1 h2 => by exact r_seq h1 h2 (by simp)) ?_
     refine PW.pick (t := true) rfl rfl rfl rfl rfl rfl ?_
     refine PW.move rfl rfl rfl rfl rfl ?_
     refine PW.move rfl rfl rfl rfl rfl ?_
     refine PW.move rfl rfl rfl rfl rfl ?_
     refine PW.q2 (x := .tmp 65) (y := .tmp 66) (.bool true) rfl rfl rfl rfl rfl (fun ρ W h1 h2 => by go_simp) ?_
     refine PW.pick (t := true) rfl rfl rfl rfl rfl rfl ?_
     refine PW.move rfl rfl rfl rfl rfl ?_
     refine PW.load rfl rfl rfl rfl rfl rfl ?_
     refine PW.load rfl rfl rfl rfl rfl rfl ?_
     refine PW.call (r := .vl (.bool true)) rfl rfl rfl rfl rfl rfl (KV.st _) rfl (k_is3 (bq.int1 (bd.zero (a := 1))) (by first | decide | omega)) ?_
     refine PW.pick (t := true) rfl rfl rfl rfl rfl rfl ?_
     refine PW.move rfl rfl rfl rfl rfl ?_
     refine PW.call (r := .vl (.bool true)) rfl rfl rfl rfl rfl rfl (KV.st _) rfl (k_awake3) ?_
     refine PW.pick (t := true) rfl rfl rfl rfl rfl rfl ?_
     refine PW.assign rfl rfl rfl rfl rfl ?_
     refine PW.nil ?_
     refine SX.then ?_
     refine SC.ret ?_
     exact SX.done (r := .vl (.bool true)) rfl rfl rfl
 ·have hq : shQ 6 [((n1, A1, l1, c1), (n2, A2, l2, c2))] = false := by simpa using hq
  refine SC.region ?_
  refine PW.loadV rfl rfl rfl rfl rfl rfl ?_
  refine PW.short3 6 [((n1, A1, l1, c1), (n2, A2, l2, c2))] _ rfl rfl rfl (fun a W hf => r_bQ1 (hf.vl (s := 17) rfl)) (fun W => qs_lit1 W) (by simp; exact ⟨In.lim h1, In.lim h2⟩) rfl rfl hq rfl rfl rfl rfl rfl rfl ?_
  refine PW.q1 (x := .tmp 19) (.bool true) rfl rfl rfl rfl (fun ρ W h1 => by go_simp) ?_
  refine PW.move rfl rfl rfl rfl rfl ?_
  refine PW.skip rfl rfl rfl ?_
  refine PW.skip rfl rfl rfl ?_
  refine PW.skip rfl rfl rfl ?_
  refine PW.pick (t := true) rfl rfl rfl rfl rfl rfl ?_
  refine PW.nil ?_
  refine SX.then ?_
  refine SC.cond (t := true) rfl ?_
  refine SC.seq ?_
  refine SC.region ?_
  refine PW.call (r := .vl (.bool true)) rfl rfl rfl rfl rfl rfl (KV.st _) rfl (k_awake3) ?_
  refine PW.assign rfl rfl rfl rfl rfl ?_
  refine PW.nil ?_
  refine SX.then ?_
  refine SC.ret ?_
  refine SX.thenR ?_
  exact SX.done (r := .vl (.bool true)) rfl rfl rfl
end Go.Proofs.YthpjmhhfcechmaaGreat
/- How plain data that came in read. -/
set_option linter.unusedVariables false
set_option linter.unusedSimpArgs false
namespace Go.Proofs.YthpjmhhfcechmaaGreat
open Go.RowKit Ma
theorem In.nil (W : World) : In W none 0 0 [] := ⟨rfl, Nat.le_refl _, Rd.nil _ _ _, dg_nil _⟩
theorem In.of {W : World} {x : Addr} {l c : Nat} {zs : List Int} (hl : l ≤ c) (hm : c ≤ maxLen) (hz : zs.length = c) (hcell : ∀ i, i < zs.length → W.cell? (x.add i) = some (.int .u32 (zs.getD i 0))) (hw : ∀ n ∈ zs, (Lit.int .u32 n).wf = true) : In W (some x) l c (zs.take l) := by
 have h1 : (zs.take l).length = l := by rw [List.length_take]; omega
 refine ⟨h1.symm, hl, ⟨by rw [h1]; unfold maxLen at hm; omega, fun i hi => ⟨x, rfl, ?_⟩⟩, fun n hn => ?_⟩
 ·rw [h1] at hi
  rw [hcell i (by omega)]
  simp only [at0, List.getD_eq_getElem?_getD, List.getElem?_take, hi, if_true]
 ·have h2 := hw n (List.mem_of_mem_take hn)
  simp only [Lit.wf, Bool.and_eq_true, decide_eq_true_eq] at h2
  have hm : IntKind.u32.max = 4294967295 := by simp [IntKind.max, IntKind.bits, IntKind.signed]
  have hn : IntKind.u32.min = 0 := by simp [IntKind.min, IntKind.signed]
  rw [hm, hn] at h2
  rw [b32_eq]
  omega
end Go.Proofs.YthpjmhhfcechmaaGreat
/- A fraction as plain data that came in, opened: two signs, two slices. -/
set_option linter.unusedVariables false
set_option linter.unusedSimpArgs false
namespace Go.Proofs.YthpjmhhfcechmaaGreat
open Go.ChangeShapes Go.WideShapes Go.ChangeAt Go.RowKit Go.Joins
set_option maxHeartbeats 1600000 in
set_option maxRecDepth 100000 in
theorem open_Q {H : Type} {enc : TypeId × Value → H} {w : World} {base : Nat} {spare : Nat → Bool} {held : Bool} {r : Reach} {b0 : Nat} {v : Value} {d : DataW H} {p : List MemPlace} (hv : Value.okWide Tryz.prog w r b0 26 v) (h : DataW.Trod enc Tryz.prog w base spare held 26 v d p) :
  ∃ (q0 q1 q2 q3 : Value) (y0 y1 y2 y3 : DataW H × List MemPlace) (n m : Nat), v = .agg #[q0, q1, q2, q3] ∧ DataW.trod enc Tryz.prog w base spare held n 4 [q0] = some y0 ∧ DataW.trod enc Tryz.prog w base spare held n 22 [q1] = some y1 ∧ DataW.trod enc Tryz.prog w base spare held m 4 [q2] = some y2 ∧ DataW.trod enc Tryz.prog w base spare held m 22 [q3] = some y3 := by
 obtain ⟨cs, rfl, hsz⟩ := okWide_struct Tryz.underlying26 hv
 have k4 : Tryz.prog.cellsOf 26 = 4 := by kernel_rfl
 have k2 : Tryz.prog.cellsOf 24 = 2 := by kernel_rfl
 have kb : Tryz.prog.cellsOf 4 = 1 := by kernel_rfl
 have ks : Tryz.prog.cellsOf 22 = 1 := by kernel_rfl
 obtain ⟨q0, q1, q2, q3, rfl⟩ := array4 (hsz.trans k4)
 obtain ⟨fuel, hf⟩ := h
 obtain ⟨y0, y1, n, hx, _, h0, h1⟩ := trod_struct2 Tryz.underlying26 hf
 have g0 : DataW.trod enc Tryz.prog w base spare held n 24 [q0, q1] = some y0 := by simpa [Value.cells, k2] using h0
 have g1 : DataW.trod enc Tryz.prog w base spare held n 24 [q2, q3] = some y1 := by simpa [Value.cells, k2] using h1
 obtain ⟨a0, a1, i, _, _, e0, e1⟩ := trod_struct2 Tryz.underlying24 g0
 obtain ⟨b0, b1, j, _, _, f0, f1⟩ := trod_struct2 Tryz.underlying24 g1
 exact ⟨q0, q1, q2, q3, a0, a1, b0, b1, i, j, rfl, by simpa [kb] using e0, by simpa [ks] using e1, by simpa [kb] using f0, by simpa [ks] using f1⟩
end Go.Proofs.YthpjmhhfcechmaaGreat
