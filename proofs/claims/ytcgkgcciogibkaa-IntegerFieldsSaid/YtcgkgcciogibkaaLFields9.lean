/- Parts Js, Gc, in one file. -/
import Derived.Test.YtcgkgcciogibkaaLFields4
import Derived.Test.YtcgkgcciogibkaaLFields5
import Derived.Test.YtcgkgcciogibkaaLFields7
import Derived.Test.YtcgkgcciogibkaaLFields8
/- The reference's Floor, Shift by rules. -/
set_option linter.unusedVariables false
set_option linter.unusedSimpArgs false
namespace Go.Proofs.Ytcgkgcciogibkaa.Sy
open Go Go.RowKit Ma
theorem r_neg {x : Operand} {dst : Option Tmp} {ty : TypeId} {pos : String} {after : Array Edge} {guard : Option (Nat × Bool)} {ρ : Operand → Value} {W : World} {a z : Int} (h1 : ρ x = .int .i64 a) (e : -a = z) (hz : -9223372036854775808 ≤ z ∧ z < 9223372036854775808) : (execOp ρ ⟨dst, .unOp .neg 3 x, ty, pos, after, guard⟩).run Try.prog W = .ok (.value (.int .i64 z)) W := by
  subst e
  have e : IntKind.i64.wrap (-a) = -a := IntWalk.i64_in _ (by omega)
  go_simp
  done
theorem fl0 {x y : Int} (h : x.tmod y = 0) : x / y = x.tdiv y := by
  have e := Int.mul_tdiv_add_tmod x y
  rw [h, Int.add_zero] at e
  by_cases hy : y = 0
  · subst hy; simp
  · have := Int.mul_ediv_cancel_left (x.tdiv y) hy
    rw [e] at this
    exact this
theorem fl1 {x y : Int} (hy : 0 < y) (hx : x < 0) (h : x.tmod y ≠ 0) : x / y = x.tdiv y - 1 := by
  have e := Int.mul_tdiv_add_tmod x y
  have h1 : x.tmod y = -((-x) % y) := by
    have := Int.tmod_eq_emod_of_nonneg (a := -x) (b := y) (by omega)
    rw [Int.neg_tmod] at this
    omega
  have h2 := Int.emod_nonneg (-x) (Int.ne_of_gt hy)
  have h3 := Int.emod_lt_of_pos (-x) hy
  have h4 : (x.tmod y + y) / y = 0 := Int.ediv_eq_zero_of_lt (by omega) (by omega)
  have h5 : (x.tmod y + y) / y = x.tmod y / y + 1 := Int.add_ediv_of_dvd_right (Int.dvd_refl y) |>.trans (by rw [Int.ediv_self (by omega)])
  have h6 := Int.add_mul_ediv_left (x.tmod y) (x.tdiv y) (show y ≠ 0 by omega)
  rw [Int.add_comm, e] at h6
  omega
theorem fl2 {x y : Int} (hx : ¬ x < 0) : x / y = x.tdiv y := (Int.tdiv_eq_ediv_of_nonneg (by omega)).symm
theorem gone_pos {x : Int} {n : Nat} (h : wid (x.natAbs : Int) < n) (hx : ¬ x < 0) : x / 2 ^ n = 0 := by
  have h1 := wid_lt (x.natAbs : Int)
  have h2 := pow_le (b := 2) (by decide) (Nat.le_of_lt h)
  exact Int.ediv_eq_zero_of_lt (by omega) (by omega)
theorem gone_neg {x : Int} {n : Nat} (h : wid (x.natAbs : Int) < n) (hx : x < 0) : x / 2 ^ n = -1 := by
  have h1 := wid_lt (x.natAbs : Int)
  have h2 := pow_le (b := 2) (by decide) (Nat.le_of_lt h)
  have hp : (0 : Int) < 2 ^ n := Int.pow_pos (by decide)
  have h4 : (x + 2 ^ n) / 2 ^ n = 0 := Int.ediv_eq_zero_of_lt (by omega) (by omega)
  have h5 : (x + 2 ^ n) / 2 ^ n = x / 2 ^ n + 1 := Int.add_ediv_of_dvd_right (Int.dvd_refl _) |>.trans (by rw [Int.ediv_self (by omega)])
  omega

theorem ce_k_jfloor : CE 105 := fun args W => by go_simp

set_option maxHeartbeats 3200000 in
set_option maxRecDepth 100000 in
theorem k_jfloor {x y : Int} {a b : Nat} (X : bd a x) (Y : bd b y) (ha : a ≤ 300000) (hb : b ≤ 300000) (hy : 0 < y) : CallOk 105 [KJ (x), KJ (y)] (KJ (x / y)) := by
  have ny : ¬ y < 0 := by omega
  refine CallOk.enter (l := [.kw (KJ (x)), .kw (KJ (y))]) 29 ce_k_jfloor Try.func105 rfl Try.ntmps105 (by simp) ⟨(KJ.st _), rfl, (KJ.st _), rfl, trivial⟩ fun w => ?_
  refine SC.seq ?_
  refine SC.region ?_
  refine PW.box (x := .tmp 0) (r := .kw (KJ (x))) (BI 31) rfl rfl rfl rfl rfl bJ rfl sh_J ?_
  refine PW.box (x := .tmp 1) (r := .kw (KJ (y))) (BI 31) rfl rfl rfl rfl rfl bJ rfl sh_J ?_
  refine PW.alloc (BI 31) rfl rfl rfl rfl rfl bJ ?_
  refine PW.nil ?_
  refine SX.then ?_
  refine SC.seq ?_
  refine SC.region ?_
  refine PW.load rfl rfl rfl rfl rfl rfl ?_
  refine PW.load rfl rfl rfl rfl rfl rfl ?_
  refine PW.call (r := .kw (K3 (KJ (x.tdiv y)) (KJ (x.tmod y)) (KV (.int .i64 0)))) rfl rfl rfl rfl rfl rfl (K3.st (KJ.st _) (KJ.st _) (KV.st _)) rfl (k_jdiv X Y (by omega) (by omega) (by omega)) ?_
  refine PW.move rfl rfl rfl rfl rfl ?_
  refine PW.ext (r := .kw (KJ (x.tdiv y))) rfl rfl rfl rfl rfl ex30 (KJ.st _) rfl ?_
  refine PW.ext (r := .kw (KJ (x.tmod y))) rfl rfl rfl rfl rfl ex31 (KJ.st _) rfl ?_
  refine PW.ext (r := .vl (.int .i64 0)) rfl rfl rfl rfl rfl ex32v (KV.st _) rfl ?_
  refine PW.alloc (BI 31) rfl rfl rfl rfl rfl bJ ?_
  refine PW.alloc (BI 31) rfl rfl rfl rfl rfl bJ ?_
  refine PW.store (x := .tmp 12) (r := .kw (KJ (x.tdiv y))) rfl rfl rfl rfl rfl rfl sh_J ?_
  refine PW.store (x := .tmp 13) (r := .kw (KJ (x.tmod y))) rfl rfl rfl rfl rfl rfl sh_J ?_
  refine PW.assign rfl rfl rfl rfl rfl ?_
  refine PW.nil ?_
  refine SX.then ?_
  refine SC.seq ?_
  refine SC.seq ?_
  by_cases hr : x.tmod y = 0
  · refine SC.region ?_
    refine PW.load rfl rfl rfl rfl rfl rfl ?_
    refine PW.call (r := .vl (.int .i64 (sgn (x.tmod y)))) rfl rfl rfl rfl rfl rfl (KV.st _) rfl (k_jsign rfl) ?_
    refine PW.q2 (x := .tmp 16) (y := .const (.int .i64 0)) (.bool false) rfl rfl rfl rfl rfl (fun ρ W h1 h2 => by exact r_neF h1 h2 (by rw [hr]; rfl)) ?_
    refine PW.move rfl rfl rfl rfl rfl ?_
    refine PW.skip rfl rfl rfl ?_
    refine PW.skip rfl rfl rfl ?_
    refine PW.skip rfl rfl rfl ?_
    refine PW.skip rfl rfl rfl ?_
    refine PW.skip rfl rfl rfl ?_
    refine PW.pick (t := false) rfl rfl rfl rfl rfl rfl ?_
    refine PW.nil ?_
    refine SX.then ?_
    refine SC.cond (t := false) rfl ?_
    refine SC.skip ?_
    refine SX.then ?_
    refine SC.seq ?_
    refine SC.region ?_
    refine PW.load rfl rfl rfl rfl rfl rfl ?_
    refine PW.store (x := .tmp 28) (r := .kw (KJ (x.tdiv y))) rfl rfl rfl rfl rfl rfl sh_J ?_
    refine PW.nil ?_
    refine SX.then ?_
    refine SC.ret ?_
    have hz : x / y = x.tdiv y := fl0 hr
    rw [hz]
    exact SX.doneC (s := 4) (.inl rfl) rfl rfl rfl
  · by_cases nx : x < 0
    · refine SC.region ?_
      refine PW.load rfl rfl rfl rfl rfl rfl ?_
      refine PW.call (r := .vl (.int .i64 (sgn (x.tmod y)))) rfl rfl rfl rfl rfl rfl (KV.st _) rfl (k_jsign rfl) ?_
      refine PW.q2 (x := .tmp 16) (y := .const (.int .i64 0)) (.bool true) rfl rfl rfl rfl rfl (fun ρ W h1 h2 => by exact r_neT h1 h2 (sgn_ne hr)) ?_
      refine PW.move rfl rfl rfl rfl rfl ?_
      refine PW.fld (r := .vl (.bool true)) rfl rfl rfl rfl rfl rfl rfl rfl rfl rfl rfl (fldJ0 (decide_eq_true nx)) (KV.st _) ?_
      refine PW.fld (r := .vl (.bool false)) rfl rfl rfl rfl rfl rfl rfl rfl rfl rfl rfl (fldJ0 (decide_eq_false ny)) (KV.st _) ?_
      refine PW.q2 (x := .tmp 20) (y := .tmp 22) (.bool true) rfl rfl rfl rfl rfl (fun ρ W h1 h2 => by go_simp) ?_
      refine PW.pick (t := true) rfl rfl rfl rfl rfl rfl ?_
      refine PW.nil ?_
      refine SX.then ?_
      refine SC.cond (t := true) rfl ?_
      refine SC.seq ?_
      refine SC.dx [.val 25 (.kw (KJ (x.tdiv y))), .val 26 (.kw (KJ (1))), .val 27 (.kw (KJ ((x.tdiv y) - 1))), .put 4 (BI 31) (.kw (KJ ((x.tdiv y) - 1)))] [([], [5]), ([], []), ([0, 1], []), ([2], [4])] rfl (by kernel_rfl) (by kernel_rfl) (by kernel_rfl) rfl ⟨?_, ?_, ?_, ?_, trivial⟩ ?_
      · exact DX.load rfl rfl rfl rfl rfl rfl
      · exact DX.call (r := .kw (KJ (1))) rfl rfl rfl rfl rfl rfl (KJ.st _) rfl (k_jnew (by decide))
      · exact DX.call (r := .kw (KJ ((x.tdiv y) - 1))) rfl rfl rfl rfl rfl rfl (KJ.st _) rfl (k_jsub ((X).tdiv) (bd.lit (by decide)) (by first | decide | omega) (by first | decide | omega))
      · exact DX.store (x := .tmp 27) (r := .kw (KJ ((x.tdiv y) - 1))) rfl rfl rfl rfl rfl rfl sh_J
      refine SX.then ?_
      refine SC.ret ?_
      refine SX.thenR ?_
      have hz : x / y = (x.tdiv y) - 1 := fl1 hy nx hr
      rw [hz]
      exact SX.doneC (s := 4) (.inl rfl) rfl rfl rfl
    · refine SC.region ?_
      refine PW.load rfl rfl rfl rfl rfl rfl ?_
      refine PW.call (r := .vl (.int .i64 (sgn (x.tmod y)))) rfl rfl rfl rfl rfl rfl (KV.st _) rfl (k_jsign rfl) ?_
      refine PW.q2 (x := .tmp 16) (y := .const (.int .i64 0)) (.bool true) rfl rfl rfl rfl rfl (fun ρ W h1 h2 => by exact r_neT h1 h2 (sgn_ne hr)) ?_
      refine PW.move rfl rfl rfl rfl rfl ?_
      refine PW.fld (r := .vl (.bool false)) rfl rfl rfl rfl rfl rfl rfl rfl rfl rfl rfl (fldJ0 (decide_eq_false nx)) (KV.st _) ?_
      refine PW.fld (r := .vl (.bool false)) rfl rfl rfl rfl rfl rfl rfl rfl rfl rfl rfl (fldJ0 (decide_eq_false ny)) (KV.st _) ?_
      refine PW.q2 (x := .tmp 20) (y := .tmp 22) (.bool false) rfl rfl rfl rfl rfl (fun ρ W h1 h2 => by go_simp) ?_
      refine PW.pick (t := true) rfl rfl rfl rfl rfl rfl ?_
      refine PW.nil ?_
      refine SX.then ?_
      refine SC.cond (t := false) rfl ?_
      refine SC.skip ?_
      refine SX.then ?_
      refine SC.seq ?_
      refine SC.region ?_
      refine PW.load rfl rfl rfl rfl rfl rfl ?_
      refine PW.store (x := .tmp 28) (r := .kw (KJ (x.tdiv y))) rfl rfl rfl rfl rfl rfl sh_J ?_
      refine PW.nil ?_
      refine SX.then ?_
      refine SC.ret ?_
      have hz : x / y = x.tdiv y := fl2 nx
      rw [hz]
      exact SX.doneC (s := 4) (.inl rfl) rfl rfl rfl

theorem ce_k_jshift_z : CE 57 := fun args W => by go_simp

set_option maxHeartbeats 3200000 in
set_option maxRecDepth 100000 in
theorem k_jshift_z {x n : Int} (hx : x = 0) : CallOk 57 [KJ (x), KV (.int .i64 (n))] (K2 (KJ x) (KV (.int .i64 0))) := by
  refine CallOk.enter (l := [.kw (KJ (x)), .vl (.int .i64 (n))]) 40 ce_k_jshift_z Try.func57 rfl Try.ntmps57 (by simp) ⟨(KJ.st _), rfl, (KV.st _), rfl, trivial⟩ fun w => ?_
  refine SC.seq ?_
  refine SC.region ?_
  refine PW.box (x := .tmp 0) (r := .kw (KJ (x))) (BI 31) rfl rfl rfl rfl rfl bJ rfl sh_J ?_
  refine PW.alloc (BI 31) rfl rfl rfl rfl rfl bJ ?_
  refine PW.assign rfl rfl rfl rfl rfl ?_
  refine PW.nil ?_
  refine SX.then ?_
  refine SC.seq ?_
  refine SC.seq ?_
  refine SC.region ?_
  refine PW.load rfl rfl rfl rfl rfl rfl ?_
  refine PW.call (r := .vl (.int .i64 (sgn x))) rfl rfl rfl rfl rfl rfl (KV.st _) rfl (k_jsign rfl) ?_
  refine PW.q2 (x := .tmp 7) (y := .const (.int .i64 0)) (.bool true) rfl rfl rfl rfl rfl (fun ρ W h1 h2 => by exact r_eqT h1 h2 (by rw [hx]; rfl)) ?_
  refine PW.nil ?_
  refine SX.then ?_
  refine SC.cond (t := true) rfl ?_
  refine SC.seq ?_
  refine SC.region ?_
  refine PW.load rfl rfl rfl rfl rfl rfl ?_
  refine PW.store (x := .tmp 9) (r := .kw (KJ (x))) rfl rfl rfl rfl rfl rfl sh_J ?_
  refine PW.assign rfl rfl rfl rfl rfl ?_
  refine PW.nil ?_
  refine SX.then ?_
  refine SC.ret ?_
  refine SX.thenR ?_
  exact SX.done2 (s := 4) (t := 5) (r := .vl (.int .i64 0)) (.inl rfl) rfl rfl rfl rfl

set_option maxHeartbeats 3200000 in
set_option maxRecDepth 100000 in
theorem k_jshift_big {x n : Int} (hx : x ≠ 0) (hn : 65536 < n) : CallOk 57 [KJ (x), KV (.int .i64 (n))] (K2 (KJ 0) (KV (.int .i64 14))) := by
  refine CallOk.enter (l := [.kw (KJ (x)), .vl (.int .i64 (n))]) 40 ce_k_jshift_z Try.func57 rfl Try.ntmps57 (by simp) ⟨(KJ.st _), rfl, (KV.st _), rfl, trivial⟩ fun w => ?_
  refine SC.seq ?_
  refine SC.region ?_
  refine PW.box (x := .tmp 0) (r := .kw (KJ (x))) (BI 31) rfl rfl rfl rfl rfl bJ rfl sh_J ?_
  refine PW.alloc (BI 31) rfl rfl rfl rfl rfl bJ ?_
  refine PW.assign rfl rfl rfl rfl rfl ?_
  refine PW.nil ?_
  refine SX.then ?_
  refine SC.seq ?_
  refine SC.seq ?_
  refine SC.region ?_
  refine PW.load rfl rfl rfl rfl rfl rfl ?_
  refine PW.call (r := .vl (.int .i64 (sgn x))) rfl rfl rfl rfl rfl rfl (KV.st _) rfl (k_jsign rfl) ?_
  refine PW.q2 (x := .tmp 7) (y := .const (.int .i64 0)) (.bool false) rfl rfl rfl rfl rfl (fun ρ W h1 h2 => by exact r_eqF h1 h2 (sgn_ne hx)) ?_
  refine PW.nil ?_
  refine SX.then ?_
  refine SC.cond (t := false) rfl ?_
  refine SC.skip ?_
  refine SX.then ?_
  refine SC.seq ?_
  refine SC.seq ?_
  refine SC.region ?_
  refine PW.move rfl rfl rfl rfl rfl ?_
  refine PW.q2 (x := .tmp 10) (y := .const (.int .i64 0)) (.bool true) rfl rfl rfl rfl rfl (fun ρ W h1 h2 => by exact r_ge h1 h2 (decide_eq_true (by omega))) ?_
  refine PW.nil ?_
  refine SX.then ?_
  refine SC.cond (t := true) rfl ?_
  refine SC.seq ?_
  refine SC.seq ?_
  refine SC.region ?_
  refine PW.move rfl rfl rfl rfl rfl ?_
  refine PW.q2 (x := .tmp 12) (y := .const (.int .i64 65536)) (.bool true) rfl rfl rfl rfl rfl (fun ρ W h1 h2 => by exact r_gt h1 h2 (decide_eq_true (by omega))) ?_
  refine PW.move rfl rfl rfl rfl rfl ?_
  refine PW.skip rfl rfl rfl ?_
  refine PW.skip rfl rfl rfl ?_
  refine PW.skip rfl rfl rfl ?_
  refine PW.skip rfl rfl rfl ?_
  refine PW.skip rfl rfl rfl ?_
  refine PW.pick (t := true) rfl rfl rfl rfl rfl rfl ?_
  refine PW.nil ?_
  refine SX.then ?_
  refine SC.cond (t := true) rfl ?_
  refine SC.seq ?_
  refine SC.region ?_
  refine PW.val (r := .kw (KJ (0))) rfl rfl rfl rfl (fun a W hf => ⟨.agg #[.bool false, .slice none 0 0], by go_simp, zeroJ W, KJ.st _⟩) ?_
  refine PW.store (x := .tmp 21) (r := .kw (KJ (0))) rfl rfl rfl rfl rfl rfl sh_J ?_
  refine PW.assign rfl rfl rfl rfl rfl ?_
  refine PW.nil ?_
  refine SX.then ?_
  refine SC.ret ?_
  refine SX.thenR ?_
  refine SX.thenR ?_
  exact SX.done2 (s := 4) (t := 5) (r := .vl (.int .i64 14)) (.inl rfl) rfl rfl rfl rfl

set_option maxHeartbeats 3200000 in
set_option maxRecDepth 100000 in
theorem k_jshift_up {x : Int} {a n : Nat} (X : bd a x) (ha : a ≤ 300000) (hx : x ≠ 0) (hn : wid (pat x) + n ≤ 65536) : CallOk 57 [KJ (x), KV (.int .i64 (n : Int))] (K2 (KJ (x * 2 ^ n)) (KV (.int .i64 0))) := by
  refine CallOk.enter (l := [.kw (KJ (x)), .vl (.int .i64 (n : Int))]) 40 ce_k_jshift_z Try.func57 rfl Try.ntmps57 (by simp) ⟨(KJ.st _), rfl, (KV.st _), rfl, trivial⟩ fun w => ?_
  refine SC.seq ?_
  refine SC.region ?_
  refine PW.box (x := .tmp 0) (r := .kw (KJ (x))) (BI 31) rfl rfl rfl rfl rfl bJ rfl sh_J ?_
  refine PW.alloc (BI 31) rfl rfl rfl rfl rfl bJ ?_
  refine PW.assign rfl rfl rfl rfl rfl ?_
  refine PW.nil ?_
  refine SX.then ?_
  refine SC.seq ?_
  refine SC.seq ?_
  refine SC.region ?_
  refine PW.load rfl rfl rfl rfl rfl rfl ?_
  refine PW.call (r := .vl (.int .i64 (sgn x))) rfl rfl rfl rfl rfl rfl (KV.st _) rfl (k_jsign rfl) ?_
  refine PW.q2 (x := .tmp 7) (y := .const (.int .i64 0)) (.bool false) rfl rfl rfl rfl rfl (fun ρ W h1 h2 => by exact r_eqF h1 h2 (sgn_ne hx)) ?_
  refine PW.nil ?_
  refine SX.then ?_
  refine SC.cond (t := false) rfl ?_
  refine SC.skip ?_
  refine SX.then ?_
  refine SC.seq ?_
  refine SC.seq ?_
  refine SC.region ?_
  refine PW.move rfl rfl rfl rfl rfl ?_
  refine PW.q2 (x := .tmp 10) (y := .const (.int .i64 0)) (.bool true) rfl rfl rfl rfl rfl (fun ρ W h1 h2 => by exact r_ge h1 h2 (decide_eq_true (by omega))) ?_
  refine PW.nil ?_
  refine SX.then ?_
  refine SC.cond (t := true) rfl ?_
  refine SC.seq ?_
  refine SC.seq ?_
  refine SC.region ?_
  refine PW.move rfl rfl rfl rfl rfl ?_
  refine PW.q2 (x := .tmp 12) (y := .const (.int .i64 65536)) (.bool false) rfl rfl rfl rfl rfl (fun ρ W h1 h2 => by exact r_gt h1 h2 (decide_eq_false (by omega))) ?_
  refine PW.move rfl rfl rfl rfl rfl ?_
  refine PW.load rfl rfl rfl rfl rfl rfl ?_
  refine PW.call (r := .vl (.int .i64 (wid (pat x) : Int))) rfl rfl rfl rfl rfl rfl (KV.st _) rfl (k_jlen X (by first | decide | omega)) ?_
  refine PW.move rfl rfl rfl rfl rfl ?_
  refine PW.q2 (x := .tmp 16) (y := .tmp 17) (.int .i64 ((wid (pat x) : Int) + (n : Int))) rfl rfl rfl rfl rfl (fun ρ W h1 h2 => by exact r_add h1 h2 (rfl) (by omega)) ?_
  refine PW.q2 (x := .tmp 18) (y := .const (.int .i64 65536)) (.bool false) rfl rfl rfl rfl rfl (fun ρ W h1 h2 => by exact r_gt h1 h2 (decide_eq_false (by omega))) ?_
  refine PW.pick (t := false) rfl rfl rfl rfl rfl rfl ?_
  refine PW.nil ?_
  refine SX.then ?_
  refine SC.cond (t := false) rfl ?_
  refine SC.skip ?_
  refine SX.then ?_
  refine SC.seq ?_
  refine SC.dx [.val 22 (.kw (KJ (x))), .val 23 (.vl (.int .i64 (n : Int))), .val 24 (.kw (KJ (2 ^ n))), .val 25 (.kw (KJ (x * (2 ^ n)))), .put 4 (BI 31) (.kw (KJ (x * (2 ^ n)))), .val 5 (.vl (.int .i64 0))] [([], [2]), ([], [1]), ([1], []), ([0, 2], []), ([3], [4]), ([], [])] rfl (by kernel_rfl) (by kernel_rfl) (by kernel_rfl) rfl ⟨?_, ?_, ?_, ?_, ?_, ?_, trivial⟩ ?_
  · exact DX.load rfl rfl rfl rfl rfl rfl
  · exact DX.move rfl rfl rfl rfl rfl rfl
  · exact DX.call (r := .kw (KJ (2 ^ n))) rfl rfl rfl rfl rfl rfl (KJ.st _) rfl (k_two (by omega))
  · exact DX.call (r := .kw (KJ (x * (2 ^ n)))) rfl rfl rfl rfl rfl rfl (KJ.st _) rfl (k_jmul X ((bd_two (n := n) (i := n) (by omega))) (by first | decide | omega) (by first | decide | omega))
  · exact DX.store (x := .tmp 25) (r := .kw (KJ (x * (2 ^ n)))) rfl rfl rfl rfl rfl rfl sh_J
  · exact DX.assign rfl rfl rfl rfl rfl rfl
  refine SX.then ?_
  refine SC.ret ?_
  refine SX.thenR ?_
  exact SX.done2 (s := 4) (t := 5) (r := .vl (.int .i64 0)) (.inl rfl) rfl rfl rfl rfl

set_option maxHeartbeats 3200000 in
set_option maxRecDepth 100000 in
theorem k_jshift_over {x : Int} {a n : Nat} (X : bd a x) (ha : a ≤ 300000) (hx : x ≠ 0) (hn0 : n ≤ 65536) (hn : 65536 < wid (pat x) + n) : CallOk 57 [KJ (x), KV (.int .i64 (n : Int))] (K2 (KJ 0) (KV (.int .i64 14))) := by
  have wx := wid_bdp X
  refine CallOk.enter (l := [.kw (KJ (x)), .vl (.int .i64 (n : Int))]) 40 ce_k_jshift_z Try.func57 rfl Try.ntmps57 (by simp) ⟨(KJ.st _), rfl, (KV.st _), rfl, trivial⟩ fun w => ?_
  refine SC.seq ?_
  refine SC.region ?_
  refine PW.box (x := .tmp 0) (r := .kw (KJ (x))) (BI 31) rfl rfl rfl rfl rfl bJ rfl sh_J ?_
  refine PW.alloc (BI 31) rfl rfl rfl rfl rfl bJ ?_
  refine PW.assign rfl rfl rfl rfl rfl ?_
  refine PW.nil ?_
  refine SX.then ?_
  refine SC.seq ?_
  refine SC.seq ?_
  refine SC.region ?_
  refine PW.load rfl rfl rfl rfl rfl rfl ?_
  refine PW.call (r := .vl (.int .i64 (sgn x))) rfl rfl rfl rfl rfl rfl (KV.st _) rfl (k_jsign rfl) ?_
  refine PW.q2 (x := .tmp 7) (y := .const (.int .i64 0)) (.bool false) rfl rfl rfl rfl rfl (fun ρ W h1 h2 => by exact r_eqF h1 h2 (sgn_ne hx)) ?_
  refine PW.nil ?_
  refine SX.then ?_
  refine SC.cond (t := false) rfl ?_
  refine SC.skip ?_
  refine SX.then ?_
  refine SC.seq ?_
  refine SC.seq ?_
  refine SC.region ?_
  refine PW.move rfl rfl rfl rfl rfl ?_
  refine PW.q2 (x := .tmp 10) (y := .const (.int .i64 0)) (.bool true) rfl rfl rfl rfl rfl (fun ρ W h1 h2 => by exact r_ge h1 h2 (decide_eq_true (by omega))) ?_
  refine PW.nil ?_
  refine SX.then ?_
  refine SC.cond (t := true) rfl ?_
  refine SC.seq ?_
  refine SC.seq ?_
  refine SC.region ?_
  refine PW.move rfl rfl rfl rfl rfl ?_
  refine PW.q2 (x := .tmp 12) (y := .const (.int .i64 65536)) (.bool false) rfl rfl rfl rfl rfl (fun ρ W h1 h2 => by exact r_gt h1 h2 (decide_eq_false (by omega))) ?_
  refine PW.move rfl rfl rfl rfl rfl ?_
  refine PW.load rfl rfl rfl rfl rfl rfl ?_
  refine PW.call (r := .vl (.int .i64 (wid (pat x) : Int))) rfl rfl rfl rfl rfl rfl (KV.st _) rfl (k_jlen X (by first | decide | omega)) ?_
  refine PW.move rfl rfl rfl rfl rfl ?_
  refine PW.q2 (x := .tmp 16) (y := .tmp 17) (.int .i64 ((wid (pat x) : Int) + (n : Int))) rfl rfl rfl rfl rfl (fun ρ W h1 h2 => by exact r_add h1 h2 (rfl) (by omega)) ?_
  refine PW.q2 (x := .tmp 18) (y := .const (.int .i64 65536)) (.bool true) rfl rfl rfl rfl rfl (fun ρ W h1 h2 => by exact r_gt h1 h2 (decide_eq_true (by omega))) ?_
  refine PW.pick (t := false) rfl rfl rfl rfl rfl rfl ?_
  refine PW.nil ?_
  refine SX.then ?_
  refine SC.cond (t := true) rfl ?_
  refine SC.seq ?_
  refine SC.region ?_
  refine PW.val (r := .kw (KJ (0))) rfl rfl rfl rfl (fun a W hf => ⟨.agg #[.bool false, .slice none 0 0], by go_simp, zeroJ W, KJ.st _⟩) ?_
  refine PW.store (x := .tmp 21) (r := .kw (KJ (0))) rfl rfl rfl rfl rfl rfl sh_J ?_
  refine PW.assign rfl rfl rfl rfl rfl ?_
  refine PW.nil ?_
  refine SX.then ?_
  refine SC.ret ?_
  refine SX.thenR ?_
  refine SX.thenR ?_
  exact SX.done2 (s := 4) (t := 5) (r := .vl (.int .i64 14)) (.inl rfl) rfl rfl rfl rfl

set_option maxHeartbeats 3200000 in
set_option maxRecDepth 100000 in
theorem k_jshift_dn {x : Int} {a n : Nat} (X : bd a x) (ha : a ≤ 100000) (hx : x ≠ 0) (hn : 1 ≤ n) (hn2 : n ≤ 9223372036854775808) : CallOk 57 [KJ (x), KV (.int .i64 (-(n : Int)))] (K2 (KJ (x / 2 ^ n)) (KV (.int .i64 0))) := by
  have wx := wid_bdn X
  refine CallOk.enter (l := [.kw (KJ (x)), .vl (.int .i64 (-(n : Int)))]) 40 ce_k_jshift_z Try.func57 rfl Try.ntmps57 (by simp) ⟨(KJ.st _), rfl, (KV.st _), rfl, trivial⟩ fun w => ?_
  refine SC.seq ?_
  refine SC.region ?_
  refine PW.box (x := .tmp 0) (r := .kw (KJ (x))) (BI 31) rfl rfl rfl rfl rfl bJ rfl sh_J ?_
  refine PW.alloc (BI 31) rfl rfl rfl rfl rfl bJ ?_
  refine PW.assign rfl rfl rfl rfl rfl ?_
  refine PW.nil ?_
  refine SX.then ?_
  refine SC.seq ?_
  refine SC.seq ?_
  refine SC.region ?_
  refine PW.load rfl rfl rfl rfl rfl rfl ?_
  refine PW.call (r := .vl (.int .i64 (sgn x))) rfl rfl rfl rfl rfl rfl (KV.st _) rfl (k_jsign rfl) ?_
  refine PW.q2 (x := .tmp 7) (y := .const (.int .i64 0)) (.bool false) rfl rfl rfl rfl rfl (fun ρ W h1 h2 => by exact r_eqF h1 h2 (sgn_ne hx)) ?_
  refine PW.nil ?_
  refine SX.then ?_
  refine SC.cond (t := false) rfl ?_
  refine SC.skip ?_
  refine SX.then ?_
  refine SC.seq ?_
  refine SC.seq ?_
  refine SC.region ?_
  refine PW.move rfl rfl rfl rfl rfl ?_
  refine PW.q2 (x := .tmp 10) (y := .const (.int .i64 0)) (.bool false) rfl rfl rfl rfl rfl (fun ρ W h1 h2 => by exact r_ge h1 h2 (decide_eq_false (by omega))) ?_
  refine PW.nil ?_
  refine SX.then ?_
  refine SC.cond (t := false) rfl ?_
  refine SC.skip ?_
  refine SX.then ?_
  refine SC.seq ?_
  refine SC.seq ?_
  by_cases hw : wid (x.natAbs : Int) < n
  · refine SC.region ?_
    refine PW.move rfl rfl rfl rfl rfl ?_
    refine PW.load rfl rfl rfl rfl rfl rfl ?_
    refine PW.call (r := .vl (.int .i64 (wid ((x).natAbs) : Int))) rfl rfl rfl rfl rfl rfl (KV.st _) rfl (k_width X (by first | decide | omega)) ?_
    refine PW.q1 (x := .tmp 28) (.int .i64 (-(wid (x.natAbs : Int) : Int))) rfl rfl rfl rfl (fun ρ W h1 => by exact r_neg h1 rfl (by omega)) ?_
    refine PW.q2 (x := .tmp 26) (y := .tmp 29) (.bool true) rfl rfl rfl rfl rfl (fun ρ W h1 h2 => by exact r_lt h1 h2 (decide_eq_true (by omega))) ?_
    refine PW.nil ?_
    refine SX.then ?_
    refine SC.cond (t := true) rfl ?_
    refine SC.seq ?_
    refine SC.seq ?_
    by_cases nx : x < 0
    · refine SC.region ?_
      refine PW.fld (r := .vl (.bool true)) rfl rfl rfl rfl rfl rfl rfl rfl rfl rfl rfl (fldJ0 (decide_eq_true nx)) (KV.st _) ?_
      refine PW.nil ?_
      refine SX.then ?_
      refine SC.cond (t := true) rfl ?_
      refine SC.seq ?_
      refine SC.region ?_
      refine PW.call (r := .kw (KJ (-1))) rfl rfl rfl rfl rfl rfl (KJ.st _) rfl (k_jnew (by decide)) ?_
      refine PW.store (x := .tmp 33) (r := .kw (KJ (-1))) rfl rfl rfl rfl rfl rfl sh_J ?_
      refine PW.assign rfl rfl rfl rfl rfl ?_
      refine PW.nil ?_
      refine SX.then ?_
      refine SC.ret ?_
      refine SX.thenR ?_
      refine SX.thenR ?_
      have hz : x / 2 ^ n = -1 := gone_neg hw nx
      rw [hz]
      exact SX.done2 (s := 4) (t := 5) (r := .vl (.int .i64 0)) (.inl rfl) rfl rfl rfl rfl
    · refine SC.region ?_
      refine PW.fld (r := .vl (.bool false)) rfl rfl rfl rfl rfl rfl rfl rfl rfl rfl rfl (fldJ0 (decide_eq_false nx)) (KV.st _) ?_
      refine PW.nil ?_
      refine SX.then ?_
      refine SC.cond (t := false) rfl ?_
      refine SC.skip ?_
      refine SX.then ?_
      refine SC.seq ?_
      refine SC.region ?_
      refine PW.call (r := .kw (KJ (0))) rfl rfl rfl rfl rfl rfl (KJ.st _) rfl (k_jnew (by decide)) ?_
      refine PW.store (x := .tmp 34) (r := .kw (KJ (0))) rfl rfl rfl rfl rfl rfl sh_J ?_
      refine PW.assign rfl rfl rfl rfl rfl ?_
      refine PW.nil ?_
      refine SX.then ?_
      refine SC.ret ?_
      refine SX.thenR ?_
      have hz : x / 2 ^ n = 0 := gone_pos hw nx
      rw [hz]
      exact SX.done2 (s := 4) (t := 5) (r := .vl (.int .i64 0)) (.inl rfl) rfl rfl rfl rfl
  · refine SC.region ?_
    refine PW.move rfl rfl rfl rfl rfl ?_
    refine PW.load rfl rfl rfl rfl rfl rfl ?_
    refine PW.call (r := .vl (.int .i64 (wid ((x).natAbs) : Int))) rfl rfl rfl rfl rfl rfl (KV.st _) rfl (k_width X (by first | decide | omega)) ?_
    refine PW.q1 (x := .tmp 28) (.int .i64 (-(wid (x.natAbs : Int) : Int))) rfl rfl rfl rfl (fun ρ W h1 => by exact r_neg h1 rfl (by omega)) ?_
    refine PW.q2 (x := .tmp 26) (y := .tmp 29) (.bool false) rfl rfl rfl rfl rfl (fun ρ W h1 h2 => by exact r_lt h1 h2 (decide_eq_false (by omega))) ?_
    refine PW.nil ?_
    refine SX.then ?_
    refine SC.cond (t := false) rfl ?_
    refine SC.skip ?_
    refine SX.then ?_
    refine SC.seq ?_
    refine SC.dx [.val 35 (.kw (KJ (x))), .val 36 (.vl (.int .i64 (-(n : Int)))), .val 37 (.vl (.int .i64 (n : Int))), .val 38 (.kw (KJ (2 ^ n))), .val 39 (.kw (KJ (x / 2 ^ n))), .put 4 (BI 31) (.kw (KJ (x / 2 ^ n))), .val 5 (.vl (.int .i64 0))] [([], [2]), ([], [1]), ([1], []), ([2], []), ([0, 3], []), ([4], [4]), ([], [])] rfl (by kernel_rfl) (by kernel_rfl) (by kernel_rfl) rfl ⟨?_, ?_, ?_, ?_, ?_, ?_, ?_, trivial⟩ ?_
    · exact DX.load rfl rfl rfl rfl rfl rfl
    · exact DX.move rfl rfl rfl rfl rfl rfl
    · exact DX.q1 (x := .tmp 36) (.int .i64 (n : Int)) rfl rfl rfl rfl (fun ρ W h1 => by exact r_neg h1 (by omega) (by omega))
    · exact DX.call (r := .kw (KJ (2 ^ n))) rfl rfl rfl rfl rfl rfl (KJ.st _) rfl (k_two (by omega))
    · exact DX.call (r := .kw (KJ (x / 2 ^ n))) rfl rfl rfl rfl rfl rfl (KJ.st _) rfl (k_jfloor X (bd_two (n := a) (i := n) (by omega)) (by omega) (by omega) (Int.pow_pos (by decide)))
    · exact DX.store (x := .tmp 39) (r := .kw (KJ (x / 2 ^ n))) rfl rfl rfl rfl rfl rfl sh_J
    · exact DX.assign rfl rfl rfl rfl rfl rfl
    refine SX.then ?_
    refine SC.ret ?_
    exact SX.done2 (s := 4) (t := 5) (r := .vl (.int .i64 0)) (.inl rfl) rfl rfl rfl rfl

theorem k_jshift {x n : Int} {a : Nat} (X : bd a x) (ha : a ≤ 2000) (h0 : -9223372036854775808 ≤ n) (h1 : n ≤ 9223372036854775807) (h : shOk x n) : CallOk 57 [KJ x, KV (.int .i64 n)] (K2 (KJ (sh x n)) (KV (.int .i64 0))) := by
  by_cases hx : x = 0
  · have e : sh x n = x := by rw [hx]; unfold sh; split <;> simp
    rw [e]; exact k_jshift_z hx
  · by_cases hn : 0 ≤ n
    · obtain ⟨m, rfl⟩ : ∃ m : Nat, n = m := ⟨n.toNat, by omega⟩
      rw [sh_up]
      by_cases hm : m = 0
      · subst hm
        exact k_jshift_up X (by omega) hx (by have := wid_bdp X; omega)
      · exact k_jshift_up X (by omega) hx (by rcases h with h | h | h <;> omega)
    · obtain ⟨m, rfl⟩ : ∃ m : Nat, n = -(m : Int) := ⟨(-n).toNat, by omega⟩
      rw [sh_down]
      exact k_jshift_dn X (by omega) hx (by omega) (by omega)
theorem k_jshift_1 {x n : Int} {a : Nat} (X : bd a x) (ha : a ≤ 100000) (h1 : n ≤ 9223372036854775807) (h : ¬ shOk x n) : CallOk 57 [KJ x, KV (.int .i64 n)] (K2 (KJ 0) (KV (.int .i64 14))) := by
  unfold shOk at h
  have hx : x ≠ 0 := fun e => h (.inr (.inl e))
  by_cases hn : 65536 < n
  · exact k_jshift_big hx hn
  · obtain ⟨m, rfl⟩ : ∃ m : Nat, n = m := ⟨n.toNat, by omega⟩
    exact k_jshift_over X (by omega) hx (by omega) (by omega)

end Go.Proofs.Ytcgkgcciogibkaa.Sy
/- The contract of the program's Gcd, by rules. -/
set_option linter.unusedVariables false
set_option linter.unusedSimpArgs false
namespace Go.Proofs.Ytcgkgcciogibkaa.Sy
open Go Go.RowKit Ma
end Go.Proofs.Ytcgkgcciogibkaa.Sy
