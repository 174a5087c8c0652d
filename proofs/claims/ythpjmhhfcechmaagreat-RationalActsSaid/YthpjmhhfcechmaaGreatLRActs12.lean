/- Parts Lpw, Rs, Rs2, Sm, Rac, D2, D3, in one file. -/
import Derived.RowKit
import Derived.WalkKit
import Derived.ProofKit
import Derived.OpenShut
import Derived.ShutString
import Derived.ChangeOld
import Derived.Lib.SmallJoins
import Derived.Test.YthpjmhhfcechmaaGreatLRActs10
import Derived.Test.YthpjmhhfcechmaaGreatLRActs11
import Derived.Test.YthpjmhhfcechmaaGreatLRActs3
import Derived.Test.YthpjmhhfcechmaaGreatLRActs4
import Derived.Test.YthpjmhhfcechmaaGreatLRActs8
import Derived.Test.YthpjmhhfcechmaaGreatLRActs9
/- Plain laws: powers and roots of fractions, rounded quotients. -/
set_option linter.unusedVariables false
set_option linter.unusedSimpArgs false
namespace Go.Proofs.YthpjmhhfcechmaaGreat.Sy
open Go Go.RowKit Ma
theorem divInt_pow (n d : Int) (k : Nat) : Rat.divInt (n ^ k) (d ^ k) = (Rat.divInt n d) ^ k := by
 induction k with
 | zero => rw [Int.pow_zero, Int.pow_zero, Rat.pow_zero]; rfl
 | succ k ih => rw [Int.pow_succ, Int.pow_succ, Rat.pow_succ, ← ih, Rat.divInt_mul_divInt]
theorem pow_over (x : Rat) (k : Nat) : x ^ k = Rat.divInt (x.num ^ k) ((x.den : Int) ^ k) := by
 rw [divInt_pow, Rat.num_divInt_den]
theorem inv_pow_over (x : Rat) (k : Nat) : x⁻¹ ^ k = Rat.divInt ((x.den : Int) ^ k) (x.num ^ k) := by
 rw [divInt_pow, ← Rat.inv_def]
theorem zpow_neg_nat (x : Rat) (k : Nat) : x ^ (-(k : Int)) = x⁻¹ ^ k := by
 rw [Rat.zpow_neg, Rat.zpow_natCast, inv_pow_over, pow_over, Rat.inv_divInt]
theorem unit_par {x : Rat} (h : x * x = 1) : ∀ i : Nat, x ^ i = x ^ (i % 2)
 | 0 => rfl
 | 1 => rfl
 | i + 2 => by
  rw [Rat.pow_succ, Rat.pow_succ, Rat.mul_assoc, h, Rat.mul_one, unit_par h i, Nat.add_mod_right]
theorem unit_pow {x : Rat} (h : x * x = 1) {i k : Nat} (e : i % 2 = k % 2) : x ^ i = x ^ k := by rw [unit_par h i, unit_par h k, e]
theorem unit_of {x : Rat} (h0 : x ≠ 0) (h1 : x.num.natAbs ≤ 1) (h2 : x.den = 1) : x = 1 ∨ x = -1 := by
  have hn : x.num ≠ 0 := fun e => h0 (Rat.num_eq_zero.1 e)
  by_cases hp : x.num = 1
  · exact .inl (Rat.ext hp h2)
  · exact .inr (Rat.ext (by have : x.num = -1 := by omega
                            rw [this]; rfl) h2)
theorem unit_sq {x : Rat} (h : x = 1 ∨ x = -1) : x * x = 1 := by
 rcases h with rfl | rfl
 ·decide +kernel
 ·decide +kernel
theorem unit_inv {x : Rat} (h : x = 1 ∨ x = -1) : x⁻¹ = x := by
 rcases h with rfl | rfl
 ·decide +kernel
 ·decide +kernel
theorem unit_abs {x : Rat} (h : x = 1 ∨ x = -1) : cmpq (absq x) ((1 : Int) : Rat) = 0 := by
 rcases h with rfl | rfl
 ·decide +kernel
 ·decide +kernel
theorem unit_zpow {x : Rat} (h : x = 1 ∨ x = -1) {n : Int} (hn : n < 0) {k : Nat} (e : (k : Int) % 2 = n % 2) : x ^ n = x⁻¹ ^ k := by
 obtain ⟨j, rfl⟩ : ∃ j : Nat, n = -(j : Int) := ⟨(-n).toNat, by omega⟩
 rw [zpow_neg_nat, unit_inv h]
 exact unit_pow (unit_sq h) (by omega)
theorem bd.pwn {a : Nat} {x : Int} (X : bd a x) : ∀ n : Nat, bd (a * n + 1) (x ^ n)
 | 0 => by rw [Int.pow_zero]; exact bd.lit (by decide)
 | n + 1 => by rw [Int.pow_succ]; exact ((bd.pwn X n).mul X).mono (by rw [Nat.mul_add]; omega)
theorem bq.pwn {a : Nat} {x : Rat} (X : bq a x) (n : Nat) : bq (a * n + 1) (x ^ n) := ⟨by rw [Rat.num_pow]; exact bd.pwn X.1 n, by rw [Rat.den_pow, Int.natCast_pow]; exact bd.pwn X.2 n⟩
theorem bq.inv {a : Nat} {x : Rat} (X : bq a x) (h : x ≠ 0) : bq a x⁻¹ := by
 rw [Rat.inv_def]
 exact (bq.over X.2 X.1 (fun e => h (Rat.num_eq_zero.1 e))).mono (by omega)
theorem bq.unit {x : Rat} (h : x = 1 ∨ x = -1) : bq 1 x := by
 rcases h with rfl | rfl
 ·exact ⟨bd.lit (by decide), bd.lit (by decide)⟩
 ·exact ⟨bd.lit (by decide), bd.lit (by decide)⟩
theorem bq.unit_pow {x : Rat} (h : x = 1 ∨ x = -1) (k : Nat) : bq 1 (x ^ k) := by
 rw [unit_par (unit_sq h) k]
 rcases Nat.mod_two_eq_zero_or_one k with e | e
 ·rw [e, Rat.pow_zero]; exact bq.unit (.inl rfl)
 ·rw [e, Rat.pow_one]; exact bq.unit h
theorem bq.zero_pow {k : Nat} : bq 1 ((0 : Rat) ^ k) := by
 cases k with
 | zero => rw [Rat.pow_zero]; exact bq.unit (.inl rfl)
 | succ k => rw [Rat.pow_succ, Rat.mul_zero]; exact ⟨bd.lit (by decide), bd.lit (by decide)⟩
def pwOk (x : Rat) (n : Int) : Prop := (-20 ≤ n ∧ n ≤ 20) ∨ (x.num.natAbs ≤ 1 ∧ x.den = 1)
theorem bq.pw_ok {x : Rat} {n : Nat} (X : bq 5 x) (h : pwOk x (n : Int)) : bq 101 (x ^ n) := by
 rcases h with ⟨_, h⟩ | ⟨h1, h2⟩
 ·exact (bq.pwn X n).mono (by omega)
 ·by_cases h0 : x = 0
  ·subst h0; exact bq.zero_pow.mono (by decide)
  ·exact (bq.unit_pow (unit_of h0 h1 h2) n).mono (by decide)
theorem cmpq_zero {x y : Rat} : cmpq x y = 0 ↔ x = y := by
 unfold cmpq
 constructor
 ·intro h
  split at h
  ·cases h
  ·split at h
   ·assumption
   ·cases h
 ·rintro rfl
  rw [if_neg Rat.lt_irrefl, if_pos rfl]
structure Rts (x : Rat) (r s : Int) : Prop where
 r0 : 0 ≤ r
 r1 : r * r ≤ x.num
 r2 : x.num < (r + 1) * (r + 1)
 s0 : 0 ≤ s
 s1 : s * s ≤ (x.den : Int)
 s2 : (x.den : Int) < (s + 1) * (s + 1)
theorem Rts.ex {x : Rat} (h : 0 ≤ x.num) : ∃ r s, Rts x r s := by
 obtain ⟨r, r0, r1, r2⟩ := root_ex x.num.toNat
 obtain ⟨s, s0, s1, s2⟩ := root_ex x.den
 rw [Int.toNat_of_nonneg h] at r1 r2
 exact ⟨r, s, r0, r1, r2, s0, s1, s2⟩
theorem sq_of {r q : Int} (r0 : 0 ≤ r) (q0 : 0 ≤ q) (h1 : r * r ≤ q * q) (h2 : q * q < (r + 1) * (r + 1)) : r = q := by
 have a1 : ¬ q < r := fun h => by
  have := Int.mul_le_mul (show q + 1 ≤ r by omega) (show q + 1 ≤ r by omega) (by omega) (by omega)
  have e : (q + 1) * (q + 1) = q * q + q + q + 1 := by rw [Int.add_mul, Int.mul_add]; omega
  omega
 have a2 : ¬ r < q := fun h => by
  have := Int.mul_le_mul (show r + 1 ≤ q by omega) (show r + 1 ≤ q by omega) (by omega) (by omega)
  omega
 omega
theorem Rts.pos {x : Rat} {r s : Int} (h : Rts x r s) : 0 < s := by
 have := h.s0
 have := h.s2
 have := den_pos x
 apply Classical.byContradiction
 intro h2
 obtain rfl : s = 0 := by omega
 omega
theorem divInt_nonneg' {r s : Int} (hr : 0 ≤ r) (hs : 0 < s) : 0 ≤ (Rat.divInt r s).num := by
 rw [num_over (by omega), if_neg (by omega)]
 exact Int.tdiv_nonneg hr (by omega)
theorem Rts.eq {x : Rat} {r s : Int} (h : Rts x r s) (e : Rat.divInt r s * Rat.divInt r s = x) : (Rat.divInt r s).num = r ∧ ((Rat.divInt r s).den : Int) = s := by
 have e2 : (Rat.divInt r s) ^ 2 = x := by rw [Rat.pow_succ, Rat.pow_one]; exact e
 have n1 : x.num = (Rat.divInt r s).num * (Rat.divInt r s).num := by rw [← e2, Rat.num_pow, Int.pow_succ, Int.pow_succ, Int.pow_zero, Int.one_mul]
 have d1 : (x.den : Int) = ((Rat.divInt r s).den : Int) * ((Rat.divInt r s).den : Int) := by rw [← e2, Rat.den_pow, Int.natCast_pow, Int.pow_succ, Int.pow_succ, Int.pow_zero, Int.one_mul]
 have k0 := divInt_nonneg' h.r0 h.pos
 have h1 := h.r1
 have h2 := h.r2
 have h3 := h.s1
 have h4 := h.s2
 rw [n1] at h1 h2
 rw [d1] at h3 h4
 exact ⟨(sq_of h.r0 k0 h1 h2).symm, (sq_of h.s0 (by omega) h3 h4).symm⟩
theorem Rts.iff {x : Rat} {r s : Int} (h : Rts x r s) : Rat.divInt r s * Rat.divInt r s = x ↔ r * r = x.num ∧ s * s = (x.den : Int) := by
 constructor
 ·intro e
  obtain ⟨h1, h2⟩ := h.eq e
  have e2 : (Rat.divInt r s) ^ 2 = x := by rw [Rat.pow_succ, Rat.pow_one]; exact e
  have n1 : x.num = (Rat.divInt r s).num * (Rat.divInt r s).num := by rw [← e2, Rat.num_pow, Int.pow_succ, Int.pow_succ, Int.pow_zero, Int.one_mul]
  have d1 : (x.den : Int) = ((Rat.divInt r s).den : Int) * ((Rat.divInt r s).den : Int) := by rw [← e2, Rat.den_pow, Int.natCast_pow, Int.pow_succ, Int.pow_succ, Int.pow_zero, Int.one_mul]
  rw [h1] at n1
  rw [h2] at d1
  exact ⟨n1.symm, d1.symm⟩
 ·rintro ⟨h1, h2⟩
  rw [Rat.divInt_mul_divInt, h1, h2, Rat.num_divInt_den]
theorem Rts.cmp {x : Rat} {r s : Int} (h : Rts x r s) : cmpq (Rat.divInt r s * Rat.divInt r s) x = 0 ↔ (r * r = x.num ∧ s * s = (x.den : Int)) := by
 rw [← h.iff]
 exact cmpq_zero
theorem pow_ne {z : Int} (h : z ≠ 0) : ∀ k : Nat, z ^ k ≠ 0
 | 0 => by rw [Int.pow_zero]; decide
 | k + 1 => by rw [Int.pow_succ]; exact Int.mul_ne_zero (pow_ne h k) h
theorem and1_i64 (n : Int) : bits .and .i64 n 1 = n % 2 := by
 have h1 : (BitVec.ofInt 64 n).toNat = (n % 18446744073709551616).toNat := BitVec.toNat_ofInt ..
 show IntKind.i64.wrap ((BitVec.ofInt 64 n &&& BitVec.ofInt 64 1).toNat : Int) = _
 rw [BitVec.toNat_and, h1, show (BitVec.ofInt 64 1).toNat = 1 by decide, Nat.and_one_is_mod, IntKind.wrap_i64]
 omega
end Go.Proofs.YthpjmhhfcechmaaGreat.Sy
/- Power and Root of fractions, both sides, by rules. -/
namespace Go.Proofs.YthpjmhhfcechmaaGreat.Sy
open Go Go.RowKit Ma
theorem bd_rt {x r : Int} {n : Nat} (X : bd n x) (h0 : 0 ≤ r) (h1 : r * r ≤ x) : bd n r := by
 have c : r ≤ x := by
  by_cases e : r = 0
  ·rw [e] at h1 ⊢; omega
  ·have := Int.mul_le_mul_of_nonneg_right (show 1 ≤ r by omega) h0
   omega
 unfold bd at *
 omega
theorem zero_bq {x : Rat} (h : x = 0) : bq 1 x := by subst h; exact ⟨bd.lit (by decide), bd.lit (by decide)⟩
theorem cmp_zero {x y : Int} : cmp x y = 0 ↔ x = y := by unfold cmp; split <;> (try split) <;> omega
section
variable {x y : Operand} {dst : Option Tmp} {ty : TypeId} {pos : String} {after : Array Edge} {guard : Option (Nat × Bool)} {ρ : Operand → Value} {W : World} {a b : Int}
theorem r_and1q (h1 : ρ x = .int .i64 a) (h2 : ρ y = .int .i64 1) : (execOp ρ ⟨dst, .binOp .and 3 x y 3, ty, pos, after, guard⟩).run Tryz.prog W = .ok (.value (.int .i64 (a % 2))) W := by
 rw [← and1_i64 a]
 go_simp
theorem r_maxq {z : Int} (h1 : ρ x = .int .i64 a) (h2 : ρ y = .int .i64 b) (e : max a b = z) : (execOp ρ ⟨dst, .call ⟨.builtin .max, #[x, y], #[3, 3]⟩, ty, pos, after, guard⟩).run Tryz.prog W = .ok (.value (.int .i64 z)) W := by
 subst e
 go_simp
theorem r_negk {k : Int} (h1 : ρ x = .int .i64 (-k)) (hk : -9223372036854775808 ≤ k ∧ k < 9223372036854775808) : (execOp ρ ⟨dst, .unOp .neg 3 x, ty, pos, after, guard⟩).run Tryz.prog W = .ok (.value (.int .i64 k)) W := by
 go_simp
 exact (IntWalk.i64_in _ (by omega)).trans (by omega)
theorem r_tmod (h1 : ρ x = .int .i64 a) (h2 : ρ y = .int .i64 b) (hb : b ≠ 0) (hz : -9223372036854775808 ≤ a.tmod b ∧ a.tmod b ≤ 9223372036854775807) : (execOp ρ ⟨dst, .binOp .rem 3 x y 3, ty, pos, after, guard⟩).run Tryz.prog W = .ok (.value (.int .i64 (a.tmod b))) W := by
 have e : IntKind.i64.wrap (a.tmod b) = a.tmod b := IntWalk.i64_in _ hz
 go_simp
end

theorem ce_k_jpowerg : CE 112 := fun args W => by go_simp
set_option maxHeartbeats 3200000 in
set_option maxRecDepth 100000 in
theorem k_jpowerg {x : Int} {n a : Nat} (X : bd a x) (hx : 2 ≤ x.natAbs) (hn : a * n + a ≤ 2000) (hn2 : n ≤ 1000) : CallOk 112 [KJ (x), KV (.int .i64 (n : Int))] (K2 (KJ (x ^ n)) (KV (.int .i64 0))) := by
 refine CallOk.enter (l := [.kw (KJ (x)), .vl (.int .i64 (n : Int))]) 50 ce_k_jpowerg Tryz.func112 rfl Tryz.ntmps112 (by simp) ⟨(KJ.st _), rfl, (KV.st _), rfl, trivial⟩ fun w => ?_
 refine SC.seq (SC.region ?_)
 refine PW.box (x := .tmp 0) (r := .kw (KJ (x))) (BI 34) rfl rfl rfl rfl rfl bJ rfl sh_J ?_
 refine PW.alloc (BI 34) rfl rfl rfl rfl rfl bJ ?_
 refine PW.assign rfl rfl rfl rfl rfl (PW.nil (SX.then (SC.seq (SC.seq (SC.region (PW.move rfl rfl rfl rfl rfl ?_))))))
 refine PW.q2 (x := .tmp 8) (y := .const (.int .i64 0)) (.bool false) rfl rfl rfl rfl rfl (fun ρ W h1 h2 => by exact r_lt h1 h2 (decide_eq_false (by omega))) ?_
 refine PW.nil (SX.then (SC.cond (t := false) rfl (SC.skip (SX.then (SC.seq (SC.region ?_))))))
 refine PW.call (r := .kw (KJ (1))) rfl rfl rfl rfl rfl rfl (KJ.st _) rfl (k_jnew (by decide)) ?_
 refine PW.alloc (BI 34) rfl rfl rfl rfl rfl bJ ?_
 refine PW.store (x := .tmp 11) (r := .kw (KJ (1))) rfl rfl rfl rfl rfl rfl sh_J ?_
 refine PW.nil (SX.then (SC.seq (SC.seq (SC.region ?_))))
 refine PW.load rfl rfl rfl rfl rfl rfl ?_
 refine PW.call (r := .vl (.int .i64 (wid ((x).natAbs) : Int))) rfl rfl rfl rfl rfl rfl (KV.st _) rfl (k_width X (by omega)) ?_
 refine PW.q2 (x := .tmp 13) (y := .const (.int .i64 1)) (.bool false) rfl rfl rfl rfl rfl (fun ρ W h1 h2 => by exact r_le h1 h2 (decide_eq_false (by have := wid_gt1 hx; omega))) ?_
 refine PW.nil (SX.then (SC.cond (t := false) rfl (SC.skip (SX.then (SC.seq (SC.seq (SC.region (PW.assign rfl rfl rfl rfl rfl (PW.nil (SX.then (SC.block ?_)))))))))))
 refine SC.loop (S := Nat × Int) (fun ⟨i, y⟩ => [(1, .vl (.int .i64 (n : Int))), (2, .bx (BI 34) (KJ (x))), (4, .nb (BI 34)), (5, .vl (.int .i64 0)), (6, .bx (BI 34) (KJ (y))), (7, .vl (.int .i64 (i : Int)))]) (fun ⟨i, y⟩ => i ≤ n ∧ y = x ^ i) (fun ⟨i, y⟩ => n - i) (0, 1) ⟨Nat.zero_le n, (Int.pow_zero x).symm⟩ ⟨rfl, rfl, rfl, rfl, rfl, rfl, trivial⟩ ?_
 rintro ⟨i, y⟩ ⟨hP, hy⟩
 show SC _ _ _ _ [(1, .vl (.int .i64 (n : Int))), (2, .bx (BI 34) (KJ (x))), (4, .nb (BI 34)), (5, .vl (.int .i64 0)), (6, .bx (BI 34) (KJ (y))), (7, .vl (.int .i64 (i : Int)))] _
 have Y2 : bd (a * i + 1) y := hy ▸ bd.pwn X i
 have hai : a * i ≤ a * n := Nat.mul_le_mul_left a hP
 refine SC.seq (SC.seq ?_)
 by_cases hk : (i : Int) < (n : Int)
 ·refine SC.region ?_
  refine PW.move rfl rfl rfl rfl rfl (PW.move rfl rfl rfl rfl rfl ?_)
  refine PW.q2 (x := .tmp 33) (y := .tmp 34) (.bool true) rfl rfl rfl rfl rfl (fun ρ W h1 h2 => by exact r_lt h1 h2 (decide_eq_true hk)) ?_
  refine PW.nil (SX.then (SC.cond (t := true) rfl (SC.skip (SX.then (SC.seq (SC.block (SC.seq (SC.region ?_))))))))
  refine PW.load rfl rfl rfl rfl rfl rfl ?_
  refine PW.load rfl rfl rfl rfl rfl rfl ?_
  refine PW.call (r := .kw (KJ (y * x))) rfl rfl rfl rfl rfl rfl (KJ.st _) rfl (k_jmul Y2 X (by omega) (by omega)) ?_
  refine PW.store (x := .tmp 40) (r := .kw (KJ (y * x))) rfl rfl rfl rfl rfl rfl sh_J ?_
  refine PW.nil (SX.then (SC.seq (SC.region ?_)))
  refine PW.load rfl rfl rfl rfl rfl rfl ?_
  refine PW.call (r := .vl (.int .i64 (wid ((y * x).natAbs) : Int))) rfl rfl rfl rfl rfl rfl (KV.st _) rfl (k_width (Y2.mul X) (by omega)) ?_
  refine PW.q2 (x := .tmp 42) (y := .const (.int .i64 65537)) (.bool false) rfl rfl rfl rfl rfl (fun ρ W h1 h2 => by exact r_gt h1 h2 (decide_eq_false (by have := wid_bdn (Y2.mul X); omega))) ?_
  refine PW.nil (SX.then (SC.cond (t := false) rfl (SC.skip ?_)))
  refine SX.blockN ?_
  refine SX.then (SC.region (PW.move rfl rfl rfl rfl rfl ?_))
  refine PW.q2 (x := .tmp 36) (y := .const (.int .i64 1)) (.int .i64 ((i + 1 : Nat))) rfl rfl rfl rfl rfl (fun ρ W h1 h2 => by exact r_add h1 h2 (by omega) (by omega)) ?_
  refine PW.assign rfl rfl rfl rfl rfl (PW.nil ?_)
  refine SX.back (i + 1, y * x) ?_ ?_ ?_
  ·exact ⟨(by omega : i + 1 ≤ n), (by rw [hy, Int.pow_succ] : y * x = x ^ (i + 1))⟩
  ·exact (show n - (i + 1) < n - i by omega)
  ·exact ⟨rfl, rfl, rfl, rfl, rfl, rfl, trivial⟩
 ·obtain rfl : i = n := by omega
  refine SC.region (PW.move rfl rfl rfl rfl rfl (PW.move rfl rfl rfl rfl rfl ?_))
  refine PW.q2 (x := .tmp 33) (y := .tmp 34) (.bool false) rfl rfl rfl rfl rfl (fun ρ W h1 h2 => by exact r_lt h1 h2 (decide_eq_false hk)) ?_
  refine PW.nil (SX.then (SC.cond (t := false) rfl (SC.exit (SX.thenE (SX.thenE (SX.blockE (SX.then (SC.seq (SC.seq (SC.region ?_))))))))))
  refine PW.load rfl rfl rfl rfl rfl rfl ?_
  refine PW.call (r := .vl (.int .i64 (wid (pat y) : Int))) rfl rfl rfl rfl rfl rfl (KV.st _) rfl (k_jlen Y2 (by omega)) ?_
  refine PW.q2 (x := .tmp 46) (y := .const (.int .i64 65536)) (.bool false) rfl rfl rfl rfl rfl (fun ρ W h1 h2 => by exact r_gt h1 h2 (decide_eq_false (by have := wid_bdp Y2; omega))) ?_
  refine PW.nil (SX.then (SC.cond (t := false) rfl (SC.skip (SX.then (SC.seq (SC.region ?_))))))
  refine PW.load rfl rfl rfl rfl rfl rfl ?_
  refine PW.store (x := .tmp 49) (r := .kw (KJ (y))) rfl rfl rfl rfl rfl rfl sh_J ?_
  refine PW.assign rfl rfl rfl rfl rfl (PW.nil (SX.then (SC.ret ?_)))
  rw [← hy]
  exact SX.done2 (s := 4) (t := 5) (r := .vl (.int .i64 0)) (.inl rfl) rfl rfl rfl rfl
theorem k_jpowera {x : Int} {n a : Nat} (X : bd a x) (h : (a * n + a ≤ 2000 ∧ n ≤ 1000) ∨ (x.natAbs ≤ 1 ∧ n ≤ 9223372036854775807)) : CallOk 112 [KJ x, KV (.int .i64 (n : Int))] (K2 (KJ (x ^ n)) (KV (.int .i64 0))) := by
 by_cases hx : 2 ≤ x.natAbs
 ·rcases h with ⟨h1, h2⟩ | ⟨h1, _⟩
  ·exact k_jpowerg X hx h1 h2
  ·omega
 ·exact k_jpower_small (by omega) (by rcases h with ⟨_, h⟩ | ⟨_, h⟩ <;> omega)
theorem ce_k_rpow : CE 57 := fun args W => by go_simp
set_option maxHeartbeats 3200000 in
set_option maxRecDepth 100000 in
theorem k_rpow {x : Rat} {n a m : Nat} (X : bq a x) (ha : a ≤ 1000) (hn : n ≤ 9223372036854775807) (Q : bq m (x ^ n)) (hm : m ≤ 2000) : CallOk 57 [KQ (x).num (((x).den : Int) - 1), KV (.int .i64 (n : Int))] (K2 (KQ (x ^ n).num (((x ^ n).den : Int) - 1)) (KV (.int .i64 0))) := by
 have P1 : bd m (x.num ^ n) := by have := Q.1; rwa [Rat.num_pow] at this
 have P2 : bd m ((x.den : Int) ^ n) := by have := Q.2; rwa [Rat.den_pow, Int.natCast_pow] at this
 refine CallOk.enter (l := [.kw (KQ (x).num (((x).den : Int) - 1)), .vl (.int .i64 (n : Int))]) 63 ce_k_rpow Tryz.func57 rfl Tryz.ntmps57 (by simp) ⟨(KQ.st _ _), rfl, (KV.st _), rfl, trivial⟩ fun w => ?_
 refine SC.seq (SC.region ?_)
 refine PW.box (x := .tmp 0) (r := .kw (KQ (x).num (((x).den : Int) - 1))) (BQ 38) rfl rfl rfl rfl rfl bQ rfl sh_Q ?_
 refine PW.alloc (BQ 38) rfl rfl rfl rfl rfl bQ ?_
 refine PW.assign rfl rfl rfl rfl rfl (PW.nil (SX.then (SC.seq ?_)))
 refine SC.fix (s := 2) rfl fun p2 => ?_
 refine SC.dx [.val 12 (.vl (.pointer (some ⟨p2, 0, none⟩))), .val 13 (.kw (KI ((x).num))), .val 14 (.kw (KQ (x).num (((x).den : Int) - 1))), .val 15 (.kw (KI ((x.den : Int)))), .new 6 (BI 31), .new 7 (BI 31), .put 6 (BI 31) (.kw (KI ((x).num))), .put 7 (BI 31) (.kw (KI ((x.den : Int))))] [([], [2]), ([0], [2]), ([], [2]), ([2], []), ([], []), ([], []), ([4, 1], []), ([5, 3], [])] rfl (by kernel_rfl) (by kernel_rfl) (by kernel_rfl) rfl ⟨?_, ?_, ?_, ?_, ?_, ?_, ?_, ?_, trivial⟩ ?_
 ·exact DX.fa ⟨p2, 0, none⟩ rfl rfl rfl rfl rfl faQ0
 ·exact DX.fl (s := 2) (r := .kw (KI ((x).num))) rfl rfl rfl rfl rfl rfl rfl (KI.st _) flQ0
 ·exact DX.loadp rfl rfl rfl rfl rfl rfl
 ·exact DX.call (r := .kw (KI ((x.den : Int)))) rfl rfl rfl rfl rfl rfl (KI.st _) rfl (k_rden X (by omega))
 ·exact DX.alloc (BI 31) rfl rfl rfl rfl bI rfl
 ·exact DX.alloc (BI 31) rfl rfl rfl rfl bI rfl
 ·exact DX.store (x := .tmp 13) (r := .kw (KI ((x).num))) rfl rfl rfl rfl rfl rfl sh_I
 ·exact DX.store (x := .tmp 15) (r := .kw (KI ((x.den : Int)))) rfl rfl rfl rfl rfl rfl sh_I
 refine SX.unfix (s := 2) rfl ?_
 refine SX.then (SC.seq (SC.seq (SC.region (PW.move rfl rfl rfl rfl rfl ?_))))
 refine PW.q2 (x := .tmp 16) (y := .const (.int .i64 0)) (.bool false) rfl rfl rfl rfl rfl (fun ρ W h1 h2 => by exact r_lt h1 h2 (decide_eq_false (by omega))) ?_
 refine PW.nil (SX.then (SC.cond (t := false) rfl (SC.skip (SX.then (SC.seq (SC.region ?_))))))
 refine PW.load rfl rfl rfl rfl rfl rfl (PW.move rfl rfl rfl rfl rfl ?_)
 refine PW.call (r := .kw (K2 (KI (((x).num) ^ n)) (KV (.int .i64 0)))) rfl rfl rfl rfl rfl rfl (K2.st (KI.st _) (KV.st _)) rfl (k_power_ok (n := n) ((X).1) (by omega) hn (by have := wid_bdp P1; omega)) ?_
 refine PW.move rfl rfl rfl rfl rfl ?_
 refine PW.ext (r := .kw (KI (((x).num) ^ n))) rfl rfl rfl rfl rfl ex20 (KI.st _) rfl ?_
 refine PW.ext (r := .vl (.int .i64 0)) rfl rfl rfl rfl rfl ex21v (KV.st _) rfl ?_
 refine PW.alloc (BI 31) rfl rfl rfl rfl rfl bI ?_
 refine PW.store (x := .tmp 45) (r := .kw (KI (((x).num) ^ n))) rfl rfl rfl rfl rfl rfl sh_I ?_
 refine PW.assign rfl rfl rfl rfl rfl (PW.nil (SX.then (SC.seq (SC.region ?_))))
 refine PW.load rfl rfl rfl rfl rfl rfl (PW.move rfl rfl rfl rfl rfl ?_)
 refine PW.call (r := .kw (K2 (KI (((x.den : Int)) ^ n)) (KV (.int .i64 0)))) rfl rfl rfl rfl rfl rfl (K2.st (KI.st _) (KV.st _)) rfl (k_power_ok (n := n) X.2 (by omega) hn (by have := wid_bdp P2; omega)) ?_
 refine PW.move rfl rfl rfl rfl rfl ?_
 refine PW.ext (r := .kw (KI (((x.den : Int)) ^ n))) rfl rfl rfl rfl rfl ex20 (KI.st _) rfl ?_
 refine PW.ext (r := .vl (.int .i64 0)) rfl rfl rfl rfl rfl ex21v (KV.st _) rfl ?_
 refine PW.alloc (BI 31) rfl rfl rfl rfl rfl bI ?_
 refine PW.store (x := .tmp 51) (r := .kw (KI (((x.den : Int)) ^ n))) rfl rfl rfl rfl rfl rfl sh_I ?_
 refine PW.assign rfl rfl rfl rfl rfl (PW.nil (SX.then (SC.seq (SC.seq (SC.region (PW.move rfl rfl rfl rfl rfl ?_))))))
 refine PW.q2 (x := .tmp 53) (y := .const (.int .i64 0)) (.bool false) rfl rfl rfl rfl rfl (fun ρ W h1 h2 => by go_simp) ?_
 refine PW.move rfl rfl rfl rfl rfl (PW.move rfl rfl rfl rfl rfl ?_)
 refine PW.q2 (x := .tmp 56) (y := .const (.int .i64 0)) (.bool false) rfl rfl rfl rfl rfl (fun ρ W h1 h2 => by go_simp) ?_
 refine PW.pick (t := false) rfl rfl rfl rfl rfl rfl ?_
 refine PW.nil (SX.then (SC.cond (t := false) rfl (SC.skip (SX.then (SC.seq (SC.region ?_))))))
 refine PW.load rfl rfl rfl rfl rfl rfl ?_
 refine PW.load rfl rfl rfl rfl rfl rfl ?_
 refine PW.call (r := .kw (KQ (Rat.divInt (((x).num) ^ n) (((x.den : Int)) ^ n)).num (((Rat.divInt (((x).num) ^ n) (((x.den : Int)) ^ n)).den : Int) - 1))) rfl rfl rfl rfl rfl rfl (KQ.st _ _) rfl (k_rmade P1 P2 (pow_ne (Int.ne_of_gt (den_pos x)) n) (by omega) (by omega)) ?_
 refine PW.store (x := .tmp 62) (r := .kw (KQ (Rat.divInt (((x).num) ^ n) (((x.den : Int)) ^ n)).num (((Rat.divInt (((x).num) ^ n) (((x.den : Int)) ^ n)).den : Int) - 1))) rfl rfl rfl rfl rfl rfl sh_Q ?_
 refine PW.assign rfl rfl rfl rfl rfl (PW.nil (SX.then (SC.ret ?_)))
 rw [pow_over x n]
 exact SX.done2 (s := 4) (t := 5) (r := .vl (.int .i64 0)) (.inl rfl) rfl rfl rfl rfl
set_option maxHeartbeats 3200000 in
set_option maxRecDepth 100000 in
theorem k_rpow0 {x : Rat} {n : Int} (h0 : x = 0) (hn : n < 0) : CallOk 57 [KQ (x).num (((x).den : Int) - 1), KV (.int .i64 (n))] (K2 (KQ 0 0) (KV (.int .i64 6))) := by
 refine CallOk.enter (l := [.kw (KQ (x).num (((x).den : Int) - 1)), .vl (.int .i64 (n))]) 63 ce_k_rpow Tryz.func57 rfl Tryz.ntmps57 (by simp) ⟨(KQ.st _ _), rfl, (KV.st _), rfl, trivial⟩ fun w => ?_
 refine SC.seq (SC.region ?_)
 refine PW.box (x := .tmp 0) (r := .kw (KQ (x).num (((x).den : Int) - 1))) (BQ 38) rfl rfl rfl rfl rfl bQ rfl sh_Q ?_
 refine PW.alloc (BQ 38) rfl rfl rfl rfl rfl bQ ?_
 refine PW.assign rfl rfl rfl rfl rfl (PW.nil (SX.then (SC.seq ?_)))
 refine SC.fix (s := 2) rfl fun p2 => ?_
 refine SC.dx [.val 12 (.vl (.pointer (some ⟨p2, 0, none⟩))), .val 13 (.kw (KI ((x).num))), .val 14 (.kw (KQ (x).num (((x).den : Int) - 1))), .val 15 (.kw (KI ((x.den : Int)))), .new 6 (BI 31), .new 7 (BI 31), .put 6 (BI 31) (.kw (KI ((x).num))), .put 7 (BI 31) (.kw (KI ((x.den : Int))))] [([], [2]), ([0], [2]), ([], [2]), ([2], []), ([], []), ([], []), ([4, 1], []), ([5, 3], [])] rfl (by kernel_rfl) (by kernel_rfl) (by kernel_rfl) rfl ⟨?_, ?_, ?_, ?_, ?_, ?_, ?_, ?_, trivial⟩ ?_
 ·exact DX.fa ⟨p2, 0, none⟩ rfl rfl rfl rfl rfl faQ0
 ·exact DX.fl (s := 2) (r := .kw (KI ((x).num))) rfl rfl rfl rfl rfl rfl rfl (KI.st _) flQ0
 ·exact DX.loadp rfl rfl rfl rfl rfl rfl
 ·exact DX.call (r := .kw (KI ((x.den : Int)))) rfl rfl rfl rfl rfl rfl (KI.st _) rfl (k_rden ((zero_bq h0)) (by omega))
 ·exact DX.alloc (BI 31) rfl rfl rfl rfl bI rfl
 ·exact DX.alloc (BI 31) rfl rfl rfl rfl bI rfl
 ·exact DX.store (x := .tmp 13) (r := .kw (KI ((x).num))) rfl rfl rfl rfl rfl rfl sh_I
 ·exact DX.store (x := .tmp 15) (r := .kw (KI ((x.den : Int)))) rfl rfl rfl rfl rfl rfl sh_I
 refine SX.unfix (s := 2) rfl ?_
 refine SX.then (SC.seq (SC.seq (SC.region (PW.move rfl rfl rfl rfl rfl ?_))))
 refine PW.q2 (x := .tmp 16) (y := .const (.int .i64 0)) (.bool true) rfl rfl rfl rfl rfl (fun ρ W h1 h2 => by exact r_lt h1 h2 (decide_eq_true (by omega))) ?_
 refine PW.nil (SX.then (SC.cond (t := true) rfl (SC.seq (SC.seq (SC.region ?_)))))
 refine PW.load rfl rfl rfl rfl rfl rfl ?_
 refine PW.call (r := .vl (.int .i64 (sgq x))) rfl rfl rfl rfl rfl rfl (KV.st _) rfl (k_rsign) ?_
 refine PW.q2 (x := .tmp 19) (y := .const (.int .i64 0)) (.bool true) rfl rfl rfl rfl rfl (fun ρ W h1 h2 => by exact r_eqT h1 h2 (sgq_eq0.2 h0)) ?_
 refine PW.nil (SX.then (SC.cond (t := true) rfl (SC.seq (SC.region ?_))))
 refine PW.val (r := .kw (KQ (0) (0))) rfl rfl rfl rfl (fun a W hf => ⟨_, r_bldQ0, zeroQ W, KQ.st _ _⟩) ?_
 refine PW.store (x := .tmp 21) (r := .kw (KQ (0) (0))) rfl rfl rfl rfl rfl rfl sh_Q ?_
 refine PW.assign rfl rfl rfl rfl rfl (PW.nil (SX.then (SC.ret (SX.thenR (SX.thenR ?_)))))
 exact SX.done2 (s := 4) (t := 5) (r := .vl (.int .i64 6)) (.inl rfl) rfl rfl rfl rfl
set_option maxHeartbeats 3200000 in
set_option maxRecDepth 100000 in
theorem k_rpown {x : Rat} {n : Int} {k a m : Nat} (X : bq a x) (ha : a ≤ 1000) (h0 : x ≠ 0) (hn0 : n < 0) (hn1 : -9223372036854775808 ≤ n) (hk : (k : Int) = -(max n (-262144 - n % 2))) (hor : cmpq (absq x) ((1 : Int) : Rat) = 0 ∨ -262144 ≤ n) (Q : bq m (x⁻¹ ^ k)) (P1 : bd m ((x.den : Int) ^ k)) (P2 : bd m (x.num ^ k)) (hm : m ≤ 2000) : CallOk 57 [KQ (x).num (((x).den : Int) - 1), KV (.int .i64 (n))] (K2 (KQ (x⁻¹ ^ k).num (((x⁻¹ ^ k).den : Int) - 1)) (KV (.int .i64 0))) := by
 have hn : k ≤ 9223372036854775807 := by omega
 refine CallOk.enter (l := [.kw (KQ (x).num (((x).den : Int) - 1)), .vl (.int .i64 (n))]) 63 ce_k_rpow Tryz.func57 rfl Tryz.ntmps57 (by simp) ⟨(KQ.st _ _), rfl, (KV.st _), rfl, trivial⟩ fun w => ?_
 refine SC.seq (SC.region ?_)
 refine PW.box (x := .tmp 0) (r := .kw (KQ (x).num (((x).den : Int) - 1))) (BQ 38) rfl rfl rfl rfl rfl bQ rfl sh_Q ?_
 refine PW.alloc (BQ 38) rfl rfl rfl rfl rfl bQ ?_
 refine PW.assign rfl rfl rfl rfl rfl (PW.nil (SX.then (SC.seq ?_)))
 refine SC.fix (s := 2) rfl fun p2 => ?_
 refine SC.dx [.val 12 (.vl (.pointer (some ⟨p2, 0, none⟩))), .val 13 (.kw (KI ((x).num))), .val 14 (.kw (KQ (x).num (((x).den : Int) - 1))), .val 15 (.kw (KI ((x.den : Int)))), .new 6 (BI 31), .new 7 (BI 31), .put 6 (BI 31) (.kw (KI ((x).num))), .put 7 (BI 31) (.kw (KI ((x.den : Int))))] [([], [2]), ([0], [2]), ([], [2]), ([2], []), ([], []), ([], []), ([4, 1], []), ([5, 3], [])] rfl (by kernel_rfl) (by kernel_rfl) (by kernel_rfl) rfl ⟨?_, ?_, ?_, ?_, ?_, ?_, ?_, ?_, trivial⟩ ?_
 ·exact DX.fa ⟨p2, 0, none⟩ rfl rfl rfl rfl rfl faQ0
 ·exact DX.fl (s := 2) (r := .kw (KI ((x).num))) rfl rfl rfl rfl rfl rfl rfl (KI.st _) flQ0
 ·exact DX.loadp rfl rfl rfl rfl rfl rfl
 ·exact DX.call (r := .kw (KI ((x.den : Int)))) rfl rfl rfl rfl rfl rfl (KI.st _) rfl (k_rden X (by omega))
 ·exact DX.alloc (BI 31) rfl rfl rfl rfl bI rfl
 ·exact DX.alloc (BI 31) rfl rfl rfl rfl bI rfl
 ·exact DX.store (x := .tmp 13) (r := .kw (KI ((x).num))) rfl rfl rfl rfl rfl rfl sh_I
 ·exact DX.store (x := .tmp 15) (r := .kw (KI ((x.den : Int)))) rfl rfl rfl rfl rfl rfl sh_I
 refine SX.unfix (s := 2) rfl ?_
 refine SX.then (SC.seq (SC.seq (SC.region (PW.move rfl rfl rfl rfl rfl ?_))))
 refine PW.q2 (x := .tmp 16) (y := .const (.int .i64 0)) (.bool true) rfl rfl rfl rfl rfl (fun ρ W h1 h2 => by exact r_lt h1 h2 (decide_eq_true (by omega))) ?_
 refine PW.nil (SX.then (SC.cond (t := true) rfl (SC.seq (SC.seq (SC.region ?_)))))
 refine PW.load rfl rfl rfl rfl rfl rfl ?_
 refine PW.call (r := .vl (.int .i64 (sgq x))) rfl rfl rfl rfl rfl rfl (KV.st _) rfl (k_rsign) ?_
 refine PW.q2 (x := .tmp 19) (y := .const (.int .i64 0)) (.bool false) rfl rfl rfl rfl rfl (fun ρ W h1 h2 => by exact r_eqF h1 h2 (fun h => h0 (sgq_eq0.1 h))) ?_
 refine PW.nil (SX.then (SC.cond (t := false) rfl (SC.skip (SX.then (SC.seq (SC.seq ?_))))))
 by_cases hc : cmpq (absq x) ((1 : Int) : Rat) = 0
 ·refine SC.region ?_
  refine PW.load rfl rfl rfl rfl rfl rfl ?_
  refine PW.call (r := .kw (KQ (absq x).num (((absq x).den : Int) - 1))) rfl rfl rfl rfl rfl rfl (KQ.st _ _) rfl (k_rabs) ?_
  refine PW.call (r := .kw (KI (1))) rfl rfl rfl rfl rfl rfl (KI.st _) rfl (k_one) ?_
  refine PW.call (r := .kw (KQ (((1 : Int) : Rat)).num (((((1 : Int) : Rat)).den : Int) - 1))) rfl rfl rfl rfl rfl rfl (KQ.st _ _) rfl (k_rof) ?_
  refine PW.call (r := .vl (.int .i64 (cmpq (absq x) (((1 : Int) : Rat))))) rfl rfl rfl rfl rfl rfl (KV.st _) rfl (k_rcmp X.abs (bq.int1 bd.one) (by omega) (by omega)) ?_
  refine PW.q2 (x := .tmp 26) (y := .const (.int .i64 0)) (.bool false) rfl rfl rfl rfl rfl (fun ρ W h1 h2 => by exact r_neF h1 h2 (hc)) ?_
  refine PW.move rfl rfl rfl rfl rfl ?_
  refine PW.skip rfl rfl rfl ?_
  refine PW.skip rfl rfl rfl ?_
  refine PW.pick (t := false) rfl rfl rfl rfl rfl rfl ?_
  refine PW.nil (SX.then (SC.cond (t := false) rfl (SC.skip (SX.then (SC.region ?_)))))
  refine PW.load rfl rfl rfl rfl rfl rfl ?_
  refine PW.load rfl rfl rfl rfl rfl rfl (PW.move rfl rfl rfl rfl rfl (PW.move rfl rfl rfl rfl rfl ?_))
  refine PW.q2 (x := .tmp 36) (y := .const (.int .i64 1)) (.int .i64 (n % 2)) rfl rfl rfl rfl rfl (fun ρ W h1 h2 => by exact r_and1q h1 h2) ?_
  refine PW.q2 (x := .const (.int .i64 (-262144))) (y := .tmp 37) (.int .i64 (-262144 - n % 2)) rfl rfl rfl rfl rfl (fun ρ W h1 h2 => by exact r_sub h1 h2 (rfl) (by omega)) ?_
  refine PW.qn [(.tmp 35, .int .i64 (n)), (.tmp 38, .int .i64 (-262144 - n % 2))] (.int .i64 (-(k : Int))) rfl rfl rfl ⟨rfl, rfl, trivial⟩ (fun ρ W h => by obtain ⟨h1, h2, _⟩ := h; exact r_maxq h1 h2 (by omega)) ?_
  refine PW.q1 (x := .tmp 39) (.int .i64 (k : Int)) rfl rfl rfl rfl (fun ρ W h1 => by exact r_negk h1 (by omega)) ?_
  refine PW.store (x := .tmp 33) (r := .kw (KI ((x.den : Int)))) rfl rfl rfl rfl rfl rfl sh_I ?_
  refine PW.store (x := .tmp 34) (r := .kw (KI ((x).num))) rfl rfl rfl rfl rfl rfl sh_I ?_
  refine PW.assign rfl rfl rfl rfl rfl (PW.nil (SX.then (SC.seq (SC.region ?_))))
  refine PW.load rfl rfl rfl rfl rfl rfl (PW.move rfl rfl rfl rfl rfl ?_)
  refine PW.call (r := .kw (K2 (KI (((x.den : Int)) ^ k)) (KV (.int .i64 0)))) rfl rfl rfl rfl rfl rfl (K2.st (KI.st _) (KV.st _)) rfl (k_power_ok (n := k) X.2 (by omega) hn (by have := wid_bdp P1; omega)) ?_
  refine PW.move rfl rfl rfl rfl rfl ?_
  refine PW.ext (r := .kw (KI (((x.den : Int)) ^ k))) rfl rfl rfl rfl rfl ex20 (KI.st _) rfl ?_
  refine PW.ext (r := .vl (.int .i64 0)) rfl rfl rfl rfl rfl ex21v (KV.st _) rfl ?_
  refine PW.alloc (BI 31) rfl rfl rfl rfl rfl bI ?_
  refine PW.store (x := .tmp 45) (r := .kw (KI (((x.den : Int)) ^ k))) rfl rfl rfl rfl rfl rfl sh_I ?_
  refine PW.assign rfl rfl rfl rfl rfl (PW.nil (SX.then (SC.seq (SC.region ?_))))
  refine PW.load rfl rfl rfl rfl rfl rfl (PW.move rfl rfl rfl rfl rfl ?_)
  refine PW.call (r := .kw (K2 (KI (((x).num) ^ k)) (KV (.int .i64 0)))) rfl rfl rfl rfl rfl rfl (K2.st (KI.st _) (KV.st _)) rfl (k_power_ok (n := k) ((X).1) (by omega) hn (by have := wid_bdp P2; omega)) ?_
  refine PW.move rfl rfl rfl rfl rfl ?_
  refine PW.ext (r := .kw (KI (((x).num) ^ k))) rfl rfl rfl rfl rfl ex20 (KI.st _) rfl ?_
  refine PW.ext (r := .vl (.int .i64 0)) rfl rfl rfl rfl rfl ex21v (KV.st _) rfl ?_
  refine PW.alloc (BI 31) rfl rfl rfl rfl rfl bI ?_
  refine PW.store (x := .tmp 51) (r := .kw (KI (((x).num) ^ k))) rfl rfl rfl rfl rfl rfl sh_I ?_
  refine PW.assign rfl rfl rfl rfl rfl (PW.nil (SX.then (SC.seq (SC.seq (SC.region (PW.move rfl rfl rfl rfl rfl ?_))))))
  refine PW.q2 (x := .tmp 53) (y := .const (.int .i64 0)) (.bool false) rfl rfl rfl rfl rfl (fun ρ W h1 h2 => by go_simp) ?_
  refine PW.move rfl rfl rfl rfl rfl (PW.move rfl rfl rfl rfl rfl ?_)
  refine PW.q2 (x := .tmp 56) (y := .const (.int .i64 0)) (.bool false) rfl rfl rfl rfl rfl (fun ρ W h1 h2 => by go_simp) ?_
  refine PW.pick (t := false) rfl rfl rfl rfl rfl rfl ?_
  refine PW.nil (SX.then (SC.cond (t := false) rfl (SC.skip (SX.then (SC.seq (SC.region ?_))))))
  refine PW.load rfl rfl rfl rfl rfl rfl ?_
  refine PW.load rfl rfl rfl rfl rfl rfl ?_
  refine PW.call (r := .kw (KQ (Rat.divInt (((x.den : Int)) ^ k) (((x).num) ^ k)).num (((Rat.divInt (((x.den : Int)) ^ k) (((x).num) ^ k)).den : Int) - 1))) rfl rfl rfl rfl rfl rfl (KQ.st _ _) rfl (k_rmade P1 P2 (pow_ne (fun e => h0 (Rat.num_eq_zero.1 e)) k) (by omega) (by omega)) ?_
  refine PW.store (x := .tmp 62) (r := .kw (KQ (Rat.divInt (((x.den : Int)) ^ k) (((x).num) ^ k)).num (((Rat.divInt (((x.den : Int)) ^ k) (((x).num) ^ k)).den : Int) - 1))) rfl rfl rfl rfl rfl rfl sh_Q ?_
  refine PW.assign rfl rfl rfl rfl rfl (PW.nil (SX.then (SC.ret ?_)))
  rw [inv_pow_over x k]
  exact SX.done2 (s := 4) (t := 5) (r := .vl (.int .i64 0)) (.inl rfl) rfl rfl rfl rfl
 ·refine SC.region ?_
  refine PW.load rfl rfl rfl rfl rfl rfl ?_
  refine PW.call (r := .kw (KQ (absq x).num (((absq x).den : Int) - 1))) rfl rfl rfl rfl rfl rfl (KQ.st _ _) rfl (k_rabs) ?_
  refine PW.call (r := .kw (KI (1))) rfl rfl rfl rfl rfl rfl (KI.st _) rfl (k_one) ?_
  refine PW.call (r := .kw (KQ (((1 : Int) : Rat)).num (((((1 : Int) : Rat)).den : Int) - 1))) rfl rfl rfl rfl rfl rfl (KQ.st _ _) rfl (k_rof) ?_
  refine PW.call (r := .vl (.int .i64 (cmpq (absq x) (((1 : Int) : Rat))))) rfl rfl rfl rfl rfl rfl (KV.st _) rfl (k_rcmp X.abs (bq.int1 bd.one) (by omega) (by omega)) ?_
  refine PW.q2 (x := .tmp 26) (y := .const (.int .i64 0)) (.bool true) rfl rfl rfl rfl rfl (fun ρ W h1 h2 => by exact r_neT h1 h2 (hc)) ?_
  refine PW.move rfl rfl rfl rfl rfl (PW.move rfl rfl rfl rfl rfl ?_)
  refine PW.q2 (x := .tmp 29) (y := .const (.int .i64 (-262144))) (.bool false) rfl rfl rfl rfl rfl (fun ρ W h1 h2 => by exact r_lt h1 h2 (decide_eq_false (by rcases hor with h | h; exact absurd h hc; omega))) ?_
  refine PW.pick (t := true) rfl rfl rfl rfl rfl rfl ?_
  refine PW.nil (SX.then (SC.cond (t := false) rfl (SC.skip (SX.then (SC.region ?_)))))
  refine PW.load rfl rfl rfl rfl rfl rfl ?_
  refine PW.load rfl rfl rfl rfl rfl rfl (PW.move rfl rfl rfl rfl rfl (PW.move rfl rfl rfl rfl rfl ?_))
  refine PW.q2 (x := .tmp 36) (y := .const (.int .i64 1)) (.int .i64 (n % 2)) rfl rfl rfl rfl rfl (fun ρ W h1 h2 => by exact r_and1q h1 h2) ?_
  refine PW.q2 (x := .const (.int .i64 (-262144))) (y := .tmp 37) (.int .i64 (-262144 - n % 2)) rfl rfl rfl rfl rfl (fun ρ W h1 h2 => by exact r_sub h1 h2 (rfl) (by omega)) ?_
  refine PW.qn [(.tmp 35, .int .i64 (n)), (.tmp 38, .int .i64 (-262144 - n % 2))] (.int .i64 (-(k : Int))) rfl rfl rfl ⟨rfl, rfl, trivial⟩ (fun ρ W h => by obtain ⟨h1, h2, _⟩ := h; exact r_maxq h1 h2 (by omega)) ?_
  refine PW.q1 (x := .tmp 39) (.int .i64 (k : Int)) rfl rfl rfl rfl (fun ρ W h1 => by exact r_negk h1 (by omega)) ?_
  refine PW.store (x := .tmp 33) (r := .kw (KI ((x.den : Int)))) rfl rfl rfl rfl rfl rfl sh_I ?_
  refine PW.store (x := .tmp 34) (r := .kw (KI ((x).num))) rfl rfl rfl rfl rfl rfl sh_I ?_
  refine PW.assign rfl rfl rfl rfl rfl (PW.nil (SX.then (SC.seq (SC.region ?_))))
  refine PW.load rfl rfl rfl rfl rfl rfl (PW.move rfl rfl rfl rfl rfl ?_)
  refine PW.call (r := .kw (K2 (KI (((x.den : Int)) ^ k)) (KV (.int .i64 0)))) rfl rfl rfl rfl rfl rfl (K2.st (KI.st _) (KV.st _)) rfl (k_power_ok (n := k) X.2 (by omega) hn (by have := wid_bdp P1; omega)) ?_
  refine PW.move rfl rfl rfl rfl rfl ?_
  refine PW.ext (r := .kw (KI (((x.den : Int)) ^ k))) rfl rfl rfl rfl rfl ex20 (KI.st _) rfl ?_
  refine PW.ext (r := .vl (.int .i64 0)) rfl rfl rfl rfl rfl ex21v (KV.st _) rfl ?_
  refine PW.alloc (BI 31) rfl rfl rfl rfl rfl bI ?_
  refine PW.store (x := .tmp 45) (r := .kw (KI (((x.den : Int)) ^ k))) rfl rfl rfl rfl rfl rfl sh_I ?_
  refine PW.assign rfl rfl rfl rfl rfl (PW.nil (SX.then (SC.seq (SC.region ?_))))
  refine PW.load rfl rfl rfl rfl rfl rfl (PW.move rfl rfl rfl rfl rfl ?_)
  refine PW.call (r := .kw (K2 (KI (((x).num) ^ k)) (KV (.int .i64 0)))) rfl rfl rfl rfl rfl rfl (K2.st (KI.st _) (KV.st _)) rfl (k_power_ok (n := k) ((X).1) (by omega) hn (by have := wid_bdp P2; omega)) ?_
  refine PW.move rfl rfl rfl rfl rfl ?_
  refine PW.ext (r := .kw (KI (((x).num) ^ k))) rfl rfl rfl rfl rfl ex20 (KI.st _) rfl ?_
  refine PW.ext (r := .vl (.int .i64 0)) rfl rfl rfl rfl rfl ex21v (KV.st _) rfl ?_
  refine PW.alloc (BI 31) rfl rfl rfl rfl rfl bI ?_
  refine PW.store (x := .tmp 51) (r := .kw (KI (((x).num) ^ k))) rfl rfl rfl rfl rfl rfl sh_I ?_
  refine PW.assign rfl rfl rfl rfl rfl (PW.nil (SX.then (SC.seq (SC.seq (SC.region (PW.move rfl rfl rfl rfl rfl ?_))))))
  refine PW.q2 (x := .tmp 53) (y := .const (.int .i64 0)) (.bool false) rfl rfl rfl rfl rfl (fun ρ W h1 h2 => by go_simp) ?_
  refine PW.move rfl rfl rfl rfl rfl (PW.move rfl rfl rfl rfl rfl ?_)
  refine PW.q2 (x := .tmp 56) (y := .const (.int .i64 0)) (.bool false) rfl rfl rfl rfl rfl (fun ρ W h1 h2 => by go_simp) ?_
  refine PW.pick (t := false) rfl rfl rfl rfl rfl rfl ?_
  refine PW.nil (SX.then (SC.cond (t := false) rfl (SC.skip (SX.then (SC.seq (SC.region ?_))))))
  refine PW.load rfl rfl rfl rfl rfl rfl ?_
  refine PW.load rfl rfl rfl rfl rfl rfl ?_
  refine PW.call (r := .kw (KQ (Rat.divInt (((x.den : Int)) ^ k) (((x).num) ^ k)).num (((Rat.divInt (((x.den : Int)) ^ k) (((x).num) ^ k)).den : Int) - 1))) rfl rfl rfl rfl rfl rfl (KQ.st _ _) rfl (k_rmade P1 P2 (pow_ne (fun e => h0 (Rat.num_eq_zero.1 e)) k) (by omega) (by omega)) ?_
  refine PW.store (x := .tmp 62) (r := .kw (KQ (Rat.divInt (((x.den : Int)) ^ k) (((x).num) ^ k)).num (((Rat.divInt (((x.den : Int)) ^ k) (((x).num) ^ k)).den : Int) - 1))) rfl rfl rfl rfl rfl rfl sh_Q ?_
  refine PW.assign rfl rfl rfl rfl rfl (PW.nil (SX.then (SC.ret ?_)))
  rw [inv_pow_over x k]
  exact SX.done2 (s := 4) (t := 5) (r := .vl (.int .i64 0)) (.inl rfl) rfl rfl rfl rfl
theorem ce_k_jrpow : CE 62 := fun args W => by go_simp
set_option maxHeartbeats 3200000 in
set_option maxRecDepth 100000 in
theorem k_jrpow {x : Rat} {n a : Nat} (X : bq a x) (H1 : (a * n + a ≤ 2000 ∧ n ≤ 1000) ∨ (x.num.natAbs ≤ 1 ∧ n ≤ 9223372036854775807)) (H2 : (a * n + a ≤ 2000 ∧ n ≤ 1000) ∨ ((x.den : Int).natAbs ≤ 1 ∧ n ≤ 9223372036854775807)) : CallOk 62 [KR3 (x).num ((x).den : Int), KV (.int .i64 (n : Int))] (K2 (KR3 (x ^ n).num ((x ^ n).den : Int)) (KV (.int .i64 0))) := by
 refine CallOk.enter (l := [.kw (KR3 (x).num ((x).den : Int)), .vl (.int .i64 (n : Int))]) 52 ce_k_jrpow Tryz.func62 rfl Tryz.ntmps62 (by simp) ⟨(KR3.st _ _), rfl, (KV.st _), rfl, trivial⟩ fun w => ?_
 refine SC.seq (SC.region ?_)
 refine PW.box (x := .tmp 0) (r := .kw (KR3 (x).num ((x).den : Int))) (BQ 43) rfl rfl rfl rfl rfl bQJ rfl sh_R3 ?_
 refine PW.alloc (BQ 43) rfl rfl rfl rfl rfl bQJ ?_
 refine PW.assign rfl rfl rfl rfl rfl (PW.nil (SX.then (SC.seq (SC.seq (SC.region (PW.move rfl rfl rfl rfl rfl ?_))))))
 refine PW.q2 (x := .tmp 9) (y := .const (.int .i64 0)) (.bool false) rfl rfl rfl rfl rfl (fun ρ W h1 h2 => by exact r_lt h1 h2 (decide_eq_false (by omega))) ?_
 refine PW.nil (SX.then (SC.cond (t := false) rfl (SC.skip (SX.then (SC.seq (SC.region ?_))))))
 refine PW.fld (r := .kw (KJ ((x).num))) rfl rfl rfl rfl rfl rfl rfl rfl rfl rfl rfl fldR0 (KJ.st _) ?_
 refine PW.move rfl rfl rfl rfl rfl ?_
 refine PW.call (r := .kw (K2 (KJ (((x).num) ^ n)) (KV (.int .i64 0)))) rfl rfl rfl rfl rfl rfl (K2.st (KJ.st _) (KV.st _)) rfl (k_jpowera (n := n) ((X).1) H1) ?_
 refine PW.move rfl rfl rfl rfl rfl ?_
 refine PW.ext (r := .kw (KJ (((x).num) ^ n))) rfl rfl rfl rfl rfl ex20 (KJ.st _) rfl ?_
 refine PW.ext (r := .vl (.int .i64 0)) rfl rfl rfl rfl rfl ex21v (KV.st _) rfl ?_
 refine PW.alloc (BI 34) rfl rfl rfl rfl rfl bJ ?_
 refine PW.store (x := .tmp 32) (r := .kw (KJ (((x).num) ^ n))) rfl rfl rfl rfl rfl rfl sh_J ?_
 refine PW.assign rfl rfl rfl rfl rfl (PW.nil (SX.then (SC.seq (SC.seq (SC.region (PW.move rfl rfl rfl rfl rfl ?_))))))
 refine PW.q2 (x := .tmp 34) (y := .const (.int .i64 0)) (.bool false) rfl rfl rfl rfl rfl (fun ρ W h1 h2 => by go_simp) ?_
 refine PW.nil (SX.then (SC.cond (t := false) rfl (SC.skip (SX.then (SC.seq (SC.region ?_))))))
 refine PW.fld (r := .kw (KJ (((x).den : Int)))) rfl rfl rfl rfl rfl rfl rfl rfl rfl rfl rfl fldR1 (KJ.st _) ?_
 refine PW.move rfl rfl rfl rfl rfl ?_
 refine PW.call (r := .kw (K2 (KJ ((((x).den : Int)) ^ n)) (KV (.int .i64 0)))) rfl rfl rfl rfl rfl rfl (K2.st (KJ.st _) (KV.st _)) rfl (k_jpowera (n := n) ((X).2) H2) ?_
 refine PW.move rfl rfl rfl rfl rfl ?_
 refine PW.ext (r := .kw (KJ ((((x).den : Int)) ^ n))) rfl rfl rfl rfl rfl ex20 (KJ.st _) rfl ?_
 refine PW.ext (r := .vl (.int .i64 0)) rfl rfl rfl rfl rfl ex21v (KV.st _) rfl ?_
 refine PW.alloc (BI 34) rfl rfl rfl rfl rfl bJ ?_
 refine PW.store (x := .tmp 43) (r := .kw (KJ ((((x).den : Int)) ^ n))) rfl rfl rfl rfl rfl rfl sh_J ?_
 refine PW.assign rfl rfl rfl rfl rfl (PW.nil (SX.then (SC.seq (SC.seq (SC.region (PW.move rfl rfl rfl rfl rfl ?_))))))
 refine PW.q2 (x := .tmp 45) (y := .const (.int .i64 0)) (.bool false) rfl rfl rfl rfl rfl (fun ρ W h1 h2 => by go_simp) ?_
 refine PW.nil (SX.then (SC.cond (t := false) rfl (SC.skip (SX.then (SC.seq (SC.region ?_))))))
 refine PW.load rfl rfl rfl rfl rfl rfl ?_
 refine PW.load rfl rfl rfl rfl rfl rfl ?_
 refine PW.bldR (x := .tmp 49) (y := .tmp 50) (n := ((x).num) ^ n) (e := (((x).den : Int)) ^ n) rfl rfl rfl rfl rfl (fun ρ W m m2 A A2 l c l2 c2 h1 h2 => r_bldR h1 h2) ?_
 refine PW.store (x := .tmp 51) (r := .kw (KR3 (((x).num) ^ n) ((((x).den : Int)) ^ n))) rfl rfl rfl rfl rfl rfl sh_R3 ?_
 refine PW.assign rfl rfl rfl rfl rfl (PW.nil (SX.then (SC.ret ?_)))
 rw [Rat.num_pow, Rat.den_pow, Int.natCast_pow]
 exact SX.done2 (s := 4) (t := 5) (r := .vl (.int .i64 0)) (.inl rfl) rfl rfl rfl rfl
set_option maxHeartbeats 3200000 in
set_option maxRecDepth 100000 in
theorem k_jrpow0 {x : Rat} {n : Int} (h0 : x = 0) (hn : n < 0) : CallOk 62 [KR3 (x).num ((x).den : Int), KV (.int .i64 (n))] (K2 (KR3 ((0 : Int) : Rat).num (((0 : Int) : Rat).den : Int)) (KV (.int .i64 6))) := by
 refine CallOk.enter (l := [.kw (KR3 (x).num ((x).den : Int)), .vl (.int .i64 (n))]) 52 ce_k_jrpow Tryz.func62 rfl Tryz.ntmps62 (by simp) ⟨(KR3.st _ _), rfl, (KV.st _), rfl, trivial⟩ fun w => ?_
 refine SC.seq (SC.region ?_)
 refine PW.box (x := .tmp 0) (r := .kw (KR3 (x).num ((x).den : Int))) (BQ 43) rfl rfl rfl rfl rfl bQJ rfl sh_R3 ?_
 refine PW.alloc (BQ 43) rfl rfl rfl rfl rfl bQJ ?_
 refine PW.assign rfl rfl rfl rfl rfl (PW.nil (SX.then (SC.seq (SC.seq (SC.region (PW.move rfl rfl rfl rfl rfl ?_))))))
 refine PW.q2 (x := .tmp 9) (y := .const (.int .i64 0)) (.bool true) rfl rfl rfl rfl rfl (fun ρ W h1 h2 => by exact r_lt h1 h2 (decide_eq_true (by omega))) ?_
 refine PW.nil (SX.then (SC.cond (t := true) rfl (SC.seq (SC.seq (SC.region ?_)))))
 refine PW.load rfl rfl rfl rfl rfl rfl ?_
 refine PW.call (r := .vl (.int .i64 (sgq x))) rfl rfl rfl rfl rfl rfl (KV.st _) rfl (k_jrsign) ?_
 refine PW.q2 (x := .tmp 12) (y := .const (.int .i64 0)) (.bool true) rfl rfl rfl rfl rfl (fun ρ W h1 h2 => by exact r_eqT h1 h2 (sgq_eq0.2 h0)) ?_
 refine PW.nil (SX.then (SC.cond (t := true) rfl (SC.seq (SC.region ?_))))
 refine PW.call (r := .kw (KR3 (((0 : Int) : Rat)).num ((((0 : Int) : Rat)).den : Int))) rfl rfl rfl rfl rfl rfl (KR3.st _ _) rfl (k_jrint (by decide)) ?_
 refine PW.store (x := .tmp 14) (r := .kw (KR3 (((0 : Int) : Rat)).num ((((0 : Int) : Rat)).den : Int))) rfl rfl rfl rfl rfl rfl sh_R3 ?_
 refine PW.assign rfl rfl rfl rfl rfl (PW.nil (SX.then (SC.ret (SX.thenR (SX.thenR ?_)))))
 exact SX.done2 (s := 4) (t := 5) (r := .vl (.int .i64 6)) (.inl rfl) rfl rfl rfl rfl
set_option maxHeartbeats 3200000 in
set_option maxRecDepth 100000 in
theorem k_jrpown {x : Rat} {n : Int} {k a : Nat} (X : bq a x) (ha : a ≤ 1000) (h0 : x ≠ 0) (hn0 : n < 0) (hn1 : -9223372036854775808 ≤ n) (hk : (k : Int) = -(if n < -1099511627776 then -1099511627776 + n.tmod 2 else n)) (H1 : (a * k + a ≤ 2000 ∧ k ≤ 1000) ∨ ((x⁻¹).num.natAbs ≤ 1 ∧ k ≤ 9223372036854775807)) (H2 : (a * k + a ≤ 2000 ∧ k ≤ 1000) ∨ (((x⁻¹).den : Int).natAbs ≤ 1 ∧ k ≤ 9223372036854775807)) : CallOk 62 [KR3 (x).num ((x).den : Int), KV (.int .i64 (n))] (K2 (KR3 (x⁻¹ ^ k).num ((x⁻¹ ^ k).den : Int)) (KV (.int .i64 0))) := by
 refine CallOk.enter (l := [.kw (KR3 (x).num ((x).den : Int)), .vl (.int .i64 (n))]) 52 ce_k_jrpow Tryz.func62 rfl Tryz.ntmps62 (by simp) ⟨(KR3.st _ _), rfl, (KV.st _), rfl, trivial⟩ fun w => ?_
 refine SC.seq (SC.region ?_)
 refine PW.box (x := .tmp 0) (r := .kw (KR3 (x).num ((x).den : Int))) (BQ 43) rfl rfl rfl rfl rfl bQJ rfl sh_R3 ?_
 refine PW.alloc (BQ 43) rfl rfl rfl rfl rfl bQJ ?_
 refine PW.assign rfl rfl rfl rfl rfl (PW.nil (SX.then (SC.seq (SC.seq (SC.region (PW.move rfl rfl rfl rfl rfl ?_))))))
 refine PW.q2 (x := .tmp 9) (y := .const (.int .i64 0)) (.bool true) rfl rfl rfl rfl rfl (fun ρ W h1 h2 => by exact r_lt h1 h2 (decide_eq_true (by omega))) ?_
 refine PW.nil (SX.then (SC.cond (t := true) rfl (SC.seq (SC.seq (SC.region ?_)))))
 refine PW.load rfl rfl rfl rfl rfl rfl ?_
 refine PW.call (r := .vl (.int .i64 (sgq x))) rfl rfl rfl rfl rfl rfl (KV.st _) rfl (k_jrsign) ?_
 refine PW.q2 (x := .tmp 12) (y := .const (.int .i64 0)) (.bool false) rfl rfl rfl rfl rfl (fun ρ W h1 h2 => by exact r_eqF h1 h2 (fun h => h0 (sgq_eq0.1 h))) ?_
 refine PW.nil (SX.then (SC.cond (t := false) rfl (SC.skip (SX.then (SC.seq (SC.region ?_))))))
 refine PW.fld (r := .kw (KJ (((x).den : Int)))) rfl rfl rfl rfl rfl rfl rfl rfl rfl rfl rfl fldR1 (KJ.st _) ?_
 refine PW.fld (r := .kw (KJ ((x).num))) rfl rfl rfl rfl rfl rfl rfl rfl rfl rfl rfl fldR0 (KJ.st _) ?_
 refine PW.call (r := .kw (KR3 (x⁻¹).num ((x⁻¹).den : Int))) rfl rfl rfl rfl rfl rfl (KR3.st _ _) rfl (callK (k_jover X.2 X.1 (fun e => h0 (Rat.num_eq_zero.1 e)) (by omega) (by omega)) (by rw [← Rat.inv_def]; rfl)) ?_
 refine PW.store (x := .tmp 19) (r := .kw (KR3 (x⁻¹).num ((x⁻¹).den : Int))) rfl rfl rfl rfl rfl rfl sh_R3 ?_
 refine PW.nil (SX.then (SC.seq (SC.seq ?_)))
 by_cases hc : n < -1099511627776
 ·rw [if_pos hc] at hk
  have ht1 := Int.tmod_lt_of_pos n (show (0 : Int) < 2 by decide)
  have ht2 := Int.lt_tmod_of_pos n (show (0 : Int) < 2 by decide)
  refine SC.region (PW.move rfl rfl rfl rfl rfl ?_)
  refine PW.q2 (x := .tmp 20) (y := .const (.int .i64 (-1099511627776))) (.bool true) rfl rfl rfl rfl rfl (fun ρ W h1 h2 => by exact r_lt h1 h2 (decide_eq_true hc)) ?_
  refine PW.nil (SX.then (SC.cond (t := true) rfl (SC.region (PW.move rfl rfl rfl rfl rfl ?_))))
  refine PW.q2 (x := .tmp 22) (y := .const (.int .i64 2)) (.int .i64 (n.tmod 2)) rfl rfl rfl rfl rfl (fun ρ W h1 h2 => by exact r_tmod h1 h2 (by decide) (by have := Int.tmod_lt_of_pos n (show (0 : Int) < 2 by decide); have := Int.lt_tmod_of_pos n (show (0 : Int) < 2 by decide); omega)) ?_
  refine PW.q2 (x := .const (.int .i64 (-1099511627776))) (y := .tmp 23) (.int .i64 (-(k : Int))) rfl rfl rfl rfl rfl (fun ρ W h1 h2 => by exact r_add h1 h2 (by omega) (by omega)) ?_
  refine PW.assign rfl rfl rfl rfl rfl (PW.nil (SX.then (SC.region (PW.move rfl rfl rfl rfl rfl ?_))))
  refine PW.q1 (x := .tmp 25) (.int .i64 (k : Int)) rfl rfl rfl rfl (fun ρ W h1 => by exact r_negk h1 (by omega)) ?_
  refine PW.assign rfl rfl rfl rfl rfl (PW.nil (SX.then (SC.seq (SC.region ?_))))
  refine PW.fld (r := .kw (KJ ((x⁻¹).num))) rfl rfl rfl rfl rfl rfl rfl rfl rfl rfl rfl fldR0 (KJ.st _) ?_
  refine PW.move rfl rfl rfl rfl rfl ?_
  refine PW.call (r := .kw (K2 (KJ (((x⁻¹).num) ^ k)) (KV (.int .i64 0)))) rfl rfl rfl rfl rfl rfl (K2.st (KJ.st _) (KV.st _)) rfl (k_jpowera (n := k) (((bq.inv X h0)).1) H1) ?_
  refine PW.move rfl rfl rfl rfl rfl ?_
  refine PW.ext (r := .kw (KJ (((x⁻¹).num) ^ k))) rfl rfl rfl rfl rfl ex20 (KJ.st _) rfl ?_
  refine PW.ext (r := .vl (.int .i64 0)) rfl rfl rfl rfl rfl ex21v (KV.st _) rfl ?_
  refine PW.alloc (BI 34) rfl rfl rfl rfl rfl bJ ?_
  refine PW.store (x := .tmp 32) (r := .kw (KJ (((x⁻¹).num) ^ k))) rfl rfl rfl rfl rfl rfl sh_J ?_
  refine PW.assign rfl rfl rfl rfl rfl (PW.nil (SX.then (SC.seq (SC.seq (SC.region (PW.move rfl rfl rfl rfl rfl ?_))))))
  refine PW.q2 (x := .tmp 34) (y := .const (.int .i64 0)) (.bool false) rfl rfl rfl rfl rfl (fun ρ W h1 h2 => by go_simp) ?_
  refine PW.nil (SX.then (SC.cond (t := false) rfl (SC.skip (SX.then (SC.seq (SC.region ?_))))))
  refine PW.fld (r := .kw (KJ (((x⁻¹).den : Int)))) rfl rfl rfl rfl rfl rfl rfl rfl rfl rfl rfl fldR1 (KJ.st _) ?_
  refine PW.move rfl rfl rfl rfl rfl ?_
  refine PW.call (r := .kw (K2 (KJ ((((x⁻¹).den : Int)) ^ k)) (KV (.int .i64 0)))) rfl rfl rfl rfl rfl rfl (K2.st (KJ.st _) (KV.st _)) rfl (k_jpowera (n := k) (((bq.inv X h0)).2) H2) ?_
  refine PW.move rfl rfl rfl rfl rfl ?_
  refine PW.ext (r := .kw (KJ ((((x⁻¹).den : Int)) ^ k))) rfl rfl rfl rfl rfl ex20 (KJ.st _) rfl ?_
  refine PW.ext (r := .vl (.int .i64 0)) rfl rfl rfl rfl rfl ex21v (KV.st _) rfl ?_
  refine PW.alloc (BI 34) rfl rfl rfl rfl rfl bJ ?_
  refine PW.store (x := .tmp 43) (r := .kw (KJ ((((x⁻¹).den : Int)) ^ k))) rfl rfl rfl rfl rfl rfl sh_J ?_
  refine PW.assign rfl rfl rfl rfl rfl (PW.nil (SX.then (SC.seq (SC.seq (SC.region (PW.move rfl rfl rfl rfl rfl ?_))))))
  refine PW.q2 (x := .tmp 45) (y := .const (.int .i64 0)) (.bool false) rfl rfl rfl rfl rfl (fun ρ W h1 h2 => by go_simp) ?_
  refine PW.nil (SX.then (SC.cond (t := false) rfl (SC.skip (SX.then (SC.seq (SC.region ?_))))))
  refine PW.load rfl rfl rfl rfl rfl rfl ?_
  refine PW.load rfl rfl rfl rfl rfl rfl ?_
  refine PW.bldR (x := .tmp 49) (y := .tmp 50) (n := ((x⁻¹).num) ^ k) (e := (((x⁻¹).den : Int)) ^ k) rfl rfl rfl rfl rfl (fun ρ W m m2 A A2 l c l2 c2 h1 h2 => r_bldR h1 h2) ?_
  refine PW.store (x := .tmp 51) (r := .kw (KR3 (((x⁻¹).num) ^ k) ((((x⁻¹).den : Int)) ^ k))) rfl rfl rfl rfl rfl rfl sh_R3 ?_
  refine PW.assign rfl rfl rfl rfl rfl (PW.nil (SX.then (SC.ret ?_)))
  rw [Rat.num_pow, Rat.den_pow, Int.natCast_pow]
  exact SX.done2 (s := 4) (t := 5) (r := .vl (.int .i64 0)) (.inl rfl) rfl rfl rfl rfl
 ·rw [if_neg hc] at hk
  obtain rfl : n = -(k : Int) := by omega
  refine SC.region (PW.move rfl rfl rfl rfl rfl ?_)
  refine PW.q2 (x := .tmp 20) (y := .const (.int .i64 (-1099511627776))) (.bool false) rfl rfl rfl rfl rfl (fun ρ W h1 h2 => by exact r_lt h1 h2 (decide_eq_false hc)) ?_
  refine PW.nil (SX.then (SC.cond (t := false) rfl (SC.skip (SX.then (SC.region (PW.move rfl rfl rfl rfl rfl ?_))))))
  refine PW.q1 (x := .tmp 25) (.int .i64 (k : Int)) rfl rfl rfl rfl (fun ρ W h1 => by exact r_negk h1 (by omega)) ?_
  refine PW.assign rfl rfl rfl rfl rfl (PW.nil (SX.then (SC.seq (SC.region ?_))))
  refine PW.fld (r := .kw (KJ ((x⁻¹).num))) rfl rfl rfl rfl rfl rfl rfl rfl rfl rfl rfl fldR0 (KJ.st _) ?_
  refine PW.move rfl rfl rfl rfl rfl ?_
  refine PW.call (r := .kw (K2 (KJ (((x⁻¹).num) ^ k)) (KV (.int .i64 0)))) rfl rfl rfl rfl rfl rfl (K2.st (KJ.st _) (KV.st _)) rfl (k_jpowera (n := k) (((bq.inv X h0)).1) H1) ?_
  refine PW.move rfl rfl rfl rfl rfl ?_
  refine PW.ext (r := .kw (KJ (((x⁻¹).num) ^ k))) rfl rfl rfl rfl rfl ex20 (KJ.st _) rfl ?_
  refine PW.ext (r := .vl (.int .i64 0)) rfl rfl rfl rfl rfl ex21v (KV.st _) rfl ?_
  refine PW.alloc (BI 34) rfl rfl rfl rfl rfl bJ ?_
  refine PW.store (x := .tmp 32) (r := .kw (KJ (((x⁻¹).num) ^ k))) rfl rfl rfl rfl rfl rfl sh_J ?_
  refine PW.assign rfl rfl rfl rfl rfl (PW.nil (SX.then (SC.seq (SC.seq (SC.region (PW.move rfl rfl rfl rfl rfl ?_))))))
  refine PW.q2 (x := .tmp 34) (y := .const (.int .i64 0)) (.bool false) rfl rfl rfl rfl rfl (fun ρ W h1 h2 => by go_simp) ?_
  refine PW.nil (SX.then (SC.cond (t := false) rfl (SC.skip (SX.then (SC.seq (SC.region ?_))))))
  refine PW.fld (r := .kw (KJ (((x⁻¹).den : Int)))) rfl rfl rfl rfl rfl rfl rfl rfl rfl rfl rfl fldR1 (KJ.st _) ?_
  refine PW.move rfl rfl rfl rfl rfl ?_
  refine PW.call (r := .kw (K2 (KJ ((((x⁻¹).den : Int)) ^ k)) (KV (.int .i64 0)))) rfl rfl rfl rfl rfl rfl (K2.st (KJ.st _) (KV.st _)) rfl (k_jpowera (n := k) (((bq.inv X h0)).2) H2) ?_
  refine PW.move rfl rfl rfl rfl rfl ?_
  refine PW.ext (r := .kw (KJ ((((x⁻¹).den : Int)) ^ k))) rfl rfl rfl rfl rfl ex20 (KJ.st _) rfl ?_
  refine PW.ext (r := .vl (.int .i64 0)) rfl rfl rfl rfl rfl ex21v (KV.st _) rfl ?_
  refine PW.alloc (BI 34) rfl rfl rfl rfl rfl bJ ?_
  refine PW.store (x := .tmp 43) (r := .kw (KJ ((((x⁻¹).den : Int)) ^ k))) rfl rfl rfl rfl rfl rfl sh_J ?_
  refine PW.assign rfl rfl rfl rfl rfl (PW.nil (SX.then (SC.seq (SC.seq (SC.region (PW.move rfl rfl rfl rfl rfl ?_))))))
  refine PW.q2 (x := .tmp 45) (y := .const (.int .i64 0)) (.bool false) rfl rfl rfl rfl rfl (fun ρ W h1 h2 => by go_simp) ?_
  refine PW.nil (SX.then (SC.cond (t := false) rfl (SC.skip (SX.then (SC.seq (SC.region ?_))))))
  refine PW.load rfl rfl rfl rfl rfl rfl ?_
  refine PW.load rfl rfl rfl rfl rfl rfl ?_
  refine PW.bldR (x := .tmp 49) (y := .tmp 50) (n := ((x⁻¹).num) ^ k) (e := (((x⁻¹).den : Int)) ^ k) rfl rfl rfl rfl rfl (fun ρ W m m2 A A2 l c l2 c2 h1 h2 => r_bldR h1 h2) ?_
  refine PW.store (x := .tmp 51) (r := .kw (KR3 (((x⁻¹).num) ^ k) ((((x⁻¹).den : Int)) ^ k))) rfl rfl rfl rfl rfl rfl sh_R3 ?_
  refine PW.assign rfl rfl rfl rfl rfl (PW.nil (SX.then (SC.ret ?_)))
  rw [Rat.num_pow, Rat.den_pow, Int.natCast_pow]
  exact SX.done2 (s := 4) (t := 5) (r := .vl (.int .i64 0)) (.inl rfl) rfl rfl rfl rfl
theorem ce_k_rroot : CE 56 := fun args W => by go_simp
set_option maxHeartbeats 3200000 in
set_option maxRecDepth 100000 in
theorem k_rroot {x : Rat} {a : Nat} {r s : Int} (X : bq a x) (ha : a ≤ 1000) (h : Rts x r s) (e : r * r = x.num ∧ s * s = (x.den : Int)) : CallOk 56 [KQ (x).num (((x).den : Int) - 1)] (K2 (KQ (Rat.divInt (r) (s)).num (((Rat.divInt (r) (s)).den : Int) - 1)) (KV (.int .i64 0))) := by
 have h0x : 0 ≤ x.num := Int.le_trans (Int.mul_nonneg h.r0 h.r0) h.r1
 refine CallOk.enter (l := [.kw (KQ (x).num (((x).den : Int) - 1))]) 36 ce_k_rroot Tryz.func56 rfl Tryz.ntmps56 (by simp) ⟨(KQ.st _ _), rfl, trivial⟩ fun w => ?_
 refine SC.seq (SC.region ?_)
 refine PW.box (x := .tmp 0) (r := .kw (KQ (x).num (((x).den : Int) - 1))) (BQ 38) rfl rfl rfl rfl rfl bQ rfl sh_Q ?_
 refine PW.alloc (BQ 38) rfl rfl rfl rfl rfl bQ ?_
 refine PW.assign rfl rfl rfl rfl rfl (PW.nil (SX.then (SC.seq (SC.seq (SC.region ?_)))))
 refine PW.load rfl rfl rfl rfl rfl rfl ?_
 refine PW.call (r := .vl (.int .i64 (sgq x))) rfl rfl rfl rfl rfl rfl (KV.st _) rfl (k_rsign) ?_
 refine PW.q2 (x := .tmp 10) (y := .const (.int .i64 0)) (.bool false) rfl rfl rfl rfl rfl (fun ρ W h1 h2 => by exact r_lt h1 h2 (decide_eq_false (fun k => by have := sgn_lt.1 k; omega))) ?_
 refine PW.nil (SX.then (SC.cond (t := false) rfl (SC.skip (SX.then (SC.seq (SC.region ?_))))))
 refine PW.fld (r := .kw (KI ((x).num))) rfl rfl rfl rfl rfl rfl rfl rfl rfl rfl rfl fldQ0 (KI.st _) ?_
 refine PW.call (r := .kw (K2 (KI (r)) (KV (.int .i64 0)))) rfl rfl rfl rfl rfl rfl (K2.st (KI.st _) (KV.st _)) rfl (k_root ((X).1) (by omega) h.r0 h.r1 h.r2) ?_
 refine PW.move rfl rfl rfl rfl rfl ?_
 refine PW.ext (r := .kw (KI (r))) rfl rfl rfl rfl rfl ex20 (KI.st _) rfl ?_
 refine PW.ext (r := .vl (.int .i64 0)) rfl rfl rfl rfl rfl ex21v (KV.st _) rfl ?_
 refine PW.alloc (BI 31) rfl rfl rfl rfl rfl bI ?_
 refine PW.store (x := .tmp 17) (r := .kw (KI (r))) rfl rfl rfl rfl rfl rfl sh_I ?_
 refine PW.assign rfl rfl rfl rfl rfl (PW.nil (SX.then (SC.seq (SC.region ?_))))
 refine PW.load rfl rfl rfl rfl rfl rfl ?_
 refine PW.call (r := .kw (KI ((x.den : Int)))) rfl rfl rfl rfl rfl rfl (KI.st _) rfl (k_rden X (by omega)) ?_
 refine PW.call (r := .kw (K2 (KI (s)) (KV (.int .i64 0)))) rfl rfl rfl rfl rfl rfl (K2.st (KI.st _) (KV.st _)) rfl (k_root X.2 (by omega) h.s0 h.s1 h.s2) ?_
 refine PW.move rfl rfl rfl rfl rfl ?_
 refine PW.ext (r := .kw (KI (s))) rfl rfl rfl rfl rfl ex20 (KI.st _) rfl ?_
 refine PW.ext (r := .vl (.int .i64 0)) rfl rfl rfl rfl rfl ex21v (KV.st _) rfl ?_
 refine PW.alloc (BI 31) rfl rfl rfl rfl rfl bI ?_
 refine PW.store (x := .tmp 23) (r := .kw (KI (s))) rfl rfl rfl rfl rfl rfl sh_I ?_
 refine PW.assign rfl rfl rfl rfl rfl (PW.nil (SX.then (SC.seq (SC.region ?_))))
 refine PW.load rfl rfl rfl rfl rfl rfl ?_
 refine PW.load rfl rfl rfl rfl rfl rfl ?_
 refine PW.call (r := .kw (KQ (Rat.divInt (r) (s)).num (((Rat.divInt (r) (s)).den : Int) - 1))) rfl rfl rfl rfl rfl rfl (KQ.st _ _) rfl (k_rmade ((bd_rt ((X).1) h.r0 h.r1)) ((bd_rt X.2 h.s0 h.s1)) (Int.ne_of_gt h.pos) (by omega) (by omega)) ?_
 refine PW.alloc (BQ 38) rfl rfl rfl rfl rfl bQ ?_
 refine PW.store (x := .tmp 27) (r := .kw (KQ (Rat.divInt (r) (s)).num (((Rat.divInt (r) (s)).den : Int) - 1))) rfl rfl rfl rfl rfl rfl sh_Q ?_
 refine PW.nil (SX.then (SC.seq (SC.seq ?_)))
 refine SC.dx [.val 28 (.kw (KQ (Rat.divInt (r) (s)).num (((Rat.divInt (r) (s)).den : Int) - 1))), .val 29 (.kw (KQ (Rat.divInt (r) (s)).num (((Rat.divInt (r) (s)).den : Int) - 1))), .val 30 (.kw (KQ ((Rat.divInt (r) (s)) * (Rat.divInt (r) (s))).num ((((Rat.divInt (r) (s)) * (Rat.divInt (r) (s))).den : Int) - 1))), .val 31 (.kw (KQ (x).num (((x).den : Int) - 1))), .val 32 (.vl (.int .i64 (cmpq ((Rat.divInt (r) (s)) * (Rat.divInt (r) (s))) x))), .val 33 (.vl (.bool false))] [([], [8]), ([], [8]), ([0, 1], []), ([], [1]), ([2, 3], []), ([4], [])] rfl (by kernel_rfl) (by kernel_rfl) (by kernel_rfl) rfl ⟨?_, ?_, ?_, ?_, ?_, ?_, trivial⟩ ?_
 ·exact DX.load rfl rfl rfl rfl rfl rfl
 ·exact DX.load rfl rfl rfl rfl rfl rfl
 ·exact DX.call (r := .kw (KQ ((Rat.divInt (r) (s)) * (Rat.divInt (r) (s))).num ((((Rat.divInt (r) (s)) * (Rat.divInt (r) (s))).den : Int) - 1))) rfl rfl rfl rfl rfl rfl (KQ.st _ _) rfl (k_rmul (bq.over ((bd_rt ((X).1) h.r0 h.r1)) ((bd_rt X.2 h.s0 h.s1)) (Int.ne_of_gt h.pos)) (bq.over ((bd_rt ((X).1) h.r0 h.r1)) ((bd_rt X.2 h.s0 h.s1)) (Int.ne_of_gt h.pos)) (by omega) (by omega))
 ·exact DX.load rfl rfl rfl rfl rfl rfl
 ·exact DX.call (r := .vl (.int .i64 (cmpq ((Rat.divInt (r) (s)) * (Rat.divInt (r) (s))) x))) rfl rfl rfl rfl rfl rfl (KV.st _) rfl (k_rcmp ((bq.over ((bd_rt ((X).1) h.r0 h.r1)) ((bd_rt X.2 h.s0 h.s1)) (Int.ne_of_gt h.pos)).mul (bq.over ((bd_rt ((X).1) h.r0 h.r1)) ((bd_rt X.2 h.s0 h.s1)) (Int.ne_of_gt h.pos))) X (by omega) (by omega))
 ·exact DX.q2 (x := .tmp 32) (y := .const (.int .i64 0)) (.bool false) rfl rfl rfl rfl rfl (fun ρ W h1 h2 => by exact r_neF h1 h2 (h.cmp.2 e))
 refine SX.then (SC.cond (t := false) rfl (SC.skip (SX.then (SC.seq (SC.region ?_)))))
 refine PW.load rfl rfl rfl rfl rfl rfl ?_
 refine PW.store (x := .tmp 35) (r := .kw (KQ (Rat.divInt (r) (s)).num (((Rat.divInt (r) (s)).den : Int) - 1))) rfl rfl rfl rfl rfl rfl sh_Q ?_
 refine PW.assign rfl rfl rfl rfl rfl (PW.nil (SX.then (SC.ret ?_)))
 exact SX.done2 (s := 2) (t := 3) (r := .vl (.int .i64 0)) (.inl rfl) rfl rfl rfl rfl
set_option maxHeartbeats 3200000 in
set_option maxRecDepth 100000 in
theorem k_rrootx {x : Rat} {a : Nat} {r s : Int} (X : bq a x) (ha : a ≤ 1000) (h : Rts x r s) (e : ¬ (r * r = x.num ∧ s * s = (x.den : Int))) : CallOk 56 [KQ (x).num (((x).den : Int) - 1)] (K2 (KQ 0 0) (KV (.int .i64 5))) := by
 have h0x : 0 ≤ x.num := Int.le_trans (Int.mul_nonneg h.r0 h.r0) h.r1
 refine CallOk.enter (l := [.kw (KQ (x).num (((x).den : Int) - 1))]) 36 ce_k_rroot Tryz.func56 rfl Tryz.ntmps56 (by simp) ⟨(KQ.st _ _), rfl, trivial⟩ fun w => ?_
 refine SC.seq (SC.region ?_)
 refine PW.box (x := .tmp 0) (r := .kw (KQ (x).num (((x).den : Int) - 1))) (BQ 38) rfl rfl rfl rfl rfl bQ rfl sh_Q ?_
 refine PW.alloc (BQ 38) rfl rfl rfl rfl rfl bQ ?_
 refine PW.assign rfl rfl rfl rfl rfl (PW.nil (SX.then (SC.seq (SC.seq (SC.region ?_)))))
 refine PW.load rfl rfl rfl rfl rfl rfl ?_
 refine PW.call (r := .vl (.int .i64 (sgq x))) rfl rfl rfl rfl rfl rfl (KV.st _) rfl (k_rsign) ?_
 refine PW.q2 (x := .tmp 10) (y := .const (.int .i64 0)) (.bool false) rfl rfl rfl rfl rfl (fun ρ W h1 h2 => by exact r_lt h1 h2 (decide_eq_false (fun k => by have := sgn_lt.1 k; omega))) ?_
 refine PW.nil (SX.then (SC.cond (t := false) rfl (SC.skip (SX.then (SC.seq (SC.region ?_))))))
 refine PW.fld (r := .kw (KI ((x).num))) rfl rfl rfl rfl rfl rfl rfl rfl rfl rfl rfl fldQ0 (KI.st _) ?_
 refine PW.call (r := .kw (K2 (KI (r)) (KV (.int .i64 0)))) rfl rfl rfl rfl rfl rfl (K2.st (KI.st _) (KV.st _)) rfl (k_root ((X).1) (by omega) h.r0 h.r1 h.r2) ?_
 refine PW.move rfl rfl rfl rfl rfl ?_
 refine PW.ext (r := .kw (KI (r))) rfl rfl rfl rfl rfl ex20 (KI.st _) rfl ?_
 refine PW.ext (r := .vl (.int .i64 0)) rfl rfl rfl rfl rfl ex21v (KV.st _) rfl ?_
 refine PW.alloc (BI 31) rfl rfl rfl rfl rfl bI ?_
 refine PW.store (x := .tmp 17) (r := .kw (KI (r))) rfl rfl rfl rfl rfl rfl sh_I ?_
 refine PW.assign rfl rfl rfl rfl rfl (PW.nil (SX.then (SC.seq (SC.region ?_))))
 refine PW.load rfl rfl rfl rfl rfl rfl ?_
 refine PW.call (r := .kw (KI ((x.den : Int)))) rfl rfl rfl rfl rfl rfl (KI.st _) rfl (k_rden X (by omega)) ?_
 refine PW.call (r := .kw (K2 (KI (s)) (KV (.int .i64 0)))) rfl rfl rfl rfl rfl rfl (K2.st (KI.st _) (KV.st _)) rfl (k_root X.2 (by omega) h.s0 h.s1 h.s2) ?_
 refine PW.move rfl rfl rfl rfl rfl ?_
 refine PW.ext (r := .kw (KI (s))) rfl rfl rfl rfl rfl ex20 (KI.st _) rfl ?_
 refine PW.ext (r := .vl (.int .i64 0)) rfl rfl rfl rfl rfl ex21v (KV.st _) rfl ?_
 refine PW.alloc (BI 31) rfl rfl rfl rfl rfl bI ?_
 refine PW.store (x := .tmp 23) (r := .kw (KI (s))) rfl rfl rfl rfl rfl rfl sh_I ?_
 refine PW.assign rfl rfl rfl rfl rfl (PW.nil (SX.then (SC.seq (SC.region ?_))))
 refine PW.load rfl rfl rfl rfl rfl rfl ?_
 refine PW.load rfl rfl rfl rfl rfl rfl ?_
 refine PW.call (r := .kw (KQ (Rat.divInt (r) (s)).num (((Rat.divInt (r) (s)).den : Int) - 1))) rfl rfl rfl rfl rfl rfl (KQ.st _ _) rfl (k_rmade ((bd_rt ((X).1) h.r0 h.r1)) ((bd_rt X.2 h.s0 h.s1)) (Int.ne_of_gt h.pos) (by omega) (by omega)) ?_
 refine PW.alloc (BQ 38) rfl rfl rfl rfl rfl bQ ?_
 refine PW.store (x := .tmp 27) (r := .kw (KQ (Rat.divInt (r) (s)).num (((Rat.divInt (r) (s)).den : Int) - 1))) rfl rfl rfl rfl rfl rfl sh_Q ?_
 refine PW.nil (SX.then (SC.seq (SC.seq ?_)))
 refine SC.dx [.val 28 (.kw (KQ (Rat.divInt (r) (s)).num (((Rat.divInt (r) (s)).den : Int) - 1))), .val 29 (.kw (KQ (Rat.divInt (r) (s)).num (((Rat.divInt (r) (s)).den : Int) - 1))), .val 30 (.kw (KQ ((Rat.divInt (r) (s)) * (Rat.divInt (r) (s))).num ((((Rat.divInt (r) (s)) * (Rat.divInt (r) (s))).den : Int) - 1))), .val 31 (.kw (KQ (x).num (((x).den : Int) - 1))), .val 32 (.vl (.int .i64 (cmpq ((Rat.divInt (r) (s)) * (Rat.divInt (r) (s))) x))), .val 33 (.vl (.bool true))] [([], [8]), ([], [8]), ([0, 1], []), ([], [1]), ([2, 3], []), ([4], [])] rfl (by kernel_rfl) (by kernel_rfl) (by kernel_rfl) rfl ⟨?_, ?_, ?_, ?_, ?_, ?_, trivial⟩ ?_
 ·exact DX.load rfl rfl rfl rfl rfl rfl
 ·exact DX.load rfl rfl rfl rfl rfl rfl
 ·exact DX.call (r := .kw (KQ ((Rat.divInt (r) (s)) * (Rat.divInt (r) (s))).num ((((Rat.divInt (r) (s)) * (Rat.divInt (r) (s))).den : Int) - 1))) rfl rfl rfl rfl rfl rfl (KQ.st _ _) rfl (k_rmul (bq.over ((bd_rt ((X).1) h.r0 h.r1)) ((bd_rt X.2 h.s0 h.s1)) (Int.ne_of_gt h.pos)) (bq.over ((bd_rt ((X).1) h.r0 h.r1)) ((bd_rt X.2 h.s0 h.s1)) (Int.ne_of_gt h.pos)) (by omega) (by omega))
 ·exact DX.load rfl rfl rfl rfl rfl rfl
 ·exact DX.call (r := .vl (.int .i64 (cmpq ((Rat.divInt (r) (s)) * (Rat.divInt (r) (s))) x))) rfl rfl rfl rfl rfl rfl (KV.st _) rfl (k_rcmp ((bq.over ((bd_rt ((X).1) h.r0 h.r1)) ((bd_rt X.2 h.s0 h.s1)) (Int.ne_of_gt h.pos)).mul (bq.over ((bd_rt ((X).1) h.r0 h.r1)) ((bd_rt X.2 h.s0 h.s1)) (Int.ne_of_gt h.pos))) X (by omega) (by omega))
 ·exact DX.q2 (x := .tmp 32) (y := .const (.int .i64 0)) (.bool true) rfl rfl rfl rfl rfl (fun ρ W h1 h2 => by exact r_neT h1 h2 (fun k => e (h.cmp.1 k)))
 refine SX.then (SC.cond (t := true) rfl (SC.seq (SC.region ?_)))
 refine PW.val (r := .kw (KQ (0) (0))) rfl rfl rfl rfl (fun a W hf => ⟨_, r_bldQ0, zeroQ W, KQ.st _ _⟩) ?_
 refine PW.store (x := .tmp 34) (r := .kw (KQ (0) (0))) rfl rfl rfl rfl rfl rfl sh_Q ?_
 refine PW.assign rfl rfl rfl rfl rfl (PW.nil (SX.then (SC.ret (SX.thenR ?_))))
 exact SX.done2 (s := 2) (t := 3) (r := .vl (.int .i64 5)) (.inl rfl) rfl rfl rfl rfl
set_option maxHeartbeats 3200000 in
set_option maxRecDepth 100000 in
theorem k_rroot_neg {x : Rat} (hx : x.num < 0) : CallOk 56 [KQ (x).num (((x).den : Int) - 1)] (K2 (KQ 0 0) (KV (.int .i64 1))) := by
 refine CallOk.enter (l := [.kw (KQ (x).num (((x).den : Int) - 1))]) 36 ce_k_rroot Tryz.func56 rfl Tryz.ntmps56 (by simp) ⟨(KQ.st _ _), rfl, trivial⟩ fun w => ?_
 refine SC.seq (SC.region ?_)
 refine PW.box (x := .tmp 0) (r := .kw (KQ (x).num (((x).den : Int) - 1))) (BQ 38) rfl rfl rfl rfl rfl bQ rfl sh_Q ?_
 refine PW.alloc (BQ 38) rfl rfl rfl rfl rfl bQ ?_
 refine PW.assign rfl rfl rfl rfl rfl (PW.nil (SX.then (SC.seq (SC.seq (SC.region ?_)))))
 refine PW.load rfl rfl rfl rfl rfl rfl ?_
 refine PW.call (r := .vl (.int .i64 (sgq x))) rfl rfl rfl rfl rfl rfl (KV.st _) rfl (k_rsign) ?_
 refine PW.q2 (x := .tmp 10) (y := .const (.int .i64 0)) (.bool true) rfl rfl rfl rfl rfl (fun ρ W h1 h2 => by exact r_lt h1 h2 (decide_eq_true (sgn_lt.2 hx))) ?_
 refine PW.nil (SX.then (SC.cond (t := true) rfl (SC.seq (SC.region ?_))))
 refine PW.val (r := .kw (KQ (0) (0))) rfl rfl rfl rfl (fun a W hf => ⟨_, r_bldQ0, zeroQ W, KQ.st _ _⟩) ?_
 refine PW.store (x := .tmp 12) (r := .kw (KQ (0) (0))) rfl rfl rfl rfl rfl rfl sh_Q ?_
 refine PW.assign rfl rfl rfl rfl rfl (PW.nil (SX.then (SC.ret (SX.thenR ?_))))
 exact SX.done2 (s := 2) (t := 3) (r := .vl (.int .i64 1)) (.inl rfl) rfl rfl rfl rfl
theorem ce_k_jrroot0 : CE 63 := fun args W => by go_simp
set_option maxHeartbeats 3200000 in
set_option maxRecDepth 100000 in
theorem k_jrroot0 {x : Rat} {a : Nat} {r s : Int} (X : bq a x) (ha : a ≤ 1000) (h : Rts x r s) : CallOk 63 [KR3 (x).num ((x).den : Int)] (if r * r = x.num ∧ s * s = (x.den : Int) then K2 (KR3 (r) (s)) (KV (.int .i64 0)) else K2 (KR3 ((0 : Int) : Rat).num (((0 : Int) : Rat).den : Int)) (KV (.int .i64 5))) := by
 refine CallOk.enter (l := [.kw (KR3 (x).num ((x).den : Int))]) 44 ce_k_jrroot0 Tryz.func63 rfl Tryz.ntmps63 (by simp) ⟨(KR3.st _ _), rfl, trivial⟩ fun w => ?_
 refine SC.seq (SC.region ?_)
 refine PW.box (x := .tmp 0) (r := .kw (KR3 (x).num ((x).den : Int))) (BQ 43) rfl rfl rfl rfl rfl bQJ rfl sh_R3 ?_
 refine PW.alloc (BQ 43) rfl rfl rfl rfl rfl bQJ ?_
 refine PW.assign rfl rfl rfl rfl rfl (PW.nil (SX.then (SC.seq (SC.region ?_))))
 refine PW.fld (r := .kw (KJ ((x).num))) rfl rfl rfl rfl rfl rfl rfl rfl rfl rfl rfl fldR0 (KJ.st _) ?_
 refine PW.call (r := .kw (K2 (KJ (r)) (KV (.int .i64 0)))) rfl rfl rfl rfl rfl rfl (K2.st (KJ.st _) (KV.st _)) rfl (k_jroot ((X).1) (by omega) h.r0 h.r1 h.r2) ?_
 refine PW.move rfl rfl rfl rfl rfl ?_
 refine PW.ext (r := .kw (KJ (r))) rfl rfl rfl rfl rfl ex20 (KJ.st _) rfl ?_
 refine PW.ext (r := .vl (.int .i64 0)) rfl rfl rfl rfl rfl ex21v (KV.st _) rfl ?_
 refine PW.alloc (BI 34) rfl rfl rfl rfl rfl bJ ?_
 refine PW.store (x := .tmp 12) (r := .kw (KJ (r))) rfl rfl rfl rfl rfl rfl sh_J ?_
 refine PW.assign rfl rfl rfl rfl rfl (PW.nil (SX.then (SC.seq (SC.seq (SC.region (PW.move rfl rfl rfl rfl rfl ?_))))))
 refine PW.q2 (x := .tmp 14) (y := .const (.int .i64 0)) (.bool false) rfl rfl rfl rfl rfl (fun ρ W h1 h2 => by go_simp) ?_
 refine PW.nil (SX.then (SC.cond (t := false) rfl (SC.skip (SX.then (SC.seq (SC.region ?_))))))
 refine PW.fld (r := .kw (KJ (((x).den : Int)))) rfl rfl rfl rfl rfl rfl rfl rfl rfl rfl rfl fldR1 (KJ.st _) ?_
 refine PW.call (r := .kw (K2 (KJ (s)) (KV (.int .i64 0)))) rfl rfl rfl rfl rfl rfl (K2.st (KJ.st _) (KV.st _)) rfl (k_jroot ((X).2) (by omega) h.s0 h.s1 h.s2) ?_
 refine PW.move rfl rfl rfl rfl rfl ?_
 refine PW.ext (r := .kw (KJ (s))) rfl rfl rfl rfl rfl ex20 (KJ.st _) rfl ?_
 refine PW.ext (r := .vl (.int .i64 0)) rfl rfl rfl rfl rfl ex21v (KV.st _) rfl ?_
 refine PW.alloc (BI 34) rfl rfl rfl rfl rfl bJ ?_
 refine PW.store (x := .tmp 22) (r := .kw (KJ (s))) rfl rfl rfl rfl rfl rfl sh_J ?_
 refine PW.assign rfl rfl rfl rfl rfl (PW.nil (SX.then (SC.seq (SC.seq ?_))))
 by_cases e1 : r * r = x.num
 ·by_cases e2 : s * s = (x.den : Int)
  ·refine SC.fix (s := 1) rfl fun p1 => ?_
   refine SC.dx [.val 24 (.kw (KJ (r))), .val 25 (.kw (KJ (r))), .val 26 (.kw (KJ (r * r))), .val 27 (.vl (.pointer (some ⟨p1, 0, none⟩))), .val 28 (.kw (KJ ((x).num))), .val 29 (.vl (.int .i64 (cmp (r * r) ((x).num)))), .val 30 (.vl (.bool false)), .val 31 (.vl (.bool false)), .val 32 (.kw (KJ (s))), .val 33 (.kw (KJ (s))), .val 34 (.kw (KJ (s * s))), .val 35 (.vl (.pointer (some ⟨p1, 2, none⟩))), .val 36 (.kw (KJ (((x).den : Int)))), .val 37 (.vl (.int .i64 (cmp (s * s) (((x).den : Int))))), .val 38 (.vl (.bool false)), .val 39 (.vl (.bool false))] [([], [4]), ([], [4]), ([0, 1], []), ([], [1]), ([3], [1]), ([2, 4], []), ([5], []), ([6], []), ([7], [6]), ([7], [6]), ([8, 9, 7], []), ([7], [1]), ([11, 7], [1]), ([10, 12, 7], []), ([13, 7], []), ([7, 14], [])] rfl (by kernel_rfl) (by kernel_rfl) (by kernel_rfl) rfl ⟨?_, ?_, ?_, ?_, ?_, ?_, ?_, ?_, ?_, ?_, ?_, ?_, ?_, ?_, ?_, ?_, trivial⟩ ?_
   ·exact DX.load rfl rfl rfl rfl rfl rfl
   ·exact DX.load rfl rfl rfl rfl rfl rfl
   ·exact DX.call (r := .kw (KJ (r * r))) rfl rfl rfl rfl rfl rfl (KJ.st _) rfl (k_jmul ((bd_rt ((X).1) h.r0 h.r1)) ((bd_rt ((X).1) h.r0 h.r1)) (by omega) (by omega))
   ·exact DX.fa ⟨p1, 0, none⟩ rfl rfl rfl rfl rfl faR0
   ·exact DX.fl (s := 1) (r := .kw (KJ ((x).num))) rfl rfl rfl rfl rfl rfl rfl (KJ.st _) flR0
   ·exact DX.call (r := .vl (.int .i64 (cmp (r * r) ((x).num)))) rfl rfl rfl rfl rfl rfl (KV.st _) rfl (k_jcmp (((bd_rt ((X).1) h.r0 h.r1)).mul ((bd_rt ((X).1) h.r0 h.r1))) ((X).1) (by omega) (by omega) rfl)
   ·exact DX.q2 (x := .tmp 29) (y := .const (.int .i64 0)) (.bool false) rfl rfl rfl rfl rfl (fun ρ W h1 h2 => by exact r_neF h1 h2 (cmp_zero.2 e1))
   ·exact DX.move rfl rfl rfl rfl rfl rfl
   ·exact DX.load rfl rfl rfl rfl rfl rfl
   ·exact DX.load rfl rfl rfl rfl rfl rfl
   ·exact DX.call (r := .kw (KJ (s * s))) rfl rfl rfl rfl rfl rfl (KJ.st _) rfl (k_jmul ((bd_rt ((X).2) h.s0 h.s1)) ((bd_rt ((X).2) h.s0 h.s1)) (by omega) (by omega))
   ·exact DX.fa ⟨p1, 2, none⟩ rfl rfl rfl rfl rfl faR1
   ·exact DX.fl (s := 1) (r := .kw (KJ (((x).den : Int)))) rfl rfl rfl rfl rfl rfl rfl (KJ.st _) flR1
   ·exact DX.call (r := .vl (.int .i64 (cmp (s * s) (((x).den : Int))))) rfl rfl rfl rfl rfl rfl (KV.st _) rfl (k_jcmp (((bd_rt ((X).2) h.s0 h.s1)).mul ((bd_rt ((X).2) h.s0 h.s1))) ((X).2) (by omega) (by omega) rfl)
   ·exact DX.q2 (x := .tmp 37) (y := .const (.int .i64 0)) (.bool false) rfl rfl rfl rfl rfl (fun ρ W h1 h2 => by exact r_neF h1 h2 (cmp_zero.2 e2))
   ·exact DX.pick (t := false) rfl rfl rfl rfl rfl rfl rfl
   refine SX.unfix (s := 1) rfl ?_
   refine SX.then (SC.cond (t := false) rfl (SC.skip (SX.then (SC.seq (SC.region ?_)))))
   refine PW.load rfl rfl rfl rfl rfl rfl ?_
   refine PW.load rfl rfl rfl rfl rfl rfl ?_
   refine PW.bldR (x := .tmp 41) (y := .tmp 42) (n := r) (e := s) rfl rfl rfl rfl rfl (fun ρ W m m2 A A2 l c l2 c2 h1 h2 => r_bldR h1 h2) ?_
   refine PW.store (x := .tmp 43) (r := .kw (KR3 (r) (s))) rfl rfl rfl rfl rfl rfl sh_R3 ?_
   refine PW.assign rfl rfl rfl rfl rfl (PW.nil (SX.then (SC.ret ?_)))
   rw [if_pos ⟨e1, e2⟩]
   exact SX.done2 (s := 2) (t := 3) (r := .vl (.int .i64 0)) (.inl rfl) rfl rfl rfl rfl
  ·refine SC.fix (s := 1) rfl fun p1 => ?_
   refine SC.dx [.val 24 (.kw (KJ (r))), .val 25 (.kw (KJ (r))), .val 26 (.kw (KJ (r * r))), .val 27 (.vl (.pointer (some ⟨p1, 0, none⟩))), .val 28 (.kw (KJ ((x).num))), .val 29 (.vl (.int .i64 (cmp (r * r) ((x).num)))), .val 30 (.vl (.bool false)), .val 31 (.vl (.bool false)), .val 32 (.kw (KJ (s))), .val 33 (.kw (KJ (s))), .val 34 (.kw (KJ (s * s))), .val 35 (.vl (.pointer (some ⟨p1, 2, none⟩))), .val 36 (.kw (KJ (((x).den : Int)))), .val 37 (.vl (.int .i64 (cmp (s * s) (((x).den : Int))))), .val 38 (.vl (.bool true)), .val 39 (.vl (.bool true))] [([], [4]), ([], [4]), ([0, 1], []), ([], [1]), ([3], [1]), ([2, 4], []), ([5], []), ([6], []), ([7], [6]), ([7], [6]), ([8, 9, 7], []), ([7], [1]), ([11, 7], [1]), ([10, 12, 7], []), ([13, 7], []), ([7, 14], [])] rfl (by kernel_rfl) (by kernel_rfl) (by kernel_rfl) rfl ⟨?_, ?_, ?_, ?_, ?_, ?_, ?_, ?_, ?_, ?_, ?_, ?_, ?_, ?_, ?_, ?_, trivial⟩ ?_
   ·exact DX.load rfl rfl rfl rfl rfl rfl
   ·exact DX.load rfl rfl rfl rfl rfl rfl
   ·exact DX.call (r := .kw (KJ (r * r))) rfl rfl rfl rfl rfl rfl (KJ.st _) rfl (k_jmul ((bd_rt ((X).1) h.r0 h.r1)) ((bd_rt ((X).1) h.r0 h.r1)) (by omega) (by omega))
   ·exact DX.fa ⟨p1, 0, none⟩ rfl rfl rfl rfl rfl faR0
   ·exact DX.fl (s := 1) (r := .kw (KJ ((x).num))) rfl rfl rfl rfl rfl rfl rfl (KJ.st _) flR0
   ·exact DX.call (r := .vl (.int .i64 (cmp (r * r) ((x).num)))) rfl rfl rfl rfl rfl rfl (KV.st _) rfl (k_jcmp (((bd_rt ((X).1) h.r0 h.r1)).mul ((bd_rt ((X).1) h.r0 h.r1))) ((X).1) (by omega) (by omega) rfl)
   ·exact DX.q2 (x := .tmp 29) (y := .const (.int .i64 0)) (.bool false) rfl rfl rfl rfl rfl (fun ρ W h1 h2 => by exact r_neF h1 h2 (cmp_zero.2 e1))
   ·exact DX.move rfl rfl rfl rfl rfl rfl
   ·exact DX.load rfl rfl rfl rfl rfl rfl
   ·exact DX.load rfl rfl rfl rfl rfl rfl
   ·exact DX.call (r := .kw (KJ (s * s))) rfl rfl rfl rfl rfl rfl (KJ.st _) rfl (k_jmul ((bd_rt ((X).2) h.s0 h.s1)) ((bd_rt ((X).2) h.s0 h.s1)) (by omega) (by omega))
   ·exact DX.fa ⟨p1, 2, none⟩ rfl rfl rfl rfl rfl faR1
   ·exact DX.fl (s := 1) (r := .kw (KJ (((x).den : Int)))) rfl rfl rfl rfl rfl rfl rfl (KJ.st _) flR1
   ·exact DX.call (r := .vl (.int .i64 (cmp (s * s) (((x).den : Int))))) rfl rfl rfl rfl rfl rfl (KV.st _) rfl (k_jcmp (((bd_rt ((X).2) h.s0 h.s1)).mul ((bd_rt ((X).2) h.s0 h.s1))) ((X).2) (by omega) (by omega) rfl)
   ·exact DX.q2 (x := .tmp 37) (y := .const (.int .i64 0)) (.bool true) rfl rfl rfl rfl rfl (fun ρ W h1 h2 => by exact r_neT h1 h2 (fun k => e2 (cmp_zero.1 k)))
   ·exact DX.pick (t := false) rfl rfl rfl rfl rfl rfl rfl
   refine SX.unfix (s := 1) rfl ?_
   refine SX.then (SC.cond (t := true) rfl (SC.seq (SC.region ?_)))
   refine PW.call (r := .kw (KR3 (((0 : Int) : Rat)).num ((((0 : Int) : Rat)).den : Int))) rfl rfl rfl rfl rfl rfl (KR3.st _ _) rfl (k_jrint (by decide)) ?_
   refine PW.store (x := .tmp 40) (r := .kw (KR3 (((0 : Int) : Rat)).num ((((0 : Int) : Rat)).den : Int))) rfl rfl rfl rfl rfl rfl sh_R3 ?_
   refine PW.assign rfl rfl rfl rfl rfl (PW.nil (SX.then (SC.ret (SX.thenR ?_))))
   rw [if_neg (fun k => e2 k.2)]
   exact SX.done2 (s := 2) (t := 3) (r := .vl (.int .i64 5)) (.inl rfl) rfl rfl rfl rfl
 ·refine SC.fix (s := 1) rfl fun p1 => ?_
  refine SC.dx [.val 24 (.kw (KJ (r))), .val 25 (.kw (KJ (r))), .val 26 (.kw (KJ (r * r))), .val 27 (.vl (.pointer (some ⟨p1, 0, none⟩))), .val 28 (.kw (KJ ((x).num))), .val 29 (.vl (.int .i64 (cmp (r * r) ((x).num)))), .val 30 (.vl (.bool true)), .val 31 (.vl (.bool true)), .val 32 (.vl (undef)), .val 33 (.vl (undef)), .val 34 (.vl (undef)), .val 35 (.vl (undef)), .val 36 (.vl (undef)), .val 37 (.vl (undef)), .val 38 (.vl (undef)), .val 39 (.vl (.bool true))] [([], [4]), ([], [4]), ([0, 1], []), ([], [1]), ([3], [1]), ([2, 4], []), ([5], []), ([6], []), ([7], []), ([7], []), ([7], []), ([7], []), ([7], []), ([7], []), ([7], []), ([7], [])] rfl (by kernel_rfl) (by kernel_rfl) (by kernel_rfl) rfl ⟨?_, ?_, ?_, ?_, ?_, ?_, ?_, ?_, ?_, ?_, ?_, ?_, ?_, ?_, ?_, ?_, trivial⟩ ?_
  ·exact DX.load rfl rfl rfl rfl rfl rfl
  ·exact DX.load rfl rfl rfl rfl rfl rfl
  ·exact DX.call (r := .kw (KJ (r * r))) rfl rfl rfl rfl rfl rfl (KJ.st _) rfl (k_jmul ((bd_rt ((X).1) h.r0 h.r1)) ((bd_rt ((X).1) h.r0 h.r1)) (by omega) (by omega))
  ·exact DX.fa ⟨p1, 0, none⟩ rfl rfl rfl rfl rfl faR0
  ·exact DX.fl (s := 1) (r := .kw (KJ ((x).num))) rfl rfl rfl rfl rfl rfl rfl (KJ.st _) flR0
  ·exact DX.call (r := .vl (.int .i64 (cmp (r * r) ((x).num)))) rfl rfl rfl rfl rfl rfl (KV.st _) rfl (k_jcmp (((bd_rt ((X).1) h.r0 h.r1)).mul ((bd_rt ((X).1) h.r0 h.r1))) ((X).1) (by omega) (by omega) rfl)
  ·exact DX.q2 (x := .tmp 29) (y := .const (.int .i64 0)) (.bool true) rfl rfl rfl rfl rfl (fun ρ W h1 h2 => by exact r_neT h1 h2 (fun k => e1 (cmp_zero.1 k)))
  ·exact DX.move rfl rfl rfl rfl rfl rfl
  ·exact DX.skip rfl rfl rfl
  ·exact DX.skip rfl rfl rfl
  ·exact DX.skip rfl rfl rfl
  ·exact DX.skip rfl rfl rfl
  ·exact DX.skip rfl rfl rfl
  ·exact DX.skip rfl rfl rfl
  ·exact DX.skip rfl rfl rfl
  ·exact DX.pick (t := true) rfl rfl rfl rfl rfl rfl rfl
  refine SX.unfix (s := 1) rfl ?_
  refine SX.then (SC.cond (t := true) rfl (SC.seq (SC.region ?_)))
  refine PW.call (r := .kw (KR3 (((0 : Int) : Rat)).num ((((0 : Int) : Rat)).den : Int))) rfl rfl rfl rfl rfl rfl (KR3.st _ _) rfl (k_jrint (by decide)) ?_
  refine PW.store (x := .tmp 40) (r := .kw (KR3 (((0 : Int) : Rat)).num ((((0 : Int) : Rat)).den : Int))) rfl rfl rfl rfl rfl rfl sh_R3 ?_
  refine PW.assign rfl rfl rfl rfl rfl (PW.nil (SX.then (SC.ret (SX.thenR ?_))))
  rw [if_neg (fun k => e1 k.1)]
  exact SX.done2 (s := 2) (t := 3) (r := .vl (.int .i64 5)) (.inl rfl) rfl rfl rfl rfl
theorem k_jrroot {x : Rat} {a : Nat} {r s : Int} (X : bq a x) (ha : a ≤ 1000) (h : Rts x r s) (e : r * r = x.num ∧ s * s = (x.den : Int)) : CallOk 63 [KR3 (x).num ((x).den : Int)] (K2 (KR3 (Rat.divInt (r) (s)).num ((Rat.divInt (r) (s)).den : Int)) (KV (.int .i64 0))) := by
 have k := k_jrroot0 X ha h
 obtain ⟨e1, e2⟩ := h.eq (h.iff.2 e)
 rw [if_pos e] at k
 rw [e1, e2]
 exact k
theorem k_jrrootx {x : Rat} {a : Nat} {r s : Int} (X : bq a x) (ha : a ≤ 1000) (h : Rts x r s) (e : ¬ (r * r = x.num ∧ s * s = (x.den : Int))) : CallOk 63 [KR3 (x).num ((x).den : Int)] (K2 (KR3 ((0 : Int) : Rat).num (((0 : Int) : Rat).den : Int)) (KV (.int .i64 5))) := by
 have k := k_jrroot0 X ha h
 rwa [if_neg e] at k
set_option maxHeartbeats 3200000 in
set_option maxRecDepth 100000 in
theorem k_jrroot_neg {x : Rat} (hx : x.num < 0) : CallOk 63 [KR3 (x).num ((x).den : Int)] (K2 (KR3 ((0 : Int) : Rat).num (((0 : Int) : Rat).den : Int)) (KV (.int .i64 1))) := by
 refine CallOk.enter (l := [.kw (KR3 (x).num ((x).den : Int))]) 44 ce_k_jrroot0 Tryz.func63 rfl Tryz.ntmps63 (by simp) ⟨(KR3.st _ _), rfl, trivial⟩ fun w => ?_
 refine SC.seq (SC.region ?_)
 refine PW.box (x := .tmp 0) (r := .kw (KR3 (x).num ((x).den : Int))) (BQ 43) rfl rfl rfl rfl rfl bQJ rfl sh_R3 ?_
 refine PW.alloc (BQ 43) rfl rfl rfl rfl rfl bQJ ?_
 refine PW.assign rfl rfl rfl rfl rfl (PW.nil (SX.then (SC.seq (SC.region ?_))))
 refine PW.fld (r := .kw (KJ ((x).num))) rfl rfl rfl rfl rfl rfl rfl rfl rfl rfl rfl fldR0 (KJ.st _) ?_
 refine PW.call (r := .kw (K2 (KJ (0)) (KV (.int .i64 1)))) rfl rfl rfl rfl rfl rfl (K2.st (KJ.st _) (KV.st _)) rfl (k_jroot_neg hx) ?_
 refine PW.move rfl rfl rfl rfl rfl ?_
 refine PW.ext (r := .kw (KJ (0))) rfl rfl rfl rfl rfl ex20 (KJ.st _) rfl ?_
 refine PW.ext (r := .vl (.int .i64 1)) rfl rfl rfl rfl rfl ex21v (KV.st _) rfl ?_
 refine PW.alloc (BI 34) rfl rfl rfl rfl rfl bJ ?_
 refine PW.store (x := .tmp 12) (r := .kw (KJ (0))) rfl rfl rfl rfl rfl rfl sh_J ?_
 refine PW.assign rfl rfl rfl rfl rfl (PW.nil (SX.then (SC.seq (SC.seq (SC.region (PW.move rfl rfl rfl rfl rfl ?_))))))
 refine PW.q2 (x := .tmp 14) (y := .const (.int .i64 0)) (.bool true) rfl rfl rfl rfl rfl (fun ρ W h1 h2 => by go_simp) ?_
 refine PW.nil (SX.then (SC.cond (t := true) rfl (SC.seq (SC.region ?_))))
 refine PW.call (r := .kw (KR3 (((0 : Int) : Rat)).num ((((0 : Int) : Rat)).den : Int))) rfl rfl rfl rfl rfl rfl (KR3.st _ _) rfl (k_jrint (by decide)) ?_
 refine PW.move rfl rfl rfl rfl rfl ?_
 refine PW.store (x := .tmp 16) (r := .kw (KR3 (((0 : Int) : Rat)).num ((((0 : Int) : Rat)).den : Int))) rfl rfl rfl rfl rfl rfl sh_R3 ?_
 refine PW.assign rfl rfl rfl rfl rfl (PW.nil (SX.then (SC.ret (SX.thenR ?_))))
 exact SX.done2 (s := 2) (t := 3) (r := .vl (.int .i64 1)) (.inl rfl) rfl rfl rfl rfl
end Go.Proofs.YthpjmhhfcechmaaGreat.Sy
/- Div, Power, Root of fractions, both sides: one contract each, whatever comes in. -/
namespace Go.Proofs.YthpjmhhfcechmaaGreat.Sy
open Go Go.RowKit Ma
def ezq (y : Rat) : Int := if y = 0 then 6 else 0
theorem bq.divt {a b : Nat} {x y : Rat} (X : bq a x) (Y : bq b y) : bq (a + b + 1) (x / y) := by
 by_cases h : y = 0
 ·subst h
  rw [Rat.div_def, Rat.inv_zero, Rat.mul_zero]
  exact (zero_bq rfl).mono (by omega)
 ·exact (X.div Y h).mono (by omega)
theorem k_rdivt {x y : Rat} {a b : Nat} (X : bq a x) (Y : bq b y) (ha : a ≤ 50000) (hb : b ≤ 50000) : CallOk 60 [KQ (x).num (((x).den : Int) - 1), KQ (y).num (((y).den : Int) - 1)] (K2 (KQ (x / y).num (((x / y).den : Int) - 1)) (KV (.int .i64 (ezq y)))) := by
 unfold ezq
 by_cases h : y = 0
 ·rw [if_pos h]
  have k := k_rdiv0 (x := x) h
  subst h
  rw [Rat.div_def, Rat.inv_zero, Rat.mul_zero]
  exact k
 ·rw [if_neg h]
  exact k_rdiv X Y ha hb h
theorem k_jrdivt {x y : Rat} {a b : Nat} (X : bq a x) (Y : bq b y) (ha : a ≤ 50000) (hb : b ≤ 50000) : CallOk 61 [KR3 (x).num ((x).den : Int), KR3 (y).num ((y).den : Int)] (K2 (KR3 (x / y).num ((x / y).den : Int)) (KV (.int .i64 (ezq y)))) := by
 unfold ezq
 by_cases h : y = 0
 ·rw [if_pos h]
  have k := k_jrdiv0 (x := x) h
  subst h
  rw [Rat.div_def, Rat.inv_zero, Rat.mul_zero]
  exact k
 ·rw [if_neg h]
  exact k_jrdiv X Y ha hb h
def epw (x : Rat) (n : Int) : Int := if x = 0 ∧ n < 0 then 6 else 0
theorem zero_zpow {n : Int} (hn : n < 0) : (0 : Rat) ^ n = 0 := by
 obtain ⟨j, rfl⟩ : ∃ j : Nat, n = -((j + 1 : Nat) : Int) := ⟨(-n - 1).toNat, by omega⟩
 rw [zpow_neg_nat, Rat.inv_zero, Rat.pow_succ, Rat.mul_zero]
theorem bq.pwt {x : Rat} {n : Int} (X : bq 5 x) (h : pwOk x n) : bq 101 (x ^ n) := by
 by_cases hn : 0 ≤ n
 ·obtain ⟨k, rfl⟩ := Int.eq_ofNat_of_zero_le hn
  exact bq.pw_ok X h
 ·by_cases h0 : x = 0
  ·subst h0
   rw [zero_zpow (by omega)]
   exact (zero_bq rfl).mono (by omega)
  ·obtain ⟨k, rfl⟩ : ∃ k : Nat, n = -(k : Int) := ⟨(-n).toNat, by omega⟩
   rw [zpow_neg_nat]
   rcases h with h | ⟨h1, h2⟩
   ·exact (bq.pwn (bq.inv X h0) k).mono (by omega)
   ·have u := unit_of h0 h1 h2
    rw [unit_inv u]
    exact (bq.unit_pow u k).mono (by omega)
theorem k_rpowt {x : Rat} {n : Int} (X : bq 5 x) (h : pwOk x n) (hn1 : -9223372036854775808 ≤ n) (hn2 : n ≤ 9223372036854775807) : CallOk 57 [KQ (x).num (((x).den : Int) - 1), KV (.int .i64 (n))] (K2 (KQ (x ^ n).num (((x ^ n).den : Int) - 1)) (KV (.int .i64 (epw x n)))) := by
 unfold epw
 by_cases hn : 0 ≤ n
 ·obtain ⟨k, rfl⟩ := Int.eq_ofNat_of_zero_le hn
  rw [if_neg (fun e => by omega)]
  have := k_rpow X (by omega) (n := k) (by omega) (bq.pw_ok X h) (by omega)
  exact this
 ·by_cases h0 : x = 0
  ·rw [if_pos ⟨h0, by omega⟩]
   have k := k_rpow0 h0 (n := n) (by omega)
   subst h0
   rw [zero_zpow (by omega)]
   exact k
  ·rw [if_neg (fun e => h0 e.1)]
   obtain ⟨k, hk⟩ : ∃ k : Nat, (k : Int) = -(max n (-262144 - n % 2)) := ⟨(-(max n (-262144 - n % 2))).toNat, by omega⟩
   rcases h with h | ⟨h1, h2⟩
   ·have e : n = -(k : Int) := by omega
    have r := k_rpown X (by omega) h0 (by omega) hn1 hk (.inr (by omega)) (bq.pwn (bq.inv X h0) k) (bd.pwn X.2 k) (bd.pwn X.1 k) (by omega)
    rw [← zpow_neg_nat, ← e] at r
    exact r
   ·have u := unit_of h0 h1 h2
    have q := bq.unit_pow u k
    have r := k_rpown (m := 1) X (by omega) h0 (by omega) hn1 hk (.inl (unit_abs u)) (by rw [unit_inv u]; exact q) (by have := q.2; rwa [Rat.den_pow, Int.natCast_pow] at this) (by have := q.1; rwa [Rat.num_pow] at this) (by omega)
    rw [← unit_zpow u (n := n) (by omega) (by omega)] at r
    exact r
theorem k_jrpowt {x : Rat} {n : Int} (X : bq 5 x) (h : pwOk x n) (hn1 : -9223372036854775808 ≤ n) (hn2 : n ≤ 9223372036854775807) : CallOk 62 [KR3 (x).num ((x).den : Int), KV (.int .i64 (n))] (K2 (KR3 (x ^ n).num ((x ^ n).den : Int)) (KV (.int .i64 (epw x n)))) := by
 unfold epw
 by_cases hn : 0 ≤ n
 ·obtain ⟨k, rfl⟩ := Int.eq_ofNat_of_zero_le hn
  rw [if_neg (fun e => by omega)]
  have := k_jrpow X (n := k) (by rcases h with h | h; exact .inl (by omega); exact .inr ⟨h.1, by omega⟩) (by rcases h with h | h; exact .inl (by omega); exact .inr ⟨by omega, by omega⟩)
  exact this
 ·by_cases h0 : x = 0
  ·rw [if_pos ⟨h0, by omega⟩]
   have k := k_jrpow0 h0 (n := n) (by omega)
   subst h0
   rw [zero_zpow (by omega)]
   exact k
  ·rw [if_neg (fun e => h0 e.1)]
   have t1 := Int.tmod_lt_of_pos n (show (0 : Int) < 2 by decide)
   have t2 := Int.lt_tmod_of_pos n (show (0 : Int) < 2 by decide)
   have t3 := Int.tmod_add_mul_tdiv n 2
   obtain ⟨k, hk⟩ : ∃ k : Nat, (k : Int) = -(if n < -1099511627776 then -1099511627776 + n.tmod 2 else n) := ⟨(-(if n < -1099511627776 then -1099511627776 + n.tmod 2 else n)).toNat, by split <;> omega⟩
   rcases h with h | ⟨h1, h2⟩
   ·have e : n = -(k : Int) := by rw [if_neg (by omega)] at hk; omega
    have r := k_jrpown X (by omega) h0 (by omega) hn1 hk (.inl (by omega)) (.inl (by omega))
    rw [← zpow_neg_nat, ← e] at r
    exact r
   ·have u := unit_of h0 h1 h2
    have r := k_jrpown X (by omega) h0 (by omega) hn1 hk (.inr ⟨by rw [unit_inv u]; exact h1, by split at hk <;> omega⟩) (.inr ⟨by rw [unit_inv u]; omega, by split at hk <;> omega⟩)
    rw [← unit_zpow u (n := n) (by omega) (by split at hk <;> omega)] at r
    exact r
theorem root_both {x : Rat} {a : Nat} (X : bq a x) (ha : a ≤ 1000) : ∃ (z : Rat) (e : Int), bq (a + 1) z ∧ CallOk 56 [KQ (x).num (((x).den : Int) - 1)] (K2 (KQ (z).num (((z).den : Int) - 1)) (KV (.int .i64 e))) ∧ CallOk 63 [KR3 (x).num ((x).den : Int)] (K2 (KR3 (z).num ((z).den : Int)) (KV (.int .i64 e))) := by
 by_cases hx : x.num < 0
 ·exact ⟨0, 1, (zero_bq rfl).mono (by omega), k_rroot_neg hx, k_jrroot_neg hx⟩
 ·obtain ⟨r, s, h⟩ := Rts.ex (x := x) (by omega)
  by_cases e : r * r = x.num ∧ s * s = (x.den : Int)
  ·obtain ⟨e1, e2⟩ := h.eq (h.iff.2 e)
   exact ⟨Rat.divInt r s, 0, ⟨by rw [e1]; exact (bd_rt X.1 h.r0 h.r1).mono (by omega), by rw [e2]; exact (bd_rt X.2 h.s0 h.s1).mono (by omega)⟩, k_rroot X ha h e, k_jrroot X ha h e⟩
  ·exact ⟨0, 5, (zero_bq rfl).mono (by omega), k_rrootx X ha h e, k_jrrootx X ha h e⟩
end Go.Proofs.YthpjmhhfcechmaaGreat.Sy
/- A walk by rules: roads that join. -/
namespace Go.Proofs.YthpjmhhfcechmaaGreat.Sy
open Go Go.RowKit Ma
section
variable {B N : Nat} {w0 : World} {fr : List (Nat × AV)} {Q : Exit → Act → World → Prop}
def Md {S : Type} (B N : Nat) (w0 : World) (F : S → List (Nat × AV)) (P : S → Prop) (a : Act) (W : World) : Prop := ∃ s, P s ∧ Fr B N w0 (F s) a W
theorem SC.mid1 {x z : Code} {S : Type} (F : S → List (Nat × AV)) (P : S → Prop) (h1 : SC B N w0 x fr (Exit.then (Md B N w0 F P) Q)) (h2 : ∀ s, P s → SC B N w0 z (F s) Q) : SC B N w0 (.seq x z) fr Q := fun a W hf => by
 refine wp_seq (wp_mono (h1 a W hf) fun e a' w' hq => ?_)
 cases e with
 | normal => obtain ⟨s, hp, hf2⟩ := hq; exact h2 s hp a' w' hf2
 | exit id => exact hq
 | goto l => exact hq
 | ret => exact hq
 | panic ch => exact hq
 | outgrown => exact hq
theorem SX.mid {S : Type} {F : S → List (Nat × AV)} {P : S → Prop} (s : S) (hp : P s) (hk : Sub (F s) fr) : SX B N w0 .normal fr (Exit.then (Md B N w0 F P) Q) := fun a W hf => ⟨s, hp, hf.sub hk.spec⟩
end
end Go.Proofs.YthpjmhhfcechmaaGreat.Sy
/- RationalActs: the walk, by rules. -/
namespace Go.Proofs.YthpjmhhfcechmaaGreat
open Go.RowKit Ma Sy
theorem len_abs {x : Int} : (wid (pat (x.natAbs : Int)) : Int) > 1 ↔ 2 ≤ x.natAbs := by
 rw [wid_nat _ (by omega)]
 constructor
 ·intro h
  apply Classical.byContradiction
  intro h2
  have := wid_le1 (x := x) (by omega)
  omega
 ·intro h
  have := wid_gt1 h
  omega
theorem len_den {d : Nat} : (wid (pat (d : Int)) : Int) > 1 ↔ 2 ≤ d := by
 have := len_abs (x := (d : Int))
 simpa using this
set_option maxHeartbeats 12800000 in
set_option maxRecDepth 100000 in
theorem rationalActs_walk {n1 n2 n3 n4 : Bool} {A1 A2 A3 A4 : Option Addr} {l1 l2 l3 l4 c1 c2 c3 c4 : Nat} {xs1 xs2 xs3 xs4 : List Int} {n : Int} {w : World} (h1 : In w A1 l1 c1 xs1) (h2 : In w A2 l2 c2 xs2) (h3 : In w A3 l3 c3 xs3) (h4 : In w A4 l4 c4 xs4) (hw : (Lit.int .i64 n).wf = true) :
  Calls Tryz.prog 10 #[.agg #[.bool n1, .slice A1 l1 c1, .bool n2, .slice A2 l2 c2], .agg #[.bool n3, .slice A3 l3 c3, .bool n4, .slice A4 l4 c4], .int .i64 n] w (Ret w (KV (.bool true))) := by
 obtain ⟨x, hz1⟩ : ∃ z, z = sg n1 (lv b32 xs1) := ⟨_, rfl⟩
 obtain ⟨y, hz2⟩ : ∃ z, z = sg n2 (lv b32 xs2) := ⟨_, rfl⟩
 obtain ⟨z, hz3⟩ : ∃ z, z = sg n3 (lv b32 xs3) := ⟨_, rfl⟩
 obtain ⟨u, hz4⟩ : ∃ z, z = sg n4 (lv b32 xs4) := ⟨_, rfl⟩
 have hnr := lit_i64 hw
 refine calls_sc (l := [.vl (.agg #[.bool n1, .slice A1 l1 c1, .bool n2, .slice A2 l2 c2]), .vl (.agg #[.bool n3, .slice A3 l3 c3, .bool n4, .slice A4 l4 c4]), .vl (.int .i64 n)]) (us := [.agg #[.bool n1, .slice A1 l1 c1, .bool n2, .slice A2 l2 c2], .agg #[.bool n3, .slice A3 l3 c3, .bool n4, .slice A4 l4 c4], .int .i64 n]) 166 Tryz.func10 rfl Tryz.ntmps10 (by simp) ⟨rfl, rfl, rfl, rfl, rfl, rfl, trivial⟩ ?_
 refine SC.seq (SC.region ?_)
 refine PW.box (x := .tmp 0) (r := .vl (.agg #[.bool n1, .slice A1 l1 c1, .bool n2, .slice A2 l2 c2])) (BQ 26) rfl rfl rfl rfl rfl bQN rfl sh_VQ ?_
 refine PW.box (x := .tmp 1) (r := .vl (.agg #[.bool n3, .slice A3 l3 c3, .bool n4, .slice A4 l4 c4])) (BQ 26) rfl rfl rfl rfl rfl bQN rfl sh_VQ ?_
 refine PW.assign rfl rfl rfl rfl rfl (PW.nil (SX.then (SC.seq (SC.seq ?_))))
 by_cases hq : shQ 4 [((n1, A1, l1, c1), (n2, A2, l2, c2)), ((n3, A3, l3, c3), (n4, A4, l4, c4))] = true
 ·have hlehq : (l1 ≤ 4 ∧ l2 ≤ 4) ∧ (l3 ≤ 4 ∧ l4 ≤ 4) := by simpa [shB, shQ] using hq
  have X : bd 4 x := hz1 ▸ bd_sg h1.2.2.2 (by have := h1.1; omega)
  have Y : bd 4 y := hz2 ▸ bd_sg h2.2.2.2 (by have := h2.1; omega)
  have Z : bd 4 z := hz3 ▸ bd_sg h3.2.2.2 (by have := h3.1; omega)
  have U : bd 4 u := hz4 ▸ bd_sg h4.2.2.2 (by have := h4.1; omega)
  have hl1 : l1 ≤ 4 := by omega
  have hl2 : l2 ≤ 4 := by omega
  have hl3 : l3 ≤ 4 := by omega
  have hl4 : l4 ≤ 4 := by omega
  refine SC.region ?_
  refine PW.loadV rfl rfl rfl rfl rfl rfl ?_
  refine PW.loadV rfl rfl rfl rfl rfl rfl ?_
  refine PW.short3 4 [((n1, A1, l1, c1), (n2, A2, l2, c2)), ((n3, A3, l3, c3), (n4, A4, l4, c4))] _ rfl rfl rfl (fun a W hf => r_bQ2 (hf.vl (s := 23) rfl) (hf.vl (s := 24) rfl)) (fun W => qs_lit2 W) (by simp; exact ⟨⟨In.lim h1, In.lim h2⟩, ⟨In.lim h3, In.lim h4⟩⟩) rfl rfl hq rfl rfl rfl rfl rfl rfl ?_
  refine PW.q1 (x := .tmp 26) (.bool false) rfl rfl rfl rfl (fun ρ W h1 => by go_simp) ?_
  refine PW.nil (SX.then (SC.cond (t := false) rfl (SC.skip (SX.then (SC.seq (SC.region ?_))))))
  refine PW.loadV rfl rfl rfl rfl rfl rfl ?_
  refine PW.callG (r := .kw (K2 (KQ (ofq x y).num (((ofq x y).den : Int) - 1)) (KR3 (ofq x y).num ((ofq x y).den : Int)))) ce_of3 rfl rfl rfl rfl rfl (K2.st (KQ.st _ _) (KR3.st _ _)) rfl (fun a W hf => by have e1 := hf.vl (s := 30) rfl; show Calls Tryz.prog _ #[a.tmps.getD 30 undef] W _; rw [e1]; exact of3_c (in_be h1 hf.be) (in_be h2 hf.be) hz1 hz2 X Y (by omega) (by omega) (by decide)) ?_
  refine PW.move rfl rfl rfl rfl rfl ?_
  refine PW.ext (r := .kw (KQ (ofq x y).num (((ofq x y).den : Int) - 1))) rfl rfl rfl rfl rfl ex20 (KQ.st _ _) rfl ?_
  refine PW.ext (r := .kw (KR3 (ofq x y).num ((ofq x y).den : Int))) rfl rfl rfl rfl rfl ex21 (KR3.st _ _) rfl ?_
  refine PW.alloc (BQ 38) rfl rfl rfl rfl rfl bQ ?_
  refine PW.alloc (BQ 43) rfl rfl rfl rfl rfl bQJ ?_
  refine PW.store (x := .tmp 32) (r := .kw (KQ (ofq x y).num (((ofq x y).den : Int) - 1))) rfl rfl rfl rfl rfl rfl sh_Q ?_
  refine PW.store (x := .tmp 33) (r := .kw (KR3 (ofq x y).num ((ofq x y).den : Int))) rfl rfl rfl rfl rfl rfl sh_R3 ?_
  refine PW.nil (SX.then (SC.seq (SC.region ?_)))
  refine PW.loadV rfl rfl rfl rfl rfl rfl ?_
  refine PW.callG (r := .kw (K2 (KQ (ofq z u).num (((ofq z u).den : Int) - 1)) (KR3 (ofq z u).num ((ofq z u).den : Int)))) ce_of3 rfl rfl rfl rfl rfl (K2.st (KQ.st _ _) (KR3.st _ _)) rfl (fun a W hf => by have e1 := hf.vl (s := 35) rfl; show Calls Tryz.prog _ #[a.tmps.getD 35 undef] W _; rw [e1]; exact of3_c (in_be h3 hf.be) (in_be h4 hf.be) hz3 hz4 Z U (by omega) (by omega) (by decide)) ?_
  refine PW.move rfl rfl rfl rfl rfl ?_
  refine PW.ext (r := .kw (KQ (ofq z u).num (((ofq z u).den : Int) - 1))) rfl rfl rfl rfl rfl ex20 (KQ.st _ _) rfl ?_
  refine PW.ext (r := .kw (KR3 (ofq z u).num ((ofq z u).den : Int))) rfl rfl rfl rfl rfl ex21 (KR3.st _ _) rfl ?_
  refine PW.alloc (BQ 38) rfl rfl rfl rfl rfl bQ ?_
  refine PW.alloc (BQ 43) rfl rfl rfl rfl rfl bQJ ?_
  refine PW.store (x := .tmp 37) (r := .kw (KQ (ofq z u).num (((ofq z u).den : Int) - 1))) rfl rfl rfl rfl rfl rfl sh_Q ?_
  refine PW.store (x := .tmp 38) (r := .kw (KR3 (ofq z u).num ((ofq z u).den : Int))) rfl rfl rfl rfl rfl rfl sh_R3 ?_
  refine PW.nil (SX.then ?_)
  refine SC.mid1 (S := Int) (fun E => [(2, .vl (.int .i64 (E))), (3, .bx (BQ 26) (KV (.agg #[.bool n1, .slice A1 l1 c1, .bool n2, .slice A2 l2 c2]))), (4, .bx (BQ 26) (KV (.agg #[.bool n3, .slice A3 l3 c3, .bool n4, .slice A4 l4 c4]))), (6, .vl (.bool false)), (7, .bx (BQ 38) (KQ (ofq x y).num (((ofq x y).den : Int) - 1))), (8, .bx (BQ 43) (KR3 (ofq x y).num ((ofq x y).den : Int))), (9, .bx (BQ 38) (KQ (ofq z u).num (((ofq z u).den : Int) - 1))), (10, .bx (BQ 43) (KR3 (ofq z u).num ((ofq z u).den : Int)))]) (fun E => pwOk (ofq x y) E ∧ -9223372036854775808 ≤ E ∧ E ≤ 9223372036854775807) ?_ ?_
  ·refine SC.seq ?_
   by_cases hg : 20 < n
   ·by_cases hb1 : 2 ≤ (ofq x y).num.natAbs
    ·refine SC.region ?_
     refine PW.move rfl rfl rfl rfl rfl ?_
     refine PW.q2 (x := .tmp 39) (y := .const (.int .i64 20)) (.bool true) rfl rfl rfl rfl rfl (fun ρ W h1 h2 => by exact r_gt h1 h2 (decide_eq_true hg)) ?_
     refine PW.move rfl rfl rfl rfl rfl ?_
     refine PW.skip rfl rfl rfl ?_
     refine PW.skip rfl rfl rfl ?_
     refine PW.pick (t := true) rfl rfl rfl rfl rfl rfl ?_
     refine PW.move rfl rfl rfl rfl rfl ?_
     refine PW.fld (r := .kw (KJ ((ofq x y).num))) rfl rfl rfl rfl rfl rfl rfl rfl rfl rfl rfl fldR0 (KJ.st _) ?_
     refine PW.call (r := .kw (KJ ((((ofq x y).num).natAbs : Int)))) rfl rfl rfl rfl rfl rfl (KJ.st _) rfl (k_jabs) ?_
     refine PW.call (r := .vl (.int .i64 (wid (pat ((((ofq x y).num).natAbs : Int))) : Int))) rfl rfl rfl rfl rfl rfl (KV.st _) rfl (k_jlen (((bq.of X Y).1).abs) (by omega)) ?_
     refine PW.q2 (x := .tmp 49) (y := .const (.int .i64 1)) (.bool true) rfl rfl rfl rfl rfl (fun ρ W h1 h2 => by exact r_gt h1 h2 (decide_eq_true (len_abs.2 hb1))) ?_
     refine PW.move rfl rfl rfl rfl rfl ?_
     refine PW.skip rfl rfl rfl ?_
     refine PW.skip rfl rfl rfl ?_
     refine PW.skip rfl rfl rfl ?_
     refine PW.skip rfl rfl rfl ?_
     refine PW.pick (t := true) rfl rfl rfl rfl rfl rfl ?_
     refine PW.pick (t := true) rfl rfl rfl rfl rfl rfl ?_
     refine PW.nil (SX.then (SC.cond (t := true) rfl (SC.region (PW.move rfl rfl rfl rfl rfl ?_))))
     refine PW.q2 (x := .tmp 58) (y := .const (.int .i64 20)) (.int .i64 (n.tmod 20)) rfl rfl rfl rfl rfl (fun ρ W h1 h2 => by exact r_tmod h1 h2 (by decide) (by have := Int.tmod_lt_of_pos n (show (0 : Int) < 20 by decide); have := Int.lt_tmod_of_pos n (show (0 : Int) < 20 by decide); omega)) ?_
     refine PW.assign rfl rfl rfl rfl rfl (PW.nil ?_)
     exact SX.mid (n.tmod 20) ⟨.inl (by have := Int.tmod_lt_of_pos n (show (0 : Int) < 20 by decide); have := Int.lt_tmod_of_pos n (show (0 : Int) < 20 by decide); omega), by have := Int.tmod_lt_of_pos n (show (0 : Int) < 20 by decide); have := Int.lt_tmod_of_pos n (show (0 : Int) < 20 by decide); omega⟩ ⟨rfl, rfl, rfl, rfl, rfl, rfl, rfl, rfl, trivial⟩
    ·by_cases hb2 : 2 ≤ (ofq x y).den
     ·refine SC.region ?_
      refine PW.move rfl rfl rfl rfl rfl ?_
      refine PW.q2 (x := .tmp 39) (y := .const (.int .i64 20)) (.bool true) rfl rfl rfl rfl rfl (fun ρ W h1 h2 => by exact r_gt h1 h2 (decide_eq_true hg)) ?_
      refine PW.move rfl rfl rfl rfl rfl ?_
      refine PW.skip rfl rfl rfl ?_
      refine PW.skip rfl rfl rfl ?_
      refine PW.pick (t := true) rfl rfl rfl rfl rfl rfl ?_
      refine PW.move rfl rfl rfl rfl rfl ?_
      refine PW.fld (r := .kw (KJ ((ofq x y).num))) rfl rfl rfl rfl rfl rfl rfl rfl rfl rfl rfl fldR0 (KJ.st _) ?_
      refine PW.call (r := .kw (KJ ((((ofq x y).num).natAbs : Int)))) rfl rfl rfl rfl rfl rfl (KJ.st _) rfl (k_jabs) ?_
      refine PW.call (r := .vl (.int .i64 (wid (pat ((((ofq x y).num).natAbs : Int))) : Int))) rfl rfl rfl rfl rfl rfl (KV.st _) rfl (k_jlen (((bq.of X Y).1).abs) (by omega)) ?_
      refine PW.q2 (x := .tmp 49) (y := .const (.int .i64 1)) (.bool false) rfl rfl rfl rfl rfl (fun ρ W h1 h2 => by exact r_gt h1 h2 (decide_eq_false (fun k => hb1 (len_abs.1 k)))) ?_
      refine PW.move rfl rfl rfl rfl rfl ?_
      refine PW.fld (r := .kw (KJ (((ofq x y).den : Int)))) rfl rfl rfl rfl rfl rfl rfl rfl rfl rfl rfl fldR1 (KJ.st _) ?_
      refine PW.call (r := .vl (.int .i64 (wid (pat (((ofq x y).den : Int))) : Int))) rfl rfl rfl rfl rfl rfl (KV.st _) rfl (k_jlen ((bq.of X Y).2) (by omega)) ?_
      refine PW.q2 (x := .tmp 54) (y := .const (.int .i64 1)) (.bool true) rfl rfl rfl rfl rfl (fun ρ W h1 h2 => by exact r_gt h1 h2 (decide_eq_true (len_den.2 hb2))) ?_
      refine PW.pick (t := false) rfl rfl rfl rfl rfl rfl ?_
      refine PW.pick (t := true) rfl rfl rfl rfl rfl rfl ?_
      refine PW.nil (SX.then (SC.cond (t := true) rfl (SC.region (PW.move rfl rfl rfl rfl rfl ?_))))
      refine PW.q2 (x := .tmp 58) (y := .const (.int .i64 20)) (.int .i64 (n.tmod 20)) rfl rfl rfl rfl rfl (fun ρ W h1 h2 => by exact r_tmod h1 h2 (by decide) (by have := Int.tmod_lt_of_pos n (show (0 : Int) < 20 by decide); have := Int.lt_tmod_of_pos n (show (0 : Int) < 20 by decide); omega)) ?_
      refine PW.assign rfl rfl rfl rfl rfl (PW.nil ?_)
      exact SX.mid (n.tmod 20) ⟨.inl (by have := Int.tmod_lt_of_pos n (show (0 : Int) < 20 by decide); have := Int.lt_tmod_of_pos n (show (0 : Int) < 20 by decide); omega), by have := Int.tmod_lt_of_pos n (show (0 : Int) < 20 by decide); have := Int.lt_tmod_of_pos n (show (0 : Int) < 20 by decide); omega⟩ ⟨rfl, rfl, rfl, rfl, rfl, rfl, rfl, rfl, trivial⟩
     ·refine SC.region ?_
      refine PW.move rfl rfl rfl rfl rfl ?_
      refine PW.q2 (x := .tmp 39) (y := .const (.int .i64 20)) (.bool true) rfl rfl rfl rfl rfl (fun ρ W h1 h2 => by exact r_gt h1 h2 (decide_eq_true hg)) ?_
      refine PW.move rfl rfl rfl rfl rfl ?_
      refine PW.skip rfl rfl rfl ?_
      refine PW.skip rfl rfl rfl ?_
      refine PW.pick (t := true) rfl rfl rfl rfl rfl rfl ?_
      refine PW.move rfl rfl rfl rfl rfl ?_
      refine PW.fld (r := .kw (KJ ((ofq x y).num))) rfl rfl rfl rfl rfl rfl rfl rfl rfl rfl rfl fldR0 (KJ.st _) ?_
      refine PW.call (r := .kw (KJ ((((ofq x y).num).natAbs : Int)))) rfl rfl rfl rfl rfl rfl (KJ.st _) rfl (k_jabs) ?_
      refine PW.call (r := .vl (.int .i64 (wid (pat ((((ofq x y).num).natAbs : Int))) : Int))) rfl rfl rfl rfl rfl rfl (KV.st _) rfl (k_jlen (((bq.of X Y).1).abs) (by omega)) ?_
      refine PW.q2 (x := .tmp 49) (y := .const (.int .i64 1)) (.bool false) rfl rfl rfl rfl rfl (fun ρ W h1 h2 => by exact r_gt h1 h2 (decide_eq_false (fun k => hb1 (len_abs.1 k)))) ?_
      refine PW.move rfl rfl rfl rfl rfl ?_
      refine PW.fld (r := .kw (KJ (((ofq x y).den : Int)))) rfl rfl rfl rfl rfl rfl rfl rfl rfl rfl rfl fldR1 (KJ.st _) ?_
      refine PW.call (r := .vl (.int .i64 (wid (pat (((ofq x y).den : Int))) : Int))) rfl rfl rfl rfl rfl rfl (KV.st _) rfl (k_jlen ((bq.of X Y).2) (by omega)) ?_
      refine PW.q2 (x := .tmp 54) (y := .const (.int .i64 1)) (.bool false) rfl rfl rfl rfl rfl (fun ρ W h1 h2 => by exact r_gt h1 h2 (decide_eq_false (fun k => hb2 (len_den.1 k)))) ?_
      refine PW.pick (t := false) rfl rfl rfl rfl rfl rfl ?_
      refine PW.pick (t := true) rfl rfl rfl rfl rfl rfl ?_
      refine PW.nil (SX.then (SC.cond (t := false) rfl (SC.skip ?_)))
      exact SX.mid n ⟨.inr ⟨by omega, by have := den_pos (ofq x y); omega⟩, by omega⟩ ⟨rfl, rfl, rfl, rfl, rfl, rfl, rfl, rfl, trivial⟩
   ·by_cases hl : n < -20
    ·by_cases hb1 : 2 ≤ (ofq x y).num.natAbs
     ·refine SC.region ?_
      refine PW.move rfl rfl rfl rfl rfl ?_
      refine PW.q2 (x := .tmp 39) (y := .const (.int .i64 20)) (.bool false) rfl rfl rfl rfl rfl (fun ρ W h1 h2 => by exact r_gt h1 h2 (decide_eq_false hg)) ?_
      refine PW.move rfl rfl rfl rfl rfl (PW.move rfl rfl rfl rfl rfl ?_)
      refine PW.q2 (x := .tmp 42) (y := .const (.int .i64 (-20))) (.bool true) rfl rfl rfl rfl rfl (fun ρ W h1 h2 => by exact r_lt h1 h2 (decide_eq_true hl)) ?_
      refine PW.pick (t := false) rfl rfl rfl rfl rfl rfl ?_
      refine PW.move rfl rfl rfl rfl rfl ?_
      refine PW.fld (r := .kw (KJ ((ofq x y).num))) rfl rfl rfl rfl rfl rfl rfl rfl rfl rfl rfl fldR0 (KJ.st _) ?_
      refine PW.call (r := .kw (KJ ((((ofq x y).num).natAbs : Int)))) rfl rfl rfl rfl rfl rfl (KJ.st _) rfl (k_jabs) ?_
      refine PW.call (r := .vl (.int .i64 (wid (pat ((((ofq x y).num).natAbs : Int))) : Int))) rfl rfl rfl rfl rfl rfl (KV.st _) rfl (k_jlen (((bq.of X Y).1).abs) (by omega)) ?_
      refine PW.q2 (x := .tmp 49) (y := .const (.int .i64 1)) (.bool true) rfl rfl rfl rfl rfl (fun ρ W h1 h2 => by exact r_gt h1 h2 (decide_eq_true (len_abs.2 hb1))) ?_
      refine PW.move rfl rfl rfl rfl rfl ?_
      refine PW.skip rfl rfl rfl ?_
      refine PW.skip rfl rfl rfl ?_
      refine PW.skip rfl rfl rfl ?_
      refine PW.skip rfl rfl rfl ?_
      refine PW.pick (t := true) rfl rfl rfl rfl rfl rfl ?_
      refine PW.pick (t := true) rfl rfl rfl rfl rfl rfl ?_
      refine PW.nil (SX.then (SC.cond (t := true) rfl (SC.region (PW.move rfl rfl rfl rfl rfl ?_))))
      refine PW.q2 (x := .tmp 58) (y := .const (.int .i64 20)) (.int .i64 (n.tmod 20)) rfl rfl rfl rfl rfl (fun ρ W h1 h2 => by exact r_tmod h1 h2 (by decide) (by have := Int.tmod_lt_of_pos n (show (0 : Int) < 20 by decide); have := Int.lt_tmod_of_pos n (show (0 : Int) < 20 by decide); omega)) ?_
      refine PW.assign rfl rfl rfl rfl rfl (PW.nil ?_)
      exact SX.mid (n.tmod 20) ⟨.inl (by have := Int.tmod_lt_of_pos n (show (0 : Int) < 20 by decide); have := Int.lt_tmod_of_pos n (show (0 : Int) < 20 by decide); omega), by have := Int.tmod_lt_of_pos n (show (0 : Int) < 20 by decide); have := Int.lt_tmod_of_pos n (show (0 : Int) < 20 by decide); omega⟩ ⟨rfl, rfl, rfl, rfl, rfl, rfl, rfl, rfl, trivial⟩
     ·by_cases hb2 : 2 ≤ (ofq x y).den
      ·refine SC.region ?_
       refine PW.move rfl rfl rfl rfl rfl ?_
       refine PW.q2 (x := .tmp 39) (y := .const (.int .i64 20)) (.bool false) rfl rfl rfl rfl rfl (fun ρ W h1 h2 => by exact r_gt h1 h2 (decide_eq_false hg)) ?_
       refine PW.move rfl rfl rfl rfl rfl (PW.move rfl rfl rfl rfl rfl ?_)
       refine PW.q2 (x := .tmp 42) (y := .const (.int .i64 (-20))) (.bool true) rfl rfl rfl rfl rfl (fun ρ W h1 h2 => by exact r_lt h1 h2 (decide_eq_true hl)) ?_
       refine PW.pick (t := false) rfl rfl rfl rfl rfl rfl ?_
       refine PW.move rfl rfl rfl rfl rfl ?_
       refine PW.fld (r := .kw (KJ ((ofq x y).num))) rfl rfl rfl rfl rfl rfl rfl rfl rfl rfl rfl fldR0 (KJ.st _) ?_
       refine PW.call (r := .kw (KJ ((((ofq x y).num).natAbs : Int)))) rfl rfl rfl rfl rfl rfl (KJ.st _) rfl (k_jabs) ?_
       refine PW.call (r := .vl (.int .i64 (wid (pat ((((ofq x y).num).natAbs : Int))) : Int))) rfl rfl rfl rfl rfl rfl (KV.st _) rfl (k_jlen (((bq.of X Y).1).abs) (by omega)) ?_
       refine PW.q2 (x := .tmp 49) (y := .const (.int .i64 1)) (.bool false) rfl rfl rfl rfl rfl (fun ρ W h1 h2 => by exact r_gt h1 h2 (decide_eq_false (fun k => hb1 (len_abs.1 k)))) ?_
       refine PW.move rfl rfl rfl rfl rfl ?_
       refine PW.fld (r := .kw (KJ (((ofq x y).den : Int)))) rfl rfl rfl rfl rfl rfl rfl rfl rfl rfl rfl fldR1 (KJ.st _) ?_
       refine PW.call (r := .vl (.int .i64 (wid (pat (((ofq x y).den : Int))) : Int))) rfl rfl rfl rfl rfl rfl (KV.st _) rfl (k_jlen ((bq.of X Y).2) (by omega)) ?_
       refine PW.q2 (x := .tmp 54) (y := .const (.int .i64 1)) (.bool true) rfl rfl rfl rfl rfl (fun ρ W h1 h2 => by exact r_gt h1 h2 (decide_eq_true (len_den.2 hb2))) ?_
       refine PW.pick (t := false) rfl rfl rfl rfl rfl rfl ?_
       refine PW.pick (t := true) rfl rfl rfl rfl rfl rfl ?_
       refine PW.nil (SX.then (SC.cond (t := true) rfl (SC.region (PW.move rfl rfl rfl rfl rfl ?_))))
       refine PW.q2 (x := .tmp 58) (y := .const (.int .i64 20)) (.int .i64 (n.tmod 20)) rfl rfl rfl rfl rfl (fun ρ W h1 h2 => by exact r_tmod h1 h2 (by decide) (by have := Int.tmod_lt_of_pos n (show (0 : Int) < 20 by decide); have := Int.lt_tmod_of_pos n (show (0 : Int) < 20 by decide); omega)) ?_
       refine PW.assign rfl rfl rfl rfl rfl (PW.nil ?_)
       exact SX.mid (n.tmod 20) ⟨.inl (by have := Int.tmod_lt_of_pos n (show (0 : Int) < 20 by decide); have := Int.lt_tmod_of_pos n (show (0 : Int) < 20 by decide); omega), by have := Int.tmod_lt_of_pos n (show (0 : Int) < 20 by decide); have := Int.lt_tmod_of_pos n (show (0 : Int) < 20 by decide); omega⟩ ⟨rfl, rfl, rfl, rfl, rfl, rfl, rfl, rfl, trivial⟩
      ·refine SC.region ?_
       refine PW.move rfl rfl rfl rfl rfl ?_
       refine PW.q2 (x := .tmp 39) (y := .const (.int .i64 20)) (.bool false) rfl rfl rfl rfl rfl (fun ρ W h1 h2 => by exact r_gt h1 h2 (decide_eq_false hg)) ?_
       refine PW.move rfl rfl rfl rfl rfl (PW.move rfl rfl rfl rfl rfl ?_)
       refine PW.q2 (x := .tmp 42) (y := .const (.int .i64 (-20))) (.bool true) rfl rfl rfl rfl rfl (fun ρ W h1 h2 => by exact r_lt h1 h2 (decide_eq_true hl)) ?_
       refine PW.pick (t := false) rfl rfl rfl rfl rfl rfl ?_
       refine PW.move rfl rfl rfl rfl rfl ?_
       refine PW.fld (r := .kw (KJ ((ofq x y).num))) rfl rfl rfl rfl rfl rfl rfl rfl rfl rfl rfl fldR0 (KJ.st _) ?_
       refine PW.call (r := .kw (KJ ((((ofq x y).num).natAbs : Int)))) rfl rfl rfl rfl rfl rfl (KJ.st _) rfl (k_jabs) ?_
       refine PW.call (r := .vl (.int .i64 (wid (pat ((((ofq x y).num).natAbs : Int))) : Int))) rfl rfl rfl rfl rfl rfl (KV.st _) rfl (k_jlen (((bq.of X Y).1).abs) (by omega)) ?_
       refine PW.q2 (x := .tmp 49) (y := .const (.int .i64 1)) (.bool false) rfl rfl rfl rfl rfl (fun ρ W h1 h2 => by exact r_gt h1 h2 (decide_eq_false (fun k => hb1 (len_abs.1 k)))) ?_
       refine PW.move rfl rfl rfl rfl rfl ?_
       refine PW.fld (r := .kw (KJ (((ofq x y).den : Int)))) rfl rfl rfl rfl rfl rfl rfl rfl rfl rfl rfl fldR1 (KJ.st _) ?_
       refine PW.call (r := .vl (.int .i64 (wid (pat (((ofq x y).den : Int))) : Int))) rfl rfl rfl rfl rfl rfl (KV.st _) rfl (k_jlen ((bq.of X Y).2) (by omega)) ?_
       refine PW.q2 (x := .tmp 54) (y := .const (.int .i64 1)) (.bool false) rfl rfl rfl rfl rfl (fun ρ W h1 h2 => by exact r_gt h1 h2 (decide_eq_false (fun k => hb2 (len_den.1 k)))) ?_
       refine PW.pick (t := false) rfl rfl rfl rfl rfl rfl ?_
       refine PW.pick (t := true) rfl rfl rfl rfl rfl rfl ?_
       refine PW.nil (SX.then (SC.cond (t := false) rfl (SC.skip ?_)))
       exact SX.mid n ⟨.inr ⟨by omega, by have := den_pos (ofq x y); omega⟩, by omega⟩ ⟨rfl, rfl, rfl, rfl, rfl, rfl, rfl, rfl, trivial⟩
    ·refine SC.region ?_
     refine PW.move rfl rfl rfl rfl rfl ?_
     refine PW.q2 (x := .tmp 39) (y := .const (.int .i64 20)) (.bool false) rfl rfl rfl rfl rfl (fun ρ W h1 h2 => by exact r_gt h1 h2 (decide_eq_false hg)) ?_
     refine PW.move rfl rfl rfl rfl rfl (PW.move rfl rfl rfl rfl rfl ?_)
     refine PW.q2 (x := .tmp 42) (y := .const (.int .i64 (-20))) (.bool false) rfl rfl rfl rfl rfl (fun ρ W h1 h2 => by exact r_lt h1 h2 (decide_eq_false hl)) ?_
     refine PW.pick (t := false) rfl rfl rfl rfl rfl rfl ?_
     refine PW.move rfl rfl rfl rfl rfl ?_
     refine PW.skip rfl rfl rfl ?_
     refine PW.skip rfl rfl rfl ?_
     refine PW.skip rfl rfl rfl ?_
     refine PW.skip rfl rfl rfl ?_
     refine PW.skip rfl rfl rfl ?_
     refine PW.skip rfl rfl rfl ?_
     refine PW.skip rfl rfl rfl ?_
     refine PW.skip rfl rfl rfl ?_
     refine PW.skip rfl rfl rfl ?_
     refine PW.skip rfl rfl rfl ?_
     refine PW.skip rfl rfl rfl ?_
     refine PW.pick (t := false) rfl rfl rfl rfl rfl rfl ?_
     refine PW.nil (SX.then (SC.cond (t := false) rfl (SC.skip ?_)))
     exact SX.mid n ⟨.inl (by omega), by omega⟩ ⟨rfl, rfl, rfl, rfl, rfl, rfl, rfl, rfl, trivial⟩
  ·rintro E ⟨hE, hE1, hE2⟩
   obtain ⟨rz, re, RZ, rt1, rt2⟩ := root_both (bq.of Z U) (by decide)
   show SC _ _ _ _ [(2, .vl (.int .i64 (E))), (3, .bx (BQ 26) (KV (.agg #[.bool n1, .slice A1 l1 c1, .bool n2, .slice A2 l2 c2]))), (4, .bx (BQ 26) (KV (.agg #[.bool n3, .slice A3 l3 c3, .bool n4, .slice A4 l4 c4]))), (6, .vl (.bool false)), (7, .bx (BQ 38) (KQ (ofq x y).num (((ofq x y).den : Int) - 1))), (8, .bx (BQ 43) (KR3 (ofq x y).num ((ofq x y).den : Int))), (9, .bx (BQ 38) (KQ (ofq z u).num (((ofq z u).den : Int) - 1))), (10, .bx (BQ 43) (KR3 (ofq z u).num ((ofq z u).den : Int)))] _
   refine SC.seq (SC.region ?_)
   refine PW.load rfl rfl rfl rfl rfl rfl ?_
   refine PW.load rfl rfl rfl rfl rfl rfl ?_
   refine PW.call (r := .kw (K2 (KQ ((ofq x y) / (ofq z u)).num ((((ofq x y) / (ofq z u)).den : Int) - 1)) (KV (.int .i64 (ezq (ofq z u)))))) rfl rfl rfl rfl rfl rfl (K2.st (KQ.st _ _) (KV.st _)) rfl (k_rdivt (bq.of X Y) (bq.of Z U) (by omega) (by omega)) ?_
   refine PW.move rfl rfl rfl rfl rfl ?_
   refine PW.ext (r := .kw (KQ ((ofq x y) / (ofq z u)).num ((((ofq x y) / (ofq z u)).den : Int) - 1))) rfl rfl rfl rfl rfl ex20 (KQ.st _ _) rfl ?_
   refine PW.ext (r := .vl (.int .i64 (ezq (ofq z u)))) rfl rfl rfl rfl rfl ex21v (KV.st _) rfl ?_
   refine PW.alloc (BQ 38) rfl rfl rfl rfl rfl bQ ?_
   refine PW.store (x := .tmp 64) (r := .kw (KQ ((ofq x y) / (ofq z u)).num ((((ofq x y) / (ofq z u)).den : Int) - 1))) rfl rfl rfl rfl rfl rfl sh_Q ?_
   refine PW.assign rfl rfl rfl rfl rfl (PW.nil (SX.then (SC.seq (SC.region ?_))))
   refine PW.load rfl rfl rfl rfl rfl rfl ?_
   refine PW.load rfl rfl rfl rfl rfl rfl ?_
   refine PW.call (r := .kw (K2 (KR3 ((ofq x y) / (ofq z u)).num (((ofq x y) / (ofq z u)).den : Int)) (KV (.int .i64 (ezq (ofq z u)))))) rfl rfl rfl rfl rfl rfl (K2.st (KR3.st _ _) (KV.st _)) rfl (k_jrdivt (bq.of X Y) (bq.of Z U) (by omega) (by omega)) ?_
   refine PW.move rfl rfl rfl rfl rfl ?_
   refine PW.ext (r := .kw (KR3 ((ofq x y) / (ofq z u)).num (((ofq x y) / (ofq z u)).den : Int))) rfl rfl rfl rfl rfl ex20 (KR3.st _ _) rfl ?_
   refine PW.ext (r := .vl (.int .i64 (ezq (ofq z u)))) rfl rfl rfl rfl rfl ex21v (KV.st _) rfl ?_
   refine PW.alloc (BQ 43) rfl rfl rfl rfl rfl bQJ ?_
   refine PW.store (x := .tmp 70) (r := .kw (KR3 ((ofq x y) / (ofq z u)).num (((ofq x y) / (ofq z u)).den : Int))) rfl rfl rfl rfl rfl rfl sh_R3 ?_
   refine PW.assign rfl rfl rfl rfl rfl (PW.nil (SX.then (SC.seq (SC.region ?_))))
   refine PW.load rfl rfl rfl rfl rfl rfl (PW.move rfl rfl rfl rfl rfl ?_)
   refine PW.call (r := .kw (K2 (KQ (ofq x y ^ E).num (((ofq x y ^ E).den : Int) - 1)) (KV (.int .i64 (epw (ofq x y) E))))) rfl rfl rfl rfl rfl rfl (K2.st (KQ.st _ _) (KV.st _)) rfl (k_rpowt (bq.of X Y) hE hE1 hE2) ?_
   refine PW.move rfl rfl rfl rfl rfl ?_
   refine PW.ext (r := .kw (KQ (ofq x y ^ E).num (((ofq x y ^ E).den : Int) - 1))) rfl rfl rfl rfl rfl ex20 (KQ.st _ _) rfl ?_
   refine PW.ext (r := .vl (.int .i64 (epw (ofq x y) E))) rfl rfl rfl rfl rfl ex21v (KV.st _) rfl ?_
   refine PW.alloc (BQ 38) rfl rfl rfl rfl rfl bQ ?_
   refine PW.store (x := .tmp 76) (r := .kw (KQ (ofq x y ^ E).num (((ofq x y ^ E).den : Int) - 1))) rfl rfl rfl rfl rfl rfl sh_Q ?_
   refine PW.assign rfl rfl rfl rfl rfl (PW.nil (SX.then (SC.seq (SC.region ?_))))
   refine PW.load rfl rfl rfl rfl rfl rfl (PW.move rfl rfl rfl rfl rfl ?_)
   refine PW.call (r := .kw (K2 (KR3 (ofq x y ^ E).num ((ofq x y ^ E).den : Int)) (KV (.int .i64 (epw (ofq x y) E))))) rfl rfl rfl rfl rfl rfl (K2.st (KR3.st _ _) (KV.st _)) rfl (k_jrpowt (bq.of X Y) hE hE1 hE2) ?_
   refine PW.move rfl rfl rfl rfl rfl ?_
   refine PW.ext (r := .kw (KR3 (ofq x y ^ E).num ((ofq x y ^ E).den : Int))) rfl rfl rfl rfl rfl ex20 (KR3.st _ _) rfl ?_
   refine PW.ext (r := .vl (.int .i64 (epw (ofq x y) E))) rfl rfl rfl rfl rfl ex21v (KV.st _) rfl ?_
   refine PW.alloc (BQ 43) rfl rfl rfl rfl rfl bQJ ?_
   refine PW.store (x := .tmp 82) (r := .kw (KR3 (ofq x y ^ E).num ((ofq x y ^ E).den : Int))) rfl rfl rfl rfl rfl rfl sh_R3 ?_
   refine PW.assign rfl rfl rfl rfl rfl (PW.nil (SX.then (SC.seq (SC.region ?_))))
   refine PW.load rfl rfl rfl rfl rfl rfl ?_
   refine PW.call (r := .kw (K2 (KQ (rz).num (((rz).den : Int) - 1)) (KV (.int .i64 re)))) rfl rfl rfl rfl rfl rfl (K2.st (KQ.st _ _) (KV.st _)) rfl (rt1) ?_
   refine PW.move rfl rfl rfl rfl rfl ?_
   refine PW.ext (r := .kw (KQ (rz).num (((rz).den : Int) - 1))) rfl rfl rfl rfl rfl ex20 (KQ.st _ _) rfl ?_
   refine PW.ext (r := .vl (.int .i64 re)) rfl rfl rfl rfl rfl ex21v (KV.st _) rfl ?_
   refine PW.alloc (BQ 38) rfl rfl rfl rfl rfl bQ ?_
   refine PW.store (x := .tmp 87) (r := .kw (KQ (rz).num (((rz).den : Int) - 1))) rfl rfl rfl rfl rfl rfl sh_Q ?_
   refine PW.assign rfl rfl rfl rfl rfl (PW.nil (SX.then (SC.seq (SC.region ?_))))
   refine PW.load rfl rfl rfl rfl rfl rfl ?_
   refine PW.call (r := .kw (K2 (KR3 (rz).num ((rz).den : Int)) (KV (.int .i64 re)))) rfl rfl rfl rfl rfl rfl (K2.st (KR3.st _ _) (KV.st _)) rfl (rt2) ?_
   refine PW.move rfl rfl rfl rfl rfl ?_
   refine PW.ext (r := .kw (KR3 (rz).num ((rz).den : Int))) rfl rfl rfl rfl rfl ex20 (KR3.st _ _) rfl ?_
   refine PW.ext (r := .vl (.int .i64 re)) rfl rfl rfl rfl rfl ex21v (KV.st _) rfl ?_
   refine PW.alloc (BQ 43) rfl rfl rfl rfl rfl bQJ ?_
   refine PW.store (x := .tmp 92) (r := .kw (KR3 (rz).num ((rz).den : Int))) rfl rfl rfl rfl rfl rfl sh_R3 ?_
   refine PW.assign rfl rfl rfl rfl rfl (PW.nil (SX.then (SC.seq ?_)))
   refine SC.dx [.val 94 (.kw (KQ (ofq x y).num (((ofq x y).den : Int) - 1))), .val 95 (.kw (KQ (-(ofq x y)).num (((-(ofq x y)).den : Int) - 1))), .val 96 (.kw (KR3 (ofq x y).num ((ofq x y).den : Int))), .val 97 (.kw (KR3 (-(ofq x y)).num ((-(ofq x y)).den : Int))), .val 98 (.vl (.bool true)), .val 99 (.vl (.bool true)), .val 100 (.kw (KQ (ofq x y).num (((ofq x y).den : Int) - 1))), .val 101 (.kw (KQ (absq (ofq x y)).num (((absq (ofq x y)).den : Int) - 1))), .val 102 (.kw (KR3 (ofq x y).num ((ofq x y).den : Int))), .val 103 (.kw (KR3 (absq (ofq x y)).num ((absq (ofq x y)).den : Int))), .val 104 (.vl (.bool true)), .val 105 (.vl (.bool true)), .val 106 (.vl (.bool true)), .val 107 (.kw (KQ (ofq x y).num (((ofq x y).den : Int) - 1))), .val 108 (.kw (KQ (ofq z u).num (((ofq z u).den : Int) - 1))), .val 109 (.kw (KQ ((ofq x y) + (ofq z u)).num ((((ofq x y) + (ofq z u)).den : Int) - 1))), .val 110 (.kw (KR3 (ofq x y).num ((ofq x y).den : Int))), .val 111 (.kw (KR3 (ofq z u).num ((ofq z u).den : Int))), .val 112 (.kw (KR3 ((ofq x y) + (ofq z u)).num (((ofq x y) + (ofq z u)).den : Int))), .val 113 (.vl (.bool true)), .val 114 (.vl (.bool true)), .val 115 (.vl (.bool true)), .val 116 (.kw (KQ (ofq x y).num (((ofq x y).den : Int) - 1))), .val 117 (.kw (KQ (ofq z u).num (((ofq z u).den : Int) - 1))), .val 118 (.kw (KQ ((ofq x y) - (ofq z u)).num ((((ofq x y) - (ofq z u)).den : Int) - 1))), .val 119 (.kw (KR3 (ofq x y).num ((ofq x y).den : Int))), .val 120 (.kw (KR3 (ofq z u).num ((ofq z u).den : Int))), .val 121 (.kw (KR3 ((ofq x y) - (ofq z u)).num (((ofq x y) - (ofq z u)).den : Int))), .val 122 (.vl (.bool true)), .val 123 (.vl (.bool true)), .val 124 (.vl (.bool true)), .val 125 (.kw (KQ (ofq x y).num (((ofq x y).den : Int) - 1))), .val 126 (.kw (KQ (ofq z u).num (((ofq z u).den : Int) - 1))), .val 127 (.kw (KQ ((ofq x y) * (ofq z u)).num ((((ofq x y) * (ofq z u)).den : Int) - 1))), .val 128 (.kw (KR3 (ofq x y).num ((ofq x y).den : Int))), .val 129 (.kw (KR3 (ofq z u).num ((ofq z u).den : Int))), .val 130 (.kw (KR3 ((ofq x y) * (ofq z u)).num (((ofq x y) * (ofq z u)).den : Int))), .val 131 (.vl (.bool true)), .val 132 (.vl (.bool true)), .val 133 (.vl (.bool true)), .val 134 (.vl (.int .i64 (ezq (ofq z u)))), .val 135 (.vl (.int .i64 (ezq (ofq z u)))), .val 136 (.vl (.bool true)), .val 137 (.vl (.bool true)), .val 138 (.vl (.bool true)), .val 139 (.kw (KQ ((ofq x y) / (ofq z u)).num ((((ofq x y) / (ofq z u)).den : Int) - 1))), .val 140 (.kw (KR3 ((ofq x y) / (ofq z u)).num (((ofq x y) / (ofq z u)).den : Int))), .val 141 (.vl (.bool true)), .val 142 (.vl (.bool true)), .val 143 (.vl (.bool true)), .val 144 (.vl (.int .i64 (epw (ofq x y) E))), .val 145 (.vl (.int .i64 (epw (ofq x y) E))), .val 146 (.vl (.bool true)), .val 147 (.vl (.bool true)), .val 148 (.vl (.bool true)), .val 149 (.kw (KQ (ofq x y ^ E).num (((ofq x y ^ E).den : Int) - 1))), .val 150 (.kw (KR3 (ofq x y ^ E).num ((ofq x y ^ E).den : Int))), .val 151 (.vl (.bool true)), .val 152 (.vl (.bool true)), .val 153 (.vl (.bool true)), .val 154 (.vl (.int .i64 re)), .val 155 (.vl (.int .i64 re)), .val 156 (.vl (.bool true)), .val 157 (.vl (.bool true)), .val 158 (.vl (.bool true)), .val 159 (.kw (KQ (rz).num (((rz).den : Int) - 1))), .val 160 (.kw (KR3 (rz).num ((rz).den : Int))), .val 161 (.vl (.bool true)), .val 162 (.vl (.bool true)), .val 163 (.vl (.bool true)), .val 164 (.vl (.bool true)), .val 165 (.vl (.bool true)), .val 6 (.vl (.bool true))] [([], [7]), ([0], []), ([], [8]), ([2], []), ([1, 3], []), ([4], []), ([5], [7]), ([6, 5], []), ([5], [8]), ([8, 5], []), ([7, 9, 5], []), ([5, 10], []), ([11], []), ([12], [7]), ([12], [9]), ([13, 14, 12], []), ([12], [8]), ([12], [10]), ([16, 17, 12], []), ([15, 18, 12], []), ([12, 19], []), ([20], []), ([21], [7]), ([21], [9]), ([22, 23, 21], []), ([21], [8]), ([21], [10]), ([25, 26, 21], []), ([24, 27, 21], []), ([21, 28], []), ([29], []), ([30], [7]), ([30], [9]), ([31, 32, 30], []), ([30], [8]), ([30], [10]), ([34, 35, 30], []), ([33, 36, 30], []), ([30, 37], []), ([38], []), ([39], [12]), ([39], [14]), ([40, 41, 39], []), ([39, 42], []), ([43], []), ([44], [11]), ([44], [13]), ([45, 46, 44], []), ([44, 47], []), ([48], []), ([49], [16]), ([49], [18]), ([50, 51, 49], []), ([49, 52], []), ([53], []), ([54], [15]), ([54], [17]), ([55, 56, 54], []), ([54, 57], []), ([58], []), ([59], [20]), ([59], [22]), ([60, 61, 59], []), ([59, 62], []), ([63], []), ([64], [19]), ([64], [21]), ([65, 66, 64], []), ([64, 67], []), ([68], []), ([69], []), ([69, 70], []), ([71], [])] rfl (by kernel_rfl) (by kernel_rfl) (by kernel_rfl) rfl ⟨?_, ?_, ?_, ?_, ?_, ?_, ?_, ?_, ?_, ?_, ?_, ?_, ?_, ?_, ?_, ?_, ?_, ?_, ?_, ?_, ?_, ?_, ?_, ?_, ?_, ?_, ?_, ?_, ?_, ?_, ?_, ?_, ?_, ?_, ?_, ?_, ?_, ?_, ?_, ?_, ?_, ?_, ?_, ?_, ?_, ?_, ?_, ?_, ?_, ?_, ?_, ?_, ?_, ?_, ?_, ?_, ?_, ?_, ?_, ?_, ?_, ?_, ?_, ?_, ?_, ?_, ?_, ?_, ?_, ?_, ?_, ?_, ?_, trivial⟩ ?_
   ·exact DX.load rfl rfl rfl rfl rfl rfl
   ·exact DX.call (r := .kw (KQ (-(ofq x y)).num (((-(ofq x y)).den : Int) - 1))) rfl rfl rfl rfl rfl rfl (KQ.st _ _) rfl (k_rneg)
   ·exact DX.load rfl rfl rfl rfl rfl rfl
   ·exact DX.call (r := .kw (KR3 (-(ofq x y)).num ((-(ofq x y)).den : Int))) rfl rfl rfl rfl rfl rfl (KR3.st _ _) rfl (k_jrneg)
   ·exact DX.call (r := .vl (.bool true)) rfl rfl rfl rfl rfl rfl (KV.st _) rfl (k_is3 ((bq.of X Y).neg) (by omega))
   ·exact DX.move rfl rfl rfl rfl rfl rfl
   ·exact DX.load rfl rfl rfl rfl rfl rfl
   ·exact DX.call (r := .kw (KQ (absq (ofq x y)).num (((absq (ofq x y)).den : Int) - 1))) rfl rfl rfl rfl rfl rfl (KQ.st _ _) rfl (k_rabs)
   ·exact DX.load rfl rfl rfl rfl rfl rfl
   ·exact DX.call (r := .kw (KR3 (absq (ofq x y)).num ((absq (ofq x y)).den : Int))) rfl rfl rfl rfl rfl rfl (KR3.st _ _) rfl (k_jrabs)
   ·exact DX.call (r := .vl (.bool true)) rfl rfl rfl rfl rfl rfl (KV.st _) rfl (k_is3 ((bq.of X Y).abs) (by omega))
   ·exact DX.pick (t := true) rfl rfl rfl rfl rfl rfl rfl
   ·exact DX.move rfl rfl rfl rfl rfl rfl
   ·exact DX.load rfl rfl rfl rfl rfl rfl
   ·exact DX.load rfl rfl rfl rfl rfl rfl
   ·exact DX.call (r := .kw (KQ ((ofq x y) + (ofq z u)).num ((((ofq x y) + (ofq z u)).den : Int) - 1))) rfl rfl rfl rfl rfl rfl (KQ.st _ _) rfl (k_radd (bq.of X Y) (bq.of Z U) (by omega) (by omega))
   ·exact DX.load rfl rfl rfl rfl rfl rfl
   ·exact DX.load rfl rfl rfl rfl rfl rfl
   ·exact DX.call (r := .kw (KR3 ((ofq x y) + (ofq z u)).num (((ofq x y) + (ofq z u)).den : Int))) rfl rfl rfl rfl rfl rfl (KR3.st _ _) rfl (k_jradd (bq.of X Y) (bq.of Z U) (by omega) (by omega))
   ·exact DX.call (r := .vl (.bool true)) rfl rfl rfl rfl rfl rfl (KV.st _) rfl (k_is3 ((bq.of X Y).add (bq.of Z U)) (by omega))
   ·exact DX.pick (t := true) rfl rfl rfl rfl rfl rfl rfl
   ·exact DX.move rfl rfl rfl rfl rfl rfl
   ·exact DX.load rfl rfl rfl rfl rfl rfl
   ·exact DX.load rfl rfl rfl rfl rfl rfl
   ·exact DX.call (r := .kw (KQ ((ofq x y) - (ofq z u)).num ((((ofq x y) - (ofq z u)).den : Int) - 1))) rfl rfl rfl rfl rfl rfl (KQ.st _ _) rfl (k_rsub (bq.of X Y) (bq.of Z U) (by omega) (by omega))
   ·exact DX.load rfl rfl rfl rfl rfl rfl
   ·exact DX.load rfl rfl rfl rfl rfl rfl
   ·exact DX.call (r := .kw (KR3 ((ofq x y) - (ofq z u)).num (((ofq x y) - (ofq z u)).den : Int))) rfl rfl rfl rfl rfl rfl (KR3.st _ _) rfl (k_jrsub (bq.of X Y) (bq.of Z U) (by omega) (by omega))
   ·exact DX.call (r := .vl (.bool true)) rfl rfl rfl rfl rfl rfl (KV.st _) rfl (k_is3 ((bq.of X Y).sub (bq.of Z U)) (by omega))
   ·exact DX.pick (t := true) rfl rfl rfl rfl rfl rfl rfl
   ·exact DX.move rfl rfl rfl rfl rfl rfl
   ·exact DX.load rfl rfl rfl rfl rfl rfl
   ·exact DX.load rfl rfl rfl rfl rfl rfl
   ·exact DX.call (r := .kw (KQ ((ofq x y) * (ofq z u)).num ((((ofq x y) * (ofq z u)).den : Int) - 1))) rfl rfl rfl rfl rfl rfl (KQ.st _ _) rfl (k_rmul (bq.of X Y) (bq.of Z U) (by omega) (by omega))
   ·exact DX.load rfl rfl rfl rfl rfl rfl
   ·exact DX.load rfl rfl rfl rfl rfl rfl
   ·exact DX.call (r := .kw (KR3 ((ofq x y) * (ofq z u)).num (((ofq x y) * (ofq z u)).den : Int))) rfl rfl rfl rfl rfl rfl (KR3.st _ _) rfl (k_jrmul (bq.of X Y) (bq.of Z U) (by omega) (by omega))
   ·exact DX.call (r := .vl (.bool true)) rfl rfl rfl rfl rfl rfl (KV.st _) rfl (k_is3 ((bq.of X Y).mul (bq.of Z U)) (by omega))
   ·exact DX.pick (t := true) rfl rfl rfl rfl rfl rfl rfl
   ·exact DX.move rfl rfl rfl rfl rfl rfl
   ·exact DX.move rfl rfl rfl rfl rfl rfl
   ·exact DX.move rfl rfl rfl rfl rfl rfl
   ·exact DX.q2 (x := .tmp 134) (y := .tmp 135) (.bool true) rfl rfl rfl rfl rfl (fun ρ W h1 h2 => by go_simp)
   ·exact DX.pick (t := true) rfl rfl rfl rfl rfl rfl rfl
   ·exact DX.move rfl rfl rfl rfl rfl rfl
   ·exact DX.load rfl rfl rfl rfl rfl rfl
   ·exact DX.load rfl rfl rfl rfl rfl rfl
   ·exact DX.call (r := .vl (.bool true)) rfl rfl rfl rfl rfl rfl (KV.st _) rfl (k_is3 ((bq.divt (bq.of X Y) (bq.of Z U))) (by omega))
   ·exact DX.pick (t := true) rfl rfl rfl rfl rfl rfl rfl
   ·exact DX.move rfl rfl rfl rfl rfl rfl
   ·exact DX.move rfl rfl rfl rfl rfl rfl
   ·exact DX.move rfl rfl rfl rfl rfl rfl
   ·exact DX.q2 (x := .tmp 144) (y := .tmp 145) (.bool true) rfl rfl rfl rfl rfl (fun ρ W h1 h2 => by go_simp)
   ·exact DX.pick (t := true) rfl rfl rfl rfl rfl rfl rfl
   ·exact DX.move rfl rfl rfl rfl rfl rfl
   ·exact DX.load rfl rfl rfl rfl rfl rfl
   ·exact DX.load rfl rfl rfl rfl rfl rfl
   ·exact DX.call (r := .vl (.bool true)) rfl rfl rfl rfl rfl rfl (KV.st _) rfl (k_is3 ((bq.pwt (bq.of X Y) hE)) (by omega))
   ·exact DX.pick (t := true) rfl rfl rfl rfl rfl rfl rfl
   ·exact DX.move rfl rfl rfl rfl rfl rfl
   ·exact DX.move rfl rfl rfl rfl rfl rfl
   ·exact DX.move rfl rfl rfl rfl rfl rfl
   ·exact DX.q2 (x := .tmp 154) (y := .tmp 155) (.bool true) rfl rfl rfl rfl rfl (fun ρ W h1 h2 => by go_simp)
   ·exact DX.pick (t := true) rfl rfl rfl rfl rfl rfl rfl
   ·exact DX.move rfl rfl rfl rfl rfl rfl
   ·exact DX.load rfl rfl rfl rfl rfl rfl
   ·exact DX.load rfl rfl rfl rfl rfl rfl
   ·exact DX.call (r := .vl (.bool true)) rfl rfl rfl rfl rfl rfl (KV.st _) rfl (k_is3 RZ (by omega))
   ·exact DX.pick (t := true) rfl rfl rfl rfl rfl rfl rfl
   ·exact DX.move rfl rfl rfl rfl rfl rfl
   ·exact DX.call (r := .vl (.bool true)) rfl rfl rfl rfl rfl rfl (KV.st _) rfl (k_awake3)
   ·exact DX.pick (t := true) rfl rfl rfl rfl rfl rfl rfl
   ·exact DX.assign rfl rfl rfl rfl rfl rfl
   refine SX.then (SC.ret ?_)
   exact SX.done (r := .vl (.bool true)) rfl rfl rfl
 ·have hq : shQ 4 [((n1, A1, l1, c1), (n2, A2, l2, c2)), ((n3, A3, l3, c3), (n4, A4, l4, c4))] = false := by simpa using hq
  refine SC.region ?_
  refine PW.loadV rfl rfl rfl rfl rfl rfl ?_
  refine PW.loadV rfl rfl rfl rfl rfl rfl ?_
  refine PW.short3 4 [((n1, A1, l1, c1), (n2, A2, l2, c2)), ((n3, A3, l3, c3), (n4, A4, l4, c4))] _ rfl rfl rfl (fun a W hf => r_bQ2 (hf.vl (s := 23) rfl) (hf.vl (s := 24) rfl)) (fun W => qs_lit2 W) (by simp; exact ⟨⟨In.lim h1, In.lim h2⟩, ⟨In.lim h3, In.lim h4⟩⟩) rfl rfl hq rfl rfl rfl rfl rfl rfl ?_
  refine PW.q1 (x := .tmp 26) (.bool true) rfl rfl rfl rfl (fun ρ W h1 => by go_simp) ?_
  refine PW.nil (SX.then (SC.cond (t := true) rfl (SC.seq (SC.region ?_))))
  refine PW.call (r := .vl (.bool true)) rfl rfl rfl rfl rfl rfl (KV.st _) rfl (k_awake3) ?_
  refine PW.assign rfl rfl rfl rfl rfl (PW.nil (SX.then (SC.ret (SX.thenR ?_))))
  exact SX.done (r := .vl (.bool true)) rfl rfl rfl
end Go.Proofs.YthpjmhhfcechmaaGreat
/- How plain data that came in read. -/
namespace Go.Proofs.YthpjmhhfcechmaaGreat
open Go.RowKit Ma
theorem In.nil (W : World) : In W none 0 0 [] := ⟨rfl, Nat.le_refl _, Rd.nil _ _ _, dg_nil _⟩
theorem In.of {W : World} {x : Addr} {l c : Nat} {zs : List Int} (hl : l ≤ c) (hm : c ≤ maxLen) (hz : zs.length = c) (hcell : ∀ i, i < zs.length → W.cell? (x.add i) = some (.int .u32 (zs.getD i 0))) (hw : ∀ n ∈ zs, (Lit.int .u32 n).wf = true) : In W (some x) l c (zs.take l) := by
 have h1 : (zs.take l).length = l := by rw [List.length_take]; omega
 refine ⟨h1.symm, hl, ⟨by rw [h1]; unfold maxLen at hm; omega, fun i hi => ⟨x, rfl, ?_⟩⟩, fun n hn => ?_⟩
 ·rw [h1] at hi
  rw [hcell i (by omega)]
  simp only [at0, List.getD_eq_getElem?_getD, List.getElem?_take, hi, if_true]
 ·have h2 := hw n (List.mem_of_mem_take hn)
  simp only [Lit.wf, Bool.and_eq_true, decide_eq_true_eq] at h2
  have hm : IntKind.u32.max = 4294967295 := by simp [IntKind.max, IntKind.bits, IntKind.signed]
  have hn : IntKind.u32.min = 0 := by simp [IntKind.min, IntKind.signed]
  rw [hm, hn] at h2
  rw [b32_eq]
  omega
end Go.Proofs.YthpjmhhfcechmaaGreat
/- A fraction as plain data that came in, opened: two signs, two slices. -/
namespace Go.Proofs.YthpjmhhfcechmaaGreat
open Go.ChangeShapes Go.WideShapes Go.ChangeAt Go.RowKit Go.Joins
set_option maxHeartbeats 1600000 in
set_option maxRecDepth 100000 in
theorem open_Q {H : Type} {enc : TypeId × Value → H} {w : World} {base : Nat} {spare : Nat → Bool} {held : Bool} {r : Reach} {b0 : Nat} {v : Value} {d : DataW H} {p : List MemPlace} (hv : Value.okWide Tryz.prog w r b0 26 v) (h : DataW.Trod enc Tryz.prog w base spare held 26 v d p) :
  ∃ (q0 q1 q2 q3 : Value) (y0 y1 y2 y3 : DataW H × List MemPlace) (n m : Nat), v = .agg #[q0, q1, q2, q3] ∧ DataW.trod enc Tryz.prog w base spare held n 4 [q0] = some y0 ∧ DataW.trod enc Tryz.prog w base spare held n 22 [q1] = some y1 ∧ DataW.trod enc Tryz.prog w base spare held m 4 [q2] = some y2 ∧ DataW.trod enc Tryz.prog w base spare held m 22 [q3] = some y3 := by
 obtain ⟨cs, rfl, hsz⟩ := okWide_struct Tryz.underlying26 hv
 have k4 : Tryz.prog.cellsOf 26 = 4 := by kernel_rfl
 have k2 : Tryz.prog.cellsOf 24 = 2 := by kernel_rfl
 have kb : Tryz.prog.cellsOf 4 = 1 := by kernel_rfl
 have ks : Tryz.prog.cellsOf 22 = 1 := by kernel_rfl
 obtain ⟨q0, q1, q2, q3, rfl⟩ := array4 (hsz.trans k4)
 obtain ⟨fuel, hf⟩ := h
 obtain ⟨y0, y1, n, hx, _, h0, h1⟩ := trod_struct2 Tryz.underlying26 hf
 have g0 : DataW.trod enc Tryz.prog w base spare held n 24 [q0, q1] = some y0 := by simpa [Value.cells, k2] using h0
 have g1 : DataW.trod enc Tryz.prog w base spare held n 24 [q2, q3] = some y1 := by simpa [Value.cells, k2] using h1
 obtain ⟨a0, a1, i, _, _, e0, e1⟩ := trod_struct2 Tryz.underlying24 g0
 obtain ⟨b0, b1, j, _, _, f0, f1⟩ := trod_struct2 Tryz.underlying24 g1
 exact ⟨q0, q1, q2, q3, a0, a1, b0, b1, i, j, rfl, by simpa [kb] using e0, by simpa [ks] using e1, by simpa [kb] using f0, by simpa [ks] using f1⟩
end Go.Proofs.YthpjmhhfcechmaaGreat
