/- The bits of limbs, of the rounds of Boole, of a two's complement read back. No program in sight. -/
import Derived.Test.YtcgkgcciogibkaaMe
set_option linter.unusedVariables false
set_option linter.unusedSimpArgs false
namespace Go.Proofs.Ytcgkgcciogibkaa.Ma
open Go

theorem tb_of_mod {x y : Int} {i : Nat} (h : ∀ n, n ≤ i + 1 → x % 2 ^ n = y % 2 ^ n) : tb x i = tb y i := by
  have a := mod_succ x i
  have b := mod_succ y i
  rw [h (i + 1) (Nat.le_refl _), h i (by omega), b] at a
  have hp : (0 : Int) < 2 ^ i := Int.pow_pos (by decide)
  cases hx : tb x i <;> cases hy : tb y i <;> simp [hx, hy] at a <;> first | rfl | omega
theorem tb_emod (z : Int) {n i : Nat} (h : i < n) : tb (z % 2 ^ n) i = tb z i := tb_of_mod fun m hm => Int.emod_emod_of_dvd z ⟨2 ^ (n - m), by rw [← Int.pow_add]; congr 1; omega⟩
theorem tb_add_mul (x r : Int) {n i : Nat} (h : i < n) : tb (x + 2 ^ n * r) i = tb x i := by
  rw [← tb_emod _ h, Int.add_mul_emod_self_left, tb_emod _ h]
theorem tb_shift (z : Int) (a k : Nat) : tb z (a + k) = tb (z / 2 ^ a) k := by
  unfold tb
  rw [Int.pow_add, ← Int.ediv_ediv_of_nonneg (Int.le_of_lt (Int.pow_pos (by decide)))]
theorem tb_nat (n k : Nat) : tb (n : Int) k = n.testBit k := by
  unfold tb
  rw [Nat.testBit_eq_decide_div_mod_eq]
  have : ((n : Int) / 2 ^ k % 2) = ((n / 2 ^ k % 2 : Nat) : Int) := by simp
  rw [this, decide_eq_decide]
  omega
theorem lv_tb {ts : List Int} (d : dg 4294967296 ts) (j k : Nat) (hk : k < 32) : tb (lv 4294967296 ts) (32 * j + k) = tb (at0 ts j) k := by
  have eB : (2 : Int) ^ (32 * j) = 4294967296 ^ j := by rw [Int.pow_mul]; rfl
  have hp := pos_pow (show (0 : Int) < 4294967296 by decide) j
  rw [tb_shift, eB]
  by_cases hj : j < ts.length
  · have e1 := lv_split 4294967296 ts j (by omega)
    have e2 := lv_drop 4294967296 ts j hj
    have t0 := lv_nonneg (show (0 : Int) < 4294967296 by decide) (dg_take d j)
    have t1 := lv_lt (show (0 : Int) < 4294967296 by decide) (dg_take d j)
    rw [List.length_take, Nat.min_eq_left (by omega)] at t1
    rw [e1, Int.add_mul_ediv_left _ _ (by omega), Int.ediv_eq_zero_of_lt t0 t1, Int.zero_add, e2]
    exact tb_add_mul _ _ (n := 32) hk
  · have t0 := lv_nonneg (show (0 : Int) < 4294967296 by decide) d
    have t1 := lv_lt (show (0 : Int) < 4294967296 by decide) d
    have t2 := pow_le (b := 4294967296) (by decide) (show ts.length ≤ j by omega)
    rw [Int.ediv_eq_zero_of_lt t0 (by omega), at0_ge (by omega)]
end Go.Proofs.Ytcgkgcciogibkaa.Ma
