/- The bits of a whole number, in two's complement. No program in sight. -/
import Derived.Test.YtcgkgcciogibkaaMd
set_option linter.unusedVariables false
set_option linter.unusedSimpArgs false
namespace Go.Proofs.Ytcgkgcciogibkaa.Ma
open Go

def tb (z : Int) (i : Nat) : Bool := decide (z / 2 ^ i % 2 = 1)
theorem mod_succ (z : Int) (n : Nat) : z % 2 ^ (n + 1) = z % 2 ^ n + 2 ^ n * (if tb z n then 1 else 0) := by
  have hp : (0 : Int) < 2 ^ n := Int.pow_pos (by decide)
  have e1 := Int.mul_ediv_add_emod z (2 ^ n)
  have r0 := Int.emod_nonneg z (show (2 : Int) ^ n ≠ 0 by omega)
  have r1 := Int.emod_lt_of_pos z hp
  unfold tb
  generalize z / 2 ^ n = q at *
  generalize z % 2 ^ n = r at *
  have e2 := Int.mul_ediv_add_emod q 2
  have b0 := Int.emod_nonneg q (show (2 : Int) ≠ 0 by decide)
  have b1 := Int.emod_lt_of_pos q (show (0 : Int) < 2 by decide)
  generalize q / 2 = q' at *
  generalize hb : q % 2 = b at *
  have e3 : (if decide (b = 1) = true then (1 : Int) else 0) = b := by
    by_cases h : b = 1
    · simp [h]
    · have : b = 0 := by omega
      simp [this]
  rw [e3]
  have e4 : z = (r + 2 ^ n * b) + 2 ^ (n + 1) * q' := by rw [← e1, ← e2, Int.pow_succ]; grind
  have hb1 : 2 ^ n * b ≤ 2 ^ n * 1 := Int.mul_le_mul_of_nonneg_left (by omega) (by omega)
  have hb0 : 0 ≤ 2 ^ n * b := Int.mul_nonneg (by omega) b0
  rw [e4, Int.add_mul_emod_self_left, Int.emod_eq_of_lt (by omega) (by rw [Int.pow_succ]; omega)]
theorem tb_mod {z z' : Int} (h : ∀ i, tb z i = tb z' i) (n : Nat) : z % 2 ^ n = z' % 2 ^ n := by
  induction n with
  | zero => simp
  | succ n ih => rw [mod_succ, mod_succ, ih, h n]
theorem nat_lt_pow2 (n : Nat) : (n : Int) < 2 ^ n := by
  induction n with
  | zero => simp
  | succ n ih => rw [Int.pow_succ]; omega
theorem tb_ext {z z' : Int} (h : ∀ i, tb z i = tb z' i) : z = z' := by
  have hn := nat_lt_pow2 (z.natAbs + z'.natAbs)
  have e := tb_mod h (z.natAbs + z'.natAbs + 1)
  rw [Int.pow_succ] at e
  generalize (2 : Int) ^ (z.natAbs + z'.natAbs) = p at *
  have e1 := Int.mul_ediv_add_emod z (p * 2)
  have e2 := Int.mul_ediv_add_emod z' (p * 2)
  rw [e] at e1
  generalize z' % (p * 2) = r at *
  have e3 : z - z' = p * 2 * (z / (p * 2) - z' / (p * 2)) := by rw [Int.mul_sub]; omega
  generalize z / (p * 2) - z' / (p * 2) = d at *
  rcases Int.lt_trichotomy d 0 with h1 | h1 | h1
  · have : p * 2 * d ≤ p * 2 * (-1) := Int.mul_le_mul_of_nonneg_left (by omega) (by omega)
    omega
  · rw [h1] at e3; omega
  · have : p * 2 * 1 ≤ p * 2 * d := Int.mul_le_mul_of_nonneg_left (by omega) (by omega)
    omega
/-- High bits are the sign. -/
theorem tb_high {z : Int} {m i : Nat} (h1 : -(2 ^ m) ≤ z) (h2 : z < 2 ^ m) (hi : m ≤ i) : tb z i = decide (z < 0) := by
  have hp := pow_le (b := 2) (by decide) hi
  have hp0 : (0 : Int) < 2 ^ i := Int.pow_pos (by decide)
  unfold tb
  by_cases hz : z < 0
  · have : z / 2 ^ i = -1 := by
      have e1 := Int.mul_ediv_add_emod z (2 ^ i)
      have r0 := Int.emod_nonneg z (show (2 : Int) ^ i ≠ 0 by omega)
      have r1 := Int.emod_lt_of_pos z hp0
      generalize z / 2 ^ i = q at *
      generalize z % 2 ^ i = r at *
      apply Classical.byContradiction
      intro hq
      rcases Int.lt_or_gt_of_ne hq with h | h
      · have : 2 ^ i * q ≤ 2 ^ i * (-2) := Int.mul_le_mul_of_nonneg_left (by omega) (by omega)
        omega
      · have : 2 ^ i * 0 ≤ 2 ^ i * q := Int.mul_le_mul_of_nonneg_left (by omega) (by omega)
        omega
    simp [this, hz]
  · rw [Int.ediv_eq_zero_of_lt (by omega) (by omega)]
    simp [hz]
end Go.Proofs.Ytcgkgcciogibkaa.Ma
