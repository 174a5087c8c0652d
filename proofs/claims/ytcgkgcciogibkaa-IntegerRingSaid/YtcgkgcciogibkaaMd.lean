/- Bits of words: turning all bits of a word. No program in sight. -/
import Derived.Test.YtcgkgcciogibkaaMc
set_option linter.unusedVariables false
set_option linter.unusedSimpArgs false
namespace Go.Proofs.Ytcgkgcciogibkaa.Ma
open Go

theorem xor_ones (n : Nat) (h : n < 4294967296) : n ^^^ 4294967295 = 4294967295 - n := by
  apply Nat.eq_of_testBit_eq
  intro i
  have p32 : (2 : Nat) ^ 32 = 4294967296 := by decide
  have h1 := Nat.testBit_two_pow_sub_succ (x := n) (n := 32) (by omega) i
  have h2 := Nat.testBit_two_pow_sub_one 32 i
  rw [p32] at h1 h2
  rw [show 4294967295 - n = 4294967296 - (n + 1) by omega, h1, Nat.testBit_xor, show (4294967295 : Nat) = 4294967296 - 1 by decide, h2]
  by_cases hi : i < 32
  · simp [hi]
  · have : n.testBit i = false := Nat.testBit_lt_two_pow (Nat.lt_of_lt_of_le h (by rw [← p32]; exact Nat.pow_le_pow_right (by omega) (by omega)))
    simp [hi, this]
theorem flip0 (a : Int) (h : 0 ≤ a ∧ a < 4294967296) : bits .xor .u32 a 0 = a := by
  obtain ⟨A, rfl⟩ := Int.eq_ofNat_of_zero_le h.1
  have := u32_xor_nat A 0 (by omega) (by omega)
  simpa using this
theorem flip1 (a : Int) (h : 0 ≤ a ∧ a < 4294967296) : bits .xor .u32 a 4294967295 = 4294967295 - a := by
  obtain ⟨A, rfl⟩ := Int.eq_ofNat_of_zero_le h.1
  have := u32_xor_nat A 4294967295 (by omega) (by omega)
  rw [xor_ones A (by omega)] at this
  rw [show ((4294967295 : Nat) : Int) = 4294967295 from rfl] at this
  rw [this]; omega
theorem flip2 (a : Int) (h : 0 ≤ a ∧ a < 4294967296) : bits .xor .u32 IntKind.u32.max a = 4294967295 - a := by
  obtain ⟨A, rfl⟩ := Int.eq_ofNat_of_zero_le h.1
  have hm : IntKind.u32.max = ((4294967295 : Nat) : Int) := by simp [IntKind.max, IntKind.bits, IntKind.signed]
  rw [hm, u32_xor_nat 4294967295 A (by omega) (by omega), Nat.xor_comm, xor_ones A (by omega)]
  omega
end Go.Proofs.Ytcgkgcciogibkaa.Ma
