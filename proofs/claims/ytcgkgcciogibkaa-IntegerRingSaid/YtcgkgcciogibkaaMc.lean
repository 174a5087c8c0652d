/- Bits of words: no program in sight. -/
import Derived.Laws.BitsAllLaws
import Derived.Test.YtcgkgcciogibkaaMa
set_option linter.unusedVariables false
set_option linter.unusedSimpArgs false
namespace Go.Proofs.Ytcgkgcciogibkaa.Ma
open Go

theorem tb31 (n : Nat) (h : n < 4294967296) : n.testBit 31 = decide (2147483648 ≤ n) := by
  rw [Nat.testBit_eq_decide_div_mod_eq, decide_eq_decide]
  have : (2 : Nat) ^ 31 = 2147483648 := by decide
  rw [this]
  omega
theorem div31 (n : Nat) (h : n < 4294967296) : n / 2147483648 = if n.testBit 31 then 1 else 0 := by
  rw [tb31 n h]
  by_cases h1 : 2147483648 ≤ n
  · simp [h1]; omega
  · simp [h1]; omega

theorem borrow_bit (x y d : Int) (hx : 0 ≤ x ∧ x < 4294967296) (hy : 0 ≤ y ∧ y < 4294967296) (hd : 0 ≤ d ∧ d < 4294967296) (c : Int) (hc : 0 ≤ c ∧ c ≤ 1) (e : d = (x - y - c) % 4294967296) :
    bits .or .u32 (bits .and .u32 (bits .xor .u32 IntKind.u32.max x) y) (bits .and .u32 (bits .xor .u32 IntKind.u32.max (bits .xor .u32 x y)) d) / 2147483648 = if x < y + c then 1 else 0 := by
  obtain ⟨X, rfl⟩ := Int.eq_ofNat_of_zero_le hx.1
  obtain ⟨Y, rfl⟩ := Int.eq_ofNat_of_zero_le hy.1
  obtain ⟨D, rfl⟩ := Int.eq_ofNat_of_zero_le hd.1
  have hX : X < 4294967296 := by omega
  have hY : Y < 4294967296 := by omega
  have hD : D < 4294967296 := by omega
  have hm : IntKind.u32.max = ((4294967295 : Nat) : Int) := by simp [IntKind.max, IntKind.bits, IntKind.signed]
  have p32 : (2 : Nat) ^ 32 = 4294967296 := by decide
  have l1 : 4294967295 ^^^ X < 4294967296 := by rw [← p32]; exact Nat.xor_lt_two_pow (by omega) (by omega)
  have l2 : X ^^^ Y < 4294967296 := by rw [← p32]; exact Nat.xor_lt_two_pow (by omega) (by omega)
  have l3 : 4294967295 ^^^ (X ^^^ Y) < 4294967296 := by rw [← p32]; exact Nat.xor_lt_two_pow (by omega) (by omega)
  have l4 : (4294967295 ^^^ X) &&& Y < 4294967296 := Nat.lt_of_le_of_lt Nat.and_le_right hY
  have l5 : (4294967295 ^^^ (X ^^^ Y)) &&& D < 4294967296 := Nat.lt_of_le_of_lt Nat.and_le_right hD
  have l6 : ((4294967295 ^^^ X) &&& Y) ||| ((4294967295 ^^^ (X ^^^ Y)) &&& D) < 4294967296 := by rw [← p32]; exact Nat.or_lt_two_pow (by omega) (by omega)
  rw [hm, u32_xor_nat _ _ (by omega) hX, u32_xor_nat _ _ hX hY, u32_xor_nat _ _ (by omega) l2, u32_and_nat _ _ l1 hY, u32_and_nat _ _ l3 hD, u32_or_nat _ _ l4 l5]
  have e1 := div31 _ l6
  have e2 : (((((4294967295 ^^^ X) &&& Y) ||| ((4294967295 ^^^ (X ^^^ Y)) &&& D) : Nat) : Int) / 2147483648) = (((((4294967295 ^^^ X) &&& Y) ||| ((4294967295 ^^^ (X ^^^ Y)) &&& D)) / 2147483648 : Nat) : Int) := by
    rw [Int.natCast_ediv]; rfl
  rw [e2, e1]
  simp only [Nat.testBit_or, Nat.testBit_and, Nat.testBit_xor, tb31 X hX, tb31 Y hY, tb31 D hD, show Nat.testBit 4294967295 31 = true by decide]
  by_cases h1 : 2147483648 ≤ X <;> by_cases h2 : 2147483648 ≤ Y <;> by_cases h3 : 2147483648 ≤ D <;> simp only [h1, h2, h3, decide_true, decide_false] <;> simp <;> first | omega | (split <;> omega)

/-- The borrow of a difference. -/
def bor (x y c : Int) : Int := if x < y + c then 1 else 0
theorem bor_le (x y c : Int) : 0 ≤ bor x y c ∧ bor x y c ≤ 1 := by unfold bor; split <;> omega
theorem bor_eq (x y c : Int) (hx : 0 ≤ x ∧ x < 4294967296) (hy : 0 ≤ y ∧ y < 4294967296) (hc : 0 ≤ c ∧ c ≤ 1) : (x - y - c) % 4294967296 = x - y - c + 4294967296 * bor x y c := by unfold bor; split <;> omega
theorem join32 (h l : Int) (hh : 0 ≤ h ∧ h < 4294967296) (hl : 0 ≤ l ∧ l < 4294967296) : bits .or .u64 (h * 4294967296) l = h * 4294967296 + l := by
  obtain ⟨H, rfl⟩ := Int.eq_ofNat_of_zero_le hh.1
  obtain ⟨L, rfl⟩ := Int.eq_ofNat_of_zero_le hl.1
  have e : ((H : Int) * 4294967296) = ((H * 4294967296 : Nat) : Int) := by omega
  rw [e, u64_or_nat _ _ (by omega) (by omega)]
  have p32 : (2 : Nat) ^ 32 = 4294967296 := by decide
  have h1 := Nat.two_pow_add_eq_or_of_lt (i := 32) (b := L) (by omega) H
  rw [p32] at h1
  rw [Nat.mul_comm H, ← h1]
  omega

end Go.Proofs.Ytcgkgcciogibkaa.Ma
