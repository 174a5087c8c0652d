/- The contracts of math/bits: Add32, Sub32, Div32, Len32, LeadingZeros32, OnesCount32. -/
import Derived.Test.YtcgkgcciogibkaaA1
import Derived.Test.YtcgkgcciogibkaaMc
set_option linter.unusedVariables false
set_option linter.unusedSimpArgs false
namespace Go.Proofs.Ytcgkgcciogibkaa
open Go.RowKit Ma

set_option maxHeartbeats 400000 in
theorem add32_c (x y c : Int) (w : World) (hx : 0 ≤ x ∧ x < 4294967296) (hy : 0 ≤ y ∧ y < 4294967296) (hc : 0 ≤ c ∧ c ≤ 1) :
    Calls Try.prog 115 #[.int .u32 x, .int .u32 y, .int .u32 c] w fun e w' => e = .returned (.tuple #[.int .u32 ((x + y + c) % 4294967296), .int .u32 ((x + y + c) / 4294967296)]) ∧ w = w' := by
  obtain ⟨hx0, hx1⟩ := hx
  obtain ⟨hy0, hy1⟩ := hy
  obtain ⟨hc0, hc1⟩ := hc
  go_enter Try.func115, Try.ntmps115
  go_wp2
  go_ret2
  refine ⟨ret_val ?_, rfl⟩
  simp
set_option maxHeartbeats 400000 in
theorem sub32_c (x y c : Int) (w : World) (hx : 0 ≤ x ∧ x < 4294967296) (hy : 0 ≤ y ∧ y < 4294967296) (hc : 0 ≤ c ∧ c ≤ 1) :
    Calls Try.prog 116 #[.int .u32 x, .int .u32 y, .int .u32 c] w fun e w' => e = .returned (.tuple #[.int .u32 ((x - y - c) % 4294967296), .int .u32 (bor x y c)]) ∧ w = w' := by
  obtain ⟨hx0, hx1⟩ := hx
  obtain ⟨hy0, hy1⟩ := hy
  obtain ⟨hc0, hc1⟩ := hc
  go_enter Try.func116, Try.ntmps116
  go_wp2
  go_ret2
  refine ⟨ret_val ?_, rfl⟩
  have hb := borrow_bit x y _ ⟨hx0, hx1⟩ ⟨hy0, hy1⟩ ⟨Int.emod_nonneg _ (by decide), Int.emod_lt_of_pos _ (by decide)⟩ c ⟨hc0, hc1⟩ rfl
  show Value.tuple #[.int .u32 _, .int .u32 _] = _
  rw [hb]
  rfl
set_option maxHeartbeats 400000 in
theorem div32_c (h l y : Int) (w : World) (hh : 0 ≤ h ∧ h < y) (hl : 0 ≤ l ∧ l < 4294967296) (hy : y < 4294967296) :
    Calls Try.prog 117 #[.int .u32 h, .int .u32 l, .int .u32 y] w fun e w' => e = .returned (.tuple #[.int .u32 ((h * 4294967296 + l) / y), .int .u32 ((h * 4294967296 + l) % y)]) ∧ Nw w w' := by
  obtain ⟨hh0, hh1⟩ := hh
  obtain ⟨hl0, hl1⟩ := hl
  have hj := join32 h l ⟨hh0, by omega⟩ ⟨hl0, hl1⟩
  have hyb : (y != 0) = true := by simp; omega
  have hyd : decide (y ≤ h) = false := by simp; omega
  have hjr : 0 ≤ h * 4294967296 + l := by omega
  have hjt : h * 4294967296 + l < 18446744073709551616 := by omega
  go_enter Try.func117, Try.ntmps117
  go_wp2
  go_quiet (fail)
  go_wp2
  go_ret2
  refine ⟨ret_val ?_, (Nw.refl w).drewN _⟩
  have q0 : 0 ≤ (h * 4294967296 + l) / y := Int.ediv_nonneg hjr (by omega)
  have q1 : (h * 4294967296 + l) / y < 4294967296 := by
    apply Int.ediv_lt_of_lt_mul (by omega)
    have : h * 4294967296 + 4294967296 ≤ 4294967296 * y := by omega
    omega
  have r0 : 0 ≤ (h * 4294967296 + l) % y := Int.emod_nonneg _ (by omega)
  have r1 : (h * 4294967296 + l) % y < y := Int.emod_lt_of_pos _ (by omega)
  simp
  omega
end Go.Proofs.Ytcgkgcciogibkaa
