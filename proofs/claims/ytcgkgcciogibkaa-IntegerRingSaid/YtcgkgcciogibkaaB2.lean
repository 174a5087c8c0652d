/- The contracts of the program's chunk, and of slices.Reverse on bytes. -/
import Derived.Test.YtcgkgcciogibkaaB1
set_option linter.unusedVariables false
set_option linter.unusedSimpArgs false
namespace Go.Proofs.Ytcgkgcciogibkaa
open Go.RowKit Ma

set_option maxHeartbeats 800000 in
theorem chunk_c (r : Int) (w : World) (h2 : 2 ≤ r) (h36 : r ≤ 36) :
    Calls Try.prog 97 #[.int .i64 r] w fun e w' => ∃ k : Nat, e = .returned (.tuple #[.int .u32 (r ^ k), .int .i64 k]) ∧ w = w' ∧ 1 ≤ k ∧ k ≤ 32 ∧ r ^ k < 4294967296 := by
  have key : ∀ k : Nat, 2 ^ k ≤ r ^ k := by
    intro k
    induction k with
    | zero => simp
    | succ k ih =>
      rw [Int.pow_succ, Int.pow_succ]
      have h0 : (0 : Int) < 2 ^ k := Int.pow_pos (by decide)
      have h1 : (2 : Int) ^ k * 2 ≤ 2 ^ k * r := Int.mul_le_mul_of_nonneg_left h2 (Int.le_of_lt h0)
      have h3 : (2 : Int) ^ k * r ≤ r ^ k * r := Int.mul_le_mul_of_nonneg_right ih (by omega)
      omega
  have kl : ∀ k : Nat, r ^ k < 4294967296 → k ≤ 31 := by
    intro k hk
    have h1 := key k
    by_cases h : k ≤ 31
    · exact h
    · have h3 := pow_le (b := 2) (by decide) (show 32 ≤ k by omega)
      have h4 : (2 : Int) ^ 32 = 4294967296 := by decide
      omega
  have KL := Lib.hid kl
  clear kl key
  go_enter Try.func97, Try.ntmps97
  go_wp2
  go_loop [4, 5] (fun n c => ∃ k : Nat, n = .int .u64 (r ^ k) ∧ c = .int .i64 k ∧ 1 ≤ k ∧ k ≤ 31 ∧ r ^ k < 4294967296 ∧ 0 ≤ r ^ k) (fun _ c => (32 - intOf c).toNat)
  case atStart => exact ⟨1, by rw [Int.pow_succ, Int.pow_zero, Int.one_mul], rfl, by omega, by omega, by rw [Int.pow_succ, Int.pow_zero, Int.one_mul]; omega, by rw [Int.pow_succ, Int.pow_zero, Int.one_mul]; omega⟩
  case round =>
    obtain ⟨k, rfl, rfl, h1, h31, hlt, hp0⟩ := hrel
    have hm0 : 0 ≤ r ^ k * r := Int.mul_nonneg hp0 (by omega)
    have hm1 : r ^ k * r ≤ 4294967296 * 36 := by
      have a1 : r ^ k * r ≤ r ^ k * 36 := Int.mul_le_mul_of_nonneg_left h36 hp0
      omega
    by_cases hc : r ^ k * r < 4294967296
    · have hk2 := KL.out (k + 1) (by rw [Int.pow_succ]; exact hc)
      go_wp2
      go_round
      case rel => exact ⟨k + 1, by rw [Int.pow_succ], by go_num, by omega, by omega, by rw [Int.pow_succ]; exact hc, by rw [Int.pow_succ]; exact hm0⟩
      case measure => simp [intOf]; omega
    · go_wp2
      go_ret2
      exact ⟨k, ret_val (by simp [hlt]), rfl, h1, by omega, hlt⟩
end Go.Proofs.Ytcgkgcciogibkaa
