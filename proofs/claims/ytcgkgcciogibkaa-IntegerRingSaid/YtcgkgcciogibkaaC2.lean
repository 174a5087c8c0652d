/- The contracts of the reference's trimmed and made. -/
import Derived.Test.YtcgkgcciogibkaaC1
set_option linter.unusedVariables false
set_option linter.unusedSimpArgs false
namespace Go.Proofs.Ytcgkgcciogibkaa
open Go.RowKit Ma

set_option maxHeartbeats 800000 in
theorem rtrimmed_c {A : Option Addr} {l c : Nat} {xs : List Int} {w : World} (e : l = xs.length) (h : Rd w .i64 A xs) (hc : l ≤ c) :
    Calls Try.prog 99 #[.slice A l c] w fun e w' => e = .returned (.slice A (trim xs).length c) ∧ w = w' := by
  subst e
  have hl := h.1
  have key : ∀ n, n ≤ xs.length → trim (xs.take n) = trim xs → trim (xs.take n) = xs.take n → n = (trim xs).length := by
    intro n hn h1 h2
    rw [← h1, h2, List.length_take, Nat.min_eq_left hn]
  go_enter Try.func99, Try.ntmps99
  go_wp2
  go_loop [3] (fun l => ∃ n : Nat, n ≤ xs.length ∧ trim (xs.take n) = trim xs ∧ l = .int .i64 n) (fun l => (intOf l).toNat)
  case atStart => exact ⟨_, Nat.le_refl _, by rw [List.take_length], rfl⟩
  case round =>
    obtain ⟨n, hn, ht, rfl⟩ := hrel
    have HT := Lib.hid ht
    have KEY := Lib.hid key
    clear ht key
    by_cases h0 : 0 < n
    · obtain ⟨ad, hA, hcell⟩ := h.2 (n - 1) (by omega)
      subst hA
      by_cases hz : at0 xs (n - 1) = 0
      · have hzb : (at0 xs (n - 1) == 0) = true := by simpa using hz
        have HZ := Lib.hid hz
        clear hz
        go_wp2
        refine ⟨⟨n - 1, by omega, ?_, by apply congrArg (Value.int IntKind.i64); omega⟩, by simp [intOf]; omega⟩
        rw [← HT.out, ← trim_take_succ (by omega) HZ.out, Nat.sub_add_cancel h0]
      · have hzb : (at0 xs (n - 1) == 0) = false := by simpa using hz
        have HZ := Lib.hid hz
        clear hz
        go_wp2
        go_ret
        have h1 := KEY.out n hn HT.out (by have := trim_stop (n := n - 1) (by omega) HZ.out; rwa [Nat.sub_add_cancel h0] at this)
        exact ⟨ret_val (by rw [← h1]; simp), rfl⟩
    · obtain rfl : n = 0 := by omega
      go_wp2
      go_ret
      have h1 := KEY.out 0 (by omega) HT.out (by simp [trim])
      exact ⟨ret_val (by rw [← h1]; simp), rfl⟩

set_option maxHeartbeats 400000 in
theorem rmade_c {n : Bool} {A : Option Addr} {l c : Nat} {xs : List Int} {w : World} (e : l = xs.length) (rA : Rd w .i64 A xs) (hc : l ≤ c) (hd : dg b16 xs) :
    Calls Try.prog 88 #[.bool n, .slice A l c] w (Ret w (KJ (sg n (lv b16 xs)))) := by
  subst e
  have hn := num_made (n := n) hd
  have hlen := trim_len xs
  have HN := Lib.hid hn
  clear hn
  cases n
  · go_enter Try.func88, Try.ntmps88
    go_wp2_with (go_at_call 99; refine (rtrimmed_c rfl (rA.kept (IntK.alloc _ _)) hc).mono ?_; rintro e w' ⟨rfl, rfl⟩)
    refine bodyPost_ret (v := .agg #[.bool false, .slice A (trim xs).length c]) (by simp [results, Try.results88, go_sem]) rfl (Ret.J ⟨trim xs, rfl, by omega, ?_, by simpa using HN.out⟩ ?_)
    · exact rA.trim.kept (IntK.alloc _ _)
    · exact (Below.refl _ _).alloc (Nat.le_refl _) _
  · go_enter Try.func88, Try.ntmps88
    go_wp2_with (go_at_call 99; refine (rtrimmed_c rfl (rA.kept (IntK.alloc _ _)) hc).mono ?_; rintro e w' ⟨rfl, rfl⟩)
    refine bodyPost_ret (v := .agg #[.bool (decide (0 < (trim xs).length)), .slice A (trim xs).length c]) (by simp [results, Try.results88, go_sem]) rfl (Ret.J ⟨trim xs, rfl, by omega, ?_, by simpa using HN.out⟩ ?_)
    · exact rA.trim.kept (IntK.alloc _ _)
    · exact (Below.refl _ _).alloc (Nat.le_refl _) _
end Go.Proofs.Ytcgkgcciogibkaa
