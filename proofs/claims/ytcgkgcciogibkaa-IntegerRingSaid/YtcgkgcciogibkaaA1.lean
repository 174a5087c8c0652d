/- The contracts of the program's small functions on limbs: trimmed, made. -/
import Derived.Test.YtcgkgcciogibkaaRows
import Derived.Test.YtcgkgcciogibkaaW2
import Derived.Deep.QuietTactic
import Derived.BigQuiet
import Derived.Deep.LoopGhost
import Derived.Deep.RegionHeld3
import Derived.Lib.Hide
set_option linter.unusedVariables false
set_option linter.unusedSimpArgs false
namespace Go.Proofs.Ytcgkgcciogibkaa
open Go.RowKit Ma

theorem trim_take_succ {xs : List Int} {n : Nat} (hn : n < xs.length) (h : at0 xs n = 0) : trim (xs.take (n + 1)) = trim (xs.take n) := by
  rw [List.take_succ_eq_append_getElem hn]
  rw [at0_of_lt hn] at h
  rw [h, trim_snoc0]
theorem trim_stop {xs : List Int} {n : Nat} (hn : n < xs.length) (h : at0 xs n ≠ 0) : trim (xs.take (n + 1)) = xs.take (n + 1) := by
  apply trim_of_top
  have hl : (xs.take (n + 1)).length = n + 1 := by simp only [List.length_take]; omega
  have hne : xs.take (n + 1) ≠ [] := by intro e; rw [e] at hl; simp at hl
  rw [top_at hne, hl]
  simp only [at0, List.getD_eq_getElem?_getD, List.getElem?_take, Nat.add_sub_cancel, show n < n + 1 by omega, if_true] at h ⊢
  exact h

set_option maxHeartbeats 400000 in
theorem trimmed_c (A : Option Addr) (c : Nat) (xs : List Int) (w : World) (h : Rd w .u32 A xs) (hc : xs.length ≤ c) :
    Calls Try.prog 114 #[.slice A xs.length c] w fun e w' => e = .returned (.slice A (trim xs).length c) ∧ w = w' := by
  have hl := h.1
  have key : ∀ n, n ≤ xs.length → trim (xs.take n) = trim xs → trim (xs.take n) = xs.take n → (.slice A n c : Value) = .slice A (trim xs).length c := by
    intro n hn h1 h2
    rw [← h1, h2]
    rw [List.length_take, Nat.min_eq_left hn]
  go_enter Try.func114, Try.ntmps114
  go_wp2
  go_loop [0] (fun l => ∃ n : Nat, n ≤ xs.length ∧ trim (xs.take n) = trim xs ∧ l = .slice A n c) (fun l => match l with | .slice _ n _ => n | _ => 0)
  case atStart => exact ⟨_, Nat.le_refl _, by rw [List.take_length], rfl⟩
  case round =>
    obtain ⟨n, hn, ht, rfl⟩ := hrel
    have HT := Lib.hid ht
    have KEY := Lib.hid key
    clear ht key
    by_cases h0 : 0 < n
    · obtain ⟨ad, hA, hcell⟩ := h.2 (n - 1) (by omega)
      subst hA
      by_cases hz : at0 xs (n - 1) = 0
      · have hzb : (at0 xs (n - 1) == 0) = true := by simpa using hz
        have HZ := Lib.hid hz
        clear hz
        go_wp2
        refine ⟨⟨n - 1, by omega, ?_, rfl⟩, by simp; omega⟩
        rw [← HT.out, ← trim_take_succ (by omega) HZ.out, Nat.sub_add_cancel h0]
      · have hzb : (at0 xs (n - 1) == 0) = false := by simpa using hz
        have HZ := Lib.hid hz
        clear hz
        go_wp2
        go_ret
        have h1 := KEY.out n hn HT.out (by have := trim_stop (n := n - 1) (by omega) HZ.out; rwa [Nat.sub_add_cancel h0] at this)
        exact ⟨ret_val h1, rfl⟩
    · obtain rfl : n = 0 := by omega
      go_wp2
      go_ret
      have h1 := KEY.out 0 hn HT.out (by simp [trim])
      exact ⟨ret_val h1, rfl⟩

theorem num_made {b : Int} {n : Bool} {xs : List Int} (hd : dg b xs) : Num b (n && decide (0 < (trim xs).length)) (trim xs) (sg n (lv b xs)) := by
  refine ⟨trim_dg hd, trim_top xs, fun h => ?_, ?_⟩
  · simp at h; exact List.length_pos_iff.1 h.2
  · cases n with
    | false => simp [trim_lv, sg]
    | true =>
      by_cases h0 : 0 < (trim xs).length
      · simp [h0, trim_lv, sg]
      · have : trim xs = [] := List.eq_nil_of_length_eq_zero (by omega)
        have h1 := trim_lv b xs
        rw [this] at h1
        simp [this, lv, sg] at h1 ⊢
        omega

set_option maxHeartbeats 400000 in
theorem made_c (n : Bool) (A : Option Addr) (c : Nat) (xs : List Int) (w : World) (rA : Rd w .u32 A xs) (hc : xs.length ≤ c) (hd : dg b32 xs) :
    Calls Try.prog 81 #[.bool n, .slice A xs.length c] w (Ret w (KI (sg n (lv b32 xs)))) := by
  have hn := num_made (n := n) hd
  have hlen := trim_len xs
  have HN := Lib.hid hn
  clear hn
  cases n
  · go_enter Try.func81, Try.ntmps81
    go_wp2_with (go_at_call 114; refine (trimmed_c A c xs _ (rA.kept (IntK.alloc _ _)) hc).mono ?_; rintro e w' ⟨rfl, rfl⟩)
    refine bodyPost_ret (v := .agg #[.bool false, .slice A (trim xs).length c]) (by simp [results, Try.results81, go_sem]) rfl (Ret.I ⟨trim xs, rfl, by omega, ?_, by simpa using HN.out⟩ ?_)
    · exact rA.trim.kept (IntK.alloc _ _)
    · exact (Below.refl _ _).alloc (Nat.le_refl _) _
  · go_enter Try.func81, Try.ntmps81
    go_wp2_with (go_at_call 114; refine (trimmed_c A c xs _ (rA.kept (IntK.alloc _ _)) hc).mono ?_; rintro e w' ⟨rfl, rfl⟩)
    refine bodyPost_ret (v := .agg #[.bool (decide (0 < (trim xs).length)), .slice A (trim xs).length c]) (by simp [results, Try.results81, go_sem]) rfl (Ret.I ⟨trim xs, rfl, by omega, ?_, by simpa using HN.out⟩ ?_)
    · exact rA.trim.kept (IntK.alloc _ _)
    · exact (Below.refl _ _).alloc (Nat.le_refl _) _

end Go.Proofs.Ytcgkgcciogibkaa
