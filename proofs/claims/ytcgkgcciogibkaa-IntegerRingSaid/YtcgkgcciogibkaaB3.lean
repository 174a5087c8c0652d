/- The contract of slices.Reverse on bytes of the call's own. -/
import Derived.Test.YtcgkgcciogibkaaB2
import Derived.RegionTactic
import Derived.BigRegion
set_option linter.unusedVariables false
set_option linter.unusedSimpArgs false
namespace Go.Proofs.Ytcgkgcciogibkaa
open Go.RowKit Ma

/-- The first i and the last i of zs have been exchanged. -/
def RevAt (zs us : List Int) (i : Nat) : Prop := us.length = zs.length ∧ ∀ m, m < zs.length → at0 us m = if m < i ∨ zs.length - i ≤ m then at0 zs (zs.length - 1 - m) else at0 zs m
theorem at0_set (l : List Int) (i m : Nat) (x : Int) (hi : i < l.length) : at0 (l.set i x) m = if m = i then x else at0 l m := by
  by_cases e : m = i
  · subst e; simp [at0, List.getD_eq_getElem?_getD, hi]
  · rw [at0_set_ne (by omega)]; simp [e]
theorem RevAt.step {zs us : List Int} {i : Nat} (h : RevAt zs us i) (hi : 2 * i + 1 < zs.length) : RevAt zs ((us.set i (at0 us (zs.length - 1 - i))).set (zs.length - 1 - i) (at0 us i)) (i + 1) := by
  refine ⟨by simp [h.1], fun m hm => ?_⟩
  have h1 := h.2 i (by omega)
  have h2 := h.2 (zs.length - 1 - i) (by omega)
  have h3 := h.2 m hm
  rw [if_neg (by omega)] at h1 h2
  rw [at0_set _ _ _ _ (by simp [h.1]; omega), at0_set _ _ _ _ (by rw [h.1]; omega)]
  by_cases e1 : m = zs.length - 1 - i
  · rw [if_pos e1, h1, if_pos (by omega), e1, show zs.length - 1 - (zs.length - 1 - i) = i by omega]
  · rw [if_neg e1]
    by_cases e2 : m = i
    · rw [if_pos e2, h2, if_pos (by omega), e2]
    · rw [if_neg e2, h3]
      by_cases e3 : m < i ∨ zs.length - i ≤ m
      · rw [if_pos e3, if_pos (by omega)]
      · rw [if_neg e3, if_neg (by omega)]
theorem RevAt.done {zs us : List Int} {i : Nat} (h : RevAt zs us i) (hi : ¬ 2 * i + 1 < zs.length) : us = zs.reverse := by
  apply List.ext_getElem
  · simp [h.1]
  · intro m h1 h2
    have h3 := h.2 m (by rw [← h.1]; exact h1)
    rw [at0_of_lt h1] at h3
    rw [h3, List.getElem_reverse]
    have hm : m < zs.length := by rw [← h.1]; exact h1
    by_cases e3 : m < i ∨ zs.length - i ≤ m
    · rw [if_pos e3, at0_of_lt (by omega)]
    · rw [if_neg e3, at0_of_lt hm]
      congr 1; omega

set_option maxHeartbeats 800000 in
theorem reverse_c {w : World} {base : Nat} {g n cap : Nat} {zs : List Int} (ho : Own w base 5 .u8 (.slice (some ⟨g, 0, none⟩) n cap) zs) (hn : n = zs.length) :
    Calls Try.prog 98 #[.slice (some ⟨g, 0, none⟩) n cap] w fun e w' => e = .returned (.tuple #[]) ∧ Own w' base 5 .u8 (.slice (some ⟨g, 0, none⟩) n cap) zs.reverse ∧ Below base w w' := by
  have hlen : zs.length ≤ 9223372036854775807 := by
    obtain ⟨A, c, e, h1, h2⟩ := ho.rd
    exact h2.1
  have hbase := ho.ge
  go_enter Try.func98, Try.ntmps98
  go_wp2
  go_loopw [2, 3] (fun ci cj wr => ∃ (i : Nat) (us : List Int), ci = .int .i64 i ∧ cj = .int .i64 ((zs.length : Int) - 1 - i) ∧ i ≤ zs.length ∧ Own wr base 5 .u8 (.slice (some ⟨g, 0, none⟩) n cap) us ∧ RevAt zs us i ∧ Below base w wr)
    (fun ci _ _ => zs.length - (intOf ci).toNat)
  case atStart => exact ⟨0, zs, by simp, by simp [hn], by omega, ho, ⟨rfl, fun m hm => by rw [if_neg (by omega)]⟩, Below.refl _ _⟩
  case round =>
    obtain ⟨i, us, rfl, rfl, hi, hu, hr, hb⟩ := hrel
    by_cases hlt : 2 * i + 1 < zs.length
    · obtain ⟨j, hj⟩ : ∃ j, j = zs.length - 1 - i := ⟨_, rfl⟩
      have hnl : n = us.length := by rw [hn, hr.1]
      have ci := hu.cellAt (i := i) (by rw [hr.1]; omega) hnl
      have cj := hu.cellAt (i := j) (by rw [hr.1]; omega) hnl
      have fi := hu.frozenAt hnl i
      have fj := hu.frozenAt hnl j
      have ej : ((zs.length : Int) - 1 - i) = (j : Int) := by omega
      rw [ej]
      have hij : i < j := by omega
      have hjn : j < n := by omega
      have hjb : (j : Int) < 9223372036854775807 := by omega
      have hiz : i + 1 ≤ zs.length := by omega
      have o2 := Lib.hid ((hu.set hnl i (at0 us j)).set (by simpa using hnl) j (at0 us i))
      have st := Lib.hid (hr.step hlt)
      have HN := Lib.hid hn
      have HJ := Lib.hid hj
      have HL := Lib.hid hlt
      clear hu hr hn hj hnl ej hlt ho
      go_wp2
      go_region
      go_wp2
      exact ⟨⟨i + 1, _, by go_num, by have := HJ.out; have := HL.out; apply congrArg (Value.int IntKind.i64); omega, hiz, o2.out.kept ((Below.refl _ _).drew), by have := st.out; rw [← HJ.out] at this; exact this, ((hb.setCell (p := ⟨g, i, none⟩) hbase _).setCell (p := ⟨g, j, none⟩) hbase _).drew⟩, by have := HL.out; simp [intOf]; omega⟩
    · have hnl : n = us.length := by rw [hn, hr.1]
      have e := hr.done hlt
      have HO : Own wr base 5 .u8 (.slice (some ⟨g, 0, none⟩) n cap) zs.reverse := e ▸ hu
      have HO := Lib.hid HO
      clear hu e
      go_wp2
      go_end0
      exact ⟨rfl, HO.out, hb⟩
end Go.Proofs.Ytcgkgcciogibkaa
