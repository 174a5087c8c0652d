/- The contract of the program's twos. -/
import Derived.Test.YtcgkgcciogibkaaB5
import Derived.Shelf.Spec.SlicesGrow
import Derived.Test.YtcgkgcciogibkaaShelf
set_option linter.unusedVariables false
set_option linter.unusedSimpArgs false
namespace Go.Proofs.Ytcgkgcciogibkaa
open Go.RowKit Ma

theorem own_drewn {w : World} {base n G : Nat} {cur : Array Value} (hb : base ≤ w.heap.size) (hG : G ≤ maxLen) (hs : cur.size = G) (hn : n ≤ G) :
    (w.drew.alloc (.cells cur 92)).ownsRow base 92 1 (.slice (some ⟨w.heap.size, 0, none⟩) n G) n (cur.toList.take n) := by
  refine ⟨by simp; omega, .inr ⟨w.heap.size, G, cur, rfl, hb, ?_, hn, hG, by omega, by simp⟩⟩
  show (w.drew.heap.push (Obj.cells cur 92))[w.heap.size]? = _
  exact Array.getElem?_push_size
theorem size_zeroes (v : Value) (n : Nat) : (Builtin.zeroCells #[v] n).size = n := by
  simp [Builtin.zeroCells]
set_option maxHeartbeats 1600000 in
/-- slices.Grow on a slice of the call's own: behind it there are n cells. -/
theorem grow_c {w : World} {base : Nat} {v : Value} {xs : List Int} {n : Nat} (ho : Own w base 92 .u32 v xs) (hb : base ≤ w.heap.size) (hn0 : 0 < n) (hn : n ≤ 1000000) (hl : xs.length ≤ 1000000) (hxn : xs.length ≤ n) :
    Calls Try.prog 113 #[v, .int .i64 n] w fun e w' => ∃ g c vs, e = .returned (.slice (some ⟨g, 0, none⟩) xs.length c) ∧ n ≤ c ∧ c ≤ 9223372036854775807 ∧ w'.ownsRow base 92 1 (.slice (some ⟨g, 0, none⟩) n c) n vs ∧ vs.take xs.length = xs.map (Value.int .u32) ∧ Nw w w' := by
  obtain ⟨i0, hi, hz0, hz1, hz2⟩ := info_parts info_u32
  obtain ⟨hlen, ⟨hv, h0⟩ | ⟨g, cap, cur, hv, hbg, hg, hc, hm, hs, ht⟩⟩ := ho
  · subst hv
    have hx : xs = [] := List.eq_nil_of_length_eq_zero h0
    subst hx
    have := Any8.slices_Grow_grow Try.growU i0 (.int .u32 0) hi hz0 (by omega) none 0 0 n [] w (by omega) (by omega) (by rw [hz2]; omega) (by omega) (by simp) (fun _ => rfl) (fun a ha => by cases ha)
    rw [show Try.growU_ren.t 25 = 92 from rfl] at this
    obtain ⟨G, hG⟩ : ∃ G, G = grownCap w (0 + n) 0 92 := ⟨_, rfl⟩
    have g1 := grownCap_ge w (0 + n) 0 92
    have g2 := grownCap_le_maxLen w (0 + n) 0 92 (by unfold maxLen; omega)
    refine this.mono fun e w' ⟨e1, e2⟩ => ?_
    rw [← hG] at e1 e2 g1 g2
    subst e2
    refine ⟨w.heap.size, G, _, e1, by omega, by unfold maxLen at g2; omega, own_drewn hb g2 ?_ (by omega), by simp, (Nw.refl w).drew.alloc _⟩
    have z1 := size_zeroes (.int .u32 0) (0 + n - 0)
    have z2 := size_zeroes (.int .u32 0) (G - (0 + n))
    have zc : (Value.int .u32 0).cells = #[.int .u32 0] := rfl
    rw [zc, Array.size_append, Array.size_append, z1, z2]
    simp; omega
  · subst hv
    have hlx : xs.length ≤ cap := hc
    by_cases hroom : xs.length + n ≤ cap
    · have := Any8.slices_Grow_room Try.growU (some ⟨g, 0, none⟩) xs.length cap n w hlx (by unfold maxLen at hm; omega) (by omega) hroom
      refine this.mono fun e w' ⟨e1, e2⟩ => ?_
      subst e2
      refine ⟨g, cap, cur.toList.take n, e1, by omega, by unfold maxLen at hm; omega, ⟨by simp; omega, .inr ⟨g, cap, cur, rfl, hbg, hg, by omega, hm, hs, by simp⟩⟩, ?_, Nw.refl _⟩
      rw [List.take_take, Nat.min_eq_left hxn, ← ht]; simp
    · have := Any8.slices_Grow_grow Try.growU i0 (.int .u32 0) hi hz0 (by omega) (some ⟨g, 0, none⟩) xs.length cap n cur.toList w hlx (by omega) (by rw [hz2]; omega) (by omega) (by rw [hz1]; simpa using hs) (fun h => by cases h) (fun a ha j v hj => ?_)
      · rw [show Try.growU_ren.t 25 = 92 from rfl] at this
        obtain ⟨G, hG⟩ : ∃ G, G = grownCap w (xs.length + n) cap 92 := ⟨_, rfl⟩
        have g1 := grownCap_ge w (xs.length + n) cap 92
        have g2 := grownCap_le_maxLen w (xs.length + n) cap 92 (by unfold maxLen; omega)
        refine this.mono fun e w' ⟨e1, e2⟩ => ?_
        rw [← hG] at e1 e2 g1 g2
        subst e2
        refine ⟨w.heap.size, G, _, e1, by omega, by unfold maxLen at g2; omega, own_drewn hb g2 ?_ (by omega), ?_, (Nw.refl w).drew.alloc _⟩
        · have z1 := size_zeroes (.int .u32 0) (xs.length + n - cap)
          have z2 := size_zeroes (.int .u32 0) (G - (xs.length + n))
          have zc : (Value.int .u32 0).cells = #[.int .u32 0] := rfl
          rw [zc, Array.size_append, Array.size_append, z1, z2]
          simp; omega
        · rw [List.take_take, Nat.min_eq_left hxn]
          rw [← ht]
          simp only [Array.toList_append, List.append_assoc, Nat.mul_one]
          rw [List.take_append_of_le_length (by simp; omega)]
      · clear hz0 hz1 hz2 hi
        obtain rfl : a = ⟨g, 0, none⟩ := by simpa using ha.symm
        rw [add_at]
        obtain ⟨hj1, hj2⟩ := List.getElem?_eq_some_iff.1 hj
        have hrow : w.ownsRow base 92 1 (.slice (some ⟨g, 0, none⟩) cap cap) cap cur.toList := ⟨by simpa using hs, .inr ⟨g, cap, cur, rfl, hbg, hg, Nat.le_refl _, hm, hs, by rw [← hs, List.take_of_length_le (by simp)]⟩⟩
        rw [World.ownsRow.cellAt hrow j (by simp at hj1; omega)]
        exact hj
end Go.Proofs.Ytcgkgcciogibkaa
