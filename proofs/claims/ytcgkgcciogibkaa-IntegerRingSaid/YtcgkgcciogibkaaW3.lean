/- Stores into slices of numbers of the call's own. -/
import Derived.Test.YtcgkgcciogibkaaA7
set_option linter.unusedVariables false
set_option linter.unusedSimpArgs false
namespace Go.Proofs.Ytcgkgcciogibkaa
open Go.RowKit Ma

theorem Own.cellAt {w : World} {base : Nat} {e : TypeId} {k : IntKind} {g n cap : Nat} {zs : List Int} (h : Own w base e k (.slice (some ⟨g, 0, none⟩) n cap) zs) {i : Nat} (hi : i < zs.length) (hn : n = zs.length) : w.cell? ⟨g, i, none⟩ = some (.int k (at0 zs i)) := by
  subst hn
  rw [World.ownsRow.cellAt h i (by omega), List.getElem?_map, List.getElem?_eq_getElem hi, at0_of_lt hi]
  rfl
theorem Own.frozenAt {w : World} {base : Nat} {e : TypeId} {k : IntKind} {g n cap : Nat} {zs : List Int} (h : Own w base e k (.slice (some ⟨g, 0, none⟩) n cap) zs) (hn : n = zs.length) (i : Nat) : w.frozen? ⟨g, i, none⟩ = false := by
  subst hn
  exact World.ownsRow.frozenAt h i
theorem Own.set {w : World} {base : Nat} {e : TypeId} {k : IntKind} {g n cap : Nat} {zs : List Int} (h : Own w base e k (.slice (some ⟨g, 0, none⟩) n cap) zs) (hn : n = zs.length) (i : Nat) (x : Int) :
    Own (w.setCell ⟨g, i, none⟩ (.int k x)) base e k (.slice (some ⟨g, 0, none⟩) n cap) (zs.set i x) := by
  subst hn
  have := World.ownsRow.stored h i (.int k x)
  unfold Own
  rw [List.length_set, List.map_set]
  exact this.1
theorem Own.ge {w : World} {base : Nat} {e : TypeId} {k : IntKind} {g n cap : Nat} {zs : List Int} (h : Own w base e k (.slice (some ⟨g, 0, none⟩) n cap) zs) : base ≤ g := h.base g rfl
theorem Own.made {w : World} {base : Nat} {e : TypeId} {k : IntKind} {v : Value} {n : Nat} (h : w.ownsRow base e 1 v n (madeCells #[Value.int k 0] n).toList) : Own w base e k v (List.replicate n 0) := by
  refine Own.cast h (by simp) ?_
  apply List.ext_getElem
  · simp [madeCells]
  · intro i h1 h2
    simp [madeCells, Nat.mod_one]
theorem Own.take {w : World} {base : Nat} {e : TypeId} {k : IntKind} {g n cap : Nat} {zs : List Int} (h : Own w base e k (.slice (some ⟨g, 0, none⟩) n cap) zs) (hn : n = zs.length) (m : Nat) (hm : m ≤ n) :
    Own w base e k (.slice (some ⟨g, 0, none⟩) m cap) (zs.take m) := by
  subst hn
  obtain ⟨h0, h1 | ⟨g', cap', cur, hv, hb, hg, hc, hx, hs, ht⟩⟩ := h
  · cases h1.1
  · simp only [Value.slice.injEq, Option.some.injEq, Addr.mk.injEq, and_true, true_and] at hv
    obtain ⟨rfl, rfl⟩ := hv
    have hl : (zs.take m).length = m := by rw [List.length_take]; omega
    refine ⟨by simp, .inr ⟨g, cap, cur, by rw [hl], hb, hg, by omega, hx, hs, ?_⟩⟩
    rw [hl, List.map_take, ← ht, List.take_take]
    congr 1; omega
theorem Own.ne {w : World} {b b' : Nat} {e e' : TypeId} {k k' : IntKind} {v v' : Value} {xs ys : List Int} (h : Own w b e k v xs) (h' : Own w b' e' k' v' ys) (he : e ≠ e') : v.ownBlock = none ∨ v.ownBlock ≠ v'.ownBlock := by
  obtain ⟨_, h1 | ⟨g, cap, cur, hv, hb, hg, _⟩⟩ := h
  · left; rw [h1.1]; rfl
  · right
    obtain ⟨_, h2 | ⟨g', cap', cur', hv', hb', hg', _⟩⟩ := h'
    · rw [hv, h2.1]; simp [Value.ownBlock]
    · rw [hv, hv']
      simp only [Value.ownBlock, ne_eq, Option.some.injEq]
      intro e1; subst e1
      rw [hg] at hg'
      simp only [Option.some.injEq, Obj.cells.injEq] at hg'
      exact he hg'.2.1
/-- A slice of the call's own is handed back. -/
def KO (base : Nat) (e : TypeId) (k : IntKind) (p : List Int → Prop) : Rg.Know := fun v W => ∃ zs g c, v = .slice (some ⟨g, 0, none⟩) zs.length c ∧ Own W base e k v zs ∧ p zs
theorem KO.l {base : Nat} {e : TypeId} {k : IntKind} {p : List Int → Prop} {v : Value} {W : World} (h : KO base e k p v W) : KL k p v W := by
  obtain ⟨zs, g, c, rfl, ho, hp⟩ := h
  obtain ⟨A, c', e', h1, h2⟩ := ho.rd
  simp only [Value.slice.injEq] at e'
  exact ⟨zs, _, _, rfl, by omega, by rw [e'.1]; exact h2, hp⟩
theorem Own.rdg {w : World} {base : Nat} {e : TypeId} {k : IntKind} {A : Option Addr} {n cap : Nat} {zs : List Int} (h : Own w base e k (.slice A n cap) zs) : n = zs.length ∧ n ≤ cap ∧ Rd w k A zs := by
  obtain ⟨A', c', e', h1, h2⟩ := h.rd
  simp only [Value.slice.injEq] at e'
  obtain ⟨rfl, rfl, rfl⟩ := e'
  exact ⟨rfl, h1, h2⟩
end Go.Proofs.Ytcgkgcciogibkaa
