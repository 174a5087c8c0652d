/- Words for what a call leaves in memory: slices of whole numbers that are read, integers of the program and of the reference. -/
import Derived.WalkKit
import Derived.WalkSpells
import Derived.WalkLawsBesides
import Derived.Test.YtcgkgcciogibkaaMa
set_option linter.unusedVariables false
set_option linter.unusedSimpArgs false
namespace Go.Proofs.Ytcgkgcciogibkaa
open Go.RowKit Ma

theorem ret_val {a b : Value} (h : a = b) : Ending.returned a = .returned b := by rw [h]

/-- Whatever number a cell holds it holds on. -/
def IntK (w w' : World) : Prop := ∀ a k x, w.cell? a = some (.int k x) → w'.cell? a = some (.int k x)
theorem IntK.refl (w : World) : IntK w w := fun _ _ _ h => h
theorem IntK.trans {a b c : World} (h : IntK a b) (k : IntK b c) : IntK a c := fun p _ _ hp => k p _ _ (h p _ _ hp)
theorem IntK.of_below {w w' : World} (h : Below w.heap.size w w') : IntK w w' := fun a k x hc => (h.cell (World.block_lt_of_cell? w a hc)).trans hc

/-- A slice at A reads as these numbers. -/
def Rd (w : World) (k : IntKind) (A : Option Addr) (xs : List Int) : Prop :=
  xs.length ≤ 9223372036854775807 ∧ ∀ i, i < xs.length → ∃ ad, A = some ad ∧ w.cell? (ad.add i) = some (.int k (at0 xs i))
theorem Rd.kept {w w' : World} {k : IntKind} {A : Option Addr} {xs : List Int} (h : Rd w k A xs) (hk : IntK w w') : Rd w' k A xs :=
  ⟨h.1, fun i hi => let ⟨ad, e, hc⟩ := h.2 i hi; ⟨ad, e, hk _ _ _ hc⟩⟩
theorem Rd.below {w w' : World} {k : IntKind} {A : Option Addr} {xs : List Int} (h : Rd w k A xs) (hk : Below w.heap.size w w') : Rd w' k A xs := h.kept (IntK.of_below hk)
theorem Rd.nil (w : World) (k : IntKind) (A : Option Addr) : Rd w k A [] := ⟨by simp, fun i hi => by simp at hi⟩
theorem Rd.take {w : World} {k : IntKind} {A : Option Addr} {xs : List Int} (h : Rd w k A xs) (n : Nat) : Rd w k A (xs.take n) := by
  refine ⟨by have := h.1; simp only [List.length_take]; omega, fun i hi => ?_⟩
  simp only [List.length_take] at hi
  obtain ⟨ad, e, hc⟩ := h.2 i (by omega)
  refine ⟨ad, e, ?_⟩
  rw [hc]
  simp only [at0, List.getD_eq_getElem?_getD, List.getElem?_take, show i < n by omega, if_true]
theorem Rd.trim {w : World} {k : IntKind} {A : Option Addr} {xs : List Int} (h : Rd w k A xs) : Rd w k A (trim xs) := by
  rw [trim_take]; exact h.take _
theorem IntK.alloc (w : World) (o : Obj) : IntK w (w.alloc o) := IntK.of_below ((Below.refl _ _).alloc (Nat.le_refl _) _)
/-- A store over what is no number. -/
theorem IntK.set {w0 w : World} (h : IntK w0 w) {a : Addr} {u v : Value} (hc : w.cell? a = some u) (hu : ∀ k x, u ≠ .int k x) : IntK w0 (w.setCell a v) := by
  intro p k x hp
  have h1 := h p k x hp
  by_cases e : p = a
  · subst e; rw [hc] at h1; injection h1 with h1; exact absurd h1 (hu k x)
  · rw [World.cell?_setCell_other (h := fun h => e h.symm)]; exact h1
/-- One address for all. -/
theorem Rd.addr {w : World} {k : IntKind} {A : Option Addr} {xs : List Int} (h : Rd w k A xs) (h0 : 0 < xs.length) : ∃ ad, A = some ad ∧ ∀ i, i < xs.length → w.cell? (ad.add i) = some (.int k (at0 xs i)) := by
  obtain ⟨ad, e, _⟩ := h.2 0 h0
  refine ⟨ad, e, fun i hi => ?_⟩
  obtain ⟨ad', e', hc⟩ := h.2 i hi
  rw [e] at e'
  injection e' with e'
  rw [e']
  exact hc

/-- The bases of the program's limbs and of the reference's digits. -/
def b32 : Int := 4294967296
def b16 : Int := 65536
theorem b32_eq : b32 = 4294967296 := rfl
theorem b16_eq : b16 = 65536 := rfl
/-- A number with a sign. -/
def sg (n : Bool) (z : Int) : Int := if n then -z else z
theorem bcell {W w1 : World} (hb : Below W.heap.size W w1) : (∀ b o, b < W.heap.size → w1.cell? ⟨b, o, none⟩ = W.cell? ⟨b, o, none⟩) ∧ (∀ b o, b < W.heap.size → w1.frozen? ⟨b, o, none⟩ = W.frozen? ⟨b, o, none⟩) ∧ W.heap.size ≤ w1.heap.size :=
  ⟨fun b o h => hb.cell (p := ⟨b, o, none⟩) h, fun b o h => hb.frozen (p := ⟨b, o, none⟩) h, hb.size⟩
/-- The sign and the digits of a number, to the base b. -/
def Num (b : Int) (n : Bool) (xs : List Int) (z : Int) : Prop := dg b xs ∧ top xs ∧ (n = true → xs ≠ []) ∧ z = sg n (lv b xs)
/-- The program's integer: its limbs lie in memory. -/
def RI (w : World) (n : Bool) (A : Option Addr) (l c : Nat) (z : Int) : Prop := ∃ xs, l = xs.length ∧ l ≤ c ∧ Rd w .u32 A xs ∧ Num b32 n xs z
/-- The reference's integer. -/
def RJ (w : World) (n : Bool) (A : Option Addr) (l c : Nat) (z : Int) : Prop := ∃ xs, l = xs.length ∧ l ≤ c ∧ Rd w .i64 A xs ∧ Num b16 n xs z
theorem RI.kept {w w' : World} {n : Bool} {A : Option Addr} {l c : Nat} {z : Int} (h : RI w n A l c z) (hk : IntK w w') : RI w' n A l c z :=
  let ⟨xs, h1, h2, h3, h4⟩ := h; ⟨xs, h1, h2, h3.kept hk, h4⟩
theorem RJ.kept {w w' : World} {n : Bool} {A : Option Addr} {l c : Nat} {z : Int} (h : RJ w n A l c z) (hk : IntK w w') : RJ w' n A l c z :=
  let ⟨xs, h1, h2, h3, h4⟩ := h; ⟨xs, h1, h2, h3.kept hk, h4⟩
theorem RI.below {w w' : World} {n : Bool} {A : Option Addr} {l c : Nat} {z : Int} (h : RI w n A l c z) (hk : Below w.heap.size w w') : RI w' n A l c z := h.kept (IntK.of_below hk)
theorem RJ.below {w w' : World} {n : Bool} {A : Option Addr} {l c : Nat} {z : Int} (h : RJ w n A l c z) (hk : Below w.heap.size w w') : RJ w' n A l c z := h.kept (IntK.of_below hk)

/-- The box of a result: n cells at r, none of them a number. -/
def Box (r n : Nat) (w : World) : Prop := ∀ o, o < n → (∃ v, w.cell? ⟨r, o, none⟩ = some v ∧ ∀ k x, v ≠ .int k x) ∧ w.frozen? ⟨r, o, none⟩ = false
/-- What may turn while a statement with calls runs: the box of the result alone, and no number. -/
def Rr (r n : Nat) (W W' : World) : Prop := Below r W W' ∧ IntK W W' ∧ W.heap.size ≤ W'.heap.size ∧ (Box r n W → Box r n W')
theorem Rr.refl (r n : Nat) (W : World) : Rr r n W W := ⟨Below.refl _ _, IntK.refl _, Nat.le_refl _, id⟩
theorem Rr.trans {r n : Nat} {a b c : World} (h : Rr r n a b) (k : Rr r n b c) : Rr r n a c := ⟨h.1.trans k.1, h.2.1.trans k.2.1, Nat.le_trans h.2.2.1 k.2.2.1, fun x => k.2.2.2 (h.2.2.2 x)⟩
theorem Box.below {r n : Nat} {W W' : World} (h : Box r n W) (hb : Below W.heap.size W W') : Box r n W' := by
  intro o ho
  obtain ⟨⟨v, hv, hi⟩, hf⟩ := h o ho
  have hlt := World.block_lt_of_cell? W ⟨r, o, none⟩ hv
  exact ⟨⟨v, by rw [hb.cell (p := ⟨r, o, none⟩) hlt]; exact hv, hi⟩, by rw [hb.frozen (p := ⟨r, o, none⟩) hlt]; exact hf⟩
/-- Behind a call. -/
theorem Rr.call {r n : Nat} {W W' : World} (hr : r ≤ W.heap.size) (hb : Below W.heap.size W W') : Rr r n W W' := ⟨hb.mono hr, IntK.of_below hb, hb.size, fun h => h.below hb⟩

end Go.Proofs.Ytcgkgcciogibkaa
