/- What is known of the values of a statement with calls; what a call hands back. -/
import Derived.Test.YtcgkgcciogibkaaWd
import Derived.Test.YtcgkgcciogibkaaRg
set_option linter.unusedVariables false
set_option linter.unusedSimpArgs false
namespace Go.Proofs.Ytcgkgcciogibkaa
open Go.RowKit Ma

/-- An integer of the program's; one of the reference's; a plain value; a slice whose numbers have a property; two, three, four results. -/
def KI (z : Int) : Rg.Know := fun v W => ∃ m A l c, v = .agg #[.bool m, .slice A l c] ∧ RI W m A l c z
def KJ (z : Int) : Rg.Know := fun v W => ∃ m A l c, v = .agg #[.bool m, .slice A l c] ∧ RJ W m A l c z
def KV (x : Value) : Rg.Know := fun v _ => v = x
def KL (k : IntKind) (p : List Int → Prop) : Rg.Know := fun v W => ∃ zs A c, v = .slice A zs.length c ∧ zs.length ≤ c ∧ Rd W k A zs ∧ p zs
def K2 (k1 k2 : Rg.Know) : Rg.Know := fun v W => ∃ v1 v2, v = .tuple #[v1, v2] ∧ k1 v1 W ∧ k2 v2 W
def K3 (k1 k2 k3 : Rg.Know) : Rg.Know := fun v W => ∃ v1 v2 v3, v = .tuple #[v1, v2, v3] ∧ k1 v1 W ∧ k2 v2 W ∧ k3 v3 W
/-- Behind the store of a result. -/
def KB (r : Nat) (z : Int) : Rg.Know := fun _ W => ∃ m A l c, W.cell? ⟨r, 0, none⟩ = some (.bool m) ∧ W.cell? ⟨r, 1, none⟩ = some (.slice A l c) ∧ RI W m A l c z
def KBJ (r : Nat) (z : Int) : Rg.Know := fun _ W => ∃ m A l c, W.cell? ⟨r, 0, none⟩ = some (.bool m) ∧ W.cell? ⟨r, 1, none⟩ = some (.slice A l c) ∧ RJ W m A l c z

theorem RI.eq {w : World} {n : Bool} {A : Option Addr} {l c : Nat} {z z' : Int} (h : RI w n A l c z) (e : z = z') : RI w n A l c z' := e ▸ h
theorem RJ.eq {w : World} {n : Bool} {A : Option Addr} {l c : Nat} {z z' : Int} (h : RJ w n A l c z) (e : z = z') : RJ w n A l c z' := e ▸ h
/-- What is known holds on. -/
def St (k : Rg.Know) : Prop := ∀ v w w', IntK w w' → k v w → k v w'
theorem KI.st (z : Int) : St (KI z) := fun v w w' hk ⟨m, A, l, c, e, h⟩ => ⟨m, A, l, c, e, h.kept hk⟩
theorem KJ.st (z : Int) : St (KJ z) := fun v w w' hk ⟨m, A, l, c, e, h⟩ => ⟨m, A, l, c, e, h.kept hk⟩
theorem KV.st (x : Value) : St (KV x) := fun _ _ _ _ h => h
theorem KL.st (k : IntKind) (p : List Int → Prop) : St (KL k p) := fun v w w' hk ⟨zs, A, c, e, h1, h2, h3⟩ => ⟨zs, A, c, e, h1, h2.kept hk, h3⟩
theorem K2.st {k1 k2 : Rg.Know} (h1 : St k1) (h2 : St k2) : St (K2 k1 k2) := fun v w w' hk ⟨v1, v2, e, a, b⟩ => ⟨v1, v2, e, h1 _ _ _ hk a, h2 _ _ _ hk b⟩
theorem K3.st {k1 k2 k3 : Rg.Know} (h1 : St k1) (h2 : St k2) (h3 : St k3) : St (K3 k1 k2 k3) := fun v w w' hk ⟨v1, v2, v3, e, a, b, c⟩ => ⟨v1, v2, v3, e, h1 _ _ _ hk a, h2 _ _ _ hk b, h3 _ _ _ hk c⟩
theorem KI.agg {z : Int} {m : Bool} {A : Option Addr} {l c : Nat} {w : World} (h : KI z (.agg #[.bool m, .slice A l c]) w) : RI w m A l c z := by
  obtain ⟨m', A', l', c', e, h⟩ := h
  simp only [Value.agg.injEq, Array.mk.injEq, List.cons.injEq, Value.bool.injEq, Value.slice.injEq, and_true] at e
  obtain ⟨rfl, rfl, rfl, rfl⟩ := e
  exact h
theorem KJ.agg {z : Int} {m : Bool} {A : Option Addr} {l c : Nat} {w : World} (h : KJ z (.agg #[.bool m, .slice A l c]) w) : RJ w m A l c z := by
  obtain ⟨m', A', l', c', e, h⟩ := h
  simp only [Value.agg.injEq, Array.mk.injEq, List.cons.injEq, Value.bool.injEq, Value.slice.injEq, and_true] at e
  obtain ⟨rfl, rfl, rfl, rfl⟩ := e
  exact h
theorem KL.slice {k : IntKind} {p : List Int → Prop} {A : Option Addr} {l c : Nat} {w : World} (h : KL k p (.slice A l c) w) : ∃ zs, l = zs.length ∧ l ≤ c ∧ Rd w k A zs ∧ p zs := by
  obtain ⟨zs, A', c', e, h1, h2, h3⟩ := h
  simp only [Value.slice.injEq] at e
  obtain ⟨rfl, rfl, rfl⟩ := e
  exact ⟨zs, rfl, h1, h2, h3⟩

/-- Nothing that was there has turned. -/
def Nw (w W : World) : Prop := Below w.heap.size w W
theorem Nw.refl (w : World) : Nw w w := Below.refl _ _
theorem Nw.size {w W : World} (h : Nw w W) : w.heap.size ≤ W.heap.size := Below.size h
theorem Nw.alloc {w W : World} (h : Nw w W) (o : Obj) : Nw w (W.alloc o) := Below.alloc h h.size o
theorem Nw.drew {w W : World} (h : Nw w W) : Nw w W.drew := Below.drew h
theorem Nw.drewN {w W : World} (h : Nw w W) (n : Nat) : Nw w (W.drewN n) := ⟨h.os, h.tape, h.output, show w.heap.size ≤ W.heap.size from Below.size h, h.block⟩
theorem Nw.set {w W : World} (h : Nw w W) {a : Addr} (ha : w.heap.size ≤ a.block) (v : Value) : Nw w (W.setCell a v) := Below.setCell h ha v
theorem Nw.trans {w W W' : World} (h : Nw w W) (k : Nw W W') : Nw w W' := Below.trans h (Below.mono k h.size)
theorem Nw.below {w W W' : World} (h : Nw w W) (k : Below W.heap.size W W') : Nw w W' := h.trans k
theorem Nw.kept {w W : World} (h : Nw w W) : IntK w W := IntK.of_below h
theorem Nw.rr {w W W' : World} {r n : Nat} (h : Nw w W) (k : Rr r n W W') (hr : w.heap.size ≤ r) : Nw w W' := Below.trans h (Below.mono k.1 hr)
/-- What a call hands back, nothing that was there having turned. -/
def Ret (w : World) (k : Rg.Know) (e : Ending) (w' : World) : Prop := ∃ v, e = .returned v ∧ k v w' ∧ Nw w w'
theorem Ret.I {w w' : World} {z : Int} {m : Bool} {A : Option Addr} {l c : Nat} (h : RI w' m A l c z) (hb : Nw w w') : Ret w (KI z) (.returned (.agg #[.bool m, .slice A l c])) w' := ⟨_, rfl, ⟨m, A, l, c, rfl, h⟩, hb⟩
theorem Ret.J {w w' : World} {z : Int} {m : Bool} {A : Option Addr} {l c : Nat} (h : RJ w' m A l c z) (hb : Nw w w') : Ret w (KJ z) (.returned (.agg #[.bool m, .slice A l c])) w' := ⟨_, rfl, ⟨m, A, l, c, rfl, h⟩, hb⟩
theorem Ret.V {w w' : World} {x : Value} (hb : Nw w w') : Ret w (KV x) (.returned x) w' := ⟨_, rfl, rfl, hb⟩
theorem Ret.Veq {w w' : World} {x y : Value} (h : y = x) (hb : Nw w w') : Ret w (KV x) (.returned y) w' := ⟨_, rfl, h, hb⟩
theorem Ret.L {w w' : World} {k : IntKind} {p : List Int → Prop} {zs : List Int} {A : Option Addr} {c : Nat} (h : Rd w' k A zs) (hc : zs.length ≤ c) (hp : p zs) (hb : Nw w w') : Ret w (KL k p) (.returned (.slice A zs.length c)) w' := ⟨_, rfl, ⟨zs, A, c, rfl, hc, h, hp⟩, hb⟩
theorem ret_eq {P : Program} {f : FuncId} {args : Array Value} {w : World} {k k' : Rg.Know} (h : Calls P f args w (Ret w k)) (e : k = k') : Calls P f args w (Ret w k') := e ▸ h
/-- A call within a statement. -/
theorem call_inr {P : Program} {f : FuncId} {args : Array Value} {W : World} {k : Rg.Know} {r n : Nat} (h : Calls P f args W (Ret W k)) (hr : r ≤ W.heap.size) : Calls P f args W (fun e w'' => ∃ v, e = .returned v ∧ Rr r n W w'' ∧ k v w'') :=
  h.mono fun e w'' ⟨v, he, hk, hb⟩ => ⟨v, he, Rr.call hr hb, hk⟩

/-- Facts on old blocks, kept. -/
theorem Rr.cell {r n : Nat} {W W' : World} (h : Rr r n W W') {b o : Nat} {v : Value} (hb : b < r) (hc : W.cell? ⟨b, o, none⟩ = some v) : W'.cell? ⟨b, o, none⟩ = some v := by
  rw [h.1.cell (p := ⟨b, o, none⟩) hb]; exact hc
theorem store_two {r : Nat} {W : World} {m : Bool} {D : Option Addr} {l c : Nat} (hb : Box r 2 W) :
    ∃ W', (W.setCell ⟨r, 0, none⟩ (.bool m)).setCell ⟨r, 1, none⟩ (.slice D l c) = W' ∧ Rr r 2 W W' ∧ W'.cell? ⟨r, 0, none⟩ = some (.bool m) ∧ W'.cell? ⟨r, 1, none⟩ = some (.slice D l c) := by
  obtain ⟨⟨v0, hv0, hn0⟩, hf0⟩ := hb 0 (by omega)
  obtain ⟨⟨v1, hv1, hn1⟩, hf1⟩ := hb 1 (by omega)
  have h1 : (W.setCell ⟨r, 0, none⟩ (.bool m)).cell? ⟨r, 1, none⟩ = some v1 := by rw [World.cell?_setCell_other (h := by simp)]; exact hv1
  have k1 : IntK W (W.setCell ⟨r, 0, none⟩ (.bool m)) := (IntK.refl W).set hv0 hn0
  have k2 := k1.set (v := .slice D l c) h1 hn1
  have c0 : ((W.setCell ⟨r, 0, none⟩ (.bool m)).setCell ⟨r, 1, none⟩ (.slice D l c)).cell? ⟨r, 0, none⟩ = some (.bool m) := by
    rw [World.cell?_setCell_other (h := by simp)]; exact World.cell?_setCell_same _ _ _ hv0
  have c1 : ((W.setCell ⟨r, 0, none⟩ (.bool m)).setCell ⟨r, 1, none⟩ (.slice D l c)).cell? ⟨r, 1, none⟩ = some (.slice D l c) := World.cell?_setCell_same _ _ _ h1
  refine ⟨_, rfl, ⟨((Below.refl r W).setCell (p := ⟨r, 0, none⟩) (Nat.le_refl _) _).setCell (p := ⟨r, 1, none⟩) (Nat.le_refl _) _, k2, by simp [World.setCell], fun _ o ho => ?_⟩, c0, c1⟩
  match o, ho with
  | 0, _ => exact ⟨⟨_, c0, by simp⟩, by simpa [World.frozen?_setCell] using hf0⟩
  | 1, _ => exact ⟨⟨_, c1, by simp⟩, by simpa [World.frozen?_setCell] using hf1⟩
theorem store_I {r : Nat} {W : World} {m : Bool} {D : Option Addr} {l c : Nat} {z : Int} (hb : Box r 2 W) (hi : RI W m D l c z) :
    Rr r 2 W ((W.setCell ⟨r, 0, none⟩ (.bool m)).setCell ⟨r, 1, none⟩ (.slice D l c)) ∧ KB r z undef ((W.setCell ⟨r, 0, none⟩ (.bool m)).setCell ⟨r, 1, none⟩ (.slice D l c)) := by
  obtain ⟨W', e, h1, h2, h3⟩ := store_two (m := m) (D := D) (l := l) (c := c) hb
  rw [e]
  exact ⟨h1, m, D, l, c, h2, h3, hi.kept h1.2.1⟩
theorem store_J {r : Nat} {W : World} {m : Bool} {D : Option Addr} {l c : Nat} {z : Int} (hb : Box r 2 W) (hi : RJ W m D l c z) :
    Rr r 2 W ((W.setCell ⟨r, 0, none⟩ (.bool m)).setCell ⟨r, 1, none⟩ (.slice D l c)) ∧ KBJ r z undef ((W.setCell ⟨r, 0, none⟩ (.bool m)).setCell ⟨r, 1, none⟩ (.slice D l c)) := by
  obtain ⟨W', e, h1, h2, h3⟩ := store_two (m := m) (D := D) (l := l) (c := c) hb
  rw [e]
  exact ⟨h1, m, D, l, c, h2, h3, hi.kept h1.2.1⟩

/-! ### A statement with calls: the cells that it reads lie below the block r, where its result goes -/
def Has : List (Nat × Nat × Value) → World → Prop
  | [], _ => True
  | (b, o, v) :: cs, W => W.cell? ⟨b, o, none⟩ = some v ∧ Has cs W
def Low (r : Nat) : List (Nat × Nat × Value) → Prop
  | [] => True
  | (b, _, _) :: cs => b < r ∧ Low r cs
theorem Has.kept {r n : Nat} {W W' : World} (h : Rr r n W W') : ∀ {cs : List (Nat × Nat × Value)}, Low r cs → Has cs W → Has cs W'
  | [], _, _ => trivial
  | (b, o, v) :: cs, hl, hc => ⟨h.cell hl.1 hc.1, Has.kept h hl.2 hc.2⟩
theorem Has.nw {W W' : World} (h : Nw W W') : ∀ {cs : List (Nat × Nat × Value)}, Has cs W → Has cs W'
  | [], _ => trivial
  | (b, o, v) :: cs, hc => ⟨by rw [Below.cell (p := ⟨b, o, none⟩) h (World.block_lt_of_cell? W ⟨b, o, none⟩ hc.1)]; exact hc.1, Has.nw h hc.2⟩
def Sg (cs : List (Nat × Nat × Value)) (r n : Nat) (W : World) : Prop := Has cs W ∧ Box r n W ∧ r ≤ W.heap.size
theorem Sg.nw {cs : List (Nat × Nat × Value)} {r n : Nat} {W W' : World} (h : Sg cs r n W) (k : Nw W W') : Sg cs r n W' := ⟨h.1.nw k, h.2.1.below k, Nat.le_trans h.2.2 k.size⟩
/-- A new box of a sign and a slice. -/
theorem box_two (w : World) (t : TypeId) (b : Bool) (A : Option Addr) (l c : Nat) : Box w.heap.size 2 (w.alloc (.cells #[.bool b, .slice A l c] t)) := by
  intro o ho
  match o, ho with
  | 0, _ => exact ⟨⟨.bool b, by rw [World.cell?_alloc_at _ _ _ _ rfl]; rfl, by simp⟩, World.frozen?_alloc_at _ _ _ _ rfl⟩
  | 1, _ => exact ⟨⟨.slice A l c, by rw [World.cell?_alloc_at _ _ _ _ rfl]; rfl, by simp⟩, World.frozen?_alloc_at _ _ _ _ rfl⟩
def kn : List (Nat × Rg.Know) → Nat → Option Rg.Know
  | [], _ => none
  | (j, k) :: L, i => match Nat.beq i j with
    | true => some k
    | false => kn L i
def StL (tl : Nat) : List (Nat × Rg.Know) → Prop
  | [] => True
  | (j, k) :: L => (j = tl ∨ St k) ∧ StL tl L
theorem StL.spec {tl : Nat} : ∀ {L : List (Nat × Rg.Know)}, StL tl L → ∀ i k, kn L i = some k → i ≠ tl → St k
  | [], _, i, k, h, _ => by cases h
  | (j, k') :: L, hs, i, k, h, hne => by
    unfold kn at h
    split at h
    · rename_i e
      injection h with h
      subst h
      rcases hs.1 with h1 | h1
      · exact absurd ((Nat.eq_of_beq_eq_true e).trans h1) hne
      · exact h1
    · exact StL.spec hs.2 i k h hne
theorem box_zero (r : Nat) (W : World) : Box r 0 W := fun o ho => absurd ho (by omega)
theorem region_std {P : Program} {id : Nat} {Q : Exit → Act → World → Prop} {a : Act} {w : World} {l : List Oper} (cs : List (Nat × Nat × Value)) (r n tl : Nat) (L : List (Nat × Rg.Know))
    (hm : P.follows .mixedOrders = true) (hB : Region.lexB .any l.toArray = true) (hJ : Rg.jOkB l.toArray (Rg.ancs l.toArray) = true) (ht : Rg.tlB l.toArray tl = true) (hlow : Low r cs) (hst : StL tl L) (h0 : Sg cs r n w.drew)
    (h : Rg.wpK P l.toArray (Rr r n) (Sg cs r n) w.drew (Rg.jOf (Rg.ancs l.toArray)) (kn L) (fun a' F => ∀ w', Rr r n w.drew w' → Sg cs r n w' → (∀ k, F k w') → Q .normal a' w') 0 l a Rg.noFacts) : (Code.region id l.toArray true).wp P Q a w :=
  Rg.wp_region_know (Sg cs r n) (Rr r n) (Rg.ancs l.toArray) tl (kn L) hm hB hJ ht
    ⟨Rr.refl r n, fun _ _ _ => Rr.trans, fun W W' hR hS => ⟨hS.1.kept hR hlow, hR.2.2.2 hS.2.1, by have := hR.2.2.1; have := hS.2.2; omega⟩, fun i k hk hne v W W' hR hv => StL.spec hst i k hk hne v W W' hR.2.1 hv⟩ h0 h

theorem add_at (g j : Nat) : (⟨g, 0, none⟩ : Addr).add j = ⟨g, j, none⟩ := by unfold Addr.add; split <;> simp_all
theorem Rd.new1 (w : World) (k : IntKind) (e : TypeId) (a : Int) : Rd (w.alloc (.cells #[.int k a] e)) k (some ⟨w.heap.size, 0, none⟩) [a] := by
  refine ⟨by simp, fun i hi => ⟨_, rfl, ?_⟩⟩
  match i, hi with
  | 0, _ => rw [add_at, World.cell?_alloc_at _ _ _ _ rfl]; rfl
theorem Rd.new2 (w : World) (k : IntKind) (e : TypeId) (a b : Int) : Rd (w.alloc (.cells #[.int k a, .int k b] e)) k (some ⟨w.heap.size, 0, none⟩) [a, b] := by
  refine ⟨by simp, fun i hi => ⟨_, rfl, ?_⟩⟩
  match i, hi with
  | 0, _ => rw [add_at, World.cell?_alloc_at _ _ _ _ rfl]; rfl
  | 1, _ => rw [add_at, World.cell?_alloc_at _ _ _ _ rfl]; rfl
/-! ### Slices of numbers of the call's own -/
def Own (w : World) (base : Nat) (e : TypeId) (k : IntKind) (v : Value) (xs : List Int) : Prop := w.ownsRow base e 1 v xs.length (xs.map (Value.int k))
theorem Own.nil (w : World) (base : Nat) (e : TypeId) (k : IntKind) : Own w base e k (.slice none 0 0) [] := World.ownsRow_nil w base e 1
theorem Own.rd {w : World} {base : Nat} {e : TypeId} {k : IntKind} {v : Value} {xs : List Int} (h : Own w base e k v xs) : ∃ A c, v = .slice A xs.length c ∧ xs.length ≤ c ∧ Rd w k A xs := by
  rcases h.2 with ⟨hv, h0⟩ | ⟨g, cap, cur, hv, hb, hg, hc, hm, _, _⟩
  · have : xs = [] := List.eq_nil_of_length_eq_zero h0
    subst this
    exact ⟨none, 0, hv, by simp, Rd.nil _ _ _⟩
  · refine ⟨some ⟨g, 0, none⟩, cap, hv, hc, by unfold maxLen at hm; omega, fun i hi => ⟨⟨g, 0, none⟩, rfl, ?_⟩⟩
    refine h.cells (by rw [hv]; rfl) i _ ?_
    rw [List.getElem?_map, List.getElem?_eq_getElem hi, at0_of_lt hi]
    rfl
theorem Own.kept {w w' : World} {base : Nat} {e : TypeId} {k : IntKind} {v : Value} {xs : List Int} (h : Own w base e k v xs) (hb : Below w.heap.size w w') : Own w' base e k v xs :=
  World.ownsRow.kept h (row := none) ⟨hb.os, hb.tape, hb.output, hb.size, fun i hi _ => hb.block i hi⟩ (by cases v.ownBlock <;> simp)
theorem Own.base {w : World} {base : Nat} {e : TypeId} {k : IntKind} {v : Value} {xs : List Int} (h : Own w base e k v xs) : ∀ g, v.ownBlock = some g → base ≤ g := fun g hg => (World.ownsRow.lt h g hg).1
/-- Behind an append to a slice of the call's own. -/
theorem Nw.grown {w W w1 : World} {e : TypeId} {k : IntKind} {v : Value} {xs : List Int} (h : Nw w W) (o : Obj) (ho : Own W w.heap.size e k v xs) (hg : (W.alloc o).grownBy w1 v.ownBlock) : Nw w w1 :=
  Below.grown (h.alloc o) hg (h.alloc o).size ho.base
theorem Ret.own {w w' : World} {base : Nat} {e : TypeId} {k : IntKind} {v : Value} {zs : List Int} {p : List Int → Prop} (h : Own w' base e k v zs) (hp : p zs) (hb : Nw w w') : Ret w (KL k p) (.returned v) w' := by
  obtain ⟨A, c, rfl, h1, h2⟩ := h.rd
  exact Ret.L h2 h1 hp hb
theorem Own.cast {w : World} {base : Nat} {e : TypeId} {k : IntKind} {v : Value} {n : Nat} {vs : List Value} {xs : List Int} (h : w.ownsRow base e 1 v n vs) (h1 : n = xs.length) (h2 : vs = xs.map (Value.int k)) : Own w base e k v xs := by
  subst h1 h2; exact h

end Go.Proofs.Ytcgkgcciogibkaa
