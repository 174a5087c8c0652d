/- Statements with calls that store two results. -/
import Derived.Test.YtcgkgcciogibkaaB4
set_option linter.unusedVariables false
set_option linter.unusedSimpArgs false
namespace Go.Proofs.Ytcgkgcciogibkaa
open Go.RowKit Ma

/-- What may turn while a statement with two results runs: the boxes r and s alone. -/
def R2 (r s : Nat) (kr ks : World → Prop) (W W' : World) : Prop := Below r W W' ∧ IntK W W' ∧ W.heap.size ≤ W'.heap.size ∧ (Box r 2 W → Box r 2 W') ∧ (Box s 2 W → Box s 2 W') ∧ (kr W → kr W') ∧ (ks W → ks W')
theorem R2.refl (r s : Nat) (kr ks : World → Prop) (W : World) : R2 r s kr ks W W := ⟨Below.refl _ _, IntK.refl _, Nat.le_refl _, id, id, id, id⟩
theorem R2.trans {r s : Nat} {kr ks : World → Prop} {a b c : World} (h : R2 r s kr ks a b) (k : R2 r s kr ks b c) : R2 r s kr ks a c :=
  ⟨h.1.trans k.1, h.2.1.trans k.2.1, Nat.le_trans h.2.2.1 k.2.2.1, fun x => k.2.2.2.1 (h.2.2.2.1 x), fun x => k.2.2.2.2.1 (h.2.2.2.2.1 x), fun x => k.2.2.2.2.2.1 (h.2.2.2.2.2.1 x), fun x => k.2.2.2.2.2.2 (h.2.2.2.2.2.2 x)⟩
def NwSt (p : World → Prop) : Prop := ∀ W W', Nw W W' → p W → p W'
theorem KB.nwst (r : Nat) (z : Int) : NwSt (KB r z undef) := fun W W' h ⟨m, A, l, c, h0, h1, hi⟩ =>
  ⟨m, A, l, c, by rw [Below.cell (p := ⟨r, 0, none⟩) h (World.block_lt_of_cell? W ⟨r, 0, none⟩ h0)]; exact h0, by rw [Below.cell (p := ⟨r, 1, none⟩) h (World.block_lt_of_cell? W ⟨r, 1, none⟩ h1)]; exact h1, hi.kept h.kept⟩
theorem KBJ.nwst (r : Nat) (z : Int) : NwSt (KBJ r z undef) := fun W W' h ⟨m, A, l, c, h0, h1, hi⟩ =>
  ⟨m, A, l, c, by rw [Below.cell (p := ⟨r, 0, none⟩) h (World.block_lt_of_cell? W ⟨r, 0, none⟩ h0)]; exact h0, by rw [Below.cell (p := ⟨r, 1, none⟩) h (World.block_lt_of_cell? W ⟨r, 1, none⟩ h1)]; exact h1, hi.kept h.kept⟩
theorem R2.nw {r s : Nat} {kr ks : World → Prop} {W W' : World} (hr : r ≤ W.heap.size) (k1 : NwSt kr) (k2 : NwSt ks) (h : Nw W W') : R2 r s kr ks W W' :=
  ⟨Below.mono h hr, h.kept, h.size, fun x => x.below h, fun x => x.below h, k1 _ _ h, k2 _ _ h⟩
theorem Nw.r2 {w W W' : World} {r s : Nat} {kr ks : World → Prop} (h : Nw w W) (k : R2 r s kr ks W W') (hr : w.heap.size ≤ r) : Nw w W' := Below.trans h (Below.mono k.1 hr)
theorem call_r2 {P : Program} {f : FuncId} {args : Array Value} {W : World} {k : Rg.Know} {r s : Nat} {kr ks : World → Prop} (k1 : NwSt kr) (k2 : NwSt ks) (h : Calls P f args W (Ret W k)) (hr : r ≤ W.heap.size) :
    Calls P f args W (fun e w'' => ∃ v, e = .returned v ∧ R2 r s kr ks W w'' ∧ k v w'') :=
  h.mono fun e w'' ⟨v, he, hk, hb⟩ => ⟨v, he, R2.nw hr k1 k2 hb, hk⟩
theorem two_off {b t : Nat} {W : World} {u v : Value} (h : t ≠ b) (o : Nat) : ((W.setCell ⟨b, 0, none⟩ u).setCell ⟨b, 1, none⟩ v).cell? ⟨t, o, none⟩ = W.cell? ⟨t, o, none⟩ ∧ ((W.setCell ⟨b, 0, none⟩ u).setCell ⟨b, 1, none⟩ v).frozen? ⟨t, o, none⟩ = W.frozen? ⟨t, o, none⟩ := by
  refine ⟨?_, by simp [World.frozen?_setCell]⟩
  rw [World.cell?_setCell_other (h := by simp <;> omega), World.cell?_setCell_other (h := by simp <;> omega)]
theorem Box.off {b t : Nat} {W : World} {u v : Value} (h : t ≠ b) (hb : Box t 2 W) : Box t 2 ((W.setCell ⟨b, 0, none⟩ u).setCell ⟨b, 1, none⟩ v) := fun o ho => by
  obtain ⟨⟨x, hx, hn⟩, hf⟩ := hb o ho
  obtain ⟨e1, e2⟩ := two_off (W := W) (u := u) (v := v) h o
  exact ⟨⟨x, by rw [e1]; exact hx, hn⟩, by rw [e2]; exact hf⟩
theorem KB.off {b t : Nat} {W : World} {u v : Value} {z : Int} (h : t ≠ b) (hk : IntK W ((W.setCell ⟨b, 0, none⟩ u).setCell ⟨b, 1, none⟩ v)) (hb : KB t z undef W) : KB t z undef ((W.setCell ⟨b, 0, none⟩ u).setCell ⟨b, 1, none⟩ v) := by
  obtain ⟨m, A, l, c, h0, h1, hi⟩ := hb
  exact ⟨m, A, l, c, by rw [(two_off h 0).1]; exact h0, by rw [(two_off h 1).1]; exact h1, hi.kept hk⟩
theorem KBJ.off {b t : Nat} {W : World} {u v : Value} {z : Int} (h : t ≠ b) (hk : IntK W ((W.setCell ⟨b, 0, none⟩ u).setCell ⟨b, 1, none⟩ v)) (hb : KBJ t z undef W) : KBJ t z undef ((W.setCell ⟨b, 0, none⟩ u).setCell ⟨b, 1, none⟩ v) := by
  obtain ⟨m, A, l, c, h0, h1, hi⟩ := hb
  exact ⟨m, A, l, c, by rw [(two_off h 0).1]; exact h0, by rw [(two_off h 1).1]; exact h1, hi.kept hk⟩
/-- The two stores. -/
theorem store_I1 {r s : Nat} {W : World} {m : Bool} {D : Option Addr} {l c : Nat} {z z' : Int} (hrs : r < s) (hb : Box r 2 W) (hi : RI W m D l c z) :
    R2 r s (KB r z undef) (KB s z' undef) W ((W.setCell ⟨r, 0, none⟩ (.bool m)).setCell ⟨r, 1, none⟩ (.slice D l c)) ∧ KB r z undef ((W.setCell ⟨r, 0, none⟩ (.bool m)).setCell ⟨r, 1, none⟩ (.slice D l c)) := by
  obtain ⟨⟨h1, h2, h3, h4⟩, h5⟩ := store_I hb hi
  exact ⟨⟨h1, h2, h3, h4, fun x => x.off (by omega), fun _ => h5, fun x => KB.off (by omega) h2 x⟩, h5⟩
theorem store_I2 {r s : Nat} {W : World} {m : Bool} {D : Option Addr} {l c : Nat} {z z' : Int} (hrs : r < s) (hb : Box s 2 W) (hi : RI W m D l c z') :
    R2 r s (KB r z undef) (KB s z' undef) W ((W.setCell ⟨s, 0, none⟩ (.bool m)).setCell ⟨s, 1, none⟩ (.slice D l c)) ∧ KB s z' undef ((W.setCell ⟨s, 0, none⟩ (.bool m)).setCell ⟨s, 1, none⟩ (.slice D l c)) := by
  obtain ⟨⟨h1, h2, h3, h4⟩, h5⟩ := store_I hb hi
  exact ⟨⟨h1.mono (by omega), h2, h3, fun x => x.off (by omega), h4, fun x => KB.off (by omega) h2 x, fun _ => h5⟩, h5⟩
theorem store_J1 {r s : Nat} {W : World} {m : Bool} {D : Option Addr} {l c : Nat} {z z' : Int} (hrs : r < s) (hb : Box r 2 W) (hi : RJ W m D l c z) :
    R2 r s (KBJ r z undef) (KBJ s z' undef) W ((W.setCell ⟨r, 0, none⟩ (.bool m)).setCell ⟨r, 1, none⟩ (.slice D l c)) ∧ KBJ r z undef ((W.setCell ⟨r, 0, none⟩ (.bool m)).setCell ⟨r, 1, none⟩ (.slice D l c)) := by
  obtain ⟨⟨h1, h2, h3, h4⟩, h5⟩ := store_J hb hi
  exact ⟨⟨h1, h2, h3, h4, fun x => x.off (by omega), fun _ => h5, fun x => KBJ.off (by omega) h2 x⟩, h5⟩
theorem store_J2 {r s : Nat} {W : World} {m : Bool} {D : Option Addr} {l c : Nat} {z z' : Int} (hrs : r < s) (hb : Box s 2 W) (hi : RJ W m D l c z') :
    R2 r s (KBJ r z undef) (KBJ s z' undef) W ((W.setCell ⟨s, 0, none⟩ (.bool m)).setCell ⟨s, 1, none⟩ (.slice D l c)) ∧ KBJ s z' undef ((W.setCell ⟨s, 0, none⟩ (.bool m)).setCell ⟨s, 1, none⟩ (.slice D l c)) := by
  obtain ⟨⟨h1, h2, h3, h4⟩, h5⟩ := store_J hb hi
  exact ⟨⟨h1.mono (by omega), h2, h3, fun x => x.off (by omega), h4, fun x => KBJ.off (by omega) h2 x, fun _ => h5⟩, h5⟩
def Sg2 (cs : List (Nat × Nat × Value)) (r s : Nat) (W : World) : Prop := Has cs W ∧ Box r 2 W ∧ Box s 2 W ∧ r ≤ W.heap.size
theorem Sg2.nw {cs : List (Nat × Nat × Value)} {r s : Nat} {W W' : World} (h : Sg2 cs r s W) (k : Nw W W') : Sg2 cs r s W' := ⟨h.1.nw k, h.2.1.below k, h.2.2.1.below k, Nat.le_trans h.2.2.2 k.size⟩
/-- What stays. -/
def St2 (r s : Nat) (kr ks : World → Prop) (k : Rg.Know) : Prop := ∀ v W W', R2 r s kr ks W W' → k v W → k v W'
theorem St2.st {r s : Nat} {kr ks : World → Prop} {k : Rg.Know} (h : St k) : St2 r s kr ks k := fun v W W' hR hk => h v W W' hR.2.1 hk
theorem St2.r {r s : Nat} {kr ks : World → Prop} : St2 r s kr ks (fun _ W => kr W) := fun v W W' hR hk => hR.2.2.2.2.2.1 hk
theorem St2.s {r s : Nat} {kr ks : World → Prop} : St2 r s kr ks (fun _ W => ks W) := fun v W W' hR hk => hR.2.2.2.2.2.2 hk
def StL2 (r s : Nat) (kr ks : World → Prop) : List (Nat × Rg.Know) → Prop
  | [] => True
  | (_, k) :: L => St2 r s kr ks k ∧ StL2 r s kr ks L
theorem StL2.spec {r s : Nat} {kr ks : World → Prop} : ∀ {L : List (Nat × Rg.Know)}, StL2 r s kr ks L → ∀ i k, kn L i = some k → St2 r s kr ks k
  | [], _, i, k, h => by cases h
  | (j, k') :: L, hs, i, k, h => by
    unfold kn at h
    split at h
    · injection h with h; subst h; exact hs.1
    · exact StL2.spec hs.2 i k h
theorem Has.kept2 {r s : Nat} {kr ks : World → Prop} {W W' : World} (h : R2 r s kr ks W W') : ∀ {cs : List (Nat × Nat × Value)}, Low r cs → Has cs W → Has cs W'
  | [], _, _ => trivial
  | (b, o, v) :: cs, hl, hc => ⟨by rw [h.1.cell (p := ⟨b, o, none⟩) hl.1]; exact hc.1, Has.kept2 h hl.2 hc.2⟩
theorem region_two {P : Program} {id : Nat} {Q : Exit → Act → World → Prop} {a : Act} {w : World} {l : List Oper} (cs : List (Nat × Nat × Value)) (r s tl : Nat) (kr ks : World → Prop) (L : List (Nat × Rg.Know))
    (hm : P.follows .mixedOrders = true) (hB : Region.lexB .any l.toArray = true) (hJ : Rg.jOkB l.toArray (Rg.ancs l.toArray) = true) (ht : Rg.tlB l.toArray tl = true) (hlow : Low r cs) (hst : StL2 r s kr ks L) (h0 : Sg2 cs r s w.drew)
    (h : Rg.wpK P l.toArray (R2 r s kr ks) (Sg2 cs r s) w.drew (Rg.jOf (Rg.ancs l.toArray)) (kn L) (fun a' F => ∀ w', R2 r s kr ks w.drew w' → Sg2 cs r s w' → (∀ k, F k w') → Q .normal a' w') 0 l a Rg.noFacts) : (Code.region id l.toArray true).wp P Q a w :=
  Rg.wp_region_know (Sg2 cs r s) (R2 r s kr ks) (Rg.ancs l.toArray) tl (kn L) hm hB hJ ht
    ⟨R2.refl r s kr ks, fun _ _ _ => R2.trans, fun W W' hR hS => ⟨hS.1.kept2 hR hlow, hR.2.2.2.1 hS.2.1, hR.2.2.2.2.1 hS.2.2.1, by have := hR.2.2.1; have := hS.2.2.2; omega⟩, fun i k hk hne v W W' hR hv => StL2.spec hst i k hk v W W' hR hv⟩ h0 h
/-! ### A statement with calls and no store -/
theorem Nw.c {W W' : World} (h : Nw W W') {a : Addr} {v : Value} (hc : W.cell? a = some v) : W'.cell? a = some v := (h.cell (World.block_lt_of_cell? W a hc)).trans hc
def SN (k : Rg.Know) : Prop := ∀ v W W', Nw W W' → k v W → k v W'
theorem SN.st {k : Rg.Know} (h : St k) : SN k := fun v W W' hn hk => h v W W' hn.kept hk
theorem KO.sn {base : Nat} {e : TypeId} {k : IntKind} {p : List Int → Prop} : SN (KO base e k p) := fun v W W' hn ⟨zs, g, c, e1, ho, hp⟩ => ⟨zs, g, c, e1, ho.kept hn, hp⟩
theorem KO.slice {base : Nat} {e : TypeId} {k : IntKind} {p : List Int → Prop} {A : Option Addr} {l c : Nat} {W : World} (h : KO base e k p (.slice A l c) W) : ∃ zs, l = zs.length ∧ Own W base e k (.slice A l c) zs ∧ p zs := by
  obtain ⟨zs, g, c', e1, ho, hp⟩ := h
  simp only [Value.slice.injEq] at e1
  obtain ⟨rfl, rfl, rfl⟩ := e1
  exact ⟨zs, rfl, ho, hp⟩
def StN : List (Nat × Rg.Know) → Prop
  | [] => True
  | (_, k) :: L => SN k ∧ StN L
theorem StN.spec : ∀ {L : List (Nat × Rg.Know)}, StN L → ∀ i k, kn L i = some k → SN k
  | [], _, i, k, h => by cases h
  | (j, k') :: L, hs, i, k, h => by
    unfold kn at h
    split at h
    · injection h with h; subst h; exact hs.1
    · exact StN.spec hs.2 i k h
theorem call_nw {P : Program} {f : FuncId} {args : Array Value} {W : World} {k : Rg.Know} (h : Calls P f args W (Ret W k)) : Calls P f args W (fun e w'' => ∃ v, e = .returned v ∧ Nw W w'' ∧ k v w'') :=
  h.mono fun e w'' ⟨v, he, hk, hb⟩ => ⟨v, he, hb, hk⟩
theorem region_nw {P : Program} {id : Nat} {Q : Exit → Act → World → Prop} {a : Act} {w : World} {l : List Oper} (L : List (Nat × Rg.Know))
    (hm : P.follows .mixedOrders = true) (hB : Region.lexB .any l.toArray = true) (hJ : Rg.jOkB l.toArray (Rg.ancs l.toArray) = true) (ht : Rg.tlB l.toArray 1000 = true) (hst : StN L)
    (h : Rg.wpK P l.toArray Nw (Nw w) w.drew (Rg.jOf (Rg.ancs l.toArray)) (kn L) (fun a' F => ∀ w', Nw w.drew w' → Nw w w' → (∀ k, F k w') → Q .normal a' w') 0 l a Rg.noFacts) : (Code.region id l.toArray true).wp P Q a w :=
  Rg.wp_region_know (Nw w) Nw (Rg.ancs l.toArray) 1000 (kn L) hm hB hJ ht
    ⟨Nw.refl, fun _ _ _ h k => h.trans k, fun W W' hR hS => hS.trans hR, fun i k hk hne v W W' hR hv => StN.spec hst i k hk v W W' hR hv⟩ ((Nw.refl w).drew) h
end Go.Proofs.Ytcgkgcciogibkaa
