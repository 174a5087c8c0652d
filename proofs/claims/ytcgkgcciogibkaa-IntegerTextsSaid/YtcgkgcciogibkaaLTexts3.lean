/- Parts Sya, Syb, B5, Shelf, B6, Md, B7, B8, B9, Me, Mf, C1, in one file. -/
import Derived.Tactics2
import Derived.Scope
import Derived.Shelf.Small.Bits
import Derived.Shelf.Small.Strs
import Derived.Shelf.Strings.Search1
import Derived.Shelf.Strings.Prefix
import Derived.Shelf.Spec.SlicesGrow
import Derived.Test.YtcgkgcciogibkaaProg
import Derived.OpenShut
import Derived.Test.YtcgkgcciogibkaaLTexts1
import Derived.Test.YtcgkgcciogibkaaLTexts2
/- Words for a walk by rules: what is known of a frame's slots, boxes of the call's own; what the operations of a statement in the order of the text do. -/
set_option linter.unusedVariables false
set_option linter.unusedSimpArgs false
namespace Go.Proofs.Ytcgkgcciogibkaa.Sy
open Go Go.RowKit

abbrev Know := Rg.Know
abbrev ptr (p : Nat) : Value := .pointer (some ⟨p, 0, none⟩)

/-! ### Boxes -/
/-- A kind of boxes: the type; which values it holds, in which cells. -/
structure BT where
  T : TypeId
  sh : Value → List Value → Prop
/-- The box at p holds v. -/
def Holds (b : BT) (p : Nat) (v : Value) (W : World) : Prop := ∃ cs, b.sh v cs ∧ ∀ i x, cs[i]? = some x → W.cell? ⟨p, i, none⟩ = some x ∧ W.frozen? ⟨p, i, none⟩ = false
/-- What turned is the block p alone, and no number. -/
structure Only (p : Nat) (W W' : World) : Prop where
  gr : W.grownBy W' (some p)
  nu : IntK W W'
  sz : W'.heap.size = W.heap.size
structure BT.Ok (b : BT) : Prop where
  ne : ∀ v cs, b.sh v cs → cs ≠ []
  load : ∀ v cs W p, b.sh v cs → (∀ i x, cs[i]? = some x → W.cell? ⟨p, i, none⟩ = some x) → (Instr.loadAt b.T (ptr p)).run Try.prog W = .ok v W
  store : ∀ v v' cs' W p, Holds b p v W → b.sh v' cs' → ∃ W', (Instr.storeAt b.T (ptr p) v').run Try.prog W = .ok () W' ∧ Holds b p v' W' ∧ Only p W W'
  alloc : ∃ o z cs, b.sh z cs ∧ ∀ W, (Instr.alloc b.T true (.tuple #[])).run Try.prog W = .ok (ptr W.heap.size) (W.alloc o) ∧ (∀ i x, cs[i]? = some x → (W.alloc o).cell? ⟨W.heap.size, i, none⟩ = some x ∧ (W.alloc o).frozen? ⟨W.heap.size, i, none⟩ = false)
  box : ∀ v cs, b.sh v cs → ∃ o, ∀ W, (Instr.box b.T v).run Try.prog W = .ok (ptr W.heap.size) (W.alloc o) ∧ (∀ i x, cs[i]? = some x → (W.alloc o).cell? ⟨W.heap.size, i, none⟩ = some x ∧ (W.alloc o).frozen? ⟨W.heap.size, i, none⟩ = false)
theorem Holds.lt {b : BT} (hb : b.Ok) {p : Nat} {v : Value} {W : World} (h : Holds b p v W) : p < W.heap.size := by
  obtain ⟨cs, hs, hc⟩ := h
  cases cs with
  | nil => exact absurd rfl (hb.ne _ _ hs)
  | cons x l => exact World.block_lt_of_cell? W ⟨p, 0, none⟩ (hc 0 x rfl).1
theorem Holds.same {b : BT} {p : Nat} {v : Value} {W W' : World} (h : Holds b p v W) (e : W'.heap[p]? = W.heap[p]?) : Holds b p v W' := by
  obtain ⟨cs, hs, hc⟩ := h
  refine ⟨cs, hs, fun i x hx => ?_⟩
  obtain ⟨a, c⟩ := hc i x hx
  exact ⟨(World.cell?_of_block (a := ⟨p, i, none⟩) e).trans a, (World.frozen?_of_block (a := ⟨p, i, none⟩) e).trans c⟩
theorem Holds.nw {b : BT} (hb : b.Ok) {p : Nat} {v : Value} {W W' : World} (h : Holds b p v W) (k : Nw W W') : Holds b p v W' := h.same (Below.block k p (h.lt hb))
theorem Holds.off {b : BT} (hb : b.Ok) {p q : Nat} {v : Value} {W W' : World} (h : Holds b p v W) (k : Only q W W') (hne : p ≠ q) : Holds b p v W' :=
  h.same (k.gr.block p (h.lt hb) (fun e => hne (by injection e)))

/-! ### Rows of the call's own -/
/-- A row whose values are f of the numbers. -/
def OwF (w : World) (base : Nat) (e : TypeId) (f : Int → Value) (v : Value) (xs : List Int) : Prop := w.ownsRow base e 1 v xs.length (xs.map f)
section
variable {w : World} {b0 : Nat} {e : TypeId} {f : Int → Value} {v : Value} {zs : List Int}
theorem OwF.kept {w' : World} (h : OwF w b0 e f v zs) (hb : Below w.heap.size w w') : OwF w' b0 e f v zs :=
  World.ownsRow.kept h (row := none) ⟨hb.os, hb.tape, hb.output, hb.size, fun i hi _ => hb.block i hi⟩ (by cases v.ownBlock <;> simp)
theorem OwF.off {w' : World} {q : Nat} (h : OwF w b0 e f v zs) (hg : w.grownBy w' (some q)) (hne : v.ownBlock ≠ some q) : OwF w' b0 e f v zs := World.ownsRow.kept h hg (.inr hne)
theorem OwF.base (h : OwF w b0 e f v zs) : ∀ g, v.ownBlock = some g → b0 ≤ g := fun g hg => (World.ownsRow.lt h g hg).1
theorem OwF.len {A : Option Addr} {n c : Nat} (h : OwF w b0 e f (.slice A n c) zs) : n = zs.length := by
  obtain ⟨_, h1 | ⟨g, cap, cur, hv, _⟩⟩ := h
  · obtain ⟨e1, e2⟩ := h1
    injection e1 with _ e1 _
    rw [e1]; exact e2.symm
  · injection hv with _ e1 _
theorem OwF.cellAt {g n c i : Nat} (h : OwF w b0 e f (.slice (some ⟨g, 0, none⟩) n c) zs) (hi : i < zs.length) : w.cell? ⟨g, i, none⟩ = some (f (Ma.at0 zs i)) := by
  have hn := h.len
  subst hn
  rw [World.ownsRow.cellAt h i (by omega), List.getElem?_map, List.getElem?_eq_getElem hi, Ma.at0_of_lt hi]
  rfl
theorem OwF.frozenAt {g n c : Nat} (h : OwF w b0 e f (.slice (some ⟨g, 0, none⟩) n c) zs) (i : Nat) : w.frozen? ⟨g, i, none⟩ = false := by
  have hn := h.len
  subst hn
  exact World.ownsRow.frozenAt h i
theorem OwF.set {g n c : Nat} (h : OwF w b0 e f (.slice (some ⟨g, 0, none⟩) n c) zs) (i : Nat) (x : Int) : OwF (w.setCell ⟨g, i, none⟩ (f x)) b0 e f (.slice (some ⟨g, 0, none⟩) n c) (zs.set i x) := by
  have hn := h.len
  subst hn
  have := World.ownsRow.stored h i (f x)
  unfold OwF
  rw [List.length_set, List.map_set]
  exact this.1
theorem OwF.ge {g n c : Nat} (h : OwF w b0 e f (.slice (some ⟨g, 0, none⟩) n c) zs) : b0 ≤ g := h.base g rfl
theorem OwF.grew {g n c : Nat} (h : OwF w b0 e f (.slice (some ⟨g, 0, none⟩) n c) zs) (i : Nat) (x : Value) : w.grownBy (w.setCell ⟨g, i, none⟩ x) (some g) := by
  have hn := h.len
  subst hn
  exact (World.ownsRow.stored h i x).2
theorem OwF.weaken {b' : Nat} (h : OwF w b0 e f v zs) (hb : b' ≤ b0) : OwF w b' e f v zs :=
  ⟨h.1, h.2.imp id fun ⟨g', cap, cur, h1, h2, h3⟩ => ⟨g', cap, cur, h1, Nat.le_trans hb h2, h3⟩⟩
/-- It is nil, or it has a block. -/
theorem OwF.form (h : OwF w b0 e f v zs) : (v = .slice none 0 0 ∧ zs = []) ∨ ∃ g c, v = .slice (some ⟨g, 0, none⟩) zs.length c ∧ zs.length ≤ c := by
  obtain ⟨_, h1 | ⟨g, cap, cur, hv, hb, hg, hc, hm, _, _⟩⟩ := h
  · exact .inl ⟨h1.1, List.eq_nil_of_length_eq_zero h1.2⟩
  · exact .inr ⟨g, cap, hv, hc⟩
end
/-! ### Frames -/
/-- What is known of a slot: its value; what holds of it; that it points to a box of the call's own (with what in it; with whatever); and, in slots that no operation names, a row of numbers of the call's own; that it is such a row, wherever it lies; that it points to a box, of its own or not, that holds just v. -/
inductive AV
  | vl (v : Value)
  | kw (k : Know)
  | bx (b : BT) (k : Know)
  | nb (b : BT)
  | bp (b : BT) (p : Nat) (k : Know)
  | ro (v : Value) (e : TypeId) (f : Int → Value) (zs : List Int)
  | rx (e : TypeId) (f : Int → Value) (p : List Int → Prop)
  | bc (b : BT) (p : Nat) (v : Value)
def AV.isBx : AV → Bool
  | .vl _ => false
  | .kw _ => false
  | _ => true
def AV.of : AV → Know
  | .vl v => KV v
  | .kw k => k
  | _ => fun _ _ => False
/-- The block of the call's own that is meant. -/
def blk0 : Value → Option Nat
  | .pointer (some ⟨p, 0, none⟩) => some p
  | _ => none
def AV.blk : AV → Value → Option Nat
  | .bx _ _, u => blk0 u
  | .nb _, u => blk0 u
  | .bp _ p _, _ => some p
  | .ro v _ _ _, _ => v.ownBlock
  | .rx _ _ _, u => u.ownBlock
  | .bc _ p _, _ => some p
  | _, _ => none
theorem AV.blk_no {v : AV} (h : v.isBx = false) (u : Value) : v.blk u = none := by cases v <;> first | rfl | cases h
def look : List (Nat × AV) → Nat → Option AV
  | [], _ => none
  | (j, v) :: l, i => match Nat.beq j i with
    | true => some v
    | false => look l i
/-- What is known of a slot's value; B: where the call's own blocks begin. -/
def Ho (B : Nat) : AV → Value → World → Prop
  | .vl v, u, _ => u = v
  | .kw k, u, W => k u W ∧ St k
  | .bx b k, u, W => ∃ p v, u = ptr p ∧ B ≤ p ∧ Holds b p v W ∧ k v W ∧ St k ∧ b.Ok
  | .nb b, u, W => ∃ p v, u = ptr p ∧ B ≤ p ∧ Holds b p v W ∧ b.Ok
  | .bp b p k, u, W => ∃ v, u = ptr p ∧ B ≤ p ∧ Holds b p v W ∧ k v W ∧ St k ∧ b.Ok
  | .ro v e f zs, _, W => OwF W B e f v zs
  | .rx e f p, u, W => ∃ zs, OwF W B e f u zs ∧ p zs
  | .bc b p v, u, W => u = ptr p ∧ Holds b p v W ∧ b.Ok
theorem Ho.of {B : Nat} {v : AV} (hv : v.isBx = false) {u : Value} {W : World} (h : Ho B v u W) : v.of u W ∧ St v.of := by
  cases v with
  | vl v => exact ⟨h, KV.st v⟩
  | kw k => exact h
  | _ => cases hv
theorem Ho.mk {B : Nat} {v : AV} (hv : v.isBx = false) {u : Value} {W : World} (h : v.of u W) (hs : St v.of) : Ho B v u W := by
  cases v with
  | vl v => exact h
  | kw k => exact ⟨h, hs⟩
  | _ => cases hv
theorem Ho.nw {B : Nat} {v : AV} {u : Value} {W W' : World} (h : Ho B v u W) (k : Nw W W') : Ho B v u W' := by
  cases v with
  | vl v => exact h
  | kw kk => exact ⟨h.2 _ _ _ k.kept h.1, h.2⟩
  | bx b kk =>
    obtain ⟨p, x, e, hp, hh, hk, hs, ok⟩ := h
    exact ⟨p, x, e, hp, hh.nw ok k, hs _ _ _ k.kept hk, hs, ok⟩
  | nb b =>
    obtain ⟨p, x, e, hp, hh, ok⟩ := h
    exact ⟨p, x, e, hp, hh.nw ok k, ok⟩
  | bp b p kk =>
    obtain ⟨x, e, hp, hh, hk, hs, ok⟩ := h
    exact ⟨x, e, hp, hh.nw ok k, hs _ _ _ k.kept hk, hs, ok⟩
  | ro v e f zs => exact OwF.kept h k
  | rx e f p => obtain ⟨zs, h1, h2⟩ := h; exact ⟨zs, OwF.kept h1 k, h2⟩
  | bc b p v => obtain ⟨e, hh, ok⟩ := h; exact ⟨e, hh.nw ok k, ok⟩
theorem Ho.off {B : Nat} {v : AV} {u : Value} {W W' : World} {q : Nat} (h : Ho B v u W) (k : Only q W W') (hne : v.blk u ≠ some q) : Ho B v u W' := by
  cases v with
  | vl v => exact h
  | kw kk => exact ⟨h.2 _ _ _ k.nu h.1, h.2⟩
  | bx b kk =>
    obtain ⟨p, x, e, hp, hh, hk, hs, ok⟩ := h
    subst e
    exact ⟨p, x, rfl, hp, hh.off ok k (fun e2 => hne (by rw [e2]; rfl)), hs _ _ _ k.nu hk, hs, ok⟩
  | nb b =>
    obtain ⟨p, x, e, hp, hh, ok⟩ := h
    subst e
    exact ⟨p, x, rfl, hp, hh.off ok k (fun e2 => hne (by rw [e2]; rfl)), ok⟩
  | bp b p kk =>
    obtain ⟨x, e, hp, hh, hk, hs, ok⟩ := h
    exact ⟨x, e, hp, hh.off ok k (fun e2 => hne (by rw [e2]; rfl)), hs _ _ _ k.nu hk, hs, ok⟩
  | ro v e f zs => exact OwF.off h k.gr hne
  | rx e f p => obtain ⟨zs, h1, h2⟩ := h; exact ⟨zs, OwF.off h1 k.gr hne, h2⟩
  | bc b p v => obtain ⟨e, hh, ok⟩ := h; exact ⟨e, hh.off ok k (fun e2 => hne (by rw [e2]; rfl)), ok⟩
/-- Where the block of something that is known lies. -/
theorem Ho.blk {B : Nat} {v : AV} {u : Value} {W : World} {p : Nat} (h : Ho B v u W) (e : v.blk u = some p) : p < W.heap.size := by
  cases v with
  | vl v => cases e
  | kw k => cases e
  | bx b k =>
    obtain ⟨q, x, e2, hp, hh, _, _, ok⟩ := h
    subst e2
    injection e with e
    subst e
    exact hh.lt ok
  | nb b =>
    obtain ⟨q, x, e2, hp, hh, ok⟩ := h
    subst e2
    injection e with e
    subst e
    exact hh.lt ok
  | bp b q k =>
    obtain ⟨x, _, hp, hh, _, _, ok⟩ := h
    injection e with e
    subst e
    exact hh.lt ok
  | ro v e2 f zs => exact (World.ownsRow.lt h p e).2
  | rx e2 f pp => obtain ⟨zs, h1, h2⟩ := h; exact (World.ownsRow.lt h1 p e).2
  | bc b q x =>
    obtain ⟨_, hh, ok⟩ := h
    injection e with e
    subst e
    exact hh.lt ok

/-- A frame of N slots in a call that began in the world w0, whose own blocks begin at B. -/
structure Fr (B N : Nat) (w0 : World) (fr : List (Nat × AV)) (a : Act) (W : World) : Prop where
  df : a.defers = []
  sz : a.tmps.size = N
  be : Below B w0 W
  bs : B ≤ W.heap.size
  ho : ∀ i v, look fr i = some v → Ho B v (a.tmps.getD i undef) W
  di : ∀ i j v v' p, i ≠ j → look fr i = some v → look fr j = some v' → v.blk (a.tmps.getD i undef) = some p → v'.blk (a.tmps.getD j undef) ≠ some p
section
variable {B N : Nat} {w0 : World} {fr : List (Nat × AV)} {a : Act} {W : World}
theorem Fr.nw {W' : World} (h : Fr B N w0 fr a W) (k : Nw W W') : Fr B N w0 fr a W' :=
  ⟨h.df, h.sz, h.be.trans (Below.mono k h.bs), Nat.le_trans h.bs k.size, fun i v hi => (h.ho i v hi).nw k, h.di⟩
theorem getD_put {a : Act} {d i : Nat} {u : Value} (hd : d < a.tmps.size) : (a.put (some d) u).tmps.getD i undef = if d = i then u else a.tmps.getD i undef := by
  show (a.tmps.setIfInBounds d u).getD i undef = _
  simp only [Array.getD_eq_getD_getElem?, Array.getElem?_setIfInBounds]
  by_cases e : d = i
  · subst e; simp [hd]
  · simp [e]
theorem look_cons (j : Nat) (v : AV) (l : List (Nat × AV)) (i : Nat) : look ((j, v) :: l) i = if j = i then some v else look l i := by
  show (match Nat.beq j i with | true => some v | false => look l i) = _
  by_cases e : j = i
  · subst e; simp
  · have : Nat.beq j i = false := by rw [← Bool.not_eq_true]; exact fun h => e (Nat.eq_of_beq_eq_true h)
    rw [this, if_neg e]
/-- A slot is written. -/
theorem Fr.put {d : Nat} {u : Value} {v : AV} (h : Fr B N w0 fr a W) (hd : Nat.blt d N = true) (hu : Ho B v u W) (hn : ∀ i v' p, look fr i = some v' → v.blk u = some p → v'.blk (a.tmps.getD i undef) ≠ some p) : Fr B N w0 ((d, v) :: fr) (a.put (some d) u) W := by
  have hd' : d < a.tmps.size := by rw [h.sz]; simpa [Nat.blt_eq] using hd
  refine ⟨h.df, by show (a.tmps.setIfInBounds d u).size = N; rw [Array.size_setIfInBounds]; exact h.sz, h.be, h.bs, fun i x hi => ?_, fun i j b b' p hij hi hj => ?_⟩
  · rw [look_cons] at hi
    rw [getD_put hd']
    by_cases e : d = i
    · rw [if_pos e] at hi ⊢; injection hi with hi; subst hi; exact hu
    · rw [if_neg e] at hi ⊢; exact h.ho i x hi
  · rw [look_cons] at hi hj
    rw [getD_put hd', getD_put hd']
    by_cases e : d = i
    · rw [if_pos e] at hi ⊢
      injection hi with hi
      subst hi
      have e' : d ≠ j := fun x => hij (e.symm.trans x)
      rw [if_neg e'] at hj ⊢
      intro x
      exact hn j b' p hj x
    · rw [if_neg e] at hi ⊢
      by_cases e' : d = j
      · rw [if_pos e'] at hj ⊢
        injection hj with hj
        subst hj
        intro x y
        exact hn i b p hi y x
      · rw [if_neg e'] at hj ⊢; exact h.di i j b b' p hij hi hj
theorem Fr.set {d : Nat} {u : Value} {v : AV} (h : Fr B N w0 fr a W) (hd : Nat.blt d N = true) (hu : Ho B v u W) (hv : v.isBx = false) : Fr B N w0 ((d, v) :: fr) (a.put (some d) u) W :=
  h.put hd hu fun _ _ p _ e => by rw [AV.blk_no hv] at e; cases e
/-- A fresh box. -/
theorem Fr.fresh {d p : Nat} {v : AV} {W' : World} (h : Fr B N w0 fr a W) (hn : Nw W W') (hd : Nat.blt d N = true) (hp : W.heap.size ≤ p) (hv : v.blk (ptr p) = some p) (hu : Ho B v (ptr p) W') : Fr B N w0 ((d, v) :: fr) (a.put (some d) (ptr p)) W' := by
  refine (h.nw hn).put hd hu fun i v' q hi e e2 => ?_
  rw [hv] at e
  injection e with e
  have := (h.ho i _ hi).blk e2
  omega
/-- Something more is known; nothing is written. -/
theorem Fr.more {i : Nat} {v : AV} (h : Fr B N w0 fr a W) (hu : Ho B v (a.tmps.getD i undef) W) (hn : ∀ j v' p, look fr j = some v' → v.blk (a.tmps.getD i undef) = some p → v'.blk (a.tmps.getD j undef) ≠ some p) : Fr B N w0 ((i, v) :: fr) a W := by
  refine ⟨h.df, h.sz, h.be, h.bs, fun j x hj => ?_, fun j l b b' p hjl hj hl => ?_⟩
  · rw [look_cons] at hj
    by_cases e : i = j
    · rw [if_pos e] at hj; injection hj with hj; subst hj; subst e; exact hu
    · rw [if_neg e] at hj; exact h.ho j x hj
  · rw [look_cons] at hj hl
    by_cases e : i = j
    · have e' : i ≠ l := fun x => hjl (e.symm.trans x)
      rw [if_pos e] at hj
      rw [if_neg e'] at hl
      injection hj with hj
      subst hj e
      exact fun x => hn l b' p hl x
    · rw [if_neg e] at hj
      by_cases e' : i = l
      · rw [if_pos e'] at hl
        injection hl with hl
        subst hl e'
        exact fun x y => hn j b p hj y x
      · rw [if_neg e'] at hl; exact h.di j l b b' p hjl hj hl
/-- A slot is known better, or otherwise. -/
theorem Fr.know {i : Nat} {v : AV} (h : Fr B N w0 fr a W) (hv : v.isBx = false) (hu : Ho B v (a.tmps.getD i undef) W) : Fr B N w0 ((i, v) :: fr) a W :=
  h.more hu fun _ _ p _ e => by rw [AV.blk_no hv] at e; cases e
/-- A box is written. -/
theorem Fr.stored {s q : Nat} {v : AV} {b : BT} {k' : Know} {v' : Value} {W' : World} (h : Fr B N w0 fr a W) (hs : look fr s = some v) (hq : a.tmps.getD s undef = ptr q) (hB : B ≤ q) (hvq : v.blk (ptr q) = some q) (ok : b.Ok) (ho : Only q W W') (hh : Holds b q v' W') (hk : k' v' W') (hst : St k') : Fr B N w0 ((s, .bx b k') :: fr) a W' := by
  refine ⟨h.df, h.sz, ?_, by rw [ho.sz]; exact h.bs, fun j y hj => ?_, fun j l y y' p hjl hj hl => ?_⟩
  · exact Below.grown h.be ho.gr h.bs (fun k e => by injection e with e; omega)
  · rw [look_cons] at hj
    by_cases e' : s = j
    · rw [if_pos e'] at hj; injection hj with hj; subst hj; subst e'; exact ⟨q, v', hq, hB, hh, hk, hst, ok⟩
    · rw [if_neg e'] at hj
      exact (h.ho j y hj).off ho (h.di s j v y q e' hs hj (by rw [hq]; exact hvq))
  · rw [look_cons] at hj hl
    by_cases e1 : s = j
    · have e2 : s ≠ l := fun x => hjl (e1.symm.trans x)
      rw [if_pos e1] at hj
      rw [if_neg e2] at hl
      injection hj with hj
      subst hj e1
      intro x
      have x' : some q = some p := by rw [← x, hq]; rfl
      injection x' with x'
      subst x'
      exact h.di s l v y' q e2 hs hl (by rw [hq]; exact hvq)
    · rw [if_neg e1] at hj
      by_cases e2 : s = l
      · rw [if_pos e2] at hl
        injection hl with hl
        subst hl e2
        intro x y2
        have x' : some q = some p := by rw [← y2, hq]; rfl
        injection x' with x'
        subst x'
        exact h.di s j v y q e1 hs hj (by rw [hq]; exact hvq) x
      · rw [if_neg e2] at hl; exact h.di j l y y' p hjl hj hl
end

/-! ### Operands -/
def opv (fr : List (Nat × AV)) : Operand → Option AV
  | .tmp t => match look fr t with
    | some (.vl v) => some (.vl v)
    | some (.kw k) => some (.kw k)
    | _ => none
  | .const v => some (.vl v)
  | .func f => some (.vl (.func (.func f) #[] #[]))
  | .global g => some (.vl (ptr g))
theorem opv_spec {B N : Nat} {w0 : World} {fr : List (Nat × AV)} {a : Act} {W : World} (h : Fr B N w0 fr a W) {x : Operand} {v : AV} (hx : opv fr x = some v) : Ho B v (a.eval x) W ∧ v.isBx = false := by
  cases x with
  | tmp t =>
    simp only [opv] at hx
    cases hl : look fr t with
    | none => rw [hl] at hx; cases hx
    | some r =>
      rw [hl] at hx
      cases r with
      | vl x => injection hx with hx; subst hx; exact ⟨h.ho t _ hl, rfl⟩
      | kw x => injection hx with hx; subst hx; exact ⟨h.ho t _ hl, rfl⟩
      | _ => cases hx
  | const v' => injection hx with hx; subst hx; exact ⟨rfl, rfl⟩
  | func f => injection hx with hx; subst hx; exact ⟨rfl, rfl⟩
  | global g => injection hx with hx; subst hx; exact ⟨rfl, rfl⟩
theorem opv_vl {B N : Nat} {w0 : World} {fr : List (Nat × AV)} {a : Act} {W : World} (h : Fr B N w0 fr a W) {x : Operand} {v : Value} (hx : opv fr x = some (.vl v)) : a.eval x = v := (opv_spec h hx).1
/-- Of values something is known, one by one. -/
def All : List Know → List Value → World → Prop
  | [], [], _ => True
  | k :: ks, u :: us, W => k u W ∧ All ks us W
  | _, _, _ => False
def opks (fr : List (Nat × AV)) : List Operand → Option (List Know)
  | [] => some []
  | x :: xs => match opv fr x with
    | none => none
    | some v => match opks fr xs with
      | none => none
      | some ks => some (v.of :: ks)
theorem opks_spec {B N : Nat} {w0 : World} {fr : List (Nat × AV)} {a : Act} {W : World} (h : Fr B N w0 fr a W) : ∀ {xs : List Operand} {ks : List Know}, opks fr xs = some ks → All ks (xs.map a.eval) W
  | [], ks, e => by injection e with e; subst e; trivial
  | x :: xs, ks, e => by
    unfold opks at e
    split at e
    · cases e
    · rename_i v hv
      split at e
      · cases e
      · rename_i ks' hk
        injection e with e
        subst e
        obtain ⟨h1, h2⟩ := opv_spec h hv
        exact ⟨(h1.of h2).1, opks_spec h hk⟩
/-- Is an operation carried out. -/
def wantB (ops : Array Oper) (fr : List (Nat × AV)) (o : Oper) : Option Bool := match o.guard with
  | none => some true
  | some (j, b) => match (ops[j]?).bind (·.dst) with
    | none => some false
    | some d => match look fr d with
      | some (.vl (.bool c)) => some (c == b)
      | some (.vl (.tuple _)) => some false
      | _ => none
theorem wantB_ex {ops : Array Oper} {fr : List (Nat × AV)} {o : Oper} {a : Act} (h : ∀ s v, look fr s = some (.vl v) → a.tmps.getD s undef = v) {b : Bool} (hw : wantB ops fr o = some b) : Region.wanted o (yielded ops a.tmps) = b := by
  unfold wantB at hw
  unfold Region.wanted
  split at hw
  · rename_i hg; rw [hg]; injection hw
  · rename_i j c hg
    rw [hg]
    split at hw
    · rename_i hd
      injection hw with hw
      subst hw
      simp only [yielded, hd, Option.bind_none]
      rfl
    · rename_i d hd
      have key : ∀ v, look fr d = some (.vl v) → yielded ops a.tmps j = (match (some v : Option Value) with | some (.bool b) => some b | _ => none) ∨ (yielded ops a.tmps j = none ∧ v = undef) := by
        intro v hv
        have e : a.tmps.getD d undef = v := h d v hv
        simp only [Array.getD_eq_getD_getElem?] at e
        simp only [yielded, hd, Option.bind_some]
        cases hq : a.tmps[d]? with
        | none => rw [hq] at e; exact .inr ⟨rfl, by simpa using e.symm⟩
        | some x => rw [hq] at e; simp only [Option.getD_some] at e; subst e; exact .inl rfl
      split at hw
      · rename_i c' hl
        injection hw with hw
        subst hw
        rcases key _ hl with e | ⟨_, e⟩
        · simp only [e]; rfl
        · unfold undef at e; cases e
      · rename_i xs hl
        injection hw with hw
        subst hw
        rcases key _ hl with e | ⟨e, _⟩
        · simp only [e]; rfl
        · simp only [e]; rfl
      · cases hw
theorem Fr.ex {B N : Nat} {w0 : World} {fr : List (Nat × AV)} {a : Act} {W : World} (h : Fr B N w0 fr a W) : ∀ s v, look fr s = some (.vl v) → a.tmps.getD s undef = v := fun s v e => h.ho s _ e
theorem wantB_spec {B N : Nat} {w0 : World} {ops : Array Oper} {fr : List (Nat × AV)} {o : Oper} {a : Act} {W : World} (h : Fr B N w0 fr a W) {b : Bool} (hw : wantB ops fr o = some b) : Region.wanted o (yielded ops a.tmps) = b := wantB_ex h.ex hw
end Go.Proofs.Ytcgkgcciogibkaa.Sy
/- A walk by rules: statements in the order of the text, and how they follow one another. -/
set_option linter.unusedVariables false
set_option linter.unusedSimpArgs false
namespace Go.Proofs.Ytcgkgcciogibkaa.Sy
open Go Go.RowKit
section
variable {B N : Nat} {w0 : World} {ops : Array Oper} {o : Oper} {rest : List Oper} {fr : List (Nat × AV)} {Q : Exit → Act → World → Prop} {d : Nat}

/-- A plain statement from an operation on. -/
def PW (B N : Nat) (w0 : World) (ops : Array Oper) (rest : List Oper) (fr : List (Nat × AV)) (Q : Exit → Act → World → Prop) : Prop := ∀ a W, Fr B N w0 fr a W → wpList Try.prog ops Q rest a W
/-- Code under what is known of the frame; what is asked at its end. -/
def SC (B N : Nat) (w0 : World) (c : Code) (fr : List (Nat × AV)) (Q : Exit → Act → World → Prop) : Prop := ∀ a W, Fr B N w0 fr a W → c.wp Try.prog Q a W
def SX (B N : Nat) (w0 : World) (e : Exit) (fr : List (Nat × AV)) (Q : Exit → Act → World → Prop) : Prop := ∀ a W, Fr B N w0 fr a W → Q e a W

theorem PW.nil (h : SX B N w0 .normal fr Q) : PW B N w0 ops [] fr Q := fun a W hf => wpList_nil (h a W hf)
theorem PW.step (hw : wantB ops fr o = some true) (h : ∀ a W, Fr B N w0 fr a W → ∀ K : Act → World → Prop, (∀ a W, wpList Try.prog ops Q rest a W → K a W) → o.wp Try.prog a W K Q) : PW B N w0 ops (o :: rest) fr Q :=
  fun a W hf => wpList_step fun K hK => by rw [if_pos (wantB_spec hf hw)]; exact h a W hf K hK
/-- An operation that gives a value. -/
theorem PW.val {r : AV} (hw : wantB ops fr o = some true) (hd : o.dst = some d) (hN : Nat.blt d N = true) (hr : r.isBx = false)
    (h : ∀ a W, Fr B N w0 fr a W → ∃ u, (execOp a.eval o).run Try.prog W = .ok (.value u) W ∧ Ho B r u W) (hk : PW B N w0 ops rest ((d, r) :: fr) Q) : PW B N w0 ops (o :: rest) fr Q :=
  PW.step hw fun a W hf K hK => by
    obtain ⟨u, e, hu⟩ := h a W hf
    unfold Oper.wp
    rw [e, Oper.upon_value, hd]
    exact hK _ _ (hk _ _ (hf.set hN hu hr))
theorem PW.skip (hw : wantB ops fr o = some false) (hd : o.dst = some d) (hN : Nat.blt d N = true) (hk : PW B N w0 ops rest ((d, .vl undef) :: fr) Q) : PW B N w0 ops (o :: rest) fr Q :=
  fun a W hf => wpList_skip (wantB_spec hf hw) (by rw [hd]; exact hk _ _ (hf.set hN rfl rfl))
theorem PW.move {x : Operand} {r : AV} (hw : wantB ops fr o = some true) (hd : o.dst = some d) (hN : Nat.blt d N = true) (ho : o.op = .move x) (hx : opv fr x = some r) (hk : PW B N w0 ops rest ((d, r) :: fr) Q) : PW B N w0 ops (o :: rest) fr Q :=
  PW.step hw fun a W hf K hK => by
    obtain ⟨h1, h2⟩ := opv_spec hf hx
    have e : (execOp a.eval o).run Try.prog W = .ok (.value (a.eval x)) W := by unfold execOp; rw [ho]; rfl
    unfold Oper.wp
    rw [e, Oper.upon_value, hd]
    exact hK _ _ (hk _ _ (hf.set hN h1 h2))
theorem PW.assign {x : Operand} {r : AV} (hw : wantB ops fr o = some true) (hd : o.dst = some d) (hN : Nat.blt d N = true) (ho : o.op = .assign x) (hx : opv fr x = some r) (hk : PW B N w0 ops rest ((d, r) :: fr) Q) : PW B N w0 ops (o :: rest) fr Q :=
  PW.step hw fun a W hf K hK => by
    obtain ⟨h1, h2⟩ := opv_spec hf hx
    have e : (execOp a.eval o).run Try.prog W = .ok (.value (a.eval x)) W := by unfold execOp; rw [ho]; rfl
    unfold Oper.wp
    rw [e, Oper.upon_value, hd]
    exact hK _ _ (hk _ _ (hf.set hN h1 h2))
theorem run_val {s : Sem Value} {W W' : World} {v : Value} (h : s.run Try.prog W = .ok v W') : (do pure (.value (← s)) : Sem Next).run Try.prog W = .ok (.value v) W' := by
  simp [h, go_sem]
theorem run_skip {s : Sem Unit} {W W' : World} (h : s.run Try.prog W = .ok () W') : (do s; pure .skip : Sem Next).run Try.prog W = .ok .skip W' := by
  simp [h, go_sem]
theorem PW.load {T : TypeId} {s : Nat} {b : BT} {k : Know} (hw : wantB ops fr o = some true) (hd : o.dst = some d) (hN : Nat.blt d N = true) (ho : o.op = .load T (.tmp s)) (hs : look fr s = some (.bx b k)) (hT : b.T = T) (hk : PW B N w0 ops rest ((d, .kw k) :: fr) Q) : PW B N w0 ops (o :: rest) fr Q :=
  PW.val hw hd hN rfl (fun a W hf => by
    obtain ⟨p, v, e, _, ⟨cs, hs1, hc⟩, hv, st, ok⟩ := hf.ho s _ hs
    refine ⟨v, ?_, hv, st⟩
    have := run_val (ok.load v cs W p hs1 fun i x hx => (hc i x hx).1)
    unfold execOp
    rw [ho]
    show (do pure (.value (← Instr.loadAt T (a.tmps.getD s undef))) : Sem Next).run Try.prog W = _
    rw [e, ← hT]
    exact this) hk
/-- What is known of a part of a tuple. -/
def Ex (k : Know) (i : Nat) (r : AV) : Prop := ∀ u W, k u W → ∃ vs v, u = .tuple vs ∧ vs[i]? = some v ∧ r.of v W
theorem ex20 {k1 k2 : Know} : Ex (K2 k1 k2) 0 (.kw k1) := fun u W ⟨v1, v2, e, h1, h2⟩ => ⟨_, v1, e, rfl, h1⟩
theorem ex21 {k1 k2 : Know} : Ex (K2 k1 k2) 1 (.kw k2) := fun u W ⟨v1, v2, e, h1, h2⟩ => ⟨_, v2, e, rfl, h2⟩
theorem ex20v {v : Value} {k2 : Know} : Ex (K2 (KV v) k2) 0 (.vl v) := fun u W ⟨v1, v2, e, h1, h2⟩ => ⟨_, v1, e, rfl, h1⟩
theorem ex21v {v : Value} {k1 : Know} : Ex (K2 k1 (KV v)) 1 (.vl v) := fun u W ⟨v1, v2, e, h1, h2⟩ => ⟨_, v2, e, rfl, h2⟩
theorem run_ext {vs : Array Value} {i : Nat} {v : Value} (h : vs[i]? = some v) (W : World) : (Instr.extract (.tuple vs) i).run Try.prog W = .ok v W := by
  simp [Instr.extract, h, go_sem]
theorem PW.ext {s i : Nat} {k : Know} {r : AV} (hw : wantB ops fr o = some true) (hd : o.dst = some d) (hN : Nat.blt d N = true) (ho : o.op = .extract (.tmp s) i) (hs : look fr s = some (.kw k)) (hx : Ex k i r) (hst : St r.of) (hr : r.isBx = false) (hk : PW B N w0 ops rest ((d, r) :: fr) Q) : PW B N w0 ops (o :: rest) fr Q :=
  PW.val hw hd hN hr (fun a W hf => by
    obtain ⟨hv, _⟩ := hf.ho s _ hs
    obtain ⟨vs, v, e, hi, hv'⟩ := hx _ W hv
    refine ⟨v, ?_, Ho.mk hr hv' hst⟩
    unfold execOp
    rw [ho]
    show (do pure (.value (← Instr.extract (a.tmps.getD s undef) i)) : Sem Next).run Try.prog W = _
    rw [e]
    exact run_val (run_ext hi W)) hk
/-- A call of which a contract is known. -/
def CE (f : FuncId) : Prop := ∀ args W, (callFunc f args).run Try.prog W = .ok (.enter f args) W
def CallOk (f : FuncId) (ks : List Know) (r : Know) : Prop := CE f ∧ ∀ W us, All ks us W → Calls Try.prog f us.toArray W (Ret W r)
theorem run_call {c : Call} {f : FuncId} (ce : CE f) (hc : c.callee = .value (.func f)) (ρ : Operand → Value) (hρ : ρ (.func f) = .func (.func f) #[] #[]) (ty : TypeId) (W : World) {dst : Option Tmp} {pos : String} {after : Array Edge} {guard : Option (Nat × Bool)} :
    (execOp ρ ⟨dst, .call c, ty, pos, after, guard⟩).run Try.prog W = .ok (.enter f (c.args.map ρ)) W := by
  obtain ⟨cal, args, ats⟩ := c
  simp only at hc
  subst hc
  have := ce (args.map ρ) W
  simp [execOp, resolve, hρ, go_sem, this]
theorem PW.call {c : Call} {f : FuncId} {ks : List Know} {r : AV} (hw : wantB ops fr o = some true) (hd : o.dst = some d) (hN : Nat.blt d N = true) (ho : o.op = .call c) (hc : c.callee = .value (.func f)) (ha : opks fr c.args.toList = some ks) (hst : St r.of) (hr : r.isBx = false)
    (h : CallOk f ks r.of) (hk : PW B N w0 ops rest ((d, r) :: fr) Q) : PW B N w0 ops (o :: rest) fr Q :=
  PW.step hw fun a W hf K hK => by
    obtain ⟨dst, op, ty, pos, after, guard⟩ := o
    simp only at ho hd
    subst ho
    subst hd
    unfold Oper.wp
    rw [run_call h.1 hc a.eval rfl ty W]
    simp only [Oper.upon]
    have e : (c.args.toList.map a.eval).toArray = c.args.map a.eval := by rw [← Array.toList_map]
    have := h.2 W _ (opks_spec hf ha)
    rw [e] at this
    refine this.mono fun e W' ⟨v, he, hv, hn⟩ => ?_
    subst he
    exact hK _ _ (hk _ _ ((hf.nw hn).set hN (Ho.mk hr hv hst) hr))
/-- A new box. -/
def KT : Know := fun _ _ => True
theorem KT.st : St KT := fun _ _ _ _ _ => trivial
theorem PW.alloc {T : TypeId} (b : BT) (hw : wantB ops fr o = some true) (hd : o.dst = some d) (hN : Nat.blt d N = true) (ho : o.op = .alloc T) (hT : b.T = T) (ok : b.Ok) (hk : PW B N w0 ops rest ((d, .nb b) :: fr) Q) : PW B N w0 ops (o :: rest) fr Q :=
  PW.step hw fun a W hf K hK => by
    obtain ⟨ob, z, cs, hz, hal⟩ := ok.alloc
    obtain ⟨h1, h2⟩ := hal W
    have e : (execOp a.eval o).run Try.prog W = .ok (.value (ptr W.heap.size)) (W.alloc ob) := by
      unfold execOp
      rw [ho, ← hT]
      exact run_val h1
    unfold Oper.wp
    rw [e, Oper.upon_value, hd]
    exact hK _ _ (hk _ _ (hf.fresh ((Nw.refl W).alloc ob) hN (Nat.le_refl _) rfl ⟨_, z, rfl, hf.bs, ⟨cs, hz, h2⟩, ok⟩))
theorem PW.box {T : TypeId} {x : Operand} {r : AV} (b : BT) (hw : wantB ops fr o = some true) (hd : o.dst = some d) (hN : Nat.blt d N = true) (ho : o.op = .box T x) (hT : b.T = T) (ok : b.Ok) (hx : opv fr x = some r) (hsh : ∀ v W, r.of v W → ∃ cs, b.sh v cs) (hk : PW B N w0 ops rest ((d, .bx b r.of) :: fr) Q) : PW B N w0 ops (o :: rest) fr Q :=
  PW.step hw fun a W hf K hK => by
    obtain ⟨h1, h2⟩ := opv_spec hf hx
    obtain ⟨h3, h4⟩ := h1.of h2
    obtain ⟨cs, hcs⟩ := hsh _ _ h3
    obtain ⟨ob, hbx⟩ := ok.box _ _ hcs
    obtain ⟨h5, h6⟩ := hbx W
    have e : (execOp a.eval o).run Try.prog W = .ok (.value (ptr W.heap.size)) (W.alloc ob) := by
      unfold execOp
      rw [ho, ← hT]
      exact run_val h5
    unfold Oper.wp
    rw [e, Oper.upon_value, hd]
    have hn := (Nw.refl W).alloc ob
    exact hK _ _ (hk _ _ (hf.fresh hn hN (Nat.le_refl _) rfl ⟨_, _, rfl, hf.bs, ⟨cs, hcs, h6⟩, h4 _ _ _ hn.kept h3, h4, ok⟩))
/-- What kind of box a slot points to. -/
def bxT : AV → Option BT
  | .bx b _ => some b
  | .nb b => some b
  | _ => none
theorem Ho.bxT {B : Nat} {v : AV} {b : BT} {u : Value} {W : World} (h : Ho B v u W) (e : Sy.bxT v = some b) : ∃ p x, u = ptr p ∧ B ≤ p ∧ Holds b p x W ∧ b.Ok ∧ v.blk (ptr p) = some p := by
  cases v with
  | bx b' k =>
    injection e with e
    subst e
    obtain ⟨p, x, e2, hp, hh, _, _, ok⟩ := h
    exact ⟨p, x, e2, hp, hh, ok, rfl⟩
  | nb b' =>
    injection e with e
    subst e
    obtain ⟨p, x, e2, hp, hh, ok⟩ := h
    exact ⟨p, x, e2, hp, hh, ok, rfl⟩
  | _ => cases e
theorem bind_look {fr : List (Nat × AV)} {s : Nat} {b : BT} (h : (look fr s).bind Sy.bxT = some b) : ∃ v, look fr s = some v ∧ Sy.bxT v = some b := by
  cases hl : look fr s with
  | none => rw [hl] at h; cases h
  | some v => rw [hl] at h; exact ⟨v, rfl, h⟩
theorem PW.store {T : TypeId} {s : Nat} {x : Operand} {r : AV} {b : BT} (hw : wantB ops fr o = some true) (hd : o.dst = none) (ho : o.op = .store T (.tmp s) x) (hs : (look fr s).bind bxT = some b) (hT : b.T = T) (hx : opv fr x = some r) (hsh : ∀ v W, r.of v W → ∃ cs, b.sh v cs) (hk : PW B N w0 ops rest ((s, .bx b r.of) :: fr) Q) : PW B N w0 ops (o :: rest) fr Q :=
  PW.step hw fun a W hf K hK => by
    obtain ⟨h1, h2⟩ := opv_spec hf hx
    obtain ⟨h3, h4⟩ := h1.of h2
    obtain ⟨cs', hcs⟩ := hsh _ _ h3
    obtain ⟨y, hl, hy⟩ := bind_look hs
    obtain ⟨p, v, e, hB, hh, ok, hbk⟩ := (hf.ho s _ hl).bxT hy
    obtain ⟨W', h5, h6, h7⟩ := ok.store v _ cs' W p hh hcs
    have e2 : (execOp a.eval o).run Try.prog W = .ok .skip W' := by
      unfold execOp
      rw [ho, ← hT]
      show (do (Instr.storeAt b.T (a.tmps.getD s undef) (a.eval x)); pure .skip : Sem Next).run Try.prog W = _
      rw [e]
      exact run_skip h5
    unfold Oper.wp
    rw [e2]
    show K (a.put o.dst undef) W'
    rw [hd]
    exact hK _ _ (hk _ _ (hf.stored hl e hB hbk ok h7 h6 (h4 _ _ _ h7.nu h3) h4))
/-- An operation on values that are known. -/
theorem PW.q1 {x : Operand} {u : Value} (v : Value) (hw : wantB ops fr o = some true) (hd : o.dst = some d) (hN : Nat.blt d N = true) (hx : opv fr x = some (.vl u)) (h : ∀ (ρ : Operand → Value) (W : World), ρ x = u → (execOp ρ o).run Try.prog W = .ok (.value v) W) (hk : PW B N w0 ops rest ((d, .vl v) :: fr) Q) : PW B N w0 ops (o :: rest) fr Q :=
  PW.val (r := .vl v) hw hd hN rfl (fun a W hf => ⟨v, h _ W (opv_vl hf hx), rfl⟩) hk
theorem PW.q2 {x y : Operand} {u u2 : Value} (v : Value) (hw : wantB ops fr o = some true) (hd : o.dst = some d) (hN : Nat.blt d N = true) (hx : opv fr x = some (.vl u)) (hy : opv fr y = some (.vl u2)) (h : ∀ (ρ : Operand → Value) (W : World), ρ x = u → ρ y = u2 → (execOp ρ o).run Try.prog W = .ok (.value v) W) (hk : PW B N w0 ops rest ((d, .vl v) :: fr) Q) : PW B N w0 ops (o :: rest) fr Q :=
  PW.val (r := .vl v) hw hd hN rfl (fun a W hf => ⟨v, h _ W (opv_vl hf hx) (opv_vl hf hy), rfl⟩) hk
/-- A choice. -/
theorem PW.pick {c x y : Operand} {t : Bool} {r : AV} (hw : wantB ops fr o = some true) (hd : o.dst = some d) (hN : Nat.blt d N = true) (ho : o.op = .pick c x y) (hc : opv fr c = some (.vl (.bool t))) (hx : opv fr (bif t then x else y) = some r) (hk : PW B N w0 ops rest ((d, r) :: fr) Q) : PW B N w0 ops (o :: rest) fr Q :=
  PW.step hw fun a W hf K hK => by
    obtain ⟨h1, h2⟩ := opv_spec hf hx
    have e : (execOp a.eval o).run Try.prog W = .ok (.value (a.eval (bif t then x else y))) W := by
      unfold execOp
      rw [ho]
      have := opv_vl hf hc
      simp only [this]
      cases t <;> simp [asBool, go_sem]
    unfold Oper.wp
    rw [e, Oper.upon_value, hd]
    exact hK _ _ (hk _ _ (hf.set hN h1 h2))

/-! ### Code -/
theorem SC.region {id : Nat} {l : List Oper} (h : PW B N w0 l.toArray l fr Q) : SC B N w0 (.region id l.toArray false) fr Q := fun a W hf => wp_region_lit (h a W hf)
theorem SC.seq {x y : Code} (h : SC B N w0 x fr (Exit.then (y.wp Try.prog Q) Q)) : SC B N w0 (.seq x y) fr Q := fun a W hf => wp_seq (h a W hf)
theorem SX.then {y : Code} (h : SC B N w0 y fr Q) : SX B N w0 .normal fr (Exit.then (y.wp Try.prog Q) Q) := h
theorem SC.cond {c : Operand} {x y : Code} {t : Bool} (hc : opv fr c = some (.vl (.bool t))) (h : SC B N w0 (bif t then x else y) fr Q) : SC B N w0 (.cond c x y) fr Q :=
  fun a W hf => wp_cond (opv_vl hf hc) (by cases t <;> exact h a W hf)
theorem SC.split {c : Operand} {x y : Code} {t : Bool} (hc : opv fr c = some (.vl (.bool t))) (h1 : t = true → SC B N w0 x fr Q) (h2 : t = false → SC B N w0 y fr Q) : SC B N w0 (.cond c x y) fr Q :=
  fun a W hf => wp_cond_split (opv_vl hf hc) (fun e => h1 e a W hf) (fun e => h2 e a W hf)
theorem SC.block {id : Nat} {c : Code} (h : SC B N w0 c fr (Exit.inBlock id Q)) : SC B N w0 (.block id c) fr Q := fun a W hf => wp_block (h a W hf)
theorem SC.skip (h : SX B N w0 .normal fr Q) : SC B N w0 .skip fr Q := fun a W hf => wp_skip (h a W hf)
theorem SC.exit {id : Nat} (h : SX B N w0 (.exit id) fr Q) : SC B N w0 (.exit id) fr Q := fun a W hf => wp_exit (h a W hf)
theorem SC.ret (h : SX B N w0 .ret fr Q) : SC B N w0 .ret fr Q := fun a W hf => wp_ret (h a W hf)
theorem SX.blockN {id : Nat} (h : SX B N w0 .normal fr Q) : SX B N w0 .normal fr (Exit.inBlock id Q) := h
theorem SX.blockE {id : Nat} (h : SX B N w0 .normal fr Q) : SX B N w0 (.exit id) fr (Exit.inBlock id Q) := fun a W hf => by show (if id = id then _ else _); rw [if_pos rfl]; exact h a W hf
theorem SX.blockR {id : Nat} (h : SX B N w0 .ret fr Q) : SX B N w0 .ret fr (Exit.inBlock id Q) := h
theorem SX.thenE {id : Nat} {K : Act → World → Prop} (h : SX B N w0 (.exit id) fr Q) : SX B N w0 (.exit id) fr (Exit.then K Q) := h
theorem SX.thenR {K : Act → World → Prop} (h : SX B N w0 .ret fr Q) : SX B N w0 .ret fr (Exit.then K Q) := h
/-- Only what is still asked for is kept, or what is known is said otherwise. -/
theorem SC.weak {c : Code} {fr' : List (Nat × AV)} (hf : ∀ a W, Fr B N w0 fr a W → Fr B N w0 fr' a W) (h : SC B N w0 c fr' Q) : SC B N w0 c fr Q := fun a W f => h a W (hf a W f)
end

/-! ### The boxes of integers -/
def BI (T : TypeId) : BT := ⟨T, fun v cs => ∃ m A l c, v = .agg #[.bool m, .slice A l c] ∧ cs = [.bool m, .slice A l c]⟩
theorem two_at {x y : Value} {i : Nat} {z : Value} (h : [x, y][i]? = some z) : (i = 0 ∧ z = x) ∨ (i = 1 ∧ z = y) := by
  match i, h with
  | 0, h => exact .inl ⟨rfl, by simpa using h.symm⟩
  | 1, h => exact .inr ⟨rfl, by simpa using h.symm⟩
theorem bI : (BI 28).Ok := by
  refine ⟨?_, ?_, ?_, ?_, ?_⟩
  · rintro v cs ⟨m, A, l, c, rfl, rfl⟩; simp
  · rintro v cs W p ⟨m, A, l, c, rfl, rfl⟩ h
    have h0 := h 0 _ rfl
    have h1 := h 1 _ rfl
    show (Instr.loadAt 28 (ptr p)).run Try.prog W = _
    go_simp
  · rintro v v' cs' W p ⟨cs, ⟨m, A, l, c, rfl, rfl⟩, hc⟩ ⟨m', A', l', c', rfl, rfl⟩
    obtain ⟨h0, f0⟩ := hc 0 _ rfl
    obtain ⟨h1, f1⟩ := hc 1 _ rfl
    have hb : Box p 2 W := fun i hi => match i, hi with
      | 0, _ => ⟨⟨_, h0, by simp⟩, f0⟩
      | 1, _ => ⟨⟨_, h1, by simp⟩, f1⟩
    obtain ⟨W', e, hr, k0, k1⟩ := store_two (m := m') (D := A') (l := l') (c := c') hb
    refine ⟨(W.setCell ⟨p, 0, none⟩ (.bool m')).setCell ⟨p, 1, none⟩ (.slice A' l' c'), ?_, ⟨_, ⟨m', A', l', c', rfl, rfl⟩, fun i x hx => ?_⟩, ?_, ?_, ?_⟩
    · show (Instr.storeAt 28 (ptr p) _).run Try.prog W = _
      go_simp
    · rcases two_at hx with ⟨rfl, rfl⟩ | ⟨rfl, rfl⟩
      · exact ⟨by rw [e]; exact k0, by simp [World.frozen?_setCell, f0]⟩
      · exact ⟨by rw [e]; exact k1, by simp [World.frozen?_setCell, f1]⟩
    · exact ⟨by simp [World.setCell], by simp [World.setCell], by simp [World.setCell], by simp [World.setCell], fun k _ hk => by rw [Below.heap_setCell _ _ _ _ (fun x => hk (by rw [x])), Below.heap_setCell _ _ _ _ (fun x => hk (by rw [x]))]⟩
    · rw [e]; exact hr.2.1
    · simp [World.setCell]
  · refine ⟨.cells #[.bool false, .slice none 0 0] 28, _, _, ⟨false, none, 0, 0, rfl, rfl⟩, fun W => ⟨by show (Instr.alloc 28 true (.tuple #[])).run Try.prog W = _; go_simp, fun i x hx => ?_⟩⟩
    rcases two_at hx with ⟨rfl, rfl⟩ | ⟨rfl, rfl⟩
    · exact ⟨by rw [World.cell?_alloc_at _ _ _ _ rfl]; rfl, World.frozen?_alloc_at _ _ _ _ rfl⟩
    · exact ⟨by rw [World.cell?_alloc_at _ _ _ _ rfl]; rfl, World.frozen?_alloc_at _ _ _ _ rfl⟩
  · rintro v cs ⟨m, A, l, c, rfl, rfl⟩
    refine ⟨.cells #[.bool m, .slice A l c] 28, fun W => ⟨by show (Instr.box 28 _).run Try.prog W = _; go_simp, fun i x hx => ?_⟩⟩
    rcases two_at hx with ⟨rfl, rfl⟩ | ⟨rfl, rfl⟩
    · exact ⟨by rw [World.cell?_alloc_at _ _ _ _ rfl]; rfl, World.frozen?_alloc_at _ _ _ _ rfl⟩
    · exact ⟨by rw [World.cell?_alloc_at _ _ _ _ rfl]; rfl, World.frozen?_alloc_at _ _ _ _ rfl⟩
theorem bN : (BI 24).Ok := by
  refine ⟨?_, ?_, ?_, ?_, ?_⟩
  · rintro v cs ⟨m, A, l, c, rfl, rfl⟩; simp
  · rintro v cs W p ⟨m, A, l, c, rfl, rfl⟩ h
    have h0 := h 0 _ rfl
    have h1 := h 1 _ rfl
    show (Instr.loadAt 24 (ptr p)).run Try.prog W = _
    go_simp
  · rintro v v' cs' W p ⟨cs, ⟨m, A, l, c, rfl, rfl⟩, hc⟩ ⟨m', A', l', c', rfl, rfl⟩
    obtain ⟨h0, f0⟩ := hc 0 _ rfl
    obtain ⟨h1, f1⟩ := hc 1 _ rfl
    have hb : Box p 2 W := fun i hi => match i, hi with
      | 0, _ => ⟨⟨_, h0, by simp⟩, f0⟩
      | 1, _ => ⟨⟨_, h1, by simp⟩, f1⟩
    obtain ⟨W', e, hr, k0, k1⟩ := store_two (m := m') (D := A') (l := l') (c := c') hb
    refine ⟨(W.setCell ⟨p, 0, none⟩ (.bool m')).setCell ⟨p, 1, none⟩ (.slice A' l' c'), ?_, ⟨_, ⟨m', A', l', c', rfl, rfl⟩, fun i x hx => ?_⟩, ?_, ?_, ?_⟩
    · show (Instr.storeAt 24 (ptr p) _).run Try.prog W = _
      go_simp
    · rcases two_at hx with ⟨rfl, rfl⟩ | ⟨rfl, rfl⟩
      · exact ⟨by rw [e]; exact k0, by simp [World.frozen?_setCell, f0]⟩
      · exact ⟨by rw [e]; exact k1, by simp [World.frozen?_setCell, f1]⟩
    · exact ⟨by simp [World.setCell], by simp [World.setCell], by simp [World.setCell], by simp [World.setCell], fun k _ hk => by rw [Below.heap_setCell _ _ _ _ (fun x => hk (by rw [x])), Below.heap_setCell _ _ _ _ (fun x => hk (by rw [x]))]⟩
    · rw [e]; exact hr.2.1
    · simp [World.setCell]
  · refine ⟨.cells #[.bool false, .slice none 0 0] 24, _, _, ⟨false, none, 0, 0, rfl, rfl⟩, fun W => ⟨by show (Instr.alloc 24 true (.tuple #[])).run Try.prog W = _; go_simp, fun i x hx => ?_⟩⟩
    rcases two_at hx with ⟨rfl, rfl⟩ | ⟨rfl, rfl⟩
    · exact ⟨by rw [World.cell?_alloc_at _ _ _ _ rfl]; rfl, World.frozen?_alloc_at _ _ _ _ rfl⟩
    · exact ⟨by rw [World.cell?_alloc_at _ _ _ _ rfl]; rfl, World.frozen?_alloc_at _ _ _ _ rfl⟩
  · rintro v cs ⟨m, A, l, c, rfl, rfl⟩
    refine ⟨.cells #[.bool m, .slice A l c] 24, fun W => ⟨by show (Instr.box 24 _).run Try.prog W = _; go_simp, fun i x hx => ?_⟩⟩
    rcases two_at hx with ⟨rfl, rfl⟩ | ⟨rfl, rfl⟩
    · exact ⟨by rw [World.cell?_alloc_at _ _ _ _ rfl]; rfl, World.frozen?_alloc_at _ _ _ _ rfl⟩
    · exact ⟨by rw [World.cell?_alloc_at _ _ _ _ rfl]; rfl, World.frozen?_alloc_at _ _ _ _ rfl⟩
theorem bJ : (BI 31).Ok := by
  refine ⟨?_, ?_, ?_, ?_, ?_⟩
  · rintro v cs ⟨m, A, l, c, rfl, rfl⟩; simp
  · rintro v cs W p ⟨m, A, l, c, rfl, rfl⟩ h
    have h0 := h 0 _ rfl
    have h1 := h 1 _ rfl
    show (Instr.loadAt 31 (ptr p)).run Try.prog W = _
    go_simp
  · rintro v v' cs' W p ⟨cs, ⟨m, A, l, c, rfl, rfl⟩, hc⟩ ⟨m', A', l', c', rfl, rfl⟩
    obtain ⟨h0, f0⟩ := hc 0 _ rfl
    obtain ⟨h1, f1⟩ := hc 1 _ rfl
    have hb : Box p 2 W := fun i hi => match i, hi with
      | 0, _ => ⟨⟨_, h0, by simp⟩, f0⟩
      | 1, _ => ⟨⟨_, h1, by simp⟩, f1⟩
    obtain ⟨W', e, hr, k0, k1⟩ := store_two (m := m') (D := A') (l := l') (c := c') hb
    refine ⟨(W.setCell ⟨p, 0, none⟩ (.bool m')).setCell ⟨p, 1, none⟩ (.slice A' l' c'), ?_, ⟨_, ⟨m', A', l', c', rfl, rfl⟩, fun i x hx => ?_⟩, ?_, ?_, ?_⟩
    · show (Instr.storeAt 31 (ptr p) _).run Try.prog W = _
      go_simp
    · rcases two_at hx with ⟨rfl, rfl⟩ | ⟨rfl, rfl⟩
      · exact ⟨by rw [e]; exact k0, by simp [World.frozen?_setCell, f0]⟩
      · exact ⟨by rw [e]; exact k1, by simp [World.frozen?_setCell, f1]⟩
    · exact ⟨by simp [World.setCell], by simp [World.setCell], by simp [World.setCell], by simp [World.setCell], fun k _ hk => by rw [Below.heap_setCell _ _ _ _ (fun x => hk (by rw [x])), Below.heap_setCell _ _ _ _ (fun x => hk (by rw [x]))]⟩
    · rw [e]; exact hr.2.1
    · simp [World.setCell]
  · refine ⟨.cells #[.bool false, .slice none 0 0] 31, _, _, ⟨false, none, 0, 0, rfl, rfl⟩, fun W => ⟨by show (Instr.alloc 31 true (.tuple #[])).run Try.prog W = _; go_simp, fun i x hx => ?_⟩⟩
    rcases two_at hx with ⟨rfl, rfl⟩ | ⟨rfl, rfl⟩
    · exact ⟨by rw [World.cell?_alloc_at _ _ _ _ rfl]; rfl, World.frozen?_alloc_at _ _ _ _ rfl⟩
    · exact ⟨by rw [World.cell?_alloc_at _ _ _ _ rfl]; rfl, World.frozen?_alloc_at _ _ _ _ rfl⟩
  · rintro v cs ⟨m, A, l, c, rfl, rfl⟩
    refine ⟨.cells #[.bool m, .slice A l c] 31, fun W => ⟨by show (Instr.box 31 _).run Try.prog W = _; go_simp, fun i x hx => ?_⟩⟩
    rcases two_at hx with ⟨rfl, rfl⟩ | ⟨rfl, rfl⟩
    · exact ⟨by rw [World.cell?_alloc_at _ _ _ _ rfl]; rfl, World.frozen?_alloc_at _ _ _ _ rfl⟩
    · exact ⟨by rw [World.cell?_alloc_at _ _ _ _ rfl]; rfl, World.frozen?_alloc_at _ _ _ _ rfl⟩
theorem sh_I {T : TypeId} {z : Int} (v : Value) (W : World) (h : KI z v W) : ∃ cs, (BI T).sh v cs := by obtain ⟨m, A, l, c, rfl, _⟩ := h; exact ⟨_, m, A, l, c, rfl, rfl⟩
theorem sh_J {T : TypeId} {z : Int} (v : Value) (W : World) (h : KJ z v W) : ∃ cs, (BI T).sh v cs := by obtain ⟨m, A, l, c, rfl, _⟩ := h; exact ⟨_, m, A, l, c, rfl, rfl⟩
end Go.Proofs.Ytcgkgcciogibkaa.Sy
/- The contract of the program's Divide, but for divisors of two limbs and more. -/
set_option linter.unusedVariables false
set_option linter.unusedSimpArgs false
namespace Go.Proofs.Ytcgkgcciogibkaa
open Go.RowKit Ma

theorem K2L {k : IntKind} {p : List Int → Prop} {x y : Value} {A : Option Addr} {l c : Nat} {w : World} (h : K2 (KL k p) (KV x) (.tuple #[.slice A l c, y]) w) : y = x ∧ ∃ zs, l = zs.length ∧ l ≤ c ∧ Rd w k A zs ∧ p zs := by
  obtain ⟨v1, v2, e, h1, h2⟩ := h
  simp only [Value.tuple.injEq, Array.mk.injEq, List.cons.injEq, and_true] at e
  obtain ⟨rfl, rfl⟩ := e
  exact ⟨h2, h1.slice⟩
theorem divided_l (A : Option Addr) (l c : Nat) (xs : List Int) (y : Int) (w : World) (e : l = xs.length) (rA : Rd w .u32 A xs) (dx : dg b32 xs) (hl : xs.length ≤ 1000000) (hy0 : 0 < y) (hy1 : y < 4294967296) :
    Calls Try.prog 85 #[.slice A l c, .int .u32 y] w (Ret w (K2 (KL .u32 fun zs => dg b32 zs ∧ lv b32 zs = lv b32 xs / y ∧ top zs) (KV (.int .u32 (lv b32 xs % y))))) := by
  subst e
  exact (divided_c A c xs y w rA dx hl hy0 hy1).mono fun e w' ⟨v, e1, ⟨v1, v2, e2, h1, h2⟩, hb⟩ => ⟨v, e1, ⟨v1, v2, e2, h1.l, h2⟩, hb⟩
theorem sg_nz {n : Bool} {z : Int} (h : sg n z ≠ 0) : z ≠ 0 := by intro e; subst e; cases n <;> simp [sg] at h
theorem sg_tdiv (n m : Bool) (a b : Int) (ha : 0 ≤ a) (hb : 0 ≤ b) : (sg n a).tdiv (sg m b) = sg (n != m) (a / b) := by
  have e : a.tdiv b = a / b := Int.tdiv_eq_ediv_of_nonneg ha
  cases n <;> cases m <;> simp [sg, Int.neg_tdiv, Int.tdiv_neg, e]
theorem sg_tmod (n m : Bool) (a b : Int) (ha : 0 ≤ a) (hb : 0 ≤ b) : (sg n a).tmod (sg m b) = sg n (a % b) := by
  have e : a.tmod b = a % b := Int.tmod_eq_emod_of_nonneg ha
  cases n <;> cases m <;> simp [sg, Int.neg_tmod, Int.tmod_neg, e]

theorem RI.zero (w : World) : RI w false none 0 0 0 := ⟨[], rfl, Nat.le_refl _, Rd.nil _ _ _, dg_nil _, top_nil, (fun h => nomatch h), by simp [sg, lv]⟩
theorem cmp_lt {a b : Int} (h : a < b) : cmp a b = -1 := by unfold cmp; rw [if_pos h]
theorem cmp_ge {a b : Int} (h : b ≤ a) : decide (cmp a b < 0) = false := by unfold cmp; rw [if_neg (by omega)]; split <;> decide
theorem sg_natAbs (n : Bool) (z : Int) (h : 0 ≤ z) : ((sg n z).natAbs : Int) = z := by cases n <;> simp [sg] <;> omega
theorem lv_of_one {z : List Int} {x : Int} (h : z = [x]) : lv b32 z = x := by subst h; simp [lv]
theorem dg_of_one {z : List Int} {x : Int} (h : z = [x]) (d : dg b32 [x]) : dg b32 z := h ▸ d
theorem bd_zero (bd : Addr) : bd.add 0 = bd := by cases bd; unfold Addr.add; split <;> simp_all
set_option maxHeartbeats 3200000 in
set_option maxRecDepth 100000 in
theorem divide_1 {x y : Int} {n m : Bool} {A B : Option Addr} {l l' c d : Nat} {w : World} (hx : RI w n A l c x) (hy : RI w m B l' d y) (hl : l ≤ 500000) (hy0 : y ≠ 0) (h1 : l' ≤ 1 ∨ x.natAbs < y.natAbs) :
    Calls Try.prog 29 #[.agg #[.bool n, .slice A l c], .agg #[.bool m, .slice B l' d]] w (Ret w (K3 (KI (x.tdiv y)) (KI (x.tmod y)) (KV (.int .i64 0)))) := by
  have hx0 := hx
  obtain ⟨xs, rfl, hc, rA, dx, tx, nx, rfl⟩ := hx
  obtain ⟨ys, rfl, hd, rB, dy, ty, ny, rfl⟩ := hy
  have hxn := lv_nonneg (show (0 : Int) < b32 by decide) dx
  have hyn := lv_nonneg (show (0 : Int) < b32 by decide) dy
  have hyz := sg_nz hy0
  have hyl : 0 < ys.length := by
    cases ys with
    | nil => exact absurd (by simp [lv]) hyz
    | cons a t => simp
  have e1 := sg_natAbs n _ hxn
  have e2 := sg_natAbs m _ hyn
  have HT := Lib.hid (sg_tdiv n m _ _ hxn hyn)
  have HM := Lib.hid (sg_tmod n m _ _ hxn hyn)
  have nw1 : Nw w ((((w.alloc (.cells #[.bool n, .slice A xs.length c] 28)).alloc (.cells #[.bool m, .slice B ys.length d] 28)).alloc (.cells #[.bool false, .slice none 0 0] 28)).alloc (.cells #[.bool false, .slice none 0 0] 28)) := ((((Nw.refl w).alloc _).alloc _).alloc _).alloc _
  have sg0 : Sg2 [(w.heap.size, 0, Value.bool n), (w.heap.size, 1, Value.slice A xs.length c), (w.heap.size + 1, 0, Value.bool m), (w.heap.size + 1, 1, Value.slice B ys.length d)] (w.heap.size + 1 + 1) (w.heap.size + 1 + 1 + 1) ((((w.alloc (.cells #[.bool n, .slice A xs.length c] 28)).alloc (.cells #[.bool m, .slice B ys.length d] 28)).alloc (.cells #[.bool false, .slice none 0 0] 28)).alloc (.cells #[.bool false, .slice none 0 0] 28)) := by
    refine ⟨⟨by go_simp, by go_simp, by go_simp, by go_simp, trivial⟩, ?_, ?_, by go_simp⟩
    · have h1 := box_two ((w.alloc (.cells #[.bool n, .slice A xs.length c] 28)).alloc (.cells #[.bool m, .slice B ys.length d] 28)) 28 false none 0 0
      have h2 := h1.below ((Nw.refl _).alloc (.cells #[.bool false, .slice none 0 0] 28))
      simpa using h2
    · have h1 := box_two (((w.alloc (.cells #[.bool n, .slice A xs.length c] 28)).alloc (.cells #[.bool m, .slice B ys.length d] 28)).alloc (.cells #[.bool false, .slice none 0 0] 28)) 28 false none 0 0
      simpa using h1
  have SG := Lib.hid sg0
  have HX0 := Lib.hid hx0
  have RA := Lib.hid (rA.kept nw1.kept)
  have RB := Lib.hid (rB.kept nw1.kept)
  by_cases hlt : lv b32 xs < lv b32 ys
  · have hcm := Lib.hid (cmp_lt hlt)
    clear rA rB e1 e2 h1 hy0 hx0
    have e3 : sg n (lv b32 xs / lv b32 ys) = sg n 0 := by rw [Int.ediv_eq_zero_of_lt hxn hlt]
    have HQ : (sg n (lv b32 xs)).tdiv (sg m (lv b32 ys)) = 0 := by rw [HT.out, Int.ediv_eq_zero_of_lt hxn hlt]; cases (n != m) <;> simp [sg]
    have HR : (sg n (lv b32 xs)).tmod (sg m (lv b32 ys)) = sg n (lv b32 xs) := by rw [HM.out, Int.emod_eq_of_lt hxn hlt]
    have HQ := Lib.hid HQ
    have HR := Lib.hid HR
    clear e3 hlt hyz hxn hyn
    go_enter Try.func29, Try.ntmps29
    go_wp2_with (go_at_call 83; refine (compared_c A B c d xs ys _ RA.out RB.out dx dy tx ty).mono ?_; rintro e w1 ⟨_, rfl, hk, hb⟩; rw [hcm.out] at hk; subst hk; obtain ⟨⟨q1, q2, q3, q4, _⟩, B1, B2, _⟩ := SG.out.nw hb; obtain ⟨⟨u0, hu0, hm0⟩, hf0⟩ := B1 0 (by omega); obtain ⟨⟨u1, hu1, hm1⟩, hf1⟩ := B1 1 (by omega); obtain ⟨⟨t0, ht0, hk0⟩, hg0⟩ := B2 0 (by omega); obtain ⟨⟨t1, ht1, hk1⟩, hg1⟩ := B2 1 (by omega))
    go_region
    have r1 := store_I1 (z := 0) (z' := sg n (lv b32 xs)) (show w.heap.size + 1 + 1 < w.heap.size + 1 + 1 + 1 by omega) B1 (RI.zero w1)
    have r2 := store_I2 (z := 0) (z' := sg n (lv b32 xs)) (show w.heap.size + 1 + 1 < w.heap.size + 1 + 1 + 1 by omega) (r1.1.2.2.2.2.1 B2) (((HX0.out.kept nw1.kept).kept hb.kept).kept r1.1.2.1)
    have b2 := (KB.nwst _ _ _ _ (Nw.refl _).drew) r2.2
    have b1 := (KB.nwst _ _ _ _ (Nw.refl _).drew) (r2.1.2.2.2.2.2.1 r1.2)
    have hn := (((nw1.trans hb).r2 r1.1 (by omega)).r2 r2.1 (by omega)).drew
    generalize World.drew _ = w9 at *
    obtain ⟨m1, D1, l1, c1, p0, p1, i1⟩ := b1
    obtain ⟨m2, D2, l2, c2, p2, p3, i2⟩ := b2
    go_wp2
    exact bodyPost_ret (v := .tuple #[.agg #[.bool m1, .slice D1 l1 c1], .agg #[.bool m2, .slice D2 l2 c2], .int .i64 0]) (by simp [results, Try.results29, go_sem, p0, p1, p2, p3]) rfl ⟨_, rfl, ⟨_, _, _, rfl, ⟨_, _, _, _, rfl, i1.eq (by rw [HQ.out])⟩, ⟨_, _, _, _, rfl, i2.eq (by rw [HR.out])⟩, rfl⟩, hn⟩
  · have hge : lv b32 ys ≤ lv b32 xs := by omega
    have hcm := Lib.hid (cmp_ge hge)
    have hl1 : ys.length = 1 := by omega
    obtain ⟨y0, hys⟩ := List.length_eq_one_iff.1 hl1
    subst hys
    have ely : lv b32 [y0] = y0 := by simp [lv]
    have hy1 := dy y0 (by simp)
    rw [b32_eq] at hy1
    obtain ⟨y1, y2⟩ := hy1
    have y3 : 0 < y0 := by rw [ely] at hyz; omega
    have HQ : (sg n (lv b32 xs)).tdiv (sg m (lv b32 [y0])) = sg (n != m) (lv b32 xs / y0) := by rw [HT.out, ely]
    have HR : (sg n (lv b32 xs)).tmod (sg m (lv b32 [y0])) = sg n (lv b32 xs % y0) := by rw [HM.out, ely]
    have HQ := Lib.hid HQ
    have HR := Lib.hid HR
    obtain ⟨bd, hB, hcellb⟩ := RB.out.2 0 (by simp)
    subst hB
    clear rA rB e1 e2 h1 hy0 hx0 hlt hge hyz hxn hyn hyl hl1
    go_enter Try.func29, Try.ntmps29
    go_wp2_with (go_at_call 83; refine (compared_c A _ c d xs [y0] _ RA.out RB.out dx dy tx ty).mono ?_; rintro e w1 ⟨_, rfl, hk, hb⟩; have hcm1 := hcm.out; generalize cmp (lv b32 xs) (lv b32 [y0]) = cm at hcm1 hk; subst hk; obtain ⟨⟨q1, q2, q3, q4, _⟩, B1, B2, _⟩ := SG.out.nw hb; obtain ⟨⟨u0, hu0, hm0⟩, hf0⟩ := B1 0 (by omega); obtain ⟨⟨u1, hu1, hm1⟩, hf1⟩ := B1 1 (by omega); obtain ⟨⟨t0, ht0, hk0⟩, hg0⟩ := B2 0 (by omega); obtain ⟨⟨t1, ht1, hk1⟩, hg1⟩ := B2 1 (by omega); have hcb := hb.kept _ _ _ hcellb; simp only [at0, List.getD_cons_zero] at hcb; have hcb0 := hcb; rw [bd_zero] at hcb0)
    have n1 : Nw w _ := nw1.trans hb
    refine region_nw [(6, K2 (KL .u32 (fun zs => dg b32 zs ∧ lv b32 zs = lv b32 xs / y0 ∧ top zs)) (KV (.int .u32 (lv b32 xs % y0))))] (by kernel_rfl) (by kernel_rfl) (by kernel_rfl) (by kernel_rfl) ⟨SN.st (K2.st (KL.st _ _) (KV.st _)), trivial⟩ ?_
    repeat
      apply Rg.wpK_quiet rfl rfl
      case hq => intro W hS; have q0 := hS.c q1; have q1 := hS.c q2; have q2 := hS.c q3; have q3 := hS.c q4; have q4 := hS.c hcb; have q5 := hS.c hcb0; go_simp; exact rfl
      case he => exact (by simp only [Act.put, List.setIfInBounds_toArray, List.set_cons_zero, List.set_cons_succ]; exact rfl)
    apply Rg.wpK_know rfl rfl
    case ha =>
      intro W hR hS hF
      have hn := n1.trans hS
      have q0 := hS.c q1
      have q1 := hS.c q2
      have q2 := hS.c q3
      have q3 := hS.c q4
      have q4 := hS.c hcb
      have q5 := hS.c hcb0
      unfold Rg.gives
      go_simp
      exact Rg.gives_enter (call_nw (divided_l A _ c xs y0 W rfl ((RA.out.kept hb.kept).kept hS.kept) dx (by omega) y3 y2))
    intro u hu
    obtain ⟨W0, hw1, hw2, hf⟩ := hu
    obtain ⟨_, _, rfl, ⟨zs, C6, c6, e0, hx⟩, rfl⟩ := Rg.upd_at rfl (hf 6)
    obtain ⟨l6, e1⟩ : ∃ n, n = zs.length := ⟨_, rfl⟩
    rw [← e1] at e0
    subst e0
    clear hx e1
    have hx := trivial
    refine ⟨_, (by simp only [Act.put, List.setIfInBounds_toArray, List.set_cons_zero, List.set_cons_succ]; exact rfl), ?_⟩
    clear hf hw1 hw2 hx W0
    repeat
      apply Rg.wpK_quiet rfl rfl
      case hq => intro W hS; have q0 := hS.c q1; have q1 := hS.c q2; have q2 := hS.c q3; have q3 := hS.c q4; have q4 := hS.c hcb; have q5 := hS.c hcb0; go_simp; exact rfl
      case he => exact (by simp only [Act.put, List.setIfInBounds_toArray, List.set_cons_zero, List.set_cons_succ]; exact rfl)
    refine Rg.wpK_end fun w9 hR hS hF => ?_
    have hn := n1.trans hS
    have h6 := Rg.upd_at rfl (hF 6)
    clear hF hR
    obtain ⟨_, us, e8, hc8, r8, p81, p82, _⟩ := K2L h6
    obtain ⟨qr, hqr⟩ : ∃ qr, qr = lv b32 xs % y0 := ⟨_, rfl⟩
    have hr0 : 0 ≤ qr := by rw [hqr]; exact Int.emod_nonneg _ (by omega)
    have hr1 : qr < b32 := by have := Int.emod_lt_of_pos (lv b32 xs) y3; rw [← hqr] at this; rw [b32_eq]; omega
    have dqr : dg b32 [qr] := by intro x hx; simp at hx; rw [hx]; exact ⟨hr0, hr1⟩
    rw [← hqr] at HR ⊢
    have S2 := Lib.hid ((SG.out.nw hb).nw hS)
    have HC8 := Lib.hid hc8
    have E8 := Lib.hid e8
    clear h6 hqr hc8 e8 q1 q2 q3 q4
    go_wp2
    have n1 : Nw w _ := (hn).drew
    have hw : w.heap.size ≤ w.heap.size + 1 + 1 := by omega
    refine region_two [(w.heap.size, 0, Value.bool n), (w.heap.size, 1, Value.slice A xs.length c), (w.heap.size + 1, 0, Value.bool m), (w.heap.size + 1, 1, Value.slice (some bd) [y0].length d)] (w.heap.size + 1 + 1) (w.heap.size + 1 + 1 + 1) 1000 (KB (w.heap.size + 1 + 1) (sg (!(n == m)) (lv b32 xs / y0)) undef) (KB (w.heap.size + 1 + 1 + 1) (sg n qr) undef) [(2, KI (sg (!(n == m)) (lv b32 xs / y0))), (6, KL .u32 (fun zs => zs = [qr])), (7, KI (sg n qr)), (8, fun _ W => (KB (w.heap.size + 1 + 1) (sg (!(n == m)) (lv b32 xs / y0)) undef) W), (9, fun _ W => (KB (w.heap.size + 1 + 1 + 1) (sg n qr) undef) W)] (by kernel_rfl) (by kernel_rfl) (by kernel_rfl) (by kernel_rfl) ?_ ⟨St2.st (KI.st _), St2.st (KL.st _ _), St2.st (KI.st _), St2.r, St2.s, trivial⟩ ((S2.out.nw (Nw.refl _).drew)) ?_
    · first | trivial | (simp only [Low, and_true]; omega)
    repeat
      apply Rg.wpK_quiet rfl rfl
      case hq => intro W hS; obtain ⟨⟨q1, q2, q3, q4, _⟩, _⟩ := hS; go_simp; exact rfl
      case he => exact (by simp only [Act.put, List.setIfInBounds_toArray, List.set_cons_zero, List.set_cons_succ]; exact rfl)
    apply Rg.wpK_know rfl rfl
    case ha =>
      intro W hR hS hF
      have hn := n1.r2 hR hw
      obtain ⟨⟨q1, q2, q3, q4, _⟩, hB1, hB2, hr⟩ := hS
      unfold Rg.gives
      go_simp
      exact Rg.gives_enter (call_r2 (KB.nwst _ _) (KB.nwst _ _) (ret_eq (made_l E8.out (!(n == m)) ((r8.kept (Nw.refl _).drew.kept).kept hR.2.1) (by rw [← E8.out]; exact HC8.out) p81) (by rw [p82])) hr)
    intro u hu
    obtain ⟨W0, hw1, hw2, hf⟩ := hu
    obtain ⟨m2, D2, l2, c2, rfl, hx⟩ := Rg.upd_at rfl (hf 2)
    refine ⟨_, (by simp only [Act.put, List.setIfInBounds_toArray, List.set_cons_zero, List.set_cons_succ]; exact rfl), ?_⟩
    clear hf hw1 hw2 hx W0
    repeat
      apply Rg.wpK_quiet rfl rfl
      case hq => intro W hS; obtain ⟨⟨q1, q2, q3, q4, _⟩, _⟩ := hS; go_simp; exact rfl
      case he => exact (by simp only [Act.put, List.setIfInBounds_toArray, List.set_cons_zero, List.set_cons_succ]; exact rfl)
    apply Rg.wpK_know rfl rfl
    case ha =>
      intro W hR hS hF
      have hn := n1.r2 hR hw
      obtain ⟨⟨q1, q2, q3, q4, _⟩, hB1, hB2, hr⟩ := hS
      unfold Rg.gives
      go_simp
      exact Rg.gives_value ⟨R2.nw hr (KB.nwst _ _) (KB.nwst _ _) ((Nw.refl W).alloc _), [qr], _, _, rfl, by simp, Rd.new1 _ _ _ _, rfl⟩
    intro u hu
    obtain ⟨W0, hw1, hw2, hf⟩ := hu
    obtain ⟨zs, C6, c6, e0, hx⟩ := Rg.upd_at rfl (hf 6)
    obtain ⟨l6, e1⟩ : ∃ n, n = zs.length := ⟨_, rfl⟩
    rw [← e1] at e0
    subst e0
    clear hx e1
    have hx := trivial
    refine ⟨_, (by simp only [Act.put, List.setIfInBounds_toArray, List.set_cons_zero, List.set_cons_succ]; exact rfl), ?_⟩
    clear hf hw1 hw2 hx W0
    repeat
      apply Rg.wpK_quiet rfl rfl
      case hq => intro W hS; obtain ⟨⟨q1, q2, q3, q4, _⟩, _⟩ := hS; go_simp; exact rfl
      case he => exact (by simp only [Act.put, List.setIfInBounds_toArray, List.set_cons_zero, List.set_cons_succ]; exact rfl)
    apply Rg.wpK_know rfl rfl
    case ha =>
      intro W hR hS hF
      have hn := n1.r2 hR hw
      obtain ⟨⟨q1, q2, q3, q4, _⟩, hB1, hB2, hr⟩ := hS
      have h6 := KL.slice (Rg.upd_at rfl (hF 6 (by kernel_rfl)))
      obtain ⟨z6, e6, hc6, r6, p6⟩ := h6
      subst e6
      unfold Rg.gives
      go_simp
      exact Rg.gives_enter (call_r2 (KB.nwst _ _) (KB.nwst _ _) (ret_eq (made_l (show 1 = z6.length by rw [p6]; rfl) n r6 hc6 (dg_of_one p6 dqr)) (congrArg (fun t => KI (sg n t)) (lv_of_one p6))) hr)
    intro u hu
    obtain ⟨W0, hw1, hw2, hf⟩ := hu
    obtain ⟨m7, D7, l7, c7, rfl, hx⟩ := Rg.upd_at rfl (hf 7)
    refine ⟨_, (by simp only [Act.put, List.setIfInBounds_toArray, List.set_cons_zero, List.set_cons_succ]; exact rfl), ?_⟩
    clear hf hw1 hw2 hx W0
    repeat
      apply Rg.wpK_quiet rfl rfl
      case hq => intro W hS; obtain ⟨⟨q1, q2, q3, q4, _⟩, _⟩ := hS; go_simp; exact rfl
      case he => exact (by simp only [Act.put, List.setIfInBounds_toArray, List.set_cons_zero, List.set_cons_succ]; exact rfl)
    apply Rg.wpK_know rfl rfl
    case ha =>
      intro W hR hS hF
      have hn := n1.r2 hR hw
      obtain ⟨⟨q1, q2, q3, q4, _⟩, hB1, hB2, hr⟩ := hS
      have i2 := KI.agg (Rg.upd_at rfl (Rg.upd_off rfl (Rg.upd_off rfl (hF 2 (by kernel_rfl)))))
      obtain ⟨⟨v0, hv0, hn0⟩, hf0⟩ := hB1 0 (by omega)
      obtain ⟨⟨v1, hv1, hn1⟩, hf1⟩ := hB1 1 (by omega)
      unfold Rg.gives
      go_simp
      exact Rg.gives_skip (store_I1 (by omega) hB1 i2)
    intro u hu
    obtain ⟨W0, hw1, hw2, hf⟩ := hu
    have hx := trivial
    refine ⟨_, (by simp only [Act.put, List.setIfInBounds_toArray, List.set_cons_zero, List.set_cons_succ]; exact rfl), ?_⟩
    clear hf hw1 hw2 hx W0
    repeat
      apply Rg.wpK_quiet rfl rfl
      case hq => intro W hS; obtain ⟨⟨q1, q2, q3, q4, _⟩, _⟩ := hS; go_simp; exact rfl
      case he => exact (by simp only [Act.put, List.setIfInBounds_toArray, List.set_cons_zero, List.set_cons_succ]; exact rfl)
    apply Rg.wpK_know rfl rfl
    case ha =>
      intro W hR hS hF
      have hn := n1.r2 hR hw
      obtain ⟨⟨q1, q2, q3, q4, _⟩, hB1, hB2, hr⟩ := hS
      have i7 := KI.agg (Rg.upd_at rfl (Rg.upd_off rfl (hF 7 (by kernel_rfl))))
      obtain ⟨⟨v0, hv0, hn0⟩, hf0⟩ := hB2 0 (by omega)
      obtain ⟨⟨v1, hv1, hn1⟩, hf1⟩ := hB2 1 (by omega)
      unfold Rg.gives
      go_simp
      exact Rg.gives_skip (store_I2 (by omega) hB2 i7)
    intro u hu
    obtain ⟨W0, hw1, hw2, hf⟩ := hu
    have hx := trivial
    refine ⟨_, (by simp only [Act.put, List.setIfInBounds_toArray, List.set_cons_zero, List.set_cons_succ]; exact rfl), ?_⟩
    clear hf hw1 hw2 hx W0
    repeat
      apply Rg.wpK_quiet rfl rfl
      case hq => intro W hS; obtain ⟨⟨q1, q2, q3, q4, _⟩, _⟩ := hS; go_simp; exact rfl
      case he => exact (by simp only [Act.put, List.setIfInBounds_toArray, List.set_cons_zero, List.set_cons_succ]; exact rfl)
    refine Rg.wpK_end fun w9 hR hS hF => ?_
    have hn := n1.r2 hR hw
    have b1 := Rg.upd_at rfl (Rg.upd_off rfl (hF 8))
    have b2 := Rg.upd_at rfl (hF 9)
    obtain ⟨m1, D1, l1, c1, p0, p1, i1⟩ := b1
    obtain ⟨m2, D2, l2, c2, p2, p3, i2⟩ := b2
    go_wp2
    exact bodyPost_ret (v := .tuple #[.agg #[.bool m1, .slice D1 l1 c1], .agg #[.bool m2, .slice D2 l2 c2], .int .i64 0]) (by simp [results, Try.results29, go_sem, p0, p1, p2, p3]) rfl ⟨_, rfl, ⟨_, _, _, rfl, ⟨_, _, _, _, rfl, i1.eq HQ.out.symm⟩, ⟨_, _, _, _, rfl, i2.eq HR.out.symm⟩, rfl⟩, hn⟩
end Go.Proofs.Ytcgkgcciogibkaa
/- Contracts of library functions (bits, strings, slices.Grow) at this program, laid by the kit's own tool in plain words. -/
namespace Go.Proofs
open Go.Shelf
def Try.growU_ren : Go.Shelf.Ren := ⟨fun | 4 => 113 | n => n, fun | 22 => 22 | 25 => 92 | 3 => 3 | 4 => 4 | 9 => 9 | 20 => 20 | 0 => 0 | n => n, fun | n => n⟩
theorem Try.growU : Go.Proofs.Lays8.n4 Try.prog Try.growU_ren := {
  mixed := by kernel_rfl
  f4 := ⟨Try.f113.name, by decide, Try.func113.trans (congrArg some (by kernel_rfl))⟩
  t0 := Try.underlying0
  a0 := Try.isAgg0
  z0 := Try.sizeOf0
  v0 := Try.zeroValue0
  t3 := Try.underlying3
  a3 := Try.isAgg3
  z3 := Try.sizeOf3
  v3 := Try.zeroValue3
  t4 := Try.underlying4
  a4 := Try.isAgg4
  z4 := Try.sizeOf4
  v4 := Try.zeroValue4
  t9 := Try.underlying9
  a9 := Try.isAgg9
  z9 := Try.sizeOf9
  v9 := Try.zeroValue9
  t20 := Try.underlying20
  a20 := Try.isAgg20
  z20 := Try.sizeOf20
  v20 := Try.zeroValue20
  t22 := Try.underlying22
  a22 := Try.isAgg22
  z22 := Try.sizeOf22
  v22 := Try.zeroValue22 }
def Try.lays137_ren : Go.Shelf.Ren := ⟨fun | 137 => 121 | 217 => 125 | 266 => 126 | n => n, fun | 9 => 9 | 5 => 5 | 3 => 3 | n => n, fun | n => n⟩
theorem Try.lays137 : Go.Proofs.Lays.n137 Try.prog Try.lays137_ren := {
  mixed := by kernel_rfl
  f137 := Try.func121.trans (congrArg some (by kernel_rfl))
  f217 := Try.func125.trans (congrArg some (by kernel_rfl))
  f266 := Try.func126.trans (congrArg some (by kernel_rfl))
  t3 := Try.underlying3
  a3 := Try.isAgg3
  z3 := Try.sizeOf3
  v3 := Try.zeroValue3
  t5 := Try.underlying5
  a5 := Try.isAgg5
  z5 := Try.sizeOf5
  v5 := Try.zeroValue5
  t9 := Try.underlying9
  a9 := Try.isAgg9
  z9 := Try.sizeOf9
  v9 := Try.zeroValue9 }
open Go.RowKit in
theorem Try.strings_IndexByte (s : ByteArray) (c : Int) (w : World) :
    Calls Try.prog 121 #[.string s, .int .u8 c] w fun e w' => e = .returned (.int .i64 (Lib.indexByte s.data.toList c.toNat.toUInt8)) ∧ w' = w := Any.strings_IndexByte Try.lays137 s c w
def Try.lays99_ren : Go.Shelf.Ren := ⟨fun | 99 => 100 | 206 => 120 | n => n, fun | 9 => 9 | 4 => 4 | 3 => 3 | n => n, fun | n => n⟩
theorem Try.lays99 : Go.Proofs.Lays.n99 Try.prog Try.lays99_ren := {
  mixed := by kernel_rfl
  f99 := Try.func100.trans (congrArg some (by kernel_rfl))
  f206 := Try.func120.trans (congrArg some (by kernel_rfl))
  t3 := Try.underlying3
  a3 := Try.isAgg3
  z3 := Try.sizeOf3
  v3 := Try.zeroValue3
  t4 := Try.underlying4
  a4 := Try.isAgg4
  z4 := Try.sizeOf4
  v4 := Try.zeroValue4
  t9 := Try.underlying9
  a9 := Try.isAgg9
  z9 := Try.sizeOf9
  v9 := Try.zeroValue9 }
open Go.RowKit Go.Lib in
theorem Try.strings_HasPrefix (s p : ByteArray) (w : World) :
    Calls Try.prog 100 #[.string s, .string p] w fun e w' => e = .returned (.bool (Lib.hasPrefix s.data.toList p.data.toList)) ∧ w' = w := Any.strings_HasPrefix Try.lays99 s p w
end Go.Proofs
/- The contract of the program's twos. -/
set_option linter.unusedVariables false
set_option linter.unusedSimpArgs false
namespace Go.Proofs.Ytcgkgcciogibkaa
open Go.RowKit Ma

theorem own_drewn {w : World} {base n G : Nat} {cur : Array Value} (hb : base ≤ w.heap.size) (hG : G ≤ maxLen) (hs : cur.size = G) (hn : n ≤ G) :
    (w.drew.alloc (.cells cur 92)).ownsRow base 92 1 (.slice (some ⟨w.heap.size, 0, none⟩) n G) n (cur.toList.take n) := by
  refine ⟨by simp; omega, .inr ⟨w.heap.size, G, cur, rfl, hb, ?_, hn, hG, by omega, by simp⟩⟩
  show (w.drew.heap.push (Obj.cells cur 92))[w.heap.size]? = _
  exact Array.getElem?_push_size
theorem size_zeroes (v : Value) (n : Nat) : (Builtin.zeroCells #[v] n).size = n := by
  simp [Builtin.zeroCells]
set_option maxHeartbeats 1600000 in
/-- slices.Grow on a slice of the call's own: behind it there are n cells. -/
theorem grow_c {w : World} {base : Nat} {v : Value} {xs : List Int} {n : Nat} (ho : Own w base 92 .u32 v xs) (hb : base ≤ w.heap.size) (hn0 : 0 < n) (hn : n ≤ 1000000) (hl : xs.length ≤ 1000000) (hxn : xs.length ≤ n) :
    Calls Try.prog 113 #[v, .int .i64 n] w fun e w' => ∃ g c vs, e = .returned (.slice (some ⟨g, 0, none⟩) xs.length c) ∧ n ≤ c ∧ c ≤ 9223372036854775807 ∧ w'.ownsRow base 92 1 (.slice (some ⟨g, 0, none⟩) n c) n vs ∧ vs.take xs.length = xs.map (Value.int .u32) ∧ Nw w w' := by
  obtain ⟨i0, hi, hz0, hz1, hz2⟩ := info_parts info_u32
  obtain ⟨hlen, ⟨hv, h0⟩ | ⟨g, cap, cur, hv, hbg, hg, hc, hm, hs, ht⟩⟩ := ho
  · subst hv
    have hx : xs = [] := List.eq_nil_of_length_eq_zero h0
    subst hx
    have := Any8.slices_Grow_grow Try.growU i0 (.int .u32 0) hi hz0 (by omega) none 0 0 n [] w (by omega) (by omega) (by rw [hz2]; omega) (by omega) (by simp) (fun _ => rfl) (fun a ha => by cases ha)
    rw [show Try.growU_ren.t 25 = 92 from rfl] at this
    obtain ⟨G, hG⟩ : ∃ G, G = grownCap w (0 + n) 0 92 := ⟨_, rfl⟩
    have g1 := grownCap_ge w (0 + n) 0 92
    have g2 := grownCap_le_maxLen w (0 + n) 0 92 (by unfold maxLen; omega)
    refine this.mono fun e w' ⟨e1, e2⟩ => ?_
    rw [← hG] at e1 e2 g1 g2
    subst e2
    refine ⟨w.heap.size, G, _, e1, by omega, by unfold maxLen at g2; omega, own_drewn hb g2 ?_ (by omega), by simp, (Nw.refl w).drew.alloc _⟩
    have z1 := size_zeroes (.int .u32 0) (0 + n - 0)
    have z2 := size_zeroes (.int .u32 0) (G - (0 + n))
    have zc : (Value.int .u32 0).cells = #[.int .u32 0] := rfl
    rw [zc, Array.size_append, Array.size_append, z1, z2]
    simp; omega
  · subst hv
    have hlx : xs.length ≤ cap := hc
    by_cases hroom : xs.length + n ≤ cap
    · have := Any8.slices_Grow_room Try.growU (some ⟨g, 0, none⟩) xs.length cap n w hlx (by unfold maxLen at hm; omega) (by omega) hroom
      refine this.mono fun e w' ⟨e1, e2⟩ => ?_
      subst e2
      refine ⟨g, cap, cur.toList.take n, e1, by omega, by unfold maxLen at hm; omega, ⟨by simp; omega, .inr ⟨g, cap, cur, rfl, hbg, hg, by omega, hm, hs, by simp⟩⟩, ?_, Nw.refl _⟩
      rw [List.take_take, Nat.min_eq_left hxn, ← ht]; simp
    · have := Any8.slices_Grow_grow Try.growU i0 (.int .u32 0) hi hz0 (by omega) (some ⟨g, 0, none⟩) xs.length cap n cur.toList w hlx (by omega) (by rw [hz2]; omega) (by omega) (by rw [hz1]; simpa using hs) (fun h => by cases h) (fun a ha j v hj => ?_)
      · rw [show Try.growU_ren.t 25 = 92 from rfl] at this
        obtain ⟨G, hG⟩ : ∃ G, G = grownCap w (xs.length + n) cap 92 := ⟨_, rfl⟩
        have g1 := grownCap_ge w (xs.length + n) cap 92
        have g2 := grownCap_le_maxLen w (xs.length + n) cap 92 (by unfold maxLen; omega)
        refine this.mono fun e w' ⟨e1, e2⟩ => ?_
        rw [← hG] at e1 e2 g1 g2
        subst e2
        refine ⟨w.heap.size, G, _, e1, by omega, by unfold maxLen at g2; omega, own_drewn hb g2 ?_ (by omega), ?_, (Nw.refl w).drew.alloc _⟩
        · have z1 := size_zeroes (.int .u32 0) (xs.length + n - cap)
          have z2 := size_zeroes (.int .u32 0) (G - (xs.length + n))
          have zc : (Value.int .u32 0).cells = #[.int .u32 0] := rfl
          rw [zc, Array.size_append, Array.size_append, z1, z2]
          simp; omega
        · rw [List.take_take, Nat.min_eq_left hxn]
          rw [← ht]
          simp only [Array.toList_append, List.append_assoc, Nat.mul_one]
          rw [List.take_append_of_le_length (by simp; omega)]
      · clear hz0 hz1 hz2 hi
        obtain rfl : a = ⟨g, 0, none⟩ := by simpa using ha.symm
        rw [add_at]
        obtain ⟨hj1, hj2⟩ := List.getElem?_eq_some_iff.1 hj
        have hrow : w.ownsRow base 92 1 (.slice (some ⟨g, 0, none⟩) cap cap) cap cur.toList := ⟨by simpa using hs, .inr ⟨g, cap, cur, rfl, hbg, hg, Nat.le_refl _, hm, hs, by rw [← hs, List.take_of_length_le (by simp)]⟩⟩
        rw [World.ownsRow.cellAt hrow j (by simp at hj1; omega)]
        exact hj
end Go.Proofs.Ytcgkgcciogibkaa
/- Bits of words: turning all bits of a word. No program in sight. -/
set_option linter.unusedVariables false
set_option linter.unusedSimpArgs false
namespace Go.Proofs.Ytcgkgcciogibkaa.Ma
open Go

theorem xor_ones (n : Nat) (h : n < 4294967296) : n ^^^ 4294967295 = 4294967295 - n := by
  apply Nat.eq_of_testBit_eq
  intro i
  have p32 : (2 : Nat) ^ 32 = 4294967296 := by decide
  have h1 := Nat.testBit_two_pow_sub_succ (x := n) (n := 32) (by omega) i
  have h2 := Nat.testBit_two_pow_sub_one 32 i
  rw [p32] at h1 h2
  rw [show 4294967295 - n = 4294967296 - (n + 1) by omega, h1, Nat.testBit_xor, show (4294967295 : Nat) = 4294967296 - 1 by decide, h2]
  by_cases hi : i < 32
  · simp [hi]
  · have : n.testBit i = false := Nat.testBit_lt_two_pow (Nat.lt_of_lt_of_le h (by rw [← p32]; exact Nat.pow_le_pow_right (by omega) (by omega)))
    simp [hi, this]
theorem flip0 (a : Int) (h : 0 ≤ a ∧ a < 4294967296) : bits .xor .u32 a 0 = a := by
  obtain ⟨A, rfl⟩ := Int.eq_ofNat_of_zero_le h.1
  have := u32_xor_nat A 0 (by omega) (by omega)
  simpa using this
theorem flip1 (a : Int) (h : 0 ≤ a ∧ a < 4294967296) : bits .xor .u32 a 4294967295 = 4294967295 - a := by
  obtain ⟨A, rfl⟩ := Int.eq_ofNat_of_zero_le h.1
  have := u32_xor_nat A 4294967295 (by omega) (by omega)
  rw [xor_ones A (by omega)] at this
  rw [show ((4294967295 : Nat) : Int) = 4294967295 from rfl] at this
  rw [this]; omega
theorem flip2 (a : Int) (h : 0 ≤ a ∧ a < 4294967296) : bits .xor .u32 IntKind.u32.max a = 4294967295 - a := by
  obtain ⟨A, rfl⟩ := Int.eq_ofNat_of_zero_le h.1
  have hm : IntKind.u32.max = ((4294967295 : Nat) : Int) := by simp [IntKind.max, IntKind.bits, IntKind.signed]
  rw [hm, u32_xor_nat 4294967295 A (by omega) (by omega), Nat.xor_comm, xor_ones A (by omega)]
  omega
end Go.Proofs.Ytcgkgcciogibkaa.Ma
/- The contract of the program's twos. -/
set_option linter.unusedVariables false
set_option linter.unusedSimpArgs false
namespace Go.Proofs.Ytcgkgcciogibkaa
open Go.RowKit Ma

/-- What a round of twos leaves: the first i cells are those of ys, flipped or not. -/
structure TwAt (ys : List Int) (m i : Nat) (f : Int → Int) (vs : List Value) : Prop where
  le : i ≤ m
  len : vs.length = m
  done : ∀ j, j < i → vs[j]? = some (.int .u32 (f (at0 ys j)))
  rest : ∀ j, i ≤ j → j < ys.length → vs[j]? = some (.int .u32 (at0 ys j))
theorem TwAt.start {ys : List Int} {m : Nat} {f : Int → Int} {vs : List Value} (hl : vs.length = m) (ht : vs.take ys.length = ys.map (Value.int .u32)) : TwAt ys m 0 f vs :=
  ⟨by omega, hl, fun j hj => by omega, fun j _ hj => by
    have : (vs.take ys.length)[j]? = vs[j]? := by rw [List.getElem?_take, if_pos hj]
    rw [← this, ht, List.getElem?_map, List.getElem?_eq_getElem hj, at0_of_lt hj]; rfl⟩
theorem TwAt.step {ys : List Int} {m i : Nat} {f : Int → Int} {vs : List Value} (h : TwAt ys m i f vs) (hi : i < m) : TwAt ys m (i + 1) f (vs.set i (.int .u32 (f (at0 ys i)))) := by
  obtain ⟨h1, h2, h3, h4⟩ := h
  refine ⟨by omega, by simp [h2], fun j hj => ?_, fun j hj hj2 => ?_⟩
  · by_cases e : j = i
    · subst e; rw [List.getElem?_set_self (by omega)]
    · rw [List.getElem?_set_ne (by omega)]; exact h3 j (by omega)
  · rw [List.getElem?_set_ne (by omega)]; exact h4 j (by omega) hj2
theorem TwAt.step2 {ys : List Int} {m i : Nat} {f : Int → Int} {vs : List Value} (h : TwAt ys m i f vs) (hi : i < m) (u : Value) : TwAt ys m (i + 1) f ((vs.set i u).set i (.int .u32 (f (at0 ys i)))) := by
  rw [List.set_set]; exact h.step hi
theorem TwAt.all {ys : List Int} {m : Nat} {f : Int → Int} {vs : List Value} (h : TwAt ys m m f vs) : vs = ((List.range m).map fun j => f (at0 ys j)).map (Value.int .u32) := by
  apply List.ext_getElem?
  intro j
  by_cases hj : j < m
  · rw [h.done j hj]; simp [hj]
  · rw [List.getElem?_eq_none (by rw [h.len]; omega), List.getElem?_eq_none (by simp; omega)]
theorem lv_range_id (b : Int) (m : Nat) : ∀ ys : List Int, ys.length ≤ m → lv b ((List.range m).map fun j => at0 ys j) = lv b ys := by
  intro ys hl
  have key : ∀ k, k ≤ m → lv b ((List.range k).map fun j => at0 ys j) = lv b (ys.take k) := by
    intro k hk
    induction k with
    | zero => simp [lv]
    | succ k ih =>
      rw [List.range_succ, List.map_append, List.map_singleton, lv_snoc, ih (by omega)]
      simp only [List.length_map, List.length_range]
      by_cases h : k < ys.length
      · rw [lv_take_succ _ _ _ h]
      · rw [at0_ge (by omega), List.take_of_length_le (by omega), List.take_of_length_le (by omega)]; omega
  rw [key m (Nat.le_refl _), List.take_of_length_le hl]
theorem lv_flip (b : Int) (m : Nat) (ys : List Int) : lv b ((List.range m).map fun j => (b - 1) - at0 ys j) = b ^ m - 1 - lv b ((List.range m).map fun j => at0 ys j) := by
  induction m with
  | zero => simp [lv]
  | succ m ih =>
    rw [List.range_succ, List.map_append, List.map_singleton, lv_snoc, List.map_append, List.map_singleton, lv_snoc, ih, Int.pow_succ]
    simp only [List.length_map, List.length_range]
    grind

theorem twos_id {m : Nat} {ys : List Int} (dy : Ma.dg b32 ys) (hl : ys.length ≤ m) :
    Ma.dg b32 ((List.range m).map fun j => bits .xor .u32 (at0 ys j) 0) ∧ ((List.range m).map fun j => bits .xor .u32 (at0 ys j) 0).length = m ∧ lv b32 ((List.range m).map fun j => bits .xor .u32 (at0 ys j) 0) = lv b32 ys % b32 ^ m := by
  have e : ((List.range m).map fun j => bits .xor .u32 (at0 ys j) 0) = (List.range m).map fun j => at0 ys j := by
    apply List.map_congr_left
    intro j _
    exact flip0 _ (by have := dg_at dy (by decide) j; rw [b32_eq] at this; exact this)
  rw [e]
  refine ⟨fun x hx => ?_, by simp, ?_⟩
  · obtain ⟨j, _, rfl⟩ := List.mem_map.1 hx
    exact dg_at dy (by decide) j
  · rw [lv_range_id _ _ _ hl, Int.emod_eq_of_lt (lv_nonneg (by decide) dy) (Int.lt_of_lt_of_le (lv_lt (by decide) dy) (pow_le (by decide) hl))]
theorem twos_flip {m : Nat} {ys : List Int} {x : Int} (dy : Ma.dg b32 ys) (hl : ys.length ≤ m) (hx : lv b32 ys = -1 - x) :
    Ma.dg b32 ((List.range m).map fun j => bits .xor .u32 (at0 ys j) 4294967295) ∧ ((List.range m).map fun j => bits .xor .u32 (at0 ys j) 4294967295).length = m ∧ lv b32 ((List.range m).map fun j => bits .xor .u32 (at0 ys j) 4294967295) = x % b32 ^ m := by
  have e : ((List.range m).map fun j => bits .xor .u32 (at0 ys j) 4294967295) = (List.range m).map fun j => (b32 - 1) - at0 ys j := by
    apply List.map_congr_left
    intro j _
    rw [flip1 _ (by have := dg_at dy (by decide) j; rw [b32_eq] at this; exact this), b32_eq]
    omega
  rw [e]
  refine ⟨fun x hx => ?_, by simp, ?_⟩
  · obtain ⟨j, _, rfl⟩ := List.mem_map.1 hx
    have := dg_at dy (by decide) j
    omega
  · rw [lv_flip, lv_range_id _ _ _ hl, hx]
    have h1 := lv_nonneg (show (0 : Int) < b32 by decide) dy
    have h2 := lv_lt (show (0 : Int) < b32 by decide) dy
    have h3 := pow_le (b := b32) (by decide) hl
    have e2 : x % b32 ^ m = (x + b32 ^ m) % b32 ^ m := by rw [Int.add_emod_right]
    rw [e2, Int.emod_eq_of_lt (by omega) (by omega)]
    omega
theorem row_base {w : World} {b b' : Nat} {e : TypeId} {z : Nat} {v : Value} {n : Nat} {vs : List Value} (h : w.ownsRow b e z v n vs) (hb : b' ≤ b) : w.ownsRow b' e z v n vs := by
  obtain ⟨h1, h2 | ⟨g, cap, cur, hv, hbg, hr⟩⟩ := h
  · exact ⟨h1, .inl h2⟩
  · exact ⟨h1, .inr ⟨g, cap, cur, hv, by omega, hr⟩⟩
theorem row_ge {w : World} {b : Nat} {e : TypeId} {z n cap g : Nat} {vs : List Value} (h : w.ownsRow b e z (.slice (some ⟨g, 0, none⟩) n cap) n vs) : b ≤ g := (World.ownsRow.lt h g rfl).1
set_option maxHeartbeats 1600000 in
set_option maxRecDepth 100000 in
theorem twos_pos {x : Int} {A : Option Addr} {l c : Nat} {w : World} (m : Nat) (hx : RI w false A l c x) (hl : l ≤ 400000) (h0 : 0 < m) (hm : m ≤ 1000000) (hlm : l ≤ m) :
    Calls Try.prog 71 #[.agg #[.bool false, .slice A l c], .int .i64 m] w (Ret w (KO w.heap.size 92 .u32 fun ts => dg b32 ts ∧ ts.length = m ∧ lv b32 ts = x % b32 ^ m)) := by
  obtain ⟨xs, rfl, hc, rA, dx, tx, nx, rfl⟩ := hx
  have nw1 : Nw w ((w.alloc (.cells #[.bool false, .slice A xs.length c] 28)).alloc (.cells #[.bool false, .slice A xs.length c] 28)) := ((Nw.refl w).alloc _).alloc _
  have q0 : Has [(w.heap.size + 1, 1, Value.slice A xs.length c)] ((w.alloc (.cells #[.bool false, .slice A xs.length c] 28)).alloc (.cells #[.bool false, .slice A xs.length c] 28)) := ⟨by go_simp, trivial⟩
  have Q0 := Lib.hid q0
  have RA := Lib.hid (rA.kept nw1.kept)
  clear rA q0
  go_enter Try.func71, Try.ntmps71
  go_wp2_with (first
    | (go_at_call 112; refine (clone_o A c xs _ RA.out (by omega)).mono ?_; rintro e w1 ⟨v1, rfl, o1, hb1⟩)
    | (go_at_call 113; refine (grow_c (n := m) o1 hb1.size h0 hm (by omega) hlm).mono ?_; rintro e w2 ⟨g, cap, vs, rfl, hmc, hc63, ho, ht, hb2⟩; obtain ⟨q1, _⟩ := (Q0.out.nw hb1).nw hb2))
  have ho' := row_base (b' := w.heap.size + 1 + 1) ho (by first | omega | (simp; done))
  have hg := row_ge ho'
  have hts : TwAt xs m 0 (fun a => bits .xor .u32 a 0) vs := TwAt.start (by have := ho.1; simpa using this) ht
  have hn0 : Nw w w2 := (nw1.trans hb1).trans hb2
  clear ho ht
  go_loopw [23] (fun ci wr => ∃ (i : Nat) (us : List Value), ci = .int .i64 i ∧ wr.ownsRow (w.heap.size + 1 + 1) 92 1 (.slice (some ⟨g, 0, none⟩) m cap) m us ∧ TwAt xs m i (fun a => bits .xor .u32 a 0) us ∧ Nw w wr ∧ wr.cell? ⟨w.heap.size + 1, 1, none⟩ = w2.cell? ⟨w.heap.size + 1, 1, none⟩)
    (fun ci _ => m - (intOf ci).toNat)
  case atStart => exact ⟨0, vs, rfl, ho', hts, hn0, rfl⟩
  case round =>
    obtain ⟨i, us, rfl, hu, ht, hn, hq⟩ := hrel
    have hi := ht.le
    have hul := ht.len
    rw [q1] at hq
    clear ho' hts hn0
    by_cases him : i < m
    · have fz := World.ownsRow.frozenAt hu i
      have ce := World.ownsRow.cellAt hu i (by omega)
      have hgne : w.heap.size + 1 ≠ g := by omega
      have HU := Lib.hid hu
      have HST := Lib.hid (ht.step him)
      have HST2 := Lib.hid (ht.step2 him (.int .u32 0))
      by_cases hy : i < xs.length
      · have hrest := ht.rest i (Nat.le_refl _) hy
        rw [hrest] at ce
        clear hrest ht hu
        go_wp2
        exact ⟨⟨i + 1, _, by go_num, (World.ownsRow.stored HU.out i _).1, HST.out, hn.set (by simp; omega) _, by rw [World.cell?_setCell_other (h := by simp <;> omega), hq, q1]⟩, by simp [intOf]; omega⟩
      · have hex : ∃ u0, us[i]? = some u0 := ⟨us[i]'(by omega), List.getElem?_eq_getElem _⟩
        obtain ⟨u0, hu0⟩ := hex
        rw [hu0] at ce
        have hy0 : at0 xs i = 0 := at0_ge (by omega)
        rw [hy0] at HST2
        clear hu0 ht hu hy0
        go_wp2
        exact ⟨⟨i + 1, _, by go_num, (World.ownsRow.stored (World.ownsRow.stored HU.out i _).1 i _).1, HST2.out, (hn.set (by simp; omega) _).set (by simp; omega) _, by rw [World.cell?_setCell_other (h := by simp <;> omega), World.cell?_setCell_other (h := by simp <;> omega), hq, q1]⟩, by simp [intOf]; omega⟩
    · have hie : i = m := by omega
      have hall := (hie ▸ ht : TwAt xs m m (fun a => bits .xor .u32 a 0) us).all
      have HA := Lib.hid hall
      have HU := Lib.hid hu
      clear hall ht hu hie
      go_wp2
      go_ret
      exact ⟨_, rfl, ⟨(List.range m).map fun j => (fun a => bits .xor .u32 a 0) (at0 xs j), g, cap, by simp, row_base (by have := HU.out; rw [HA.out] at this; simpa [Own] using this) (by omega), (by simpa [sg] using twos_id dx hlm)⟩, hn⟩
set_option maxHeartbeats 1600000 in
set_option maxRecDepth 100000 in
theorem twos_neg {x : Int} {A : Option Addr} {l c : Nat} {w : World} (m : Nat) (hx : RI w true A l c x) (hl : l ≤ 400000) (h0 : 0 < m) (hm : m ≤ 1000000) (hlm : l ≤ m) :
    Calls Try.prog 71 #[.agg #[.bool true, .slice A l c], .int .i64 m] w (Ret w (KO w.heap.size 92 .u32 fun ts => dg b32 ts ∧ ts.length = m ∧ lv b32 ts = x % b32 ^ m)) := by
  have hxa := hx.abs_lt
  have hx0 : x < 0 := by
    obtain ⟨xs, _, _, _, d, t, nz, rfl⟩ := hx
    have := top_le (show (0 : Int) < b32 by decide) d t (nz rfl)
    have := pos_pow (show (0 : Int) < b32 by decide) (xs.length - 1)
    simp [sg]; omega
  have nw1 : Nw w ((w.alloc (.cells #[.bool true, .slice A l c] 28)).alloc (.cells #[.bool true, .slice A l c] 28)) := ((Nw.refl w).alloc _).alloc _
  have sg0 : Sg [] (w.heap.size + 1) 2 ((w.alloc (.cells #[.bool true, .slice A l c] 28)).alloc (.cells #[.bool true, .slice A l c] 28)) := by
    refine ⟨trivial, ?_, by go_simp⟩
    have := box_two (w.alloc (.cells #[.bool true, .slice A l c] 28)) 28 true A l c
    simpa using this
  have SG := Lib.hid sg0
  have HX := Lib.hid (hx.kept nw1.kept)
  clear hx sg0
  go_enter Try.func71, Try.ntmps71
  go_wp2_with (go_at_call 110; refine (complement_c HX.out hl).mono ?_; rintro e w0 ⟨_, rfl, ⟨m1, D1, l1, c1, rfl, hi⟩, hb⟩; have b2 := (SG.out.nw hb).2.1; obtain ⟨⟨v0, hv0, hn0⟩, hf0⟩ := b2 0 (by omega); obtain ⟨⟨v1, hv1, hn1⟩, hf1⟩ := b2 1 (by omega))
  have hl1 : l1 ≤ l := hi.len_le l (by omega) (by omega)
  obtain ⟨ys, rfl, hyc, rY, dy, ty, ny, ey⟩ := hi
  have hyn := lv_nonneg (show (0 : Int) < b32 by decide) dy
  have hey : lv b32 ys = -1 - x := by
    cases m1
    · simpa [sg] using ey.symm
    · simp [sg] at ey; omega
  have HEY := Lib.hid hey
  clear hey ey hyn
  obtain ⟨W3, eW3, hR, k0, k1⟩ := store_two (m := m1) (D := D1) (l := ys.length) (c := c1) b2
  rw [eW3]
  have RY := Lib.hid (rY.kept hR.2.1)
  have Q0 := Lib.hid k1
  have nw3 : Nw w W3 := (nw1.trans hb).rr hR (by omega)
  have hsz3 := hR.2.2.1
  have hsz0 := hb.size
  have hszz : w.heap.size + 1 + 1 ≤ W3.heap.size := by simp at hsz0; omega
  clear hv0 hf0 hv1 hf1 hn0 hn1 b2 eW3 rY k0 k1
  go_wp2_with (first
    | (go_at_call 112; refine (clone_o D1 c1 ys _ RY.out (by omega)).mono ?_; rintro e w1 ⟨v1, rfl, o1, hb1⟩)
    | (go_at_call 113; refine (grow_c (n := m) o1 hb1.size h0 hm (by omega) (by omega)).mono ?_; rintro e w2 ⟨g, cap, vs, rfl, hmc, hc63, ho, ht, hb2⟩; have q1 := hb2.c (hb1.c Q0.out)))
  have hly : ys.length ≤ m := by omega
  have ho' := row_base (b' := w.heap.size + 1 + 1) ho (by first | omega | (simp; done))
  have hg := row_ge ho'
  have hts : TwAt ys m 0 (fun a => bits .xor .u32 a 4294967295) vs := TwAt.start (by have := ho.1; simpa using this) ht
  have hn0 : Nw w w2 := (nw3.trans hb1).trans hb2
  clear ho ht
  go_loopw [23] (fun ci wr => ∃ (i : Nat) (us : List Value), ci = .int .i64 i ∧ wr.ownsRow (w.heap.size + 1 + 1) 92 1 (.slice (some ⟨g, 0, none⟩) m cap) m us ∧ TwAt ys m i (fun a => bits .xor .u32 a 4294967295) us ∧ Nw w wr ∧ wr.cell? ⟨w.heap.size + 1, 1, none⟩ = w2.cell? ⟨w.heap.size + 1, 1, none⟩)
    (fun ci _ => m - (intOf ci).toNat)
  case atStart => exact ⟨0, vs, rfl, ho', hts, hn0, rfl⟩
  case round =>
    obtain ⟨i, us, rfl, hu, ht, hn, hq⟩ := hrel
    have hi := ht.le
    have hul := ht.len
    rw [q1] at hq
    clear ho' hts hn0
    by_cases him : i < m
    · have fz := World.ownsRow.frozenAt hu i
      have ce := World.ownsRow.cellAt hu i (by omega)
      have hgne : w.heap.size + 1 ≠ g := by omega
      have HU := Lib.hid hu
      have HST := Lib.hid (ht.step him)
      have HST2 := Lib.hid (ht.step2 him (.int .u32 0))
      by_cases hy : i < ys.length
      · have hrest := ht.rest i (Nat.le_refl _) hy
        rw [hrest] at ce
        clear hrest ht hu
        go_wp2
        exact ⟨⟨i + 1, _, by go_num, (World.ownsRow.stored HU.out i _).1, HST.out, hn.set (by simp; omega) _, by rw [World.cell?_setCell_other (h := by simp <;> omega), hq, q1]⟩, by simp [intOf]; omega⟩
      · have hex : ∃ u0, us[i]? = some u0 := ⟨us[i]'(by omega), List.getElem?_eq_getElem _⟩
        obtain ⟨u0, hu0⟩ := hex
        rw [hu0] at ce
        have hy0 : at0 ys i = 0 := at0_ge (by omega)
        rw [hy0] at HST2
        clear hu0 ht hu hy0
        go_wp2
        exact ⟨⟨i + 1, _, by go_num, (World.ownsRow.stored (World.ownsRow.stored HU.out i _).1 i _).1, HST2.out, (hn.set (by simp; omega) _).set (by simp; omega) _, by rw [World.cell?_setCell_other (h := by simp <;> omega), World.cell?_setCell_other (h := by simp <;> omega), hq, q1]⟩, by simp [intOf]; omega⟩
    · have hie : i = m := by omega
      have hall := (hie ▸ ht : TwAt ys m m (fun a => bits .xor .u32 a 4294967295) us).all
      have HA := Lib.hid hall
      have HU := Lib.hid hu
      clear hall ht hu hie
      go_wp2
      go_ret
      exact ⟨_, rfl, ⟨(List.range m).map fun j => (fun a => bits .xor .u32 a 4294967295) (at0 ys j), g, cap, by simp, row_base (by have := HU.out; rw [HA.out] at this; simpa [Own] using this) (by omega), (twos_flip dy hly HEY.out)⟩, hn⟩
theorem twos_c {x : Int} {n : Bool} {A : Option Addr} {l c : Nat} {w : World} (m : Nat) (hx : RI w n A l c x) (hl : l ≤ 400000) (h0 : 0 < m) (hm : m ≤ 1000000) (hlm : l ≤ m) :
    Calls Try.prog 71 #[.agg #[.bool n, .slice A l c], .int .i64 m] w (Ret w (KO w.heap.size 92 .u32 fun ts => dg b32 ts ∧ ts.length = m ∧ lv b32 ts = x % b32 ^ m)) := by
  cases n
  · exact twos_pos m hx hl h0 hm hlm
  · exact twos_neg m hx hl h0 hm hlm
end Go.Proofs.Ytcgkgcciogibkaa
/- The contract of the program's untwos. -/
set_option linter.unusedVariables false
set_option linter.unusedSimpArgs false
namespace Go.Proofs.Ytcgkgcciogibkaa
open Go.RowKit Ma

/-- The number of which the two's complement, to m limbs, has the value v. -/
def sx (m : Nat) (v : Int) : Int := if 2 * v < b32 ^ m then v else v - b32 ^ m
theorem half_top {ts : List Int} (d : Ma.dg b32 ts) (h : 0 < ts.length) : (2 * lv b32 ts < b32 ^ ts.length ↔ at0 ts (ts.length - 1) < 2147483648) := by
  have e := lv_take_succ b32 ts (ts.length - 1) (by omega)
  rw [Nat.sub_add_cancel h, List.take_length] at e
  have d2 := dg_take d (ts.length - 1)
  have h1 := lv_nonneg (show (0 : Int) < b32 by decide) d2
  have h2 := lv_lt (show (0 : Int) < b32 by decide) d2
  have hl : (ts.take (ts.length - 1)).length = ts.length - 1 := by simp
  rw [hl] at h2
  have e2 : b32 ^ ts.length = b32 ^ (ts.length - 1) * b32 := by rw [← Int.pow_succ]; congr 1; omega
  have hp := pos_pow (show (0 : Int) < b32 by decide) (ts.length - 1)
  rw [e, e2, b32_eq]
  generalize at0 ts (ts.length - 1) = t at *
  rw [b32_eq] at *
  generalize (4294967296 : Int) ^ (ts.length - 1) = p at *
  generalize lv 4294967296 (ts.take (ts.length - 1)) = u at *
  constructor
  · intro h3
    apply Classical.byContradiction
    intro h4
    have : p * 2147483648 ≤ p * t := Int.mul_le_mul_of_nonneg_left (by omega) (by omega)
    omega
  · intro h3
    have : p * t ≤ p * 2147483647 := Int.mul_le_mul_of_nonneg_left (by omega) (by omega)
    omega
theorem flip_all (m : Nat) {ts : List Int} (d : Ma.dg b32 ts) (hl : ts.length = m) : Ma.dg b32 ((List.range m).map fun j => bits .xor .u32 IntKind.u32.max (at0 ts j)) ∧ ((List.range m).map fun j => bits .xor .u32 IntKind.u32.max (at0 ts j)).length = m ∧ lv b32 ((List.range m).map fun j => bits .xor .u32 IntKind.u32.max (at0 ts j)) = b32 ^ m - 1 - lv b32 ts := by
  have e : ((List.range m).map fun j => bits .xor .u32 IntKind.u32.max (at0 ts j)) = (List.range m).map fun j => (b32 - 1) - at0 ts j := by
    apply List.map_congr_left
    intro j _
    rw [flip2 _ (by have := dg_at d (by decide) j; rw [b32_eq] at this; exact this), b32_eq]
    omega
  rw [e]
  refine ⟨fun x hx => ?_, by simp, ?_⟩
  · obtain ⟨j, _, rfl⟩ := List.mem_map.1 hx
    have := dg_at d (by decide) j
    omega
  · rw [lv_flip, lv_range_id _ _ _ (by omega)]

theorem Box.cellset {r n g i : Nat} {W : World} (hb : Box r n W) (h : r < g) (v : Value) : Box r n (W.setCell ⟨g, i, none⟩ v) := fun o ho => by
  obtain ⟨⟨x, hx, hn⟩, hf⟩ := hb o ho
  exact ⟨⟨x, by rw [World.cell?_setCell_other (h := by simp <;> omega)]; exact hx, hn⟩, by simp [World.frozen?_setCell]; exact hf⟩
set_option maxHeartbeats 1600000 in
set_option maxRecDepth 100000 in
theorem untwos_c {A : Option Addr} {c : Nat} {ts : List Int} {w : World} (rA : Rd w .u32 A ts) (hc : ts.length ≤ c) (d : dg b32 ts) (hl : ts.length ≤ 400000) (h0 : 0 < ts.length) :
    Calls Try.prog 72 #[.slice A ts.length c] w (Ret w (KI (sx ts.length (lv b32 ts)))) := by
  have hh := half_top d h0
  have nw1 : Nw w (w.alloc (.cells #[.bool false, .slice none 0 0] 28)) := (Nw.refl w).alloc _
  have sg0 : Sg [] w.heap.size 2 (w.alloc (.cells #[.bool false, .slice none 0 0] 28)) := ⟨trivial, box_two w 28 false none 0 0, by go_simp⟩
  obtain ⟨ad, hA, hcell⟩ := (rA.kept nw1.kept).2 (ts.length - 1) (by omega)
  subst hA
  obtain ⟨t0, t1⟩ := dg_at d (by decide) (ts.length - 1)
  have RA := Lib.hid (rA.kept nw1.kept)
  have SG := Lib.hid sg0
  clear rA sg0
  obtain ⟨t, ht⟩ : ∃ t, at0 ts (ts.length - 1) = t := ⟨_, rfl⟩
  rw [ht] at hh t0 t1 hcell
  rw [b32_eq] at t1
  have HH := Lib.hid hh
  clear ht hh
  have hzb : ((ts.length : Int) == 0) = false := by rw [beq_eq_false_iff_ne]; omega
  by_cases hs : t < 2147483648
  · have hv : sx ts.length (lv b32 ts) = lv b32 ts := by unfold sx; rw [if_pos (HH.out.2 hs)]
    have HV := Lib.hid hv
    have hq : t / 2147483648 = 0 := by omega
    clear hv HH
    go_enter Try.func72, Try.ntmps72
    go_wp2_with (go_at_call 68; refine (make_c (n := false) RA.out d (by omega)).mono ?_; rintro e w2 ⟨_, rfl, ⟨m, D, l2, c2, rfl, hi⟩, hb2⟩; have b2 := (SG.out.nw hb2).2.1; obtain ⟨⟨v0, hv0, hn0⟩, hf0⟩ := b2 0 (by omega); obtain ⟨⟨v1, hv1, hn1⟩, hf1⟩ := b2 1 (by omega))
    have hi' := hi.eq (z' := sx ts.length (lv b32 ts)) (by rw [HV.out]; rfl)
    exact bodyPost_ret (v := .agg #[.bool m, .slice D l2 c2]) (by simp [results, Try.results72, go_sem, hv0, hv1]) rfl (Ret.I (hi'.kept (store_I b2 hi').1.2.1) ((nw1.trans hb2).rr (store_I b2 hi').1 (by omega)))
  · have hv : sx ts.length (lv b32 ts) = lv b32 ts - b32 ^ ts.length := by unfold sx; rw [if_neg (fun h => hs (HH.out.1 h))]
    have HV := Lib.hid hv
    have hq : t / 2147483648 = 1 := by omega
    clear hv HH
    go_enter Try.func72, Try.ntmps72
    go_wp2_with (go_at_call 112; refine (clone_o (some ad) c ts _ RA.out (by omega)).mono ?_; rintro e w1 ⟨v1, rfl, o1, hb1⟩; obtain ⟨g, cap, rfl⟩ := o1.some' (by intro e; subst e; simp at h0))
    have ho' : w1.ownsRow (w.heap.size + 1) 92 1 (.slice (some ⟨g, 0, none⟩) ts.length cap) ts.length (ts.map (Value.int .u32)) := row_base (b' := w.heap.size + 1) o1 (by simp)
    have hg := row_ge ho'
    have hts : TwAt ts ts.length 0 (fun a => bits .xor .u32 IntKind.u32.max a) (ts.map (Value.int .u32)) := TwAt.start (by simp) (by rw [List.take_of_length_le (by simp)])
    have hn0 : Nw w w1 := nw1.trans hb1
    clear o1 hcell
    have SG1 := Lib.hid (SG.out.nw hb1)
    go_loopw [24] (fun ci wr => ∃ (i : Nat) (us : List Value), ci = .int .i64 i ∧ wr.ownsRow (w.heap.size + 1) 92 1 (.slice (some ⟨g, 0, none⟩) ts.length cap) ts.length us ∧ TwAt ts ts.length i (fun a => bits .xor .u32 IntKind.u32.max a) us ∧ Nw w wr ∧ Sg [] w.heap.size 2 wr)
      (fun ci _ => ts.length - (intOf ci).toNat)
    case atStart => exact ⟨0, _, rfl, ho', hts, hn0, SG1.out⟩
    case round =>
      obtain ⟨i, us, rfl, hu, ht, hn, hsg⟩ := hrel
      have hi := ht.le
      have hul := ht.len
      clear ho' hts hn0
      by_cases him : i < ts.length
      · have fz := World.ownsRow.frozenAt hu i
        have ce := World.ownsRow.cellAt hu i (by omega)
        have HU := Lib.hid hu
        have HST := Lib.hid (ht.step him)
        have HSG := Lib.hid hsg
        have hrest := ht.rest i (Nat.le_refl _) him
        rw [hrest] at ce
        clear hrest ht hu hsg
        go_wp2
        exact ⟨⟨i + 1, _, by go_num, (World.ownsRow.stored HU.out i _).1, HST.out, hn.set (by simp; omega) _, ⟨trivial, HSG.out.2.1.cellset (by omega) _, by have := HSG.out.2.2; simp; omega⟩⟩, by simp [intOf]; omega⟩
      · have hie : i = ts.length := by omega
        have hall := (hie ▸ ht : TwAt ts ts.length ts.length _ us).all
        have hw2 : Own wr (w.heap.size + 1) 92 .u32 (.slice (some ⟨g, 0, none⟩) ts.length cap) ((List.range ts.length).map fun j => bits .xor .u32 IntKind.u32.max (at0 ts j)) := by rw [hall] at hu; simpa [Own] using hu
        obtain ⟨hlen2, hc2, rd2⟩ := hw2.rdg
        obtain ⟨d2, l2', lv2⟩ := flip_all ts.length d rfl
        obtain ⟨Z, hZ⟩ : ∃ Z, Z = (List.range ts.length).map fun j => bits .xor .u32 IntKind.u32.max (at0 ts j) := ⟨_, rfl⟩
        rw [← hZ] at rd2 d2 lv2 hlen2
        have LV2 := Lib.hid lv2
        have HL2 := Lib.hid hlen2
        have HSG := Lib.hid hsg
        have hln := lv_nonneg (show (0 : Int) < b32 by decide) d2
        have hlt := lv_lt (show (0 : Int) < b32 by decide) d2
        have HLN := Lib.hid hln
        have HLT := Lib.hid hlt
        clear hall ht hu hie hsg hw2 hlen2 lv2 l2' hZ hln hlt
        go_wp2_with (first
          | (go_at_call 81; refine (made_l HL2.out false rd2 (by rw [← HL2.out]; exact hc2) d2).mono ?_; rintro e w5 ⟨_, rfl, ⟨m5, D5, l5, c5, rfl, hi5⟩, hb5⟩)
          | (go_at_call 110; refine (complement_c hi5 (Nat.le_trans (hi5.len_le ts.length (by have := HLN.out; have := pos_pow (show (0 : Int) < b32 by decide) ts.length; simp [sg]; omega) (by have := HLT.out; rw [← HL2.out] at this; simpa [sg] using this)) hl)).mono ?_; rintro e w6 ⟨_, rfl, ⟨m6, D6, l6, c6, rfl, hi6⟩, hb6⟩; have b2 := ((HSG.out.nw hb5).nw hb6).2.1; obtain ⟨⟨v0, hv0, hn0⟩, hf0⟩ := b2 0 (by omega); obtain ⟨⟨v1, hv1, hn1⟩, hf1⟩ := b2 1 (by omega)))
        have hi' := hi6.eq (z' := sx ts.length (lv b32 ts)) (by rw [HV.out, LV2.out]; simp [sg]; omega)
        exact bodyPost_ret (v := .agg #[.bool m6, .slice D6 l6 c6]) (by simp [results, Try.results72, go_sem, hv0, hv1]) rfl (Ret.I (hi'.kept (store_I b2 hi').1.2.1) (((hn.trans hb5).trans hb6).rr (store_I b2 hi').1 (by omega)))
end Go.Proofs.Ytcgkgcciogibkaa
/- The contract of the program's Boole: its closure, the walk. -/
set_option linter.unusedVariables false
set_option linter.unusedSimpArgs false
namespace Go.Proofs.Ytcgkgcciogibkaa
open Go.RowKit Ma

/-- What the closure of Boole returns. -/
def tq (q a b : Int) : Int := if (bits .and .i64 q 1 == 0) = true then 0 else bits .and .u32 a b
/-- What a round of Boole stores. -/
def bl (op p q : Int) : Int := bits .or .u32 (bits .or .u32 (bits .or .u32 (tq op (bits .xor .u32 IntKind.u32.max p) (bits .xor .u32 IntKind.u32.max q)) (tq (op / 2) (bits .xor .u32 IntKind.u32.max p) q)) (tq (op / 4) p (bits .xor .u32 IntKind.u32.max q))) (tq (op / 8) p q)
set_option maxHeartbeats 800000 in
set_option maxRecDepth 100000 in
theorem term_0 (p : Nat) (op a b : Int) (w : World) (ho : 0 ≤ op) (ho2 : op ≤ 15) (hc : w.cell? ⟨p, 0, none⟩ = some (.int .i64 op)) :
    Calls Try.prog 70 #[.int .i64 0, .int .u32 a, .int .u32 b, .pointer (some ⟨p, 0, none⟩)] w fun e w' => e = .returned (.int .u32 (tq op a b)) ∧ w = w' := by
  by_cases hb : (bits .and .i64 op 1 == 0) = true
  · have ht : tq op a b = 0 := by unfold tq; rw [if_pos hb]
    have HT := Lib.hid ht
    clear ht
    go_enter Try.func70, Try.ntmps70
    go_wp2
    go_ret
    exact ⟨ret_val (by rw [HT.out]; rfl), rfl⟩
  · have ht : tq op a b = bits .and .u32 a b := by unfold tq; rw [if_neg hb]
    have HT := Lib.hid ht
    have hb : (bits .and .i64 op 1 == 0) = false := by simpa using hb
    clear ht
    go_enter Try.func70, Try.ntmps70
    go_wp2
    go_ret
    exact ⟨ret_val (by rw [HT.out]; rfl), rfl⟩
set_option maxHeartbeats 800000 in
set_option maxRecDepth 100000 in
theorem term_1 (p : Nat) (op a b : Int) (w : World) (ho : 0 ≤ op) (ho2 : op ≤ 15) (hc : w.cell? ⟨p, 0, none⟩ = some (.int .i64 op)) :
    Calls Try.prog 70 #[.int .i64 1, .int .u32 a, .int .u32 b, .pointer (some ⟨p, 0, none⟩)] w fun e w' => e = .returned (.int .u32 (tq (op / 2) a b)) ∧ w = w' := by
  by_cases hb : (bits .and .i64 (op / 2) 1 == 0) = true
  · have ht : tq (op / 2) a b = 0 := by unfold tq; rw [if_pos hb]
    have HT := Lib.hid ht
    clear ht
    go_enter Try.func70, Try.ntmps70
    go_wp2
    go_ret
    exact ⟨ret_val (by rw [HT.out]; rfl), rfl⟩
  · have ht : tq (op / 2) a b = bits .and .u32 a b := by unfold tq; rw [if_neg hb]
    have HT := Lib.hid ht
    have hb : (bits .and .i64 (op / 2) 1 == 0) = false := by simpa using hb
    clear ht
    go_enter Try.func70, Try.ntmps70
    go_wp2
    go_ret
    exact ⟨ret_val (by rw [HT.out]; rfl), rfl⟩
set_option maxHeartbeats 800000 in
set_option maxRecDepth 100000 in
theorem term_2 (p : Nat) (op a b : Int) (w : World) (ho : 0 ≤ op) (ho2 : op ≤ 15) (hc : w.cell? ⟨p, 0, none⟩ = some (.int .i64 op)) :
    Calls Try.prog 70 #[.int .i64 2, .int .u32 a, .int .u32 b, .pointer (some ⟨p, 0, none⟩)] w fun e w' => e = .returned (.int .u32 (tq (op / 4) a b)) ∧ w = w' := by
  by_cases hb : (bits .and .i64 (op / 4) 1 == 0) = true
  · have ht : tq (op / 4) a b = 0 := by unfold tq; rw [if_pos hb]
    have HT := Lib.hid ht
    clear ht
    go_enter Try.func70, Try.ntmps70
    go_wp2
    go_ret
    exact ⟨ret_val (by rw [HT.out]; rfl), rfl⟩
  · have ht : tq (op / 4) a b = bits .and .u32 a b := by unfold tq; rw [if_neg hb]
    have HT := Lib.hid ht
    have hb : (bits .and .i64 (op / 4) 1 == 0) = false := by simpa using hb
    clear ht
    go_enter Try.func70, Try.ntmps70
    go_wp2
    go_ret
    exact ⟨ret_val (by rw [HT.out]; rfl), rfl⟩
set_option maxHeartbeats 800000 in
set_option maxRecDepth 100000 in
theorem term_3 (p : Nat) (op a b : Int) (w : World) (ho : 0 ≤ op) (ho2 : op ≤ 15) (hc : w.cell? ⟨p, 0, none⟩ = some (.int .i64 op)) :
    Calls Try.prog 70 #[.int .i64 3, .int .u32 a, .int .u32 b, .pointer (some ⟨p, 0, none⟩)] w fun e w' => e = .returned (.int .u32 (tq (op / 8) a b)) ∧ w = w' := by
  by_cases hb : (bits .and .i64 (op / 8) 1 == 0) = true
  · have ht : tq (op / 8) a b = 0 := by unfold tq; rw [if_pos hb]
    have HT := Lib.hid ht
    clear ht
    go_enter Try.func70, Try.ntmps70
    go_wp2
    go_ret
    exact ⟨ret_val (by rw [HT.out]; rfl), rfl⟩
  · have ht : tq (op / 8) a b = bits .and .u32 a b := by unfold tq; rw [if_neg hb]
    have HT := Lib.hid ht
    have hb : (bits .and .i64 (op / 8) 1 == 0) = false := by simpa using hb
    clear ht
    go_enter Try.func70, Try.ntmps70
    go_wp2
    go_ret
    exact ⟨ret_val (by rw [HT.out]; rfl), rfl⟩

theorem u32_bd (o : BinOp) (x y : Int) : 0 ≤ bits o .u32 x y ∧ bits o .u32 x y < 4294967296 := by
  have h := wf_bits o .u32 x y
  simp only [Lit.wf, Bool.and_eq_true, decide_eq_true_eq] at h
  have hm : IntKind.u32.max = 4294967295 := by simp [IntKind.max, IntKind.bits, IntKind.signed]
  have hn : IntKind.u32.min = 0 := by simp [IntKind.min, IntKind.signed]
  rw [hm, hn] at h
  omega
theorem bl_dg (op p q : Int) : 0 ≤ bl op p q ∧ bl op p q < b32 := u32_bd .or _ _
theorem Own.grew {w : World} {base : Nat} {e : TypeId} {k : IntKind} {g n cap : Nat} {zs : List Int} (h : Own w base e k (.slice (some ⟨g, 0, none⟩) n cap) zs) (hn : n = zs.length) (i : Nat) (x : Value) : w.grownBy (w.setCell ⟨g, i, none⟩ x) (some g) := by
  subst hn; exact (World.ownsRow.stored h i x).2
theorem untwos_l {A : Option Addr} {l c : Nat} {ts : List Int} {w : World} (e : l = ts.length) (rA : Rd w .u32 A ts) (hc : l ≤ c) (d : dg b32 ts) (hl : l ≤ 400000) (h0 : 0 < l) :
    Calls Try.prog 72 #[.slice A l c] w (Ret w (KI (sx l (lv b32 ts)))) := by
  subst e; exact untwos_c rA hc d hl h0
/-- What a round of Boole leaves. -/
structure BoAt (op : Int) (us vs : List Int) (N i : Nat) (zs : List Int) : Prop where
  le : i ≤ N
  len : zs.length = N
  done : ∀ j, j < i → at0 zs j = bl op (at0 us j) (at0 vs j)
  rest : ∀ j, i ≤ j → at0 zs j = at0 us j
theorem BoAt.step {op : Int} {us vs : List Int} {N i : Nat} {zs : List Int} (h : BoAt op us vs N i zs) (hi : i < N) : BoAt op us vs N (i + 1) (zs.set i (bl op (at0 us i) (at0 vs i))) := by
  obtain ⟨h1, h2, h3, h4⟩ := h
  refine ⟨by omega, by simp [h2], fun j hj => ?_, fun j hj => ?_⟩
  · rw [at0_set _ _ _ _ (by omega)]
    by_cases e : j = i
    · rw [if_pos e, e]
    · rw [if_neg e]; exact h3 j (by omega)
  · rw [at0_set _ _ _ _ (by omega), if_neg (by omega)]; exact h4 j (by omega)
set_option maxHeartbeats 6400000 in
set_option maxRecDepth 100000 in
theorem boole_w {x y : Int} {n m : Bool} {A B : Option Addr} {l l' c d : Nat} {w : World} {op : Int} (hx : RI w n A l c x) (hy : RI w m B l' d y) (hl : l ≤ 300000) (hl' : l' ≤ 300000) (ho : 0 ≤ op) (ho2 : op ≤ 15) :
    Calls Try.prog 17 #[.agg #[.bool n, .slice A l c], .int .i64 op, .agg #[.bool m, .slice B l' d]] w (Ret w (K2 (fun v W => ∃ us vs ts N, N = max l l' + 1 ∧ us.length = N ∧ vs.length = N ∧ ts.length = N ∧ dg b32 us ∧ dg b32 vs ∧ dg b32 ts ∧ lv b32 us = x % b32 ^ N ∧ lv b32 vs = y % b32 ^ N ∧ (∀ i, i < N → at0 ts i = bl op (at0 us i) (at0 vs i)) ∧ KI (sx N (lv b32 ts)) v W) (KV (.int .i64 0)))) := by
  have nw1 : Nw w ((((w.alloc (.cells #[.bool n, .slice A l c] 28)).alloc (.cells #[.int .i64 op] 3)).alloc (.cells #[.bool m, .slice B l' d] 28)).alloc (.cells #[.bool false, .slice none 0 0] 28)) := ((((Nw.refl w).alloc _).alloc _).alloc _).alloc _
  have hop15 : ¬ (15 < op) := by omega
  have HX := Lib.hid (hx.kept nw1.kept)
  have HY := Lib.hid (hy.kept nw1.kept)
  clear hx hy
  go_enter Try.func17, Try.ntmps17
  go_wp2
  obtain ⟨N, hN⟩ : ∃ N : Nat, N = max l l' + 1 := ⟨_, rfl⟩
  have eN : (max (l : Int) (l' : Int) + 1) = (N : Int) := by omega
  rw [eN]
  obtain ⟨M, hM⟩ : ∃ M : Int, M = max (l : Int) (l' : Int) := ⟨_, rfl⟩
  rw [← hM]
  obtain ⟨W1, hW1⟩ : ∃ W1, W1 = ((((w.alloc (.cells #[.bool n, .slice A l c] 28)).alloc (.cells #[.int .i64 op] 3)).alloc (.cells #[.bool m, .slice B l' d] 28)).alloc (.cells #[.bool false, .slice none 0 0] 28)) := ⟨_, rfl⟩
  have sg0 : Sg [(w.heap.size, 0, Value.bool n), (w.heap.size, 1, Value.slice A l c), (w.heap.size + 1, 0, Value.int .i64 op), (w.heap.size + 1 + 1, 0, Value.bool m), (w.heap.size + 1 + 1, 1, Value.slice B l' d)] (w.heap.size + 1 + 1 + 1) 2 W1 := by
    rw [hW1]
    refine ⟨⟨by go_simp, by go_simp, by go_simp, by go_simp, by go_simp, trivial⟩, ?_, by go_simp⟩
    have := box_two (((w.alloc (.cells #[.bool n, .slice A l c] 28)).alloc (.cells #[.int .i64 op] 3)).alloc (.cells #[.bool m, .slice B l' d] 28)) 28 false none 0 0
    simpa using this
  have hsz : W1.heap.size = w.heap.size + 1 + 1 + 1 + 1 := by rw [hW1]; go_simp
  rw [← hW1] at nw1 HX HY ⊢
  have hN1 : l ≤ N := by omega
  have hN2 : l' ≤ N := by omega
  have hN3 : 0 < N := by omega
  have hN4 : N ≤ 400000 := by omega
  have HN := Lib.hid hN
  have HS := Lib.hid hsz
  have SG := Lib.hid sg0
  obtain ⟨⟨q1, q2, q3, q4, q5, _⟩, _, _⟩ := sg0
  clear hN eN hM hW1 hsz
  have hd0 : Nw W1 W1.drew := (Nw.refl W1).drew
  have cX : ∀ W, Nw W1 W → Calls Try.prog 71 #[.agg #[.bool n, .slice A l c], .int .i64 N] W (Ret W (KO W.heap.size 92 .u32 fun ts => dg b32 ts ∧ ts.length = N ∧ lv b32 ts = x % b32 ^ N)) := fun W h => twos_c N (HX.out.kept h.kept) (by omega) hN3 (by omega) hN1
  have cY : ∀ W, Nw W1 W → Calls Try.prog 71 #[.agg #[.bool m, .slice B l' d], .int .i64 N] W (Ret W (KO W.heap.size 92 .u32 fun ts => dg b32 ts ∧ ts.length = N ∧ lv b32 ts = y % b32 ^ N)) := fun W h => twos_c N (HY.out.kept h.kept) (by omega) hN3 (by omega) hN2
  go_region_with
    (first
      | (go_at_call 71; (with_reducible show Calls _ _ #[.agg #[.bool n, .slice A l c], _] (World.drew W1) _); refine (cX _ hd0).mono ?_; rintro e wx ⟨_, rfl, ⟨us, gu, cu, rfl, ou, pu⟩, hbx⟩; have nx : Nw W1 wx := hd0.trans hbx; obtain ⟨a1, a2, a3, a4, a5, _⟩ := SG.out.1.nw nx)
      | (go_at_call 71; (with_reducible show Calls _ _ #[.agg #[.bool n, .slice A l c], _] wy _); refine (cX _ ny).mono ?_; rintro e wx ⟨_, rfl, ⟨us, gu, cu, rfl, ou, pu⟩, hbx⟩; have nx : Nw W1 wx := ny.trans hbx; obtain ⟨a1, a2, a3, a4, a5, _⟩ := SG.out.1.nw nx)
      | (go_at_call 71; (with_reducible show Calls _ _ #[.agg #[.bool m, .slice B l' d], _] (World.drew W1) _); refine (cY _ hd0).mono ?_; rintro e wy ⟨_, rfl, ⟨vs, gv, cv, rfl, ov, pv⟩, hby⟩; have ny : Nw W1 wy := hd0.trans hby; obtain ⟨a1, a2, a3, a4, a5, _⟩ := SG.out.1.nw ny)
      | (go_at_call 71; (with_reducible show Calls _ _ #[.agg #[.bool m, .slice B l' d], _] wx _); refine (cY _ nx).mono ?_; rintro e wy ⟨_, rfl, ⟨vs, gv, cv, rfl, ov, pv⟩, hby⟩; have ny : Nw W1 wy := nx.trans hby; obtain ⟨a1, a2, a3, a4, a5, _⟩ := SG.out.1.nw ny))
  all_goals (first
    | (have ou2 := ou.kept hby
       have hne : gu ≠ gv := by have := (World.ownsRow.lt ou gu rfl).2; have := row_ge ov; omega
       have ou3 : Own wy (w.heap.size + 1 + 1 + 1 + 1) 92 .u32 (.slice (some ⟨gu, 0, none⟩) us.length cu) us := row_base ou2 (by have := HS.out; have := hd0.size; omega)
       have ov3 : Own wy (w.heap.size + 1 + 1 + 1 + 1) 92 .u32 (.slice (some ⟨gv, 0, none⟩) vs.length cv) vs := row_base ov (by have := HS.out; have := nx.size; omega)
       have nz := ny
       clear ou ou2 ov hbx hby nx ny a1 a2 a3 a4 a5
       generalize wy = wz at *)
    | (have ov2 := ov.kept hbx
       have hne : gu ≠ gv := by have := (World.ownsRow.lt ov gv rfl).2; have := row_ge ou; omega
       have ov3 : Own wx (w.heap.size + 1 + 1 + 1 + 1) 92 .u32 (.slice (some ⟨gv, 0, none⟩) vs.length cv) vs := row_base ov2 (by have := HS.out; have := hd0.size; omega)
       have ou3 : Own wx (w.heap.size + 1 + 1 + 1 + 1) 92 .u32 (.slice (some ⟨gu, 0, none⟩) us.length cu) us := row_base ou (by have := HS.out; have := ny.size; omega)
       have nz := nx
       clear ou ov2 ov hbx hby nx ny a1 a2 a3 a4 a5
       generalize wx = wz at *))
  all_goals clear cX cY q1 q2 q3 q4 q5 hd0
  all_goals
    obtain ⟨du, lu, eu⟩ := pu
    obtain ⟨dv, lv9, ev⟩ := pv
    have n1 : Nw w wz := nw1.trans nz
    have SGW := Lib.hid (SG.out.nw nz)
    have OU : Own wz (w.heap.size + 1 + 1 + 1 + 1) 92 .u32 (.slice (some ⟨gu, 0, none⟩) N cu) us := by rw [← lu]; exact ou3
    have OV : Own wz (w.heap.size + 1 + 1 + 1 + 1) 92 .u32 (.slice (some ⟨gv, 0, none⟩) N cv) vs := by rw [← lv9]; exact ov3
    have hgu := OU.ge
    have hgv := OV.ge
    have OU := Lib.hid OU
    have OV := Lib.hid OV
    have LU := Lib.hid lu
    have LV9 := Lib.hid lv9
    have EU := Lib.hid eu
    have EV := Lib.hid ev
    clear ou3 ov3 lu lv9 eu ev
    go_wp2
  all_goals
    go_loopw [38] (fun ci wr => ∃ (i : Nat) (zs : List Int), ci = .int .i64 i ∧ Own wr (w.heap.size + 1 + 1 + 1 + 1) 92 .u32 (.slice (some ⟨gu, 0, none⟩) N cu) zs ∧ Own wr (w.heap.size + 1 + 1 + 1 + 1) 92 .u32 (.slice (some ⟨gv, 0, none⟩) N cv) vs ∧ BoAt op us vs N i zs ∧ Nw w wr ∧ Sg [(w.heap.size + 1, 0, Value.int .i64 op)] (w.heap.size + 1 + 1 + 1) 2 wr)
      (fun ci _ => N - (intOf ci).toNat)
    case atStart => exact ⟨0, us, rfl, OU.out, OV.out, ⟨by omega, LU.out, fun j hj => by omega, fun j _ => rfl⟩, n1, ⟨⟨SGW.out.1.2.2.1, trivial⟩, SGW.out.2⟩⟩
    case round =>
      obtain ⟨i, zs, rfl, hu, hv, hb, hn, hs⟩ := hrel
      have hile := hb.le
      by_cases hi : i < N
      · have ca := hu.cellAt (i := i) (by rw [hb.len]; exact hi) hb.len.symm
        rw [hb.rest i (Nat.le_refl _)] at ca
        have fa := hu.frozenAt hb.len.symm i
        have cb := hv.cellAt (i := i) (by rw [LV9.out]; exact hi) LV9.out.symm
        have c3 := hs.1.1
        have HU := Lib.hid hu
        have HV := Lib.hid hv
        have HB := Lib.hid hb
        have HSS := Lib.hid hs
        clear hu hv hb hs
        go_wp2
        go_quiet (fail)
        have c4 : (wr.drewN nq).cell? ⟨w.heap.size + 1, 0, none⟩ = some (.int .i64 op) := c3
        go_wp2_with fail
        refine (term_0 (w.heap.size + 1) op _ _ _ ho ho2 c4).mono ?_
        rintro e w9 ⟨rfl, rfl⟩
        go_wp2_with fail
        refine (term_1 (w.heap.size + 1) op _ _ _ ho ho2 c4).mono ?_
        rintro e w9 ⟨rfl, rfl⟩
        go_wp2_with fail
        refine (term_2 (w.heap.size + 1) op _ _ _ ho ho2 c4).mono ?_
        rintro e w9 ⟨rfl, rfl⟩
        go_wp2_with fail
        refine (term_3 (w.heap.size + 1) op _ _ _ ho ho2 c4).mono ?_
        rintro e w9 ⟨rfl, rfl⟩
        go_wp2
        have HU2 := HU.out.kept ((Nw.refl wr).drewN nq)
        have HV2 := HV.out.kept ((Nw.refl wr).drewN nq)
        have B2 := (HSS.out.2.1.below ((Nw.refl wr).drewN nq))
        exact ⟨⟨i + 1, _, by go_num, HU2.set HB.out.len.symm i _, World.ownsRow.kept HV2 (Own.grew HU2 HB.out.len.symm i _) (.inr (by simp only [Value.ownBlock, ne_eq, Option.some.injEq]; exact fun e => hne e.symm)), HB.out.step hi, (hn.drewN nq).set (by simp; omega) _, ⟨⟨by rw [World.cell?_setCell_other (h := by simp <;> omega)]; exact c4, trivial⟩, B2.cellset (by omega) _, by have := HSS.out.2.2; simp; omega⟩⟩, by simp [intOf]; omega⟩
      · have hie : i = N := by omega
        have hd := hb.done
        rw [hie] at hd
        have hzl := hb.len
        have dz : dg b32 zs := by
          intro z hz
          obtain ⟨j, hj, rfl⟩ := List.getElem_of_mem hz
          rw [← at0_of_lt hj, hd j (by omega)]
          exact bl_dg _ _ _
        have hr := hu.rdg.2.2
        have hcc := hu.rdg.2.1
        have HD := Lib.hid hd
        have HZ := Lib.hid hzl
        have HSS := Lib.hid hs
        clear hu hv hb hs hd hzl hie
        go_wp2_with (go_at_call 72; refine (untwos_l HZ.out.symm hr hcc dz hN4 hN3).mono ?_; rintro e w2 ⟨_, rfl, ⟨m2, D2, l2, c2, rfl, hi2⟩, hb2⟩; have b2 := (HSS.out.nw hb2).2.1; obtain ⟨⟨v0, hv0, hn0⟩, hf0⟩ := b2 0 (by omega); obtain ⟨⟨v1, hv1, hn1⟩, hf1⟩ := b2 1 (by omega))
        exact bodyPost_ret (v := .tuple #[.agg #[.bool m2, .slice D2 l2 c2], .int .i64 0]) (by simp [results, Try.results17, go_sem, hv0, hv1]) rfl ⟨_, rfl, ⟨_, _, rfl, ⟨us, vs, zs, N, HN.out, LU.out, LV9.out, HZ.out, du, dv, dz, EU.out, EV.out, HD.out, ⟨_, _, _, _, rfl, (hi2.kept (store_I b2 hi2).1.2.1)⟩⟩, rfl⟩, ((hn.trans hb2).rr (store_I b2 hi2).1 (by omega))⟩
end Go.Proofs.Ytcgkgcciogibkaa
/- The bits of a whole number, in two's complement. No program in sight. -/
set_option linter.unusedVariables false
set_option linter.unusedSimpArgs false
namespace Go.Proofs.Ytcgkgcciogibkaa.Ma
open Go

def tb (z : Int) (i : Nat) : Bool := decide (z / 2 ^ i % 2 = 1)
theorem mod_succ (z : Int) (n : Nat) : z % 2 ^ (n + 1) = z % 2 ^ n + 2 ^ n * (if tb z n then 1 else 0) := by
  have hp : (0 : Int) < 2 ^ n := Int.pow_pos (by decide)
  have e1 := Int.mul_ediv_add_emod z (2 ^ n)
  have r0 := Int.emod_nonneg z (show (2 : Int) ^ n ≠ 0 by omega)
  have r1 := Int.emod_lt_of_pos z hp
  unfold tb
  generalize z / 2 ^ n = q at *
  generalize z % 2 ^ n = r at *
  have e2 := Int.mul_ediv_add_emod q 2
  have b0 := Int.emod_nonneg q (show (2 : Int) ≠ 0 by decide)
  have b1 := Int.emod_lt_of_pos q (show (0 : Int) < 2 by decide)
  generalize q / 2 = q' at *
  generalize hb : q % 2 = b at *
  have e3 : (if decide (b = 1) = true then (1 : Int) else 0) = b := by
    by_cases h : b = 1
    · simp [h]
    · have : b = 0 := by omega
      simp [this]
  rw [e3]
  have e4 : z = (r + 2 ^ n * b) + 2 ^ (n + 1) * q' := by rw [← e1, ← e2, Int.pow_succ]; grind
  have hb1 : 2 ^ n * b ≤ 2 ^ n * 1 := Int.mul_le_mul_of_nonneg_left (by omega) (by omega)
  have hb0 : 0 ≤ 2 ^ n * b := Int.mul_nonneg (by omega) b0
  rw [e4, Int.add_mul_emod_self_left, Int.emod_eq_of_lt (by omega) (by rw [Int.pow_succ]; omega)]
theorem tb_mod {z z' : Int} (h : ∀ i, tb z i = tb z' i) (n : Nat) : z % 2 ^ n = z' % 2 ^ n := by
  induction n with
  | zero => simp
  | succ n ih => rw [mod_succ, mod_succ, ih, h n]
theorem nat_lt_pow2 (n : Nat) : (n : Int) < 2 ^ n := by
  induction n with
  | zero => simp
  | succ n ih => rw [Int.pow_succ]; omega
theorem tb_ext {z z' : Int} (h : ∀ i, tb z i = tb z' i) : z = z' := by
  have hn := nat_lt_pow2 (z.natAbs + z'.natAbs)
  have e := tb_mod h (z.natAbs + z'.natAbs + 1)
  rw [Int.pow_succ] at e
  generalize (2 : Int) ^ (z.natAbs + z'.natAbs) = p at *
  have e1 := Int.mul_ediv_add_emod z (p * 2)
  have e2 := Int.mul_ediv_add_emod z' (p * 2)
  rw [e] at e1
  generalize z' % (p * 2) = r at *
  have e3 : z - z' = p * 2 * (z / (p * 2) - z' / (p * 2)) := by rw [Int.mul_sub]; omega
  generalize z / (p * 2) - z' / (p * 2) = d at *
  rcases Int.lt_trichotomy d 0 with h1 | h1 | h1
  · have : p * 2 * d ≤ p * 2 * (-1) := Int.mul_le_mul_of_nonneg_left (by omega) (by omega)
    omega
  · rw [h1] at e3; omega
  · have : p * 2 * 1 ≤ p * 2 * d := Int.mul_le_mul_of_nonneg_left (by omega) (by omega)
    omega
/-- High bits are the sign. -/
theorem tb_high {z : Int} {m i : Nat} (h1 : -(2 ^ m) ≤ z) (h2 : z < 2 ^ m) (hi : m ≤ i) : tb z i = decide (z < 0) := by
  have hp := pow_le (b := 2) (by decide) hi
  have hp0 : (0 : Int) < 2 ^ i := Int.pow_pos (by decide)
  unfold tb
  by_cases hz : z < 0
  · have : z / 2 ^ i = -1 := by
      have e1 := Int.mul_ediv_add_emod z (2 ^ i)
      have r0 := Int.emod_nonneg z (show (2 : Int) ^ i ≠ 0 by omega)
      have r1 := Int.emod_lt_of_pos z hp0
      generalize z / 2 ^ i = q at *
      generalize z % 2 ^ i = r at *
      apply Classical.byContradiction
      intro hq
      rcases Int.lt_or_gt_of_ne hq with h | h
      · have : 2 ^ i * q ≤ 2 ^ i * (-2) := Int.mul_le_mul_of_nonneg_left (by omega) (by omega)
        omega
      · have : 2 ^ i * 0 ≤ 2 ^ i * q := Int.mul_le_mul_of_nonneg_left (by omega) (by omega)
        omega
    simp [this, hz]
  · rw [Int.ediv_eq_zero_of_lt (by omega) (by omega)]
    simp [hz]
end Go.Proofs.Ytcgkgcciogibkaa.Ma
/- The bits of limbs, of the rounds of Boole, of a two's complement read back. No program in sight. -/
set_option linter.unusedVariables false
set_option linter.unusedSimpArgs false
namespace Go.Proofs.Ytcgkgcciogibkaa.Ma
open Go

theorem tb_of_mod {x y : Int} {i : Nat} (h : ∀ n, n ≤ i + 1 → x % 2 ^ n = y % 2 ^ n) : tb x i = tb y i := by
  have a := mod_succ x i
  have b := mod_succ y i
  rw [h (i + 1) (Nat.le_refl _), h i (by omega), b] at a
  have hp : (0 : Int) < 2 ^ i := Int.pow_pos (by decide)
  cases hx : tb x i <;> cases hy : tb y i <;> simp [hx, hy] at a <;> first | rfl | omega
theorem tb_emod (z : Int) {n i : Nat} (h : i < n) : tb (z % 2 ^ n) i = tb z i := tb_of_mod fun m hm => Int.emod_emod_of_dvd z ⟨2 ^ (n - m), by rw [← Int.pow_add]; congr 1; omega⟩
theorem tb_add_mul (x r : Int) {n i : Nat} (h : i < n) : tb (x + 2 ^ n * r) i = tb x i := by
  rw [← tb_emod _ h, Int.add_mul_emod_self_left, tb_emod _ h]
theorem tb_shift (z : Int) (a k : Nat) : tb z (a + k) = tb (z / 2 ^ a) k := by
  unfold tb
  rw [Int.pow_add, ← Int.ediv_ediv_of_nonneg (Int.le_of_lt (Int.pow_pos (by decide)))]
theorem tb_nat (n k : Nat) : tb (n : Int) k = n.testBit k := by
  unfold tb
  rw [Nat.testBit_eq_decide_div_mod_eq]
  have : ((n : Int) / 2 ^ k % 2) = ((n / 2 ^ k % 2 : Nat) : Int) := by simp
  rw [this, decide_eq_decide]
  omega
theorem lv_tb {ts : List Int} (d : dg 4294967296 ts) (j k : Nat) (hk : k < 32) : tb (lv 4294967296 ts) (32 * j + k) = tb (at0 ts j) k := by
  have eB : (2 : Int) ^ (32 * j) = 4294967296 ^ j := by rw [Int.pow_mul]; rfl
  have hp := pos_pow (show (0 : Int) < 4294967296 by decide) j
  rw [tb_shift, eB]
  by_cases hj : j < ts.length
  · have e1 := lv_split 4294967296 ts j (by omega)
    have e2 := lv_drop 4294967296 ts j hj
    have t0 := lv_nonneg (show (0 : Int) < 4294967296 by decide) (dg_take d j)
    have t1 := lv_lt (show (0 : Int) < 4294967296 by decide) (dg_take d j)
    rw [List.length_take, Nat.min_eq_left (by omega)] at t1
    rw [e1, Int.add_mul_ediv_left _ _ (by omega), Int.ediv_eq_zero_of_lt t0 t1, Int.zero_add, e2]
    exact tb_add_mul _ _ (n := 32) hk
  · have t0 := lv_nonneg (show (0 : Int) < 4294967296 by decide) d
    have t1 := lv_lt (show (0 : Int) < 4294967296 by decide) d
    have t2 := pow_le (b := 4294967296) (by decide) (show ts.length ≤ j by omega)
    rw [Int.ediv_eq_zero_of_lt t0 (by omega), at0_ge (by omega)]
end Go.Proofs.Ytcgkgcciogibkaa.Ma
/- The law of Boole: the bits of what a round stores; of the number that is read back. No walk. -/
set_option linter.unusedVariables false
set_option linter.unusedSimpArgs false
namespace Go.Proofs.Ytcgkgcciogibkaa
open Go.RowKit Ma

/-- The bit that an operation makes of two bits. -/
def ch (op : Int) (a b : Bool) : Bool := decide (op / (if a then (if b then 8 else 4) else (if b then 2 else 1)) % 2 = 1)
theorem and1 (q : Int) (h0 : 0 ≤ q) (h1 : q ≤ 15) : (bits .and .i64 q 1 == 0) = decide (q % 2 = 0) := by
  obtain ⟨n, rfl⟩ := Int.eq_ofNat_of_zero_le h0
  have key : ∀ n : Fin 16, (bits .and .i64 ((n.val : Nat) : Int) 1 == 0) = decide (((n.val : Nat) : Int) % 2 = 0) := by decide
  exact key ⟨n, by omega⟩
theorem tq_nat (q : Int) (h0 : 0 ≤ q) (h1 : q ≤ 15) (A B : Nat) (hA : A < 4294967296) (hB : B < 4294967296) : tq q A B = ((if q % 2 = 0 then 0 else A &&& B : Nat) : Int) := by
  unfold tq
  rw [and1 q h0 h1, u32_and_nat A B hA hB]
  by_cases h : q % 2 = 0 <;> simp [h]
theorem ones_bit (k : Nat) (hk : k < 32) : Nat.testBit 4294967295 k = true := by
  have := Nat.testBit_two_pow_sub_one 32 k
  have p32 : (2 : Nat) ^ 32 - 1 = 4294967295 := by decide
  rw [p32] at this
  rw [this]; simp [hk]
theorem bl_bit (op p q : Int) (h0 : 0 ≤ op) (h1 : op ≤ 15) (hp : 0 ≤ p ∧ p < 4294967296) (hq : 0 ≤ q ∧ q < 4294967296) (k : Nat) (hk : k < 32) : tb (bl op p q) k = ch op (tb p k) (tb q k) := by
  obtain ⟨P, rfl⟩ := Int.eq_ofNat_of_zero_le hp.1
  obtain ⟨Q, rfl⟩ := Int.eq_ofNat_of_zero_le hq.1
  have hP : P < 4294967296 := by omega
  have hQ : Q < 4294967296 := by omega
  have hm : IntKind.u32.max = ((4294967295 : Nat) : Int) := by simp [IntKind.max, IntKind.bits, IntKind.signed]
  have p32 : (2 : Nat) ^ 32 = 4294967296 := by decide
  have l1 : 4294967295 ^^^ P < 4294967296 := by rw [← p32]; exact Nat.xor_lt_two_pow (by omega) (by omega)
  have l2 : 4294967295 ^^^ Q < 4294967296 := by rw [← p32]; exact Nat.xor_lt_two_pow (by omega) (by omega)
  unfold bl
  rw [hm, u32_xor_nat _ _ (by omega) hP, u32_xor_nat _ _ (by omega) hQ, tq_nat op h0 h1 _ _ l1 l2, tq_nat (op / 2) (by omega) (by omega) _ _ l1 hQ, tq_nat (op / 4) (by omega) (by omega) _ _ hP l2, tq_nat (op / 8) (by omega) (by omega) _ _ hP hQ]
  have b : ∀ (c : Prop) [Decidable c] (X Y : Nat), X < 4294967296 → (if c then 0 else X &&& Y) < 4294967296 := by
    intro c _ X Y hX
    split
    · omega
    · exact Nat.lt_of_le_of_lt Nat.and_le_left hX
  have o : ∀ X Y : Nat, X < 4294967296 → Y < 4294967296 → X ||| Y < 4294967296 := fun X Y hX hY => by rw [← p32]; exact Nat.or_lt_two_pow (by omega) (by omega)
  rw [u32_or_nat _ _ (b _ _ _ l1) (b _ _ _ l1), u32_or_nat _ _ (o _ _ (b _ _ _ l1) (b _ _ _ l1)) (b _ _ _ hP), u32_or_nat _ _ (o _ _ (o _ _ (b _ _ _ l1) (b _ _ _ l1)) (b _ _ _ hP)) (b _ _ _ hP)]
  rw [tb_nat, tb_nat, tb_nat]
  simp only [Nat.testBit_or]
  have t : ∀ (c : Prop) [Decidable c] (X Y : Nat), (if c then 0 else X &&& Y).testBit k = (!decide c && (X.testBit k && Y.testBit k)) := by
    intro c _ X Y
    by_cases h : c <;> simp [h]
  rw [t, t, t, t]
  simp only [Nat.testBit_xor, ones_bit k hk]
  have hdec : ∀ x : Int, (!decide (x % 2 = 0)) = decide (x % 2 = 1) := by
    intro x
    rw [Bool.eq_iff_iff, Bool.not_eq_true', decide_eq_false_iff_not, decide_eq_true_eq]
    omega
  rw [hdec, hdec, hdec, hdec]
  unfold ch
  cases P.testBit k <;> cases Q.testBit k <;> simp
theorem pow32 (n : Nat) : b32 ^ n = 2 ^ (32 * n) := by rw [Int.pow_mul]; rfl
theorem boole_law {x y op : Int} {us vs ts : List Int} {N : Nat} (h0 : 0 ≤ op) (h1 : op ≤ 15) (hN : 0 < N) (lu : us.length = N) (lv' : vs.length = N) (lt : ts.length = N) (du : dg b32 us) (dv : dg b32 vs) (dt : dg b32 ts)
    (eu : lv b32 us = x % b32 ^ N) (ev : lv b32 vs = y % b32 ^ N) (ht : ∀ i, i < N → at0 ts i = bl op (at0 us i) (at0 vs i))
    (x0 : -(b32 ^ (N - 1)) ≤ x) (x1 : x < b32 ^ (N - 1)) (y0 : -(b32 ^ (N - 1)) ≤ y) (y1 : y < b32 ^ (N - 1)) (i : Nat) : tb (sx N (lv b32 ts)) i = ch op (tb x i) (tb y i) := by
  have t0 := lv_nonneg (show (0 : Int) < b32 by decide) dt
  have t1 := lv_lt (show (0 : Int) < b32 by decide) dt
  rw [lt] at t1
  rw [pow32] at eu ev t1 x0 x1 y0 y1
  have low : ∀ i, i < 32 * N → tb (sx N (lv b32 ts)) i = ch op (tb x i) (tb y i) := by
    intro i hi
    have e1 : tb (sx N (lv b32 ts)) i = tb (lv b32 ts) i := by
      unfold sx
      split
      · rfl
      · rw [pow32, show lv b32 ts - 2 ^ (32 * N) = lv b32 ts + 2 ^ (32 * N) * (-1) by omega, tb_add_mul _ _ hi]
    have hj : i / 32 < N := by omega
    have hk : i % 32 < 32 := Nat.mod_lt _ (by decide)
    have hi2 : 32 * (i / 32) + i % 32 = i := by omega
    have a1 := lv_tb dt (i / 32) (i % 32) hk
    have a2 := lv_tb du (i / 32) (i % 32) hk
    have a3 := lv_tb dv (i / 32) (i % 32) hk
    rw [hi2] at a1 a2 a3
    have b2 := dg_at du (by decide) (i / 32)
    have b3 := dg_at dv (by decide) (i / 32)
    rw [b32_eq] at b2 b3
    rw [e1]
    rw [show lv b32 ts = lv 4294967296 ts from rfl, a1, ht _ hj, bl_bit op _ _ h0 h1 b2 b3 _ hk, ← a2, ← a3]
    rw [show lv 4294967296 us = lv b32 us from rfl, show lv 4294967296 vs = lv b32 vs from rfl, eu, ev, tb_emod _ hi, tb_emod _ hi]
  by_cases hi : i < 32 * N
  · exact low i hi
  · have hM : 32 * N - 1 + 1 = 32 * N := by omega
    have hpp : (2 : Int) ^ (32 * N) = 2 ^ (32 * N - 1) * 2 := by rw [← Int.pow_succ]; congr 1; omega
    have z0 : -(2 ^ (32 * N - 1)) ≤ sx N (lv b32 ts) := by unfold sx; rw [pow32]; split <;> omega
    have z1 : sx N (lv b32 ts) < 2 ^ (32 * N - 1) := by unfold sx; rw [pow32]; split <;> omega
    rw [tb_high z0 z1 (show 32 * N - 1 ≤ i by omega), ← tb_high z0 z1 (Nat.le_refl _), low _ (by omega)]
    rw [tb_high x0 x1 (show 32 * (N - 1) ≤ 32 * N - 1 by omega), tb_high x0 x1 (show 32 * (N - 1) ≤ i by omega), tb_high y0 y1 (show 32 * (N - 1) ≤ 32 * N - 1 by omega), tb_high y0 y1 (show 32 * (N - 1) ≤ i by omega)]
/-- The number whose bits an operation makes of the bits of two numbers. -/
noncomputable def bo (op x y : Int) : Int := @dite _ (∃ z, ∀ i, tb z i = ch op (tb x i) (tb y i)) (Classical.propDecidable _) (fun h => Classical.choose h) (fun _ => 0)
theorem bo_eq {op x y z : Int} (h : ∀ i, tb z i = ch op (tb x i) (tb y i)) : z = bo op x y := by
  have hex : ∃ z, ∀ i, tb z i = ch op (tb x i) (tb y i) := ⟨z, h⟩
  unfold bo
  rw [dif_pos hex]
  exact tb_ext fun i => (h i).trans (Classical.choose_spec hex i).symm
theorem boole_c {x y : Int} {n m : Bool} {A B : Option Addr} {l l' c d : Nat} {w : World} {op : Int} (hx : RI w n A l c x) (hy : RI w m B l' d y) (hl : l ≤ 300000) (hl' : l' ≤ 300000) (ho : 0 ≤ op) (ho2 : op ≤ 15) :
    Calls Try.prog 17 #[.agg #[.bool n, .slice A l c], .int .i64 op, .agg #[.bool m, .slice B l' d]] w (Ret w (K2 (KI (bo op x y)) (KV (.int .i64 0)))) := by
  have bx := hx.abs_lt
  have by' := hy.abs_lt
  refine (boole_w hx hy hl hl' ho ho2).mono fun e w' ⟨v, e1, ⟨v1, v2, e2, ⟨us, vs, ts, N, hN, lu, lv', lt, du, dv, dt, eu, ev, ht, hk⟩, h2⟩, hb⟩ => ⟨v, e1, ⟨v1, v2, e2, ?_, h2⟩, hb⟩
  have p1 := pow_le (b := b32) (by decide) (show l ≤ N - 1 by omega)
  have p2 := pow_le (b := b32) (by decide) (show l' ≤ N - 1 by omega)
  rw [← bo_eq (boole_law ho ho2 (by omega) lu lv' lt du dv dt eu ev ht (by omega) (by omega) (by omega) (by omega))]
  exact hk
end Go.Proofs.Ytcgkgcciogibkaa
