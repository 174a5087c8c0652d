/- Parts Sya, Syb, B5, Shelf, B6, Md, B7, B8, B9, Me, Mf, C1, C2, C3, C4, C5, C6, C7, C8, C9, Ca, Mg, Cb, Cd, Mh, Ce, B0, Mi, F1, F2, F0, F4, F5, F6, F3, Syd, Sye, in one file. -/
import Derived.Tactics2
import Derived.Scope
import Derived.Shelf.Small.Bits
import Derived.Shelf.Small.Strs
import Derived.Shelf.Strings.Search1
import Derived.Shelf.Strings.Search2
import Derived.Shelf.Strings.Cut
import Derived.Shelf.LaysM
import Derived.Shelf.Strings.Shaped
import Derived.Shelf.Strings.Prefix
import Derived.Test.YthpjmhhfcechmaaGreatProg
import Derived.Shelf.Spec.SlicesGrow
import Derived.OpenShut
import Derived.WalkSmall
import Derived.IntWalk
import Derived.Deep.CutRange
import Derived.Deep.DeepCutAuto
import Derived.Lib.ItoaNum
import Derived.Lib.Tables
import Derived.Deep.AppendLies
import Derived.Deep.RegionLaw
import Derived.BigRegion
import Derived.Test.YthpjmhhfcechmaaGreatLRExpansions1
import Derived.Test.YthpjmhhfcechmaaGreatLRExpansions2
/- Words for a walk by rules: what is known of a frame's slots, boxes of the call's own; what the operations of a statement in the order of the text do. -/
set_option linter.unusedVariables false
set_option linter.unusedSimpArgs false
namespace Go.Proofs.YthpjmhhfcechmaaGreat.Sy
open Go Go.RowKit

abbrev Know := Rg.Know
abbrev ptr (p : Nat) : Value := .pointer (some ⟨p, 0, none⟩)
/-! ### Boxes -/
structure BT where
 T : TypeId
 sh : Value → List Value → Prop
def Holds (b : BT) (p : Nat) (v : Value) (W : World) : Prop := ∃ cs, b.sh v cs ∧ ∀ i x, cs[i]? = some x → W.cell? ⟨p, i, none⟩ = some x ∧ W.frozen? ⟨p, i, none⟩ = false
structure Only (p : Nat) (W W' : World) : Prop where
 gr : W.grownBy W' (some p)
 nu : IntK W W'
 sz : W'.heap.size = W.heap.size
structure BT.Ok (b : BT) : Prop where
 ne : ∀ v cs, b.sh v cs → cs ≠ []
 load : ∀ v cs W p, b.sh v cs → (∀ i x, cs[i]? = some x → W.cell? ⟨p, i, none⟩ = some x) → (Instr.loadAt b.T (ptr p)).run Tryz.prog W = .ok v W
 store : ∀ v v' cs' W p, Holds b p v W → b.sh v' cs' → ∃ W', (Instr.storeAt b.T (ptr p) v').run Tryz.prog W = .ok () W' ∧ Holds b p v' W' ∧ Only p W W'
 alloc : ∃ o z cs, b.sh z cs ∧ ∀ W, (Instr.alloc b.T true (.tuple #[])).run Tryz.prog W = .ok (ptr W.heap.size) (W.alloc o) ∧ (∀ i x, cs[i]? = some x → (W.alloc o).cell? ⟨W.heap.size, i, none⟩ = some x ∧ (W.alloc o).frozen? ⟨W.heap.size, i, none⟩ = false)
 box : ∀ v cs, b.sh v cs → ∃ o, ∀ W, (Instr.box b.T v).run Tryz.prog W = .ok (ptr W.heap.size) (W.alloc o) ∧ (∀ i x, cs[i]? = some x → (W.alloc o).cell? ⟨W.heap.size, i, none⟩ = some x ∧ (W.alloc o).frozen? ⟨W.heap.size, i, none⟩ = false)
theorem Holds.lt {b : BT} (hb : b.Ok) {p : Nat} {v : Value} {W : World} (h : Holds b p v W) : p < W.heap.size := by
 obtain ⟨cs, hs, hc⟩ := h
 cases cs with
 | nil => exact absurd rfl (hb.ne _ _ hs)
 | cons x l => exact World.block_lt_of_cell? W ⟨p, 0, none⟩ (hc 0 x rfl).1
theorem Holds.same {b : BT} {p : Nat} {v : Value} {W W' : World} (h : Holds b p v W) (e : W'.heap[p]? = W.heap[p]?) : Holds b p v W' := by
 obtain ⟨cs, hs, hc⟩ := h
 refine ⟨cs, hs, fun i x hx => ?_⟩
 obtain ⟨a, c⟩ := hc i x hx
 exact ⟨(World.cell?_of_block (a := ⟨p, i, none⟩) e).trans a, (World.frozen?_of_block (a := ⟨p, i, none⟩) e).trans c⟩
theorem Holds.nw {b : BT} (hb : b.Ok) {p : Nat} {v : Value} {W W' : World} (h : Holds b p v W) (k : Nw W W') : Holds b p v W' := h.same (Below.block k p (h.lt hb))
theorem Holds.off {b : BT} (hb : b.Ok) {p q : Nat} {v : Value} {W W' : World} (h : Holds b p v W) (k : Only q W W') (hne : p ≠ q) : Holds b p v W' :=
 h.same (k.gr.block p (h.lt hb) (fun e => hne (by injection e)))
/-! ### Rows of the call's own -/
def OwF (w : World) (base : Nat) (e : TypeId) (f : Int → Value) (v : Value) (xs : List Int) : Prop := w.ownsRow base e 1 v xs.length (xs.map f)
section
variable {w : World} {b0 : Nat} {e : TypeId} {f : Int → Value} {v : Value} {zs : List Int}
theorem OwF.kept {w' : World} (h : OwF w b0 e f v zs) (hb : Below w.heap.size w w') : OwF w' b0 e f v zs :=
 World.ownsRow.kept h (row := none) ⟨hb.os, hb.tape, hb.output, hb.size, fun i hi _ => hb.block i hi⟩ (by cases v.ownBlock <;> simp)
theorem OwF.off {w' : World} {q : Nat} (h : OwF w b0 e f v zs) (hg : w.grownBy w' (some q)) (hne : v.ownBlock ≠ some q) : OwF w' b0 e f v zs := World.ownsRow.kept h hg (.inr hne)
theorem OwF.base (h : OwF w b0 e f v zs) : ∀ g, v.ownBlock = some g → b0 ≤ g := fun g hg => (World.ownsRow.lt h g hg).1
theorem OwF.len {A : Option Addr} {n c : Nat} (h : OwF w b0 e f (.slice A n c) zs) : n = zs.length := by
 obtain ⟨_, h1 | ⟨g, cap, cur, hv, _⟩⟩ := h
 ·obtain ⟨e1, e2⟩ := h1
  injection e1 with _ e1 _
  rw [e1]; exact e2.symm
 ·injection hv with _ e1 _
theorem OwF.cellAt {g n c i : Nat} (h : OwF w b0 e f (.slice (some ⟨g, 0, none⟩) n c) zs) (hi : i < zs.length) : w.cell? ⟨g, i, none⟩ = some (f (Ma.at0 zs i)) := by
 have hn := h.len
 subst hn
 rw [World.ownsRow.cellAt h i (by omega), List.getElem?_map, List.getElem?_eq_getElem hi, Ma.at0_of_lt hi]
 rfl
theorem OwF.frozenAt {g n c : Nat} (h : OwF w b0 e f (.slice (some ⟨g, 0, none⟩) n c) zs) (i : Nat) : w.frozen? ⟨g, i, none⟩ = false := by
 have hn := h.len
 subst hn
 exact World.ownsRow.frozenAt h i
theorem OwF.set {g n c : Nat} (h : OwF w b0 e f (.slice (some ⟨g, 0, none⟩) n c) zs) (i : Nat) (x : Int) : OwF (w.setCell ⟨g, i, none⟩ (f x)) b0 e f (.slice (some ⟨g, 0, none⟩) n c) (zs.set i x) := by
 have hn := h.len
 subst hn
 have := World.ownsRow.stored h i (f x)
 unfold OwF
 rw [List.length_set, List.map_set]
 exact this.1
theorem OwF.ge {g n c : Nat} (h : OwF w b0 e f (.slice (some ⟨g, 0, none⟩) n c) zs) : b0 ≤ g := h.base g rfl
theorem OwF.grew {g n c : Nat} (h : OwF w b0 e f (.slice (some ⟨g, 0, none⟩) n c) zs) (i : Nat) (x : Value) : w.grownBy (w.setCell ⟨g, i, none⟩ x) (some g) := by
 have hn := h.len
 subst hn
 exact (World.ownsRow.stored h i x).2
theorem OwF.weaken {b' : Nat} (h : OwF w b0 e f v zs) (hb : b' ≤ b0) : OwF w b' e f v zs :=
 ⟨h.1, h.2.imp id fun ⟨g', cap, cur, h1, h2, h3⟩ => ⟨g', cap, cur, h1, Nat.le_trans hb h2, h3⟩⟩
theorem OwF.form (h : OwF w b0 e f v zs) : (v = .slice none 0 0 ∧ zs = []) ∨ ∃ g c, v = .slice (some ⟨g, 0, none⟩) zs.length c ∧ zs.length ≤ c := by
 obtain ⟨_, h1 | ⟨g, cap, cur, hv, hb, hg, hc, hm, _, _⟩⟩ := h
 ·exact .inl ⟨h1.1, List.eq_nil_of_length_eq_zero h1.2⟩
 ·exact .inr ⟨g, cap, hv, hc⟩
end
/-! ### Frames -/
inductive AV
 | vl (v : Value)
 | kw (k : Know)
 | bx (b : BT) (k : Know)
 | nb (b : BT)
 | bp (b : BT) (p : Nat) (k : Know)
 | ro (v : Value) (e : TypeId) (f : Int → Value) (zs : List Int)
 | rx (e : TypeId) (f : Int → Value) (p : List Int → Prop)
 | bc (b : BT) (p : Nat) (v : Value)
 | rs (v : Value) (e : TypeId) (s n : Nat) (R : List Value → World → Prop)
 | rz (e : TypeId) (s n : Nat) (R : List Value → World → Prop)
def AV.isBx : AV → Bool
 | .vl _ => false
 | .kw _ => false
 | _ => true
def AV.of : AV → Know
 | .vl v => KV v
 | .kw k => k
 | _ => fun _ _ => False
def blk0 : Value → Option Nat
 | .pointer (some ⟨p, 0, none⟩) => some p
 | _ => none
def AV.blk : AV → Value → Option Nat
 | .bx _ _, u => blk0 u
 | .nb _, u => blk0 u
 | .bp _ p _, _ => some p
 | .ro v _ _ _, _ => v.ownBlock
 | .rx _ _ _, u => u.ownBlock
 | .bc _ p _, _ => some p
 | .rs v _ _ _ _, _ => v.ownBlock
 | .rz _ _ _ _, u => u.ownBlock
 | _, _ => none
theorem AV.blk_no {v : AV} (h : v.isBx = false) (u : Value) : v.blk u = none := by cases v <;> first | rfl | cases h
def look : List (Nat × AV) → Nat → Option AV
 | [], _ => none
 | (j, v) :: l, i => match Nat.beq j i with
  | true => some v
  | false => look l i
def Ho (B : Nat) : AV → Value → World → Prop
 | .vl v, u, _ => u = v
 | .kw k, u, W => k u W ∧ St k
 | .bx b k, u, W => ∃ p v, u = ptr p ∧ B ≤ p ∧ Holds b p v W ∧ k v W ∧ St k ∧ b.Ok
 | .nb b, u, W => ∃ p v, u = ptr p ∧ B ≤ p ∧ Holds b p v W ∧ b.Ok
 | .bp b p k, u, W => ∃ v, u = ptr p ∧ B ≤ p ∧ Holds b p v W ∧ k v W ∧ St k ∧ b.Ok
 | .ro v e f zs, _, W => OwF W B e f v zs
 | .rx e f p, u, W => ∃ zs, OwF W B e f u zs ∧ p zs
 | .bc b p v, u, W => u = ptr p ∧ Holds b p v W ∧ b.Ok
 | .rs v e s n R, _, W => OwS W B e s v n R
 | .rz e s n R, u, W => OwS W B e s u n R
theorem Ho.of {B : Nat} {v : AV} (hv : v.isBx = false) {u : Value} {W : World} (h : Ho B v u W) : v.of u W ∧ St v.of := by
 cases v with
 | vl v => exact ⟨h, KV.st v⟩
 | kw k => exact h
 | _ => cases hv
theorem Ho.mk {B : Nat} {v : AV} (hv : v.isBx = false) {u : Value} {W : World} (h : v.of u W) (hs : St v.of) : Ho B v u W := by
 cases v with
 | vl v => exact h
 | kw k => exact ⟨h, hs⟩
 | _ => cases hv
theorem Ho.nw {B : Nat} {v : AV} {u : Value} {W W' : World} (h : Ho B v u W) (k : Nw W W') : Ho B v u W' := by
 cases v with
 | vl v => exact h
 | kw kk => exact ⟨h.2 _ _ _ k.kept h.1, h.2⟩
 | bx b kk =>
  obtain ⟨p, x, e, hp, hh, hk, hs, ok⟩ := h
  exact ⟨p, x, e, hp, hh.nw ok k, hs _ _ _ k.kept hk, hs, ok⟩
 | nb b =>
  obtain ⟨p, x, e, hp, hh, ok⟩ := h
  exact ⟨p, x, e, hp, hh.nw ok k, ok⟩
 | bp b p kk =>
  obtain ⟨x, e, hp, hh, hk, hs, ok⟩ := h
  exact ⟨x, e, hp, hh.nw ok k, hs _ _ _ k.kept hk, hs, ok⟩
 | ro v e f zs => exact OwF.kept h k
 | rx e f p => obtain ⟨zs, h1, h2⟩ := h; exact ⟨zs, OwF.kept h1 k, h2⟩
 | bc b p v => obtain ⟨e, hh, ok⟩ := h; exact ⟨e, hh.nw ok k, ok⟩
 | rs v e s n R => exact OwS.kept h k
 | rz e s n R => exact OwS.kept h k
theorem Ho.off {B : Nat} {v : AV} {u : Value} {W W' : World} {q : Nat} (h : Ho B v u W) (k : Only q W W') (hne : v.blk u ≠ some q) : Ho B v u W' := by
 cases v with
 | vl v => exact h
 | kw kk => exact ⟨h.2 _ _ _ k.nu h.1, h.2⟩
 | bx b kk =>
  obtain ⟨p, x, e, hp, hh, hk, hs, ok⟩ := h
  subst e
  exact ⟨p, x, rfl, hp, hh.off ok k (fun e2 => hne (by rw [e2]; rfl)), hs _ _ _ k.nu hk, hs, ok⟩
 | nb b =>
  obtain ⟨p, x, e, hp, hh, ok⟩ := h
  subst e
  exact ⟨p, x, rfl, hp, hh.off ok k (fun e2 => hne (by rw [e2]; rfl)), ok⟩
 | bp b p kk =>
  obtain ⟨x, e, hp, hh, hk, hs, ok⟩ := h
  exact ⟨x, e, hp, hh.off ok k (fun e2 => hne (by rw [e2]; rfl)), hs _ _ _ k.nu hk, hs, ok⟩
 | ro v e f zs => exact OwF.off h k.gr hne
 | rx e f p => obtain ⟨zs, h1, h2⟩ := h; exact ⟨zs, OwF.off h1 k.gr hne, h2⟩
 | bc b p v => obtain ⟨e, hh, ok⟩ := h; exact ⟨e, hh.off ok k (fun e2 => hne (by rw [e2]; rfl)), ok⟩
 | rs v e s n R => exact OwS.off h k.gr k.nu hne
 | rz e s n R => exact OwS.off h k.gr k.nu hne
theorem Ho.blk {B : Nat} {v : AV} {u : Value} {W : World} {p : Nat} (h : Ho B v u W) (e : v.blk u = some p) : p < W.heap.size := by
 cases v with
 | vl v => cases e
 | kw k => cases e
 | bx b k =>
  obtain ⟨q, x, e2, hp, hh, _, _, ok⟩ := h
  subst e2
  injection e with e
  subst e
  exact hh.lt ok
 | nb b =>
  obtain ⟨q, x, e2, hp, hh, ok⟩ := h
  subst e2
  injection e with e
  subst e
  exact hh.lt ok
 | bp b q k =>
  obtain ⟨x, _, hp, hh, _, _, ok⟩ := h
  injection e with e
  subst e
  exact hh.lt ok
 | ro v e2 f zs => exact (World.ownsRow.lt h p e).2
 | rx e2 f pp => obtain ⟨zs, h1, h2⟩ := h; exact (World.ownsRow.lt h1 p e).2
 | bc b q x =>
  obtain ⟨_, hh, ok⟩ := h
  injection e with e
  subst e
  exact hh.lt ok
 | rs v e2 s n R => exact NoI.lt h.2.1 e
 | rz e2 s n R => exact NoI.lt h.2.1 e
structure Fr (B N : Nat) (w0 : World) (fr : List (Nat × AV)) (a : Act) (W : World) : Prop where
 df : a.defers = []
 sz : a.tmps.size = N
 be : Below B w0 W
 bs : B ≤ W.heap.size
 ho : ∀ i v, look fr i = some v → Ho B v (a.tmps.getD i undef) W
 di : ∀ i j v v' p, i ≠ j → look fr i = some v → look fr j = some v' → v.blk (a.tmps.getD i undef) = some p → v'.blk (a.tmps.getD j undef) ≠ some p
section
variable {B N : Nat} {w0 : World} {fr : List (Nat × AV)} {a : Act} {W : World}
theorem Fr.nw {W' : World} (h : Fr B N w0 fr a W) (k : Nw W W') : Fr B N w0 fr a W' :=
 ⟨h.df, h.sz, h.be.trans (Below.mono k h.bs), Nat.le_trans h.bs k.size, fun i v hi => (h.ho i v hi).nw k, h.di⟩
theorem getD_put {a : Act} {d i : Nat} {u : Value} (hd : d < a.tmps.size) : (a.put (some d) u).tmps.getD i undef = if d = i then u else a.tmps.getD i undef := by
 show (a.tmps.setIfInBounds d u).getD i undef = _
 simp only [Array.getD_eq_getD_getElem?, Array.getElem?_setIfInBounds]
 by_cases e : d = i
 ·subst e; simp [hd]
 ·simp [e]
theorem look_cons (j : Nat) (v : AV) (l : List (Nat × AV)) (i : Nat) : look ((j, v) :: l) i = if j = i then some v else look l i := by
 show (match Nat.beq j i with | true => some v | false => look l i) = _
 by_cases e : j = i
 ·subst e; simp
 ·have : Nat.beq j i = false := by rw [← Bool.not_eq_true]; exact fun h => e (Nat.eq_of_beq_eq_true h)
  rw [this, if_neg e]
theorem Fr.put {d : Nat} {u : Value} {v : AV} (h : Fr B N w0 fr a W) (hd : Nat.blt d N = true) (hu : Ho B v u W) (hn : ∀ i v' p, look fr i = some v' → v.blk u = some p → v'.blk (a.tmps.getD i undef) ≠ some p) : Fr B N w0 ((d, v) :: fr) (a.put (some d) u) W := by
 have hd' : d < a.tmps.size := by rw [h.sz]; simpa [Nat.blt_eq] using hd
 refine ⟨h.df, by show (a.tmps.setIfInBounds d u).size = N; rw [Array.size_setIfInBounds]; exact h.sz, h.be, h.bs, fun i x hi => ?_, fun i j b b' p hij hi hj => ?_⟩
 ·rw [look_cons] at hi
  rw [getD_put hd']
  by_cases e : d = i
  ·rw [if_pos e] at hi ⊢; injection hi with hi; subst hi; exact hu
  ·rw [if_neg e] at hi ⊢; exact h.ho i x hi
 ·rw [look_cons] at hi hj
  rw [getD_put hd', getD_put hd']
  by_cases e : d = i
  ·rw [if_pos e] at hi ⊢
   injection hi with hi
   subst hi
   have e' : d ≠ j := fun x => hij (e.symm.trans x)
   rw [if_neg e'] at hj ⊢
   intro x
   exact hn j b' p hj x
  ·rw [if_neg e] at hi ⊢
   by_cases e' : d = j
   ·rw [if_pos e'] at hj ⊢
    injection hj with hj
    subst hj
    intro x y
    exact hn i b p hi y x
   ·rw [if_neg e'] at hj ⊢; exact h.di i j b b' p hij hi hj
theorem Fr.set {d : Nat} {u : Value} {v : AV} (h : Fr B N w0 fr a W) (hd : Nat.blt d N = true) (hu : Ho B v u W) (hv : v.isBx = false) : Fr B N w0 ((d, v) :: fr) (a.put (some d) u) W :=
 h.put hd hu fun _ _ p _ e => by rw [AV.blk_no hv] at e; cases e
theorem Fr.fresh {d p : Nat} {v : AV} {W' : World} (h : Fr B N w0 fr a W) (hn : Nw W W') (hd : Nat.blt d N = true) (hp : W.heap.size ≤ p) (hv : v.blk (ptr p) = some p) (hu : Ho B v (ptr p) W') : Fr B N w0 ((d, v) :: fr) (a.put (some d) (ptr p)) W' := by
 refine (h.nw hn).put hd hu fun i v' q hi e e2 => ?_
 rw [hv] at e
 injection e with e
 have := (h.ho i _ hi).blk e2
 omega
theorem Fr.more {i : Nat} {v : AV} (h : Fr B N w0 fr a W) (hu : Ho B v (a.tmps.getD i undef) W) (hn : ∀ j v' p, look fr j = some v' → v.blk (a.tmps.getD i undef) = some p → v'.blk (a.tmps.getD j undef) ≠ some p) : Fr B N w0 ((i, v) :: fr) a W := by
 refine ⟨h.df, h.sz, h.be, h.bs, fun j x hj => ?_, fun j l b b' p hjl hj hl => ?_⟩
 ·rw [look_cons] at hj
  by_cases e : i = j
  ·rw [if_pos e] at hj; injection hj with hj; subst hj; subst e; exact hu
  ·rw [if_neg e] at hj; exact h.ho j x hj
 ·rw [look_cons] at hj hl
  by_cases e : i = j
  ·have e' : i ≠ l := fun x => hjl (e.symm.trans x)
   rw [if_pos e] at hj
   rw [if_neg e'] at hl
   injection hj with hj
   subst hj e
   exact fun x => hn l b' p hl x
  ·rw [if_neg e] at hj
   by_cases e' : i = l
   ·rw [if_pos e'] at hl
    injection hl with hl
    subst hl e'
    exact fun x y => hn j b p hj y x
   ·rw [if_neg e'] at hl; exact h.di j l b b' p hjl hj hl
theorem Fr.know {i : Nat} {v : AV} (h : Fr B N w0 fr a W) (hv : v.isBx = false) (hu : Ho B v (a.tmps.getD i undef) W) : Fr B N w0 ((i, v) :: fr) a W :=
 h.more hu fun _ _ p _ e => by rw [AV.blk_no hv] at e; cases e
theorem Fr.stored {s q : Nat} {v : AV} {b : BT} {k' : Know} {v' : Value} {W' : World} (h : Fr B N w0 fr a W) (hs : look fr s = some v) (hq : a.tmps.getD s undef = ptr q) (hB : B ≤ q) (hvq : v.blk (ptr q) = some q) (ok : b.Ok) (ho : Only q W W') (hh : Holds b q v' W') (hk : k' v' W') (hst : St k') : Fr B N w0 ((s, .bx b k') :: fr) a W' := by
 refine ⟨h.df, h.sz, ?_, by rw [ho.sz]; exact h.bs, fun j y hj => ?_, fun j l y y' p hjl hj hl => ?_⟩
 ·exact Below.grown h.be ho.gr h.bs (fun k e => by injection e with e; omega)
 ·rw [look_cons] at hj
  by_cases e' : s = j
  ·rw [if_pos e'] at hj; injection hj with hj; subst hj; subst e'; exact ⟨q, v', hq, hB, hh, hk, hst, ok⟩
  ·rw [if_neg e'] at hj
   exact (h.ho j y hj).off ho (h.di s j v y q e' hs hj (by rw [hq]; exact hvq))
 ·rw [look_cons] at hj hl
  by_cases e1 : s = j
  ·have e2 : s ≠ l := fun x => hjl (e1.symm.trans x)
   rw [if_pos e1] at hj
   rw [if_neg e2] at hl
   injection hj with hj
   subst hj e1
   intro x
   have x' : some q = some p := by rw [← x, hq]; rfl
   injection x' with x'
   subst x'
   exact h.di s l v y' q e2 hs hl (by rw [hq]; exact hvq)
  ·rw [if_neg e1] at hj
   by_cases e2 : s = l
   ·rw [if_pos e2] at hl
    injection hl with hl
    subst hl e2
    intro x y2
    have x' : some q = some p := by rw [← y2, hq]; rfl
    injection x' with x'
    subst x'
    exact h.di s j v y q e1 hs hj (by rw [hq]; exact hvq) x
   ·rw [if_neg e2] at hl; exact h.di j l y y' p hjl hj hl
end

/-! ### Operands -/
def opv (fr : List (Nat × AV)) : Operand → Option AV
 | .tmp t => match look fr t with
  | some (.vl v) => some (.vl v)
  | some (.kw k) => some (.kw k)
  | _ => none
 | .const v => some (.vl v)
 | .func f => some (.vl (.func (.func f) #[] #[]))
 | .global g => some (.vl (ptr g))
theorem opv_spec {B N : Nat} {w0 : World} {fr : List (Nat × AV)} {a : Act} {W : World} (h : Fr B N w0 fr a W) {x : Operand} {v : AV} (hx : opv fr x = some v) : Ho B v (a.eval x) W ∧ v.isBx = false := by
 cases x with
 | tmp t =>
  simp only [opv] at hx
  cases hl : look fr t with
  | none => rw [hl] at hx; cases hx
  | some r =>
   rw [hl] at hx
   cases r with
   | vl x => injection hx with hx; subst hx; exact ⟨h.ho t _ hl, rfl⟩
   | kw x => injection hx with hx; subst hx; exact ⟨h.ho t _ hl, rfl⟩
   | _ => cases hx
 | const v' => injection hx with hx; subst hx; exact ⟨rfl, rfl⟩
 | func f => injection hx with hx; subst hx; exact ⟨rfl, rfl⟩
 | global g => injection hx with hx; subst hx; exact ⟨rfl, rfl⟩
theorem opv_vl {B N : Nat} {w0 : World} {fr : List (Nat × AV)} {a : Act} {W : World} (h : Fr B N w0 fr a W) {x : Operand} {v : Value} (hx : opv fr x = some (.vl v)) : a.eval x = v := (opv_spec h hx).1
def All : List Know → List Value → World → Prop
 | [], [], _ => True
 | k :: ks, u :: us, W => k u W ∧ All ks us W
 | _, _, _ => False
def opks (fr : List (Nat × AV)) : List Operand → Option (List Know)
 | [] => some []
 | x :: xs => match opv fr x with
  | none => none
  | some v => match opks fr xs with
   | none => none
   | some ks => some (v.of :: ks)
theorem opks_spec {B N : Nat} {w0 : World} {fr : List (Nat × AV)} {a : Act} {W : World} (h : Fr B N w0 fr a W) : ∀ {xs : List Operand} {ks : List Know}, opks fr xs = some ks → All ks (xs.map a.eval) W
 | [], ks, e => by injection e with e; subst e; trivial
 | x :: xs, ks, e => by
  unfold opks at e
  split at e
  ·cases e
  ·rename_i v hv
   split at e
   ·cases e
   ·rename_i ks' hk
    injection e with e
    subst e
    obtain ⟨h1, h2⟩ := opv_spec h hv
    exact ⟨(h1.of h2).1, opks_spec h hk⟩
def wantB (ops : Array Oper) (fr : List (Nat × AV)) (o : Oper) : Option Bool := match o.guard with
 | none => some true
 | some (j, b) => match (ops[j]?).bind (·.dst) with
  | none => some false
  | some d => match look fr d with
   | some (.vl (.bool c)) => some (c == b)
   | some (.vl (.tuple _)) => some false
   | _ => none
theorem wantB_ex {ops : Array Oper} {fr : List (Nat × AV)} {o : Oper} {a : Act} (h : ∀ s v, look fr s = some (.vl v) → a.tmps.getD s undef = v) {b : Bool} (hw : wantB ops fr o = some b) : Region.wanted o (yielded ops a.tmps) = b := by
 unfold wantB at hw
 unfold Region.wanted
 split at hw
 ·rename_i hg; rw [hg]; injection hw
 ·rename_i j c hg
  rw [hg]
  split at hw
  ·rename_i hd
   injection hw with hw
   subst hw
   simp only [yielded, hd, Option.bind_none]
   rfl
  ·rename_i d hd
   have key : ∀ v, look fr d = some (.vl v) → yielded ops a.tmps j = (match (some v : Option Value) with | some (.bool b) => some b | _ => none) ∨ (yielded ops a.tmps j = none ∧ v = undef) := by
    intro v hv
    have e : a.tmps.getD d undef = v := h d v hv
    simp only [Array.getD_eq_getD_getElem?] at e
    simp only [yielded, hd, Option.bind_some]
    cases hq : a.tmps[d]? with
    | none => rw [hq] at e; exact .inr ⟨rfl, by simpa using e.symm⟩
    | some x => rw [hq] at e; simp only [Option.getD_some] at e; subst e; exact .inl rfl
   split at hw
   ·rename_i c' hl
    injection hw with hw
    subst hw
    rcases key _ hl with e | ⟨_, e⟩
    ·simp only [e]; rfl
    ·unfold undef at e; cases e
   ·rename_i xs hl
    injection hw with hw
    subst hw
    rcases key _ hl with e | ⟨e, _⟩
    ·simp only [e]; rfl
    ·simp only [e]; rfl
   ·cases hw
theorem Fr.ex {B N : Nat} {w0 : World} {fr : List (Nat × AV)} {a : Act} {W : World} (h : Fr B N w0 fr a W) : ∀ s v, look fr s = some (.vl v) → a.tmps.getD s undef = v := fun s v e => h.ho s _ e
theorem wantB_spec {B N : Nat} {w0 : World} {ops : Array Oper} {fr : List (Nat × AV)} {o : Oper} {a : Act} {W : World} (h : Fr B N w0 fr a W) {b : Bool} (hw : wantB ops fr o = some b) : Region.wanted o (yielded ops a.tmps) = b := wantB_ex h.ex hw
end Go.Proofs.YthpjmhhfcechmaaGreat.Sy
/- A walk by rules: statements in the order of the text, and how they follow one another. -/
namespace Go.Proofs.YthpjmhhfcechmaaGreat.Sy
open Go Go.RowKit
section
variable {B N : Nat} {w0 : World} {ops : Array Oper} {o : Oper} {rest : List Oper} {fr : List (Nat × AV)} {Q : Exit → Act → World → Prop} {d : Nat}

def PW (B N : Nat) (w0 : World) (ops : Array Oper) (rest : List Oper) (fr : List (Nat × AV)) (Q : Exit → Act → World → Prop) : Prop := ∀ a W, Fr B N w0 fr a W → wpList Tryz.prog ops Q rest a W
def SC (B N : Nat) (w0 : World) (c : Code) (fr : List (Nat × AV)) (Q : Exit → Act → World → Prop) : Prop := ∀ a W, Fr B N w0 fr a W → c.wp Tryz.prog Q a W
def SX (B N : Nat) (w0 : World) (e : Exit) (fr : List (Nat × AV)) (Q : Exit → Act → World → Prop) : Prop := ∀ a W, Fr B N w0 fr a W → Q e a W
theorem PW.nil (h : SX B N w0 .normal fr Q) : PW B N w0 ops [] fr Q := fun a W hf => wpList_nil (h a W hf)
theorem PW.step (hw : wantB ops fr o = some true) (h : ∀ a W, Fr B N w0 fr a W → ∀ K : Act → World → Prop, (∀ a W, wpList Tryz.prog ops Q rest a W → K a W) → o.wp Tryz.prog a W K Q) : PW B N w0 ops (o :: rest) fr Q :=
 fun a W hf => wpList_step fun K hK => by rw [if_pos (wantB_spec hf hw)]; exact h a W hf K hK
theorem PW.val {r : AV} (hw : wantB ops fr o = some true) (hd : o.dst = some d) (hN : Nat.blt d N = true) (hr : r.isBx = false)
  (h : ∀ a W, Fr B N w0 fr a W → ∃ u, (execOp a.eval o).run Tryz.prog W = .ok (.value u) W ∧ Ho B r u W) (hk : PW B N w0 ops rest ((d, r) :: fr) Q) : PW B N w0 ops (o :: rest) fr Q :=
 PW.step hw fun a W hf K hK => by
  obtain ⟨u, e, hu⟩ := h a W hf
  unfold Oper.wp
  rw [e, Oper.upon_value, hd]
  exact hK _ _ (hk _ _ (hf.set hN hu hr))
theorem PW.skip (hw : wantB ops fr o = some false) (hd : o.dst = some d) (hN : Nat.blt d N = true) (hk : PW B N w0 ops rest ((d, .vl undef) :: fr) Q) : PW B N w0 ops (o :: rest) fr Q :=
 fun a W hf => wpList_skip (wantB_spec hf hw) (by rw [hd]; exact hk _ _ (hf.set hN rfl rfl))
theorem PW.move {x : Operand} {r : AV} (hw : wantB ops fr o = some true) (hd : o.dst = some d) (hN : Nat.blt d N = true) (ho : o.op = .move x) (hx : opv fr x = some r) (hk : PW B N w0 ops rest ((d, r) :: fr) Q) : PW B N w0 ops (o :: rest) fr Q :=
 PW.step hw fun a W hf K hK => by
  obtain ⟨h1, h2⟩ := opv_spec hf hx
  have e : (execOp a.eval o).run Tryz.prog W = .ok (.value (a.eval x)) W := by unfold execOp; rw [ho]; rfl
  unfold Oper.wp
  rw [e, Oper.upon_value, hd]
  exact hK _ _ (hk _ _ (hf.set hN h1 h2))
theorem PW.assign {x : Operand} {r : AV} (hw : wantB ops fr o = some true) (hd : o.dst = some d) (hN : Nat.blt d N = true) (ho : o.op = .assign x) (hx : opv fr x = some r) (hk : PW B N w0 ops rest ((d, r) :: fr) Q) : PW B N w0 ops (o :: rest) fr Q :=
 PW.step hw fun a W hf K hK => by
  obtain ⟨h1, h2⟩ := opv_spec hf hx
  have e : (execOp a.eval o).run Tryz.prog W = .ok (.value (a.eval x)) W := by unfold execOp; rw [ho]; rfl
  unfold Oper.wp
  rw [e, Oper.upon_value, hd]
  exact hK _ _ (hk _ _ (hf.set hN h1 h2))
theorem run_val {s : Sem Value} {W W' : World} {v : Value} (h : s.run Tryz.prog W = .ok v W') : (do pure (.value (← s)) : Sem Next).run Tryz.prog W = .ok (.value v) W' := by
 simp [h, go_sem]
theorem run_skip {s : Sem Unit} {W W' : World} (h : s.run Tryz.prog W = .ok () W') : (do s; pure .skip : Sem Next).run Tryz.prog W = .ok .skip W' := by
 simp [h, go_sem]
theorem PW.load {T : TypeId} {s : Nat} {b : BT} {k : Know} (hw : wantB ops fr o = some true) (hd : o.dst = some d) (hN : Nat.blt d N = true) (ho : o.op = .load T (.tmp s)) (hs : look fr s = some (.bx b k)) (hT : b.T = T) (hk : PW B N w0 ops rest ((d, .kw k) :: fr) Q) : PW B N w0 ops (o :: rest) fr Q :=
 PW.val hw hd hN rfl (fun a W hf => by
  obtain ⟨p, v, e, _, ⟨cs, hs1, hc⟩, hv, st, ok⟩ := hf.ho s _ hs
  refine ⟨v, ?_, hv, st⟩
  have := run_val (ok.load v cs W p hs1 fun i x hx => (hc i x hx).1)
  unfold execOp
  rw [ho]
  show (do pure (.value (← Instr.loadAt T (a.tmps.getD s undef))) : Sem Next).run Tryz.prog W = _
  rw [e, ← hT]
  exact this) hk
def Ex (k : Know) (i : Nat) (r : AV) : Prop := ∀ u W, k u W → ∃ vs v, u = .tuple vs ∧ vs[i]? = some v ∧ r.of v W
theorem ex20 {k1 k2 : Know} : Ex (K2 k1 k2) 0 (.kw k1) := fun u W ⟨v1, v2, e, h1, h2⟩ => ⟨_, v1, e, rfl, h1⟩
theorem ex21 {k1 k2 : Know} : Ex (K2 k1 k2) 1 (.kw k2) := fun u W ⟨v1, v2, e, h1, h2⟩ => ⟨_, v2, e, rfl, h2⟩
theorem ex20v {v : Value} {k2 : Know} : Ex (K2 (KV v) k2) 0 (.vl v) := fun u W ⟨v1, v2, e, h1, h2⟩ => ⟨_, v1, e, rfl, h1⟩
theorem ex21v {v : Value} {k1 : Know} : Ex (K2 k1 (KV v)) 1 (.vl v) := fun u W ⟨v1, v2, e, h1, h2⟩ => ⟨_, v2, e, rfl, h2⟩
theorem ex30 {k1 k2 k3 : Know} : Ex (K3 k1 k2 k3) 0 (.kw k1) := fun u W ⟨v1, v2, v3, e, h1, h2, h3⟩ => ⟨_, v1, e, rfl, h1⟩
theorem ex31 {k1 k2 k3 : Know} : Ex (K3 k1 k2 k3) 1 (.kw k2) := fun u W ⟨v1, v2, v3, e, h1, h2, h3⟩ => ⟨_, v2, e, rfl, h2⟩
theorem ex32v {v : Value} {k1 k2 : Know} : Ex (K3 k1 k2 (KV v)) 2 (.vl v) := fun u W ⟨v1, v2, v3, e, h1, h2, h3⟩ => ⟨_, v3, e, rfl, h3⟩
theorem ex30v {v : Value} {k2 k3 : Know} : Ex (K3 (KV v) k2 k3) 0 (.vl v) := fun u W ⟨v1, v2, v3, e, h1, h2, h3⟩ => ⟨_, v1, e, rfl, h1⟩
theorem run_ext {vs : Array Value} {i : Nat} {v : Value} (h : vs[i]? = some v) (W : World) : (Instr.extract (.tuple vs) i).run Tryz.prog W = .ok v W := by
 simp [Instr.extract, h, go_sem]
theorem PW.ext {s i : Nat} {k : Know} {r : AV} (hw : wantB ops fr o = some true) (hd : o.dst = some d) (hN : Nat.blt d N = true) (ho : o.op = .extract (.tmp s) i) (hs : look fr s = some (.kw k)) (hx : Ex k i r) (hst : St r.of) (hr : r.isBx = false) (hk : PW B N w0 ops rest ((d, r) :: fr) Q) : PW B N w0 ops (o :: rest) fr Q :=
 PW.val hw hd hN hr (fun a W hf => by
  obtain ⟨hv, _⟩ := hf.ho s _ hs
  obtain ⟨vs, v, e, hi, hv'⟩ := hx _ W hv
  refine ⟨v, ?_, Ho.mk hr hv' hst⟩
  unfold execOp
  rw [ho]
  show (do pure (.value (← Instr.extract (a.tmps.getD s undef) i)) : Sem Next).run Tryz.prog W = _
  rw [e]
  exact run_val (run_ext hi W)) hk
def CE (f : FuncId) : Prop := ∀ args W, (callFunc f args).run Tryz.prog W = .ok (.enter f args) W
def CallOk (f : FuncId) (ks : List Know) (r : Know) : Prop := CE f ∧ ∀ W us, All ks us W → Calls Tryz.prog f us.toArray W (Ret W r)
theorem run_call {c : Call} {f : FuncId} (ce : CE f) (hc : c.callee = .value (.func f)) (ρ : Operand → Value) (hρ : ρ (.func f) = .func (.func f) #[] #[]) (ty : TypeId) (W : World) {dst : Option Tmp} {pos : String} {after : Array Edge} {guard : Option (Nat × Bool)} :
  (execOp ρ ⟨dst, .call c, ty, pos, after, guard⟩).run Tryz.prog W = .ok (.enter f (c.args.map ρ)) W := by
 obtain ⟨cal, args, ats⟩ := c
 simp only at hc
 subst hc
 have := ce (args.map ρ) W
 simp [execOp, resolve, hρ, go_sem, this]
theorem PW.call {c : Call} {f : FuncId} {ks : List Know} {r : AV} (hw : wantB ops fr o = some true) (hd : o.dst = some d) (hN : Nat.blt d N = true) (ho : o.op = .call c) (hc : c.callee = .value (.func f)) (ha : opks fr c.args.toList = some ks) (hst : St r.of) (hr : r.isBx = false)
  (h : CallOk f ks r.of) (hk : PW B N w0 ops rest ((d, r) :: fr) Q) : PW B N w0 ops (o :: rest) fr Q :=
 PW.step hw fun a W hf K hK => by
  obtain ⟨dst, op, ty, pos, after, guard⟩ := o
  simp only at ho hd
  subst ho
  subst hd
  unfold Oper.wp
  rw [run_call h.1 hc a.eval rfl ty W]
  simp only [Oper.upon]
  have e : (c.args.toList.map a.eval).toArray = c.args.map a.eval := by rw [← Array.toList_map]
  have := h.2 W _ (opks_spec hf ha)
  rw [e] at this
  refine this.mono fun e W' ⟨v, he, hv, hn⟩ => ?_
  subst he
  exact hK _ _ (hk _ _ ((hf.nw hn).set hN (Ho.mk hr hv hst) hr))
def KT : Know := fun _ _ => True
theorem KT.st : St KT := fun _ _ _ _ _ => trivial
theorem PW.alloc {T : TypeId} (b : BT) (hw : wantB ops fr o = some true) (hd : o.dst = some d) (hN : Nat.blt d N = true) (ho : o.op = .alloc T) (hT : b.T = T) (ok : b.Ok) (hk : PW B N w0 ops rest ((d, .nb b) :: fr) Q) : PW B N w0 ops (o :: rest) fr Q :=
 PW.step hw fun a W hf K hK => by
  obtain ⟨ob, z, cs, hz, hal⟩ := ok.alloc
  obtain ⟨h1, h2⟩ := hal W
  have e : (execOp a.eval o).run Tryz.prog W = .ok (.value (ptr W.heap.size)) (W.alloc ob) := by
   unfold execOp
   rw [ho, ← hT]
   exact run_val h1
  unfold Oper.wp
  rw [e, Oper.upon_value, hd]
  exact hK _ _ (hk _ _ (hf.fresh ((Nw.refl W).alloc ob) hN (Nat.le_refl _) rfl ⟨_, z, rfl, hf.bs, ⟨cs, hz, h2⟩, ok⟩))
theorem PW.box {T : TypeId} {x : Operand} {r : AV} (b : BT) (hw : wantB ops fr o = some true) (hd : o.dst = some d) (hN : Nat.blt d N = true) (ho : o.op = .box T x) (hT : b.T = T) (ok : b.Ok) (hx : opv fr x = some r) (hsh : ∀ v W, r.of v W → ∃ cs, b.sh v cs) (hk : PW B N w0 ops rest ((d, .bx b r.of) :: fr) Q) : PW B N w0 ops (o :: rest) fr Q :=
 PW.step hw fun a W hf K hK => by
  obtain ⟨h1, h2⟩ := opv_spec hf hx
  obtain ⟨h3, h4⟩ := h1.of h2
  obtain ⟨cs, hcs⟩ := hsh _ _ h3
  obtain ⟨ob, hbx⟩ := ok.box _ _ hcs
  obtain ⟨h5, h6⟩ := hbx W
  have e : (execOp a.eval o).run Tryz.prog W = .ok (.value (ptr W.heap.size)) (W.alloc ob) := by
   unfold execOp
   rw [ho, ← hT]
   exact run_val h5
  unfold Oper.wp
  rw [e, Oper.upon_value, hd]
  have hn := (Nw.refl W).alloc ob
  exact hK _ _ (hk _ _ (hf.fresh hn hN (Nat.le_refl _) rfl ⟨_, _, rfl, hf.bs, ⟨cs, hcs, h6⟩, h4 _ _ _ hn.kept h3, h4, ok⟩))
def bxT : AV → Option BT
 | .bx b _ => some b
 | .nb b => some b
 | _ => none
theorem Ho.bxT {B : Nat} {v : AV} {b : BT} {u : Value} {W : World} (h : Ho B v u W) (e : Sy.bxT v = some b) : ∃ p x, u = ptr p ∧ B ≤ p ∧ Holds b p x W ∧ b.Ok ∧ v.blk (ptr p) = some p := by
 cases v with
 | bx b' k =>
  injection e with e
  subst e
  obtain ⟨p, x, e2, hp, hh, _, _, ok⟩ := h
  exact ⟨p, x, e2, hp, hh, ok, rfl⟩
 | nb b' =>
  injection e with e
  subst e
  obtain ⟨p, x, e2, hp, hh, ok⟩ := h
  exact ⟨p, x, e2, hp, hh, ok, rfl⟩
 | _ => cases e
theorem bind_look {fr : List (Nat × AV)} {s : Nat} {b : BT} (h : (look fr s).bind Sy.bxT = some b) : ∃ v, look fr s = some v ∧ Sy.bxT v = some b := by
 cases hl : look fr s with
 | none => rw [hl] at h; cases h
 | some v => rw [hl] at h; exact ⟨v, rfl, h⟩
theorem PW.store {T : TypeId} {s : Nat} {x : Operand} {r : AV} {b : BT} (hw : wantB ops fr o = some true) (hd : o.dst = none) (ho : o.op = .store T (.tmp s) x) (hs : (look fr s).bind bxT = some b) (hT : b.T = T) (hx : opv fr x = some r) (hsh : ∀ v W, r.of v W → ∃ cs, b.sh v cs) (hk : PW B N w0 ops rest ((s, .bx b r.of) :: fr) Q) : PW B N w0 ops (o :: rest) fr Q :=
 PW.step hw fun a W hf K hK => by
  obtain ⟨h1, h2⟩ := opv_spec hf hx
  obtain ⟨h3, h4⟩ := h1.of h2
  obtain ⟨cs', hcs⟩ := hsh _ _ h3
  obtain ⟨y, hl, hy⟩ := bind_look hs
  obtain ⟨p, v, e, hB, hh, ok, hbk⟩ := (hf.ho s _ hl).bxT hy
  obtain ⟨W', h5, h6, h7⟩ := ok.store v _ cs' W p hh hcs
  have e2 : (execOp a.eval o).run Tryz.prog W = .ok .skip W' := by
   unfold execOp
   rw [ho, ← hT]
   show (do (Instr.storeAt b.T (a.tmps.getD s undef) (a.eval x)); pure .skip : Sem Next).run Tryz.prog W = _
   rw [e]
   exact run_skip h5
  unfold Oper.wp
  rw [e2]
  show K (a.put o.dst undef) W'
  rw [hd]
  exact hK _ _ (hk _ _ (hf.stored hl e hB hbk ok h7 h6 (h4 _ _ _ h7.nu h3) h4))
theorem PW.q1 {x : Operand} {u : Value} (v : Value) (hw : wantB ops fr o = some true) (hd : o.dst = some d) (hN : Nat.blt d N = true) (hx : opv fr x = some (.vl u)) (h : ∀ (ρ : Operand → Value) (W : World), ρ x = u → (execOp ρ o).run Tryz.prog W = .ok (.value v) W) (hk : PW B N w0 ops rest ((d, .vl v) :: fr) Q) : PW B N w0 ops (o :: rest) fr Q :=
 PW.val (r := .vl v) hw hd hN rfl (fun a W hf => ⟨v, h _ W (opv_vl hf hx), rfl⟩) hk
theorem PW.q2 {x y : Operand} {u u2 : Value} (v : Value) (hw : wantB ops fr o = some true) (hd : o.dst = some d) (hN : Nat.blt d N = true) (hx : opv fr x = some (.vl u)) (hy : opv fr y = some (.vl u2)) (h : ∀ (ρ : Operand → Value) (W : World), ρ x = u → ρ y = u2 → (execOp ρ o).run Tryz.prog W = .ok (.value v) W) (hk : PW B N w0 ops rest ((d, .vl v) :: fr) Q) : PW B N w0 ops (o :: rest) fr Q :=
 PW.val (r := .vl v) hw hd hN rfl (fun a W hf => ⟨v, h _ W (opv_vl hf hx) (opv_vl hf hy), rfl⟩) hk
theorem PW.pick {c x y : Operand} {t : Bool} {r : AV} (hw : wantB ops fr o = some true) (hd : o.dst = some d) (hN : Nat.blt d N = true) (ho : o.op = .pick c x y) (hc : opv fr c = some (.vl (.bool t))) (hx : opv fr (bif t then x else y) = some r) (hk : PW B N w0 ops rest ((d, r) :: fr) Q) : PW B N w0 ops (o :: rest) fr Q :=
 PW.step hw fun a W hf K hK => by
  obtain ⟨h1, h2⟩ := opv_spec hf hx
  have e : (execOp a.eval o).run Tryz.prog W = .ok (.value (a.eval (bif t then x else y))) W := by
   unfold execOp
   rw [ho]
   have := opv_vl hf hc
   simp only [this]
   cases t <;> simp [asBool, go_sem]
  unfold Oper.wp
  rw [e, Oper.upon_value, hd]
  exact hK _ _ (hk _ _ (hf.set hN h1 h2))
/-! ### Code -/
theorem SC.region {id : Nat} {l : List Oper} (h : PW B N w0 l.toArray l fr Q) : SC B N w0 (.region id l.toArray false) fr Q := fun a W hf => wp_region_lit (h a W hf)
theorem SC.seq {x y : Code} (h : SC B N w0 x fr (Exit.then (y.wp Tryz.prog Q) Q)) : SC B N w0 (.seq x y) fr Q := fun a W hf => wp_seq (h a W hf)
theorem SX.then {y : Code} (h : SC B N w0 y fr Q) : SX B N w0 .normal fr (Exit.then (y.wp Tryz.prog Q) Q) := h
theorem SC.cond {c : Operand} {x y : Code} {t : Bool} (hc : opv fr c = some (.vl (.bool t))) (h : SC B N w0 (bif t then x else y) fr Q) : SC B N w0 (.cond c x y) fr Q :=
 fun a W hf => wp_cond (opv_vl hf hc) (by cases t <;> exact h a W hf)
theorem SC.block {id : Nat} {c : Code} (h : SC B N w0 c fr (Exit.inBlock id Q)) : SC B N w0 (.block id c) fr Q := fun a W hf => wp_block (h a W hf)
theorem SC.skip (h : SX B N w0 .normal fr Q) : SC B N w0 .skip fr Q := fun a W hf => wp_skip (h a W hf)
theorem SC.exit {id : Nat} (h : SX B N w0 (.exit id) fr Q) : SC B N w0 (.exit id) fr Q := fun a W hf => wp_exit (h a W hf)
theorem SC.ret (h : SX B N w0 .ret fr Q) : SC B N w0 .ret fr Q := fun a W hf => wp_ret (h a W hf)
theorem SX.blockN {id : Nat} (h : SX B N w0 .normal fr Q) : SX B N w0 .normal fr (Exit.inBlock id Q) := h
theorem SX.blockE {id : Nat} (h : SX B N w0 .normal fr Q) : SX B N w0 (.exit id) fr (Exit.inBlock id Q) := fun a W hf => by show (if id = id then _ else _); rw [if_pos rfl]; exact h a W hf
theorem SX.blockR {id : Nat} (h : SX B N w0 .ret fr Q) : SX B N w0 .ret fr (Exit.inBlock id Q) := h
theorem SX.thenE {id : Nat} {K : Act → World → Prop} (h : SX B N w0 (.exit id) fr Q) : SX B N w0 (.exit id) fr (Exit.then K Q) := h
theorem SX.thenR {K : Act → World → Prop} (h : SX B N w0 .ret fr Q) : SX B N w0 .ret fr (Exit.then K Q) := h
theorem SC.weak {c : Code} {fr' : List (Nat × AV)} (hf : ∀ a W, Fr B N w0 fr a W → Fr B N w0 fr' a W) (h : SC B N w0 c fr' Q) : SC B N w0 c fr Q := fun a W f => h a W (hf a W f)
end

/-! ### The boxes of integers -/
def BI (T : TypeId) : BT := ⟨T, fun v cs => ∃ m A l c, v = .agg #[.bool m, .slice A l c] ∧ cs = [.bool m, .slice A l c]⟩
theorem two_at {x y : Value} {i : Nat} {z : Value} (h : [x, y][i]? = some z) : (i = 0 ∧ z = x) ∨ (i = 1 ∧ z = y) := by
 match i, h with
 | 0, h => exact .inl ⟨rfl, by simpa using h.symm⟩
 | 1, h => exact .inr ⟨rfl, by simpa using h.symm⟩
theorem bI : (BI 31).Ok := by
 refine ⟨?_, ?_, ?_, ?_, ?_⟩
 ·rintro v cs ⟨m, A, l, c, rfl, rfl⟩; simp
 ·rintro v cs W p ⟨m, A, l, c, rfl, rfl⟩ h
  have h0 := h 0 _ rfl
  have h1 := h 1 _ rfl
  show (Instr.loadAt 31 (ptr p)).run Tryz.prog W = _
  go_simp
 ·rintro v v' cs' W p ⟨cs, ⟨m, A, l, c, rfl, rfl⟩, hc⟩ ⟨m', A', l', c', rfl, rfl⟩
  obtain ⟨h0, f0⟩ := hc 0 _ rfl
  obtain ⟨h1, f1⟩ := hc 1 _ rfl
  have hb : Box p 2 W := fun i hi => match i, hi with
   | 0, _ => ⟨⟨_, h0, by simp⟩, f0⟩
   | 1, _ => ⟨⟨_, h1, by simp⟩, f1⟩
  obtain ⟨W', e, hr, k0, k1⟩ := store_two (m := m') (D := A') (l := l') (c := c') hb
  refine ⟨(W.setCell ⟨p, 0, none⟩ (.bool m')).setCell ⟨p, 1, none⟩ (.slice A' l' c'), ?_, ⟨_, ⟨m', A', l', c', rfl, rfl⟩, fun i x hx => ?_⟩, ?_, ?_, ?_⟩
  ·show (Instr.storeAt 31 (ptr p) _).run Tryz.prog W = _
   go_simp
  ·rcases two_at hx with ⟨rfl, rfl⟩ | ⟨rfl, rfl⟩
   ·exact ⟨by rw [e]; exact k0, by simp [World.frozen?_setCell, f0]⟩
   ·exact ⟨by rw [e]; exact k1, by simp [World.frozen?_setCell, f1]⟩
  ·exact ⟨by simp [World.setCell], by simp [World.setCell], by simp [World.setCell], by simp [World.setCell], fun k _ hk => by rw [Below.heap_setCell _ _ _ _ (fun x => hk (by rw [x])), Below.heap_setCell _ _ _ _ (fun x => hk (by rw [x]))]⟩
  ·rw [e]; exact hr.2.1
  ·simp [World.setCell]
 ·refine ⟨.cells #[.bool false, .slice none 0 0] 31, _, _, ⟨false, none, 0, 0, rfl, rfl⟩, fun W => ⟨by show (Instr.alloc 31 true (.tuple #[])).run Tryz.prog W = _; go_simp, fun i x hx => ?_⟩⟩
  rcases two_at hx with ⟨rfl, rfl⟩ | ⟨rfl, rfl⟩
  ·exact ⟨by rw [World.cell?_alloc_at _ _ _ _ rfl]; rfl, World.frozen?_alloc_at _ _ _ _ rfl⟩
  ·exact ⟨by rw [World.cell?_alloc_at _ _ _ _ rfl]; rfl, World.frozen?_alloc_at _ _ _ _ rfl⟩
 ·rintro v cs ⟨m, A, l, c, rfl, rfl⟩
  refine ⟨.cells #[.bool m, .slice A l c] 31, fun W => ⟨by show (Instr.box 31 _).run Tryz.prog W = _; go_simp, fun i x hx => ?_⟩⟩
  rcases two_at hx with ⟨rfl, rfl⟩ | ⟨rfl, rfl⟩
  ·exact ⟨by rw [World.cell?_alloc_at _ _ _ _ rfl]; rfl, World.frozen?_alloc_at _ _ _ _ rfl⟩
  ·exact ⟨by rw [World.cell?_alloc_at _ _ _ _ rfl]; rfl, World.frozen?_alloc_at _ _ _ _ rfl⟩
theorem bN : (BI 24).Ok := by
 refine ⟨?_, ?_, ?_, ?_, ?_⟩
 ·rintro v cs ⟨m, A, l, c, rfl, rfl⟩; simp
 ·rintro v cs W p ⟨m, A, l, c, rfl, rfl⟩ h
  have h0 := h 0 _ rfl
  have h1 := h 1 _ rfl
  show (Instr.loadAt 24 (ptr p)).run Tryz.prog W = _
  go_simp
 ·rintro v v' cs' W p ⟨cs, ⟨m, A, l, c, rfl, rfl⟩, hc⟩ ⟨m', A', l', c', rfl, rfl⟩
  obtain ⟨h0, f0⟩ := hc 0 _ rfl
  obtain ⟨h1, f1⟩ := hc 1 _ rfl
  have hb : Box p 2 W := fun i hi => match i, hi with
   | 0, _ => ⟨⟨_, h0, by simp⟩, f0⟩
   | 1, _ => ⟨⟨_, h1, by simp⟩, f1⟩
  obtain ⟨W', e, hr, k0, k1⟩ := store_two (m := m') (D := A') (l := l') (c := c') hb
  refine ⟨(W.setCell ⟨p, 0, none⟩ (.bool m')).setCell ⟨p, 1, none⟩ (.slice A' l' c'), ?_, ⟨_, ⟨m', A', l', c', rfl, rfl⟩, fun i x hx => ?_⟩, ?_, ?_, ?_⟩
  ·show (Instr.storeAt 24 (ptr p) _).run Tryz.prog W = _
   go_simp
  ·rcases two_at hx with ⟨rfl, rfl⟩ | ⟨rfl, rfl⟩
   ·exact ⟨by rw [e]; exact k0, by simp [World.frozen?_setCell, f0]⟩
   ·exact ⟨by rw [e]; exact k1, by simp [World.frozen?_setCell, f1]⟩
  ·exact ⟨by simp [World.setCell], by simp [World.setCell], by simp [World.setCell], by simp [World.setCell], fun k _ hk => by rw [Below.heap_setCell _ _ _ _ (fun x => hk (by rw [x])), Below.heap_setCell _ _ _ _ (fun x => hk (by rw [x]))]⟩
  ·rw [e]; exact hr.2.1
  ·simp [World.setCell]
 ·refine ⟨.cells #[.bool false, .slice none 0 0] 24, _, _, ⟨false, none, 0, 0, rfl, rfl⟩, fun W => ⟨by show (Instr.alloc 24 true (.tuple #[])).run Tryz.prog W = _; go_simp, fun i x hx => ?_⟩⟩
  rcases two_at hx with ⟨rfl, rfl⟩ | ⟨rfl, rfl⟩
  ·exact ⟨by rw [World.cell?_alloc_at _ _ _ _ rfl]; rfl, World.frozen?_alloc_at _ _ _ _ rfl⟩
  ·exact ⟨by rw [World.cell?_alloc_at _ _ _ _ rfl]; rfl, World.frozen?_alloc_at _ _ _ _ rfl⟩
 ·rintro v cs ⟨m, A, l, c, rfl, rfl⟩
  refine ⟨.cells #[.bool m, .slice A l c] 24, fun W => ⟨by show (Instr.box 24 _).run Tryz.prog W = _; go_simp, fun i x hx => ?_⟩⟩
  rcases two_at hx with ⟨rfl, rfl⟩ | ⟨rfl, rfl⟩
  ·exact ⟨by rw [World.cell?_alloc_at _ _ _ _ rfl]; rfl, World.frozen?_alloc_at _ _ _ _ rfl⟩
  ·exact ⟨by rw [World.cell?_alloc_at _ _ _ _ rfl]; rfl, World.frozen?_alloc_at _ _ _ _ rfl⟩
theorem bJ : (BI 34).Ok := by
 refine ⟨?_, ?_, ?_, ?_, ?_⟩
 ·rintro v cs ⟨m, A, l, c, rfl, rfl⟩; simp
 ·rintro v cs W p ⟨m, A, l, c, rfl, rfl⟩ h
  have h0 := h 0 _ rfl
  have h1 := h 1 _ rfl
  show (Instr.loadAt 34 (ptr p)).run Tryz.prog W = _
  go_simp
 ·rintro v v' cs' W p ⟨cs, ⟨m, A, l, c, rfl, rfl⟩, hc⟩ ⟨m', A', l', c', rfl, rfl⟩
  obtain ⟨h0, f0⟩ := hc 0 _ rfl
  obtain ⟨h1, f1⟩ := hc 1 _ rfl
  have hb : Box p 2 W := fun i hi => match i, hi with
   | 0, _ => ⟨⟨_, h0, by simp⟩, f0⟩
   | 1, _ => ⟨⟨_, h1, by simp⟩, f1⟩
  obtain ⟨W', e, hr, k0, k1⟩ := store_two (m := m') (D := A') (l := l') (c := c') hb
  refine ⟨(W.setCell ⟨p, 0, none⟩ (.bool m')).setCell ⟨p, 1, none⟩ (.slice A' l' c'), ?_, ⟨_, ⟨m', A', l', c', rfl, rfl⟩, fun i x hx => ?_⟩, ?_, ?_, ?_⟩
  ·show (Instr.storeAt 34 (ptr p) _).run Tryz.prog W = _
   go_simp
  ·rcases two_at hx with ⟨rfl, rfl⟩ | ⟨rfl, rfl⟩
   ·exact ⟨by rw [e]; exact k0, by simp [World.frozen?_setCell, f0]⟩
   ·exact ⟨by rw [e]; exact k1, by simp [World.frozen?_setCell, f1]⟩
  ·exact ⟨by simp [World.setCell], by simp [World.setCell], by simp [World.setCell], by simp [World.setCell], fun k _ hk => by rw [Below.heap_setCell _ _ _ _ (fun x => hk (by rw [x])), Below.heap_setCell _ _ _ _ (fun x => hk (by rw [x]))]⟩
  ·rw [e]; exact hr.2.1
  ·simp [World.setCell]
 ·refine ⟨.cells #[.bool false, .slice none 0 0] 34, _, _, ⟨false, none, 0, 0, rfl, rfl⟩, fun W => ⟨by show (Instr.alloc 34 true (.tuple #[])).run Tryz.prog W = _; go_simp, fun i x hx => ?_⟩⟩
  rcases two_at hx with ⟨rfl, rfl⟩ | ⟨rfl, rfl⟩
  ·exact ⟨by rw [World.cell?_alloc_at _ _ _ _ rfl]; rfl, World.frozen?_alloc_at _ _ _ _ rfl⟩
  ·exact ⟨by rw [World.cell?_alloc_at _ _ _ _ rfl]; rfl, World.frozen?_alloc_at _ _ _ _ rfl⟩
 ·rintro v cs ⟨m, A, l, c, rfl, rfl⟩
  refine ⟨.cells #[.bool m, .slice A l c] 34, fun W => ⟨by show (Instr.box 34 _).run Tryz.prog W = _; go_simp, fun i x hx => ?_⟩⟩
  rcases two_at hx with ⟨rfl, rfl⟩ | ⟨rfl, rfl⟩
  ·exact ⟨by rw [World.cell?_alloc_at _ _ _ _ rfl]; rfl, World.frozen?_alloc_at _ _ _ _ rfl⟩
  ·exact ⟨by rw [World.cell?_alloc_at _ _ _ _ rfl]; rfl, World.frozen?_alloc_at _ _ _ _ rfl⟩
theorem sh_I {T : TypeId} {z : Int} (v : Value) (W : World) (h : KI z v W) : ∃ cs, (BI T).sh v cs := by obtain ⟨m, A, l, c, rfl, _⟩ := h; exact ⟨_, m, A, l, c, rfl, rfl⟩
theorem sh_J {T : TypeId} {z : Int} (v : Value) (W : World) (h : KJ z v W) : ∃ cs, (BI T).sh v cs := by obtain ⟨m, A, l, c, rfl, _⟩ := h; exact ⟨_, m, A, l, c, rfl, rfl⟩
end Go.Proofs.YthpjmhhfcechmaaGreat.Sy
/- The contract of the program's Divide, but for divisors of two limbs and more. -/
namespace Go.Proofs.YthpjmhhfcechmaaGreat
open Go.RowKit Ma

theorem K2L {k : IntKind} {p : List Int → Prop} {x y : Value} {A : Option Addr} {l c : Nat} {w : World} (h : K2 (KL k p) (KV x) (.tuple #[.slice A l c, y]) w) : y = x ∧ ∃ zs, l = zs.length ∧ l ≤ c ∧ Rd w k A zs ∧ p zs := by
 obtain ⟨v1, v2, e, h1, h2⟩ := h
 simp only [Value.tuple.injEq, Array.mk.injEq, List.cons.injEq, and_true] at e
 obtain ⟨rfl, rfl⟩ := e
 exact ⟨h2, h1.slice⟩
theorem divided_l (A : Option Addr) (l c : Nat) (xs : List Int) (y : Int) (w : World) (e : l = xs.length) (rA : Rd w .u32 A xs) (dx : dg b32 xs) (hl : xs.length ≤ 1000000) (hy0 : 0 < y) (hy1 : y < 4294967296) :
  Calls Tryz.prog 124 #[.slice A l c, .int .u32 y] w (Ret w (K2 (KL .u32 fun zs => dg b32 zs ∧ lv b32 zs = lv b32 xs / y ∧ top zs) (KV (.int .u32 (lv b32 xs % y))))) := by
 subst e
 exact (divided_c A c xs y w rA dx hl hy0 hy1).mono fun e w' ⟨v, e1, ⟨v1, v2, e2, h1, h2⟩, hb⟩ => ⟨v, e1, ⟨v1, v2, e2, h1.l, h2⟩, hb⟩
theorem sg_nz {n : Bool} {z : Int} (h : sg n z ≠ 0) : z ≠ 0 := by intro e; subst e; cases n <;> simp [sg] at h
theorem sg_tdiv (n m : Bool) (a b : Int) (ha : 0 ≤ a) (hb : 0 ≤ b) : (sg n a).tdiv (sg m b) = sg (n != m) (a / b) := by
 have e : a.tdiv b = a / b := Int.tdiv_eq_ediv_of_nonneg ha
 cases n <;> cases m <;> simp [sg, Int.neg_tdiv, Int.tdiv_neg, e]
theorem sg_tmod (n m : Bool) (a b : Int) (ha : 0 ≤ a) (hb : 0 ≤ b) : (sg n a).tmod (sg m b) = sg n (a % b) := by
 have e : a.tmod b = a % b := Int.tmod_eq_emod_of_nonneg ha
 cases n <;> cases m <;> simp [sg, Int.neg_tmod, Int.tmod_neg, e]
theorem RI.zero (w : World) : RI w false none 0 0 0 := ⟨[], rfl, Nat.le_refl _, Rd.nil _ _ _, dg_nil _, top_nil, (fun h => nomatch h), by simp [sg, lv]⟩
theorem cmp_lt {a b : Int} (h : a < b) : cmp a b = -1 := by unfold cmp; rw [if_pos h]
theorem cmp_ge {a b : Int} (h : b ≤ a) : decide (cmp a b < 0) = false := by unfold cmp; rw [if_neg (by omega)]; split <;> decide
theorem sg_natAbs (n : Bool) (z : Int) (h : 0 ≤ z) : ((sg n z).natAbs : Int) = z := by cases n <;> simp [sg] <;> omega
theorem lv_of_one {z : List Int} {x : Int} (h : z = [x]) : lv b32 z = x := by subst h; simp [lv]
theorem dg_of_one {z : List Int} {x : Int} (h : z = [x]) (d : dg b32 [x]) : dg b32 z := h ▸ d
theorem bd_zero (bd : Addr) : bd.add 0 = bd := by cases bd; unfold Addr.add; split <;> simp_all
set_option maxHeartbeats 3200000 in
set_option maxRecDepth 100000 in
theorem divide_1 {x y : Int} {n m : Bool} {A B : Option Addr} {l l' c d : Nat} {w : World} (hx : RI w n A l c x) (hy : RI w m B l' d y) (hl : l ≤ 500000) (hy0 : y ≠ 0) (h1 : l' ≤ 1 ∨ x.natAbs < y.natAbs) :
  Calls Tryz.prog 119 #[.agg #[.bool n, .slice A l c], .agg #[.bool m, .slice B l' d]] w (Ret w (K3 (KI (x.tdiv y)) (KI (x.tmod y)) (KV (.int .i64 0)))) := by
 have hx0 := hx
 obtain ⟨xs, rfl, hc, rA, dx, tx, nx, rfl⟩ := hx
 obtain ⟨ys, rfl, hd, rB, dy, ty, ny, rfl⟩ := hy
 have hxn := lv_nonneg (show (0 : Int) < b32 by decide) dx
 have hyn := lv_nonneg (show (0 : Int) < b32 by decide) dy
 have hyz := sg_nz hy0
 have hyl : 0 < ys.length := by
  cases ys with
  | nil => exact absurd (by simp [lv]) hyz
  | cons a t => simp
 have e1 := sg_natAbs n _ hxn
 have e2 := sg_natAbs m _ hyn
 have HT := Lib.hid (sg_tdiv n m _ _ hxn hyn)
 have HM := Lib.hid (sg_tmod n m _ _ hxn hyn)
 have nw1 : Nw w ((((w.alloc (.cells #[.bool n, .slice A xs.length c] 31)).alloc (.cells #[.bool m, .slice B ys.length d] 31)).alloc (.cells #[.bool false, .slice none 0 0] 31)).alloc (.cells #[.bool false, .slice none 0 0] 31)) := ((((Nw.refl w).alloc _).alloc _).alloc _).alloc _
 have sg0 : Sg2 [(w.heap.size, 0, Value.bool n), (w.heap.size, 1, Value.slice A xs.length c), (w.heap.size + 1, 0, Value.bool m), (w.heap.size + 1, 1, Value.slice B ys.length d)] (w.heap.size + 1 + 1) (w.heap.size + 1 + 1 + 1) ((((w.alloc (.cells #[.bool n, .slice A xs.length c] 31)).alloc (.cells #[.bool m, .slice B ys.length d] 31)).alloc (.cells #[.bool false, .slice none 0 0] 31)).alloc (.cells #[.bool false, .slice none 0 0] 31)) := by
  refine ⟨⟨by go_simp, by go_simp, by go_simp, by go_simp, trivial⟩, ?_, ?_, by go_simp⟩
  ·have h1 := box_two ((w.alloc (.cells #[.bool n, .slice A xs.length c] 31)).alloc (.cells #[.bool m, .slice B ys.length d] 31)) 31 false none 0 0
   have h2 := h1.below ((Nw.refl _).alloc (.cells #[.bool false, .slice none 0 0] 31))
   simpa using h2
  ·have h1 := box_two (((w.alloc (.cells #[.bool n, .slice A xs.length c] 31)).alloc (.cells #[.bool m, .slice B ys.length d] 31)).alloc (.cells #[.bool false, .slice none 0 0] 31)) 31 false none 0 0
   simpa using h1
 have SG := Lib.hid sg0
 have HX0 := Lib.hid hx0
 have RA := Lib.hid (rA.kept nw1.kept)
 have RB := Lib.hid (rB.kept nw1.kept)
 by_cases hlt : lv b32 xs < lv b32 ys
 ·have hcm := Lib.hid (cmp_lt hlt)
  clear rA rB e1 e2 h1 hy0 hx0
  have e3 : sg n (lv b32 xs / lv b32 ys) = sg n 0 := by rw [Int.ediv_eq_zero_of_lt hxn hlt]
  have HQ : (sg n (lv b32 xs)).tdiv (sg m (lv b32 ys)) = 0 := by rw [HT.out, Int.ediv_eq_zero_of_lt hxn hlt]; cases (n != m) <;> simp [sg]
  have HR : (sg n (lv b32 xs)).tmod (sg m (lv b32 ys)) = sg n (lv b32 xs) := by rw [HM.out, Int.emod_eq_of_lt hxn hlt]
  have HQ := Lib.hid HQ
  have HR := Lib.hid HR
  clear e3 hlt hyz hxn hyn
  go_enter Tryz.func119, Tryz.ntmps119
  go_wp2_with (go_at_call 94; refine (compared_c A B c d xs ys _ RA.out RB.out dx dy tx ty).mono ?_; rintro e w1 ⟨_, rfl, hk, hb⟩; rw [hcm.out] at hk; subst hk; obtain ⟨⟨q1, q2, q3, q4, _⟩, B1, B2, _⟩ := SG.out.nw hb; obtain ⟨⟨u0, hu0, hm0⟩, hf0⟩ := B1 0 (by omega); obtain ⟨⟨u1, hu1, hm1⟩, hf1⟩ := B1 1 (by omega); obtain ⟨⟨t0, ht0, hk0⟩, hg0⟩ := B2 0 (by omega); obtain ⟨⟨t1, ht1, hk1⟩, hg1⟩ := B2 1 (by omega))
  go_region
  have r1 := store_I1 (z := 0) (z' := sg n (lv b32 xs)) (show w.heap.size + 1 + 1 < w.heap.size + 1 + 1 + 1 by omega) B1 (RI.zero w1)
  have r2 := store_I2 (z := 0) (z' := sg n (lv b32 xs)) (show w.heap.size + 1 + 1 < w.heap.size + 1 + 1 + 1 by omega) (r1.1.2.2.2.2.1 B2) (((HX0.out.kept nw1.kept).kept hb.kept).kept r1.1.2.1)
  have b2 := (KB.nwst _ _ _ _ (Nw.refl _).drew) r2.2
  have b1 := (KB.nwst _ _ _ _ (Nw.refl _).drew) (r2.1.2.2.2.2.2.1 r1.2)
  have hn := (((nw1.trans hb).r2 r1.1 (by omega)).r2 r2.1 (by omega)).drew
  generalize World.drew _ = w9 at *
  obtain ⟨m1, D1, l1, c1, p0, p1, i1⟩ := b1
  obtain ⟨m2, D2, l2, c2, p2, p3, i2⟩ := b2
  go_wp2
  exact bodyPost_ret (v := .tuple #[.agg #[.bool m1, .slice D1 l1 c1], .agg #[.bool m2, .slice D2 l2 c2], .int .i64 0]) (by simp [results, Tryz.results119, go_sem, p0, p1, p2, p3]) rfl ⟨_, rfl, ⟨_, _, _, rfl, ⟨_, _, _, _, rfl, i1.eq (by rw [HQ.out])⟩, ⟨_, _, _, _, rfl, i2.eq (by rw [HR.out])⟩, rfl⟩, hn⟩
 ·have hge : lv b32 ys ≤ lv b32 xs := by omega
  have hcm := Lib.hid (cmp_ge hge)
  have hl1 : ys.length = 1 := by omega
  obtain ⟨y0, hys⟩ := List.length_eq_one_iff.1 hl1
  subst hys
  have ely : lv b32 [y0] = y0 := by simp [lv]
  have hy1 := dy y0 (by simp)
  rw [b32_eq] at hy1
  obtain ⟨y1, y2⟩ := hy1
  have y3 : 0 < y0 := by rw [ely] at hyz; omega
  have HQ : (sg n (lv b32 xs)).tdiv (sg m (lv b32 [y0])) = sg (n != m) (lv b32 xs / y0) := by rw [HT.out, ely]
  have HR : (sg n (lv b32 xs)).tmod (sg m (lv b32 [y0])) = sg n (lv b32 xs % y0) := by rw [HM.out, ely]
  have HQ := Lib.hid HQ
  have HR := Lib.hid HR
  obtain ⟨bd, hB, hcellb⟩ := RB.out.2 0 (by simp)
  subst hB
  clear rA rB e1 e2 h1 hy0 hx0 hlt hge hyz hxn hyn hyl hl1
  go_enter Tryz.func119, Tryz.ntmps119
  go_wp2_with (go_at_call 94; refine (compared_c A _ c d xs [y0] _ RA.out RB.out dx dy tx ty).mono ?_; rintro e w1 ⟨_, rfl, hk, hb⟩; have hcm1 := hcm.out; generalize cmp (lv b32 xs) (lv b32 [y0]) = cm at hcm1 hk; subst hk; obtain ⟨⟨q1, q2, q3, q4, _⟩, B1, B2, _⟩ := SG.out.nw hb; obtain ⟨⟨u0, hu0, hm0⟩, hf0⟩ := B1 0 (by omega); obtain ⟨⟨u1, hu1, hm1⟩, hf1⟩ := B1 1 (by omega); obtain ⟨⟨t0, ht0, hk0⟩, hg0⟩ := B2 0 (by omega); obtain ⟨⟨t1, ht1, hk1⟩, hg1⟩ := B2 1 (by omega); have hcb := hb.kept _ _ _ hcellb; simp only [at0, List.getD_cons_zero] at hcb; have hcb0 := hcb; rw [bd_zero] at hcb0)
  have n1 : Nw w _ := nw1.trans hb
  refine region_nw [(6, K2 (KL .u32 (fun zs => dg b32 zs ∧ lv b32 zs = lv b32 xs / y0 ∧ top zs)) (KV (.int .u32 (lv b32 xs % y0))))] (by kernel_rfl) (by kernel_rfl) (by kernel_rfl) (by kernel_rfl) ⟨SN.st (K2.st (KL.st _ _) (KV.st _)), trivial⟩ ?_
  repeat
   apply Rg.wpK_quiet rfl rfl
   case hq => intro W hS; have q0 := hS.c q1; have q1 := hS.c q2; have q2 := hS.c q3; have q3 := hS.c q4; have q4 := hS.c hcb; have q5 := hS.c hcb0; go_simp; exact rfl
   case he => exact (by simp only [Act.put, List.setIfInBounds_toArray, List.set_cons_zero, List.set_cons_succ]; exact rfl)
  apply Rg.wpK_know rfl rfl
  case ha =>
   intro W hR hS hF
   have hn := n1.trans hS
   have q0 := hS.c q1
   have q1 := hS.c q2
   have q2 := hS.c q3
   have q3 := hS.c q4
   have q4 := hS.c hcb
   have q5 := hS.c hcb0
   unfold Rg.gives
   go_simp
   exact Rg.gives_enter (call_nw (divided_l A _ c xs y0 W rfl ((RA.out.kept hb.kept).kept hS.kept) dx (by omega) y3 y2))
  intro u hu
  obtain ⟨W0, hw1, hw2, hf⟩ := hu
  obtain ⟨_, _, rfl, ⟨zs, C6, c6, e0, hx⟩, rfl⟩ := Rg.upd_at rfl (hf 6)
  obtain ⟨l6, e1⟩ : ∃ n, n = zs.length := ⟨_, rfl⟩
  rw [← e1] at e0
  subst e0
  clear hx e1
  have hx := trivial
  refine ⟨_, (by simp only [Act.put, List.setIfInBounds_toArray, List.set_cons_zero, List.set_cons_succ]; exact rfl), ?_⟩
  clear hf hw1 hw2 hx W0
  repeat
   apply Rg.wpK_quiet rfl rfl
   case hq => intro W hS; have q0 := hS.c q1; have q1 := hS.c q2; have q2 := hS.c q3; have q3 := hS.c q4; have q4 := hS.c hcb; have q5 := hS.c hcb0; go_simp; exact rfl
   case he => exact (by simp only [Act.put, List.setIfInBounds_toArray, List.set_cons_zero, List.set_cons_succ]; exact rfl)
  refine Rg.wpK_end fun w9 hR hS hF => ?_
  have hn := n1.trans hS
  have h6 := Rg.upd_at rfl (hF 6)
  clear hF hR
  obtain ⟨_, us, e8, hc8, r8, p81, p82, _⟩ := K2L h6
  obtain ⟨qr, hqr⟩ : ∃ qr, qr = lv b32 xs % y0 := ⟨_, rfl⟩
  have hr0 : 0 ≤ qr := by rw [hqr]; exact Int.emod_nonneg _ (by omega)
  have hr1 : qr < b32 := by have := Int.emod_lt_of_pos (lv b32 xs) y3; rw [← hqr] at this; rw [b32_eq]; omega
  have dqr : dg b32 [qr] := by intro x hx; simp at hx; rw [hx]; exact ⟨hr0, hr1⟩
  rw [← hqr] at HR ⊢
  have S2 := Lib.hid ((SG.out.nw hb).nw hS)
  have HC8 := Lib.hid hc8
  have E8 := Lib.hid e8
  clear h6 hqr hc8 e8 q1 q2 q3 q4
  go_wp2
  have n1 : Nw w _ := (hn).drew
  have hw : w.heap.size ≤ w.heap.size + 1 + 1 := by omega
  refine region_two [(w.heap.size, 0, Value.bool n), (w.heap.size, 1, Value.slice A xs.length c), (w.heap.size + 1, 0, Value.bool m), (w.heap.size + 1, 1, Value.slice (some bd) [y0].length d)] (w.heap.size + 1 + 1) (w.heap.size + 1 + 1 + 1) 1000 (KB (w.heap.size + 1 + 1) (sg (!(n == m)) (lv b32 xs / y0)) undef) (KB (w.heap.size + 1 + 1 + 1) (sg n qr) undef) [(2, KI (sg (!(n == m)) (lv b32 xs / y0))), (6, KL .u32 (fun zs => zs = [qr])), (7, KI (sg n qr)), (8, fun _ W => (KB (w.heap.size + 1 + 1) (sg (!(n == m)) (lv b32 xs / y0)) undef) W), (9, fun _ W => (KB (w.heap.size + 1 + 1 + 1) (sg n qr) undef) W)] (by kernel_rfl) (by kernel_rfl) (by kernel_rfl) (by kernel_rfl) ?_ ⟨St2.st (KI.st _), St2.st (KL.st _ _), St2.st (KI.st _), St2.r, St2.s, trivial⟩ ((S2.out.nw (Nw.refl _).drew)) ?_
  ·first | trivial | (simp only [Low, and_true]; omega)
  repeat
   apply Rg.wpK_quiet rfl rfl
   case hq => intro W hS; obtain ⟨⟨q1, q2, q3, q4, _⟩, _⟩ := hS; go_simp; exact rfl
   case he => exact (by simp only [Act.put, List.setIfInBounds_toArray, List.set_cons_zero, List.set_cons_succ]; exact rfl)
  apply Rg.wpK_know rfl rfl
  case ha =>
   intro W hR hS hF
   have hn := n1.r2 hR hw
   obtain ⟨⟨q1, q2, q3, q4, _⟩, hB1, hB2, hr⟩ := hS
   unfold Rg.gives
   go_simp
   exact Rg.gives_enter (call_r2 (KB.nwst _ _) (KB.nwst _ _) (ret_eq (made_l E8.out (!(n == m)) ((r8.kept (Nw.refl _).drew.kept).kept hR.2.1) (by rw [← E8.out]; exact HC8.out) p81) (by rw [p82])) hr)
  intro u hu
  obtain ⟨W0, hw1, hw2, hf⟩ := hu
  obtain ⟨m2, D2, l2, c2, rfl, hx⟩ := Rg.upd_at rfl (hf 2)
  refine ⟨_, (by simp only [Act.put, List.setIfInBounds_toArray, List.set_cons_zero, List.set_cons_succ]; exact rfl), ?_⟩
  clear hf hw1 hw2 hx W0
  repeat
   apply Rg.wpK_quiet rfl rfl
   case hq => intro W hS; obtain ⟨⟨q1, q2, q3, q4, _⟩, _⟩ := hS; go_simp; exact rfl
   case he => exact (by simp only [Act.put, List.setIfInBounds_toArray, List.set_cons_zero, List.set_cons_succ]; exact rfl)
  apply Rg.wpK_know rfl rfl
  case ha =>
   intro W hR hS hF
   have hn := n1.r2 hR hw
   obtain ⟨⟨q1, q2, q3, q4, _⟩, hB1, hB2, hr⟩ := hS
   unfold Rg.gives
   go_simp
   exact Rg.gives_value ⟨R2.nw hr (KB.nwst _ _) (KB.nwst _ _) ((Nw.refl W).alloc _), [qr], _, _, rfl, by simp, Rd.new1 _ _ _ _, rfl⟩
  intro u hu
  obtain ⟨W0, hw1, hw2, hf⟩ := hu
  obtain ⟨zs, C6, c6, e0, hx⟩ := Rg.upd_at rfl (hf 6)
  obtain ⟨l6, e1⟩ : ∃ n, n = zs.length := ⟨_, rfl⟩
  rw [← e1] at e0
  subst e0
  clear hx e1
  have hx := trivial
  refine ⟨_, (by simp only [Act.put, List.setIfInBounds_toArray, List.set_cons_zero, List.set_cons_succ]; exact rfl), ?_⟩
  clear hf hw1 hw2 hx W0
  repeat
   apply Rg.wpK_quiet rfl rfl
   case hq => intro W hS; obtain ⟨⟨q1, q2, q3, q4, _⟩, _⟩ := hS; go_simp; exact rfl
   case he => exact (by simp only [Act.put, List.setIfInBounds_toArray, List.set_cons_zero, List.set_cons_succ]; exact rfl)
  apply Rg.wpK_know rfl rfl
  case ha =>
   intro W hR hS hF
   have hn := n1.r2 hR hw
   obtain ⟨⟨q1, q2, q3, q4, _⟩, hB1, hB2, hr⟩ := hS
   have h6 := KL.slice (Rg.upd_at rfl (hF 6 (by kernel_rfl)))
   obtain ⟨z6, e6, hc6, r6, p6⟩ := h6
   subst e6
   unfold Rg.gives
   go_simp
   exact Rg.gives_enter (call_r2 (KB.nwst _ _) (KB.nwst _ _) (ret_eq (made_l (show 1 = z6.length by rw [p6]; rfl) n r6 hc6 (dg_of_one p6 dqr)) (congrArg (fun t => KI (sg n t)) (lv_of_one p6))) hr)
  intro u hu
  obtain ⟨W0, hw1, hw2, hf⟩ := hu
  obtain ⟨m7, D7, l7, c7, rfl, hx⟩ := Rg.upd_at rfl (hf 7)
  refine ⟨_, (by simp only [Act.put, List.setIfInBounds_toArray, List.set_cons_zero, List.set_cons_succ]; exact rfl), ?_⟩
  clear hf hw1 hw2 hx W0
  repeat
   apply Rg.wpK_quiet rfl rfl
   case hq => intro W hS; obtain ⟨⟨q1, q2, q3, q4, _⟩, _⟩ := hS; go_simp; exact rfl
   case he => exact (by simp only [Act.put, List.setIfInBounds_toArray, List.set_cons_zero, List.set_cons_succ]; exact rfl)
  apply Rg.wpK_know rfl rfl
  case ha =>
   intro W hR hS hF
   have hn := n1.r2 hR hw
   obtain ⟨⟨q1, q2, q3, q4, _⟩, hB1, hB2, hr⟩ := hS
   have i2 := KI.agg (Rg.upd_at rfl (Rg.upd_off rfl (Rg.upd_off rfl (hF 2 (by kernel_rfl)))))
   obtain ⟨⟨v0, hv0, hn0⟩, hf0⟩ := hB1 0 (by omega)
   obtain ⟨⟨v1, hv1, hn1⟩, hf1⟩ := hB1 1 (by omega)
   unfold Rg.gives
   go_simp
   exact Rg.gives_skip (store_I1 (by omega) hB1 i2)
  intro u hu
  obtain ⟨W0, hw1, hw2, hf⟩ := hu
  have hx := trivial
  refine ⟨_, (by simp only [Act.put, List.setIfInBounds_toArray, List.set_cons_zero, List.set_cons_succ]; exact rfl), ?_⟩
  clear hf hw1 hw2 hx W0
  repeat
   apply Rg.wpK_quiet rfl rfl
   case hq => intro W hS; obtain ⟨⟨q1, q2, q3, q4, _⟩, _⟩ := hS; go_simp; exact rfl
   case he => exact (by simp only [Act.put, List.setIfInBounds_toArray, List.set_cons_zero, List.set_cons_succ]; exact rfl)
  apply Rg.wpK_know rfl rfl
  case ha =>
   intro W hR hS hF
   have hn := n1.r2 hR hw
   obtain ⟨⟨q1, q2, q3, q4, _⟩, hB1, hB2, hr⟩ := hS
   have i7 := KI.agg (Rg.upd_at rfl (Rg.upd_off rfl (hF 7 (by kernel_rfl))))
   obtain ⟨⟨v0, hv0, hn0⟩, hf0⟩ := hB2 0 (by omega)
   obtain ⟨⟨v1, hv1, hn1⟩, hf1⟩ := hB2 1 (by omega)
   unfold Rg.gives
   go_simp
   exact Rg.gives_skip (store_I2 (by omega) hB2 i7)
  intro u hu
  obtain ⟨W0, hw1, hw2, hf⟩ := hu
  have hx := trivial
  refine ⟨_, (by simp only [Act.put, List.setIfInBounds_toArray, List.set_cons_zero, List.set_cons_succ]; exact rfl), ?_⟩
  clear hf hw1 hw2 hx W0
  repeat
   apply Rg.wpK_quiet rfl rfl
   case hq => intro W hS; obtain ⟨⟨q1, q2, q3, q4, _⟩, _⟩ := hS; go_simp; exact rfl
   case he => exact (by simp only [Act.put, List.setIfInBounds_toArray, List.set_cons_zero, List.set_cons_succ]; exact rfl)
  refine Rg.wpK_end fun w9 hR hS hF => ?_
  have hn := n1.r2 hR hw
  have b1 := Rg.upd_at rfl (Rg.upd_off rfl (hF 8))
  have b2 := Rg.upd_at rfl (hF 9)
  obtain ⟨m1, D1, l1, c1, p0, p1, i1⟩ := b1
  obtain ⟨m2, D2, l2, c2, p2, p3, i2⟩ := b2
  go_wp2
  exact bodyPost_ret (v := .tuple #[.agg #[.bool m1, .slice D1 l1 c1], .agg #[.bool m2, .slice D2 l2 c2], .int .i64 0]) (by simp [results, Tryz.results119, go_sem, p0, p1, p2, p3]) rfl ⟨_, rfl, ⟨_, _, _, rfl, ⟨_, _, _, _, rfl, i1.eq HQ.out.symm⟩, ⟨_, _, _, _, rfl, i2.eq HR.out.symm⟩, rfl⟩, hn⟩
end Go.Proofs.YthpjmhhfcechmaaGreat
/- Contracts of library functions (bits, strings, slices.Grow) at this program, laid by the kit's own tool in plain words. -/
namespace Go.Proofs
open Go.Shelf
def Tryz.lays133_ren : Go.Shelf.Ren := ⟨fun | 133 => 161 | 128 => 167 | n => n, fun | 51 => 140 | 3 => 3 | 4 => 4 | 46 => 158 | 5 => 5 | 9 => 9 | n => n, fun | n => n⟩
theorem Tryz.lays133 : Go.Proofs.Lays.n133 Tryz.prog Tryz.lays133_ren := {
 mixed := by kernel_rfl
 f128 := Tryz.func167.trans (congrArg some (by kernel_rfl))
 f133 := Tryz.func161.trans (congrArg some (by kernel_rfl))
 t3 := Tryz.underlying3
 a3 := Tryz.isAgg3
 z3 := Tryz.sizeOf3
 v3 := Tryz.zeroValue3
 t4 := Tryz.underlying4
 a4 := Tryz.isAgg4
 z4 := Tryz.sizeOf4
 v4 := Tryz.zeroValue4
 t5 := Tryz.underlying5
 a5 := Tryz.isAgg5
 z5 := Tryz.sizeOf5
 v5 := Tryz.zeroValue5
 t9 := Tryz.underlying9
 a9 := Tryz.isAgg9
 z9 := Tryz.sizeOf9
 v9 := Tryz.zeroValue9
 t46 := Tryz.underlying158
 a46 := Tryz.isAgg158
 z46 := Tryz.sizeOf158
 v46 := Tryz.zeroValue158
 t51 := Tryz.underlying140
 a51 := Tryz.isAgg140
 z51 := Tryz.sizeOf140
 v51 := Tryz.zeroValue140 }
theorem Tryz.bits_LeadingZeros32 (x : Int) (w : World) (h0 : 0 ≤ x) (h1 : x ≤ 4294967295) :
  Calls Tryz.prog 161 #[.int .u32 x] w fun e w' => e = .returned (.int .i64 (32 - (Lib.bitLen x.toNat : Int))) ∧ w' = w := Any.bits_LeadingZeros32 Tryz.lays133 x w h0 h1
def Tryz.lays137_ren : Go.Shelf.Ren := ⟨fun | 137 => 152 | 217 => 163 | 266 => 168 | n => n, fun | 9 => 9 | 5 => 5 | 3 => 3 | n => n, fun | n => n⟩
theorem Tryz.lays137 : Go.Proofs.Lays.n137 Tryz.prog Tryz.lays137_ren := {
 mixed := by kernel_rfl
 f137 := Tryz.func152.trans (congrArg some (by kernel_rfl))
 f217 := Tryz.func163.trans (congrArg some (by kernel_rfl))
 f266 := Tryz.func168.trans (congrArg some (by kernel_rfl))
 t3 := Tryz.underlying3
 a3 := Tryz.isAgg3
 z3 := Tryz.sizeOf3
 v3 := Tryz.zeroValue3
 t5 := Tryz.underlying5
 a5 := Tryz.isAgg5
 z5 := Tryz.sizeOf5
 v5 := Tryz.zeroValue5
 t9 := Tryz.underlying9
 a9 := Tryz.isAgg9
 z9 := Tryz.sizeOf9
 v9 := Tryz.zeroValue9 }
open Go.RowKit in
theorem Tryz.strings_IndexByte (s : ByteArray) (c : Int) (w : World) :
  Calls Tryz.prog 152 #[.string s, .int .u8 c] w fun e w' => e = .returned (.int .i64 (Lib.indexByte s.data.toList c.toNat.toUInt8)) ∧ w' = w := Any.strings_IndexByte Tryz.lays137 s c w
def Tryz.lays219_ren : Go.Shelf.Ren := ⟨fun | 219 => 151 | 217 => 163 | 225 => 164 | 224 => 165 | 267 => 166 | 266 => 168 | 314 => 169 | n => n, fun | 9 => 9 | 3 => 3 | 4 => 4 | 5 => 5 | 46 => 158 | 146 => 177 | 51 => 140 | n => n, fun | 1 => 1 | n => n⟩
theorem Tryz.lays219 : Go.Proofs.Lays.n219 Tryz.prog Tryz.lays219_ren := {
 mixed := by kernel_rfl
 f217 := Tryz.func163.trans (congrArg some (by kernel_rfl))
 f219 := Tryz.func151.trans (congrArg some (by kernel_rfl))
 f224 := Tryz.func165.trans (congrArg some (by kernel_rfl))
 f225 := Tryz.func164.trans (congrArg some (by kernel_rfl))
 f266 := Tryz.func168.trans (congrArg some (by kernel_rfl))
 f267 := Tryz.func166.trans (congrArg some (by kernel_rfl))
 f314 := Tryz.func169.trans (congrArg some (by kernel_rfl))
 t3 := Tryz.underlying3
 a3 := Tryz.isAgg3
 z3 := Tryz.sizeOf3
 v3 := Tryz.zeroValue3
 t4 := Tryz.underlying4
 a4 := Tryz.isAgg4
 z4 := Tryz.sizeOf4
 v4 := Tryz.zeroValue4
 t5 := Tryz.underlying5
 a5 := Tryz.isAgg5
 z5 := Tryz.sizeOf5
 v5 := Tryz.zeroValue5
 t9 := Tryz.underlying9
 a9 := Tryz.isAgg9
 z9 := Tryz.sizeOf9
 v9 := Tryz.zeroValue9
 t46 := Tryz.underlying158
 a46 := Tryz.isAgg158
 z46 := Tryz.sizeOf158
 v46 := Tryz.zeroValue158
 t51 := Tryz.underlying140
 a51 := Tryz.isAgg140
 z51 := Tryz.sizeOf140
 v51 := Tryz.zeroValue140
 t146 := Tryz.underlying177
 a146 := Tryz.isAgg177
 z146 := Tryz.sizeOf177
 v146 := Tryz.zeroValue177
 g1 := by kernel_rfl }
open Go.RowKit Go.Lib in
theorem Tryz.stringslite_Index_one (s : ByteArray) (c : UInt8) (w : World) :
  Calls Tryz.prog 151 #[.string s, .string ⟨#[c]⟩] w fun e w' => e = .returned (.int .i64 (Lib.indexByte s.data.toList c)) ∧ w' = w := Any.stringslite_Index_one Tryz.lays219 s c w
def Tryz.lays99_ren : Go.Shelf.Ren := ⟨fun | 99 => 89 | 206 => 129 | n => n, fun | 9 => 9 | 4 => 4 | 3 => 3 | n => n, fun | n => n⟩
theorem Tryz.lays99 : Go.Proofs.Lays.n99 Tryz.prog Tryz.lays99_ren := {
 mixed := by kernel_rfl
 f99 := Tryz.func89.trans (congrArg some (by kernel_rfl))
 f206 := Tryz.func129.trans (congrArg some (by kernel_rfl))
 t3 := Tryz.underlying3
 a3 := Tryz.isAgg3
 z3 := Tryz.sizeOf3
 v3 := Tryz.zeroValue3
 t4 := Tryz.underlying4
 a4 := Tryz.isAgg4
 z4 := Tryz.sizeOf4
 v4 := Tryz.zeroValue4
 t9 := Tryz.underlying9
 a9 := Tryz.isAgg9
 z9 := Tryz.sizeOf9
 v9 := Tryz.zeroValue9 }
open Go.RowKit Go.Lib in
theorem Tryz.strings_HasPrefix (s p : ByteArray) (w : World) :
  Calls Tryz.prog 89 #[.string s, .string p] w fun e w' => e = .returned (.bool (Lib.hasPrefix s.data.toList p.data.toList)) ∧ w' = w := Any.strings_HasPrefix Tryz.lays99 s p w
end Go.Proofs
/- The contract of the program's twos. -/
namespace Go.Proofs.YthpjmhhfcechmaaGreat
open Go.RowKit Ma

end Go.Proofs.YthpjmhhfcechmaaGreat
/- Bits of words: turning all bits of a word. No program in sight. -/
namespace Go.Proofs.YthpjmhhfcechmaaGreat.Ma
open Go

end Go.Proofs.YthpjmhhfcechmaaGreat.Ma
/- The contract of the program's twos. -/
namespace Go.Proofs.YthpjmhhfcechmaaGreat
open Go.RowKit Ma

end Go.Proofs.YthpjmhhfcechmaaGreat
/- The contract of the program's untwos. -/
namespace Go.Proofs.YthpjmhhfcechmaaGreat
open Go.RowKit Ma

end Go.Proofs.YthpjmhhfcechmaaGreat
/- The contract of the program's Boole: its closure, the walk. -/
namespace Go.Proofs.YthpjmhhfcechmaaGreat
open Go.RowKit Ma

end Go.Proofs.YthpjmhhfcechmaaGreat
/- The bits of a whole number, in two's complement. No program in sight. -/
namespace Go.Proofs.YthpjmhhfcechmaaGreat.Ma
open Go

end Go.Proofs.YthpjmhhfcechmaaGreat.Ma
/- The bits of limbs, of the rounds of Boole, of a two's complement read back. No program in sight. -/
namespace Go.Proofs.YthpjmhhfcechmaaGreat.Ma
open Go

end Go.Proofs.YthpjmhhfcechmaaGreat.Ma
/- The law of Boole: the bits of what a round stores; of the number that is read back. No walk. -/
namespace Go.Proofs.YthpjmhhfcechmaaGreat
open Go.RowKit Ma

def ch (op : Int) (a b : Bool) : Bool := decide (op / (if a then (if b then 8 else 4) else (if b then 2 else 1)) % 2 = 1)
theorem pow32 (n : Nat) : b32 ^ n = 2 ^ (32 * n) := by rw [Int.pow_mul]; rfl
end Go.Proofs.YthpjmhhfcechmaaGreat
/- The contracts of the reference's trimmed and made. -/
namespace Go.Proofs.YthpjmhhfcechmaaGreat
open Go.RowKit Ma

set_option maxHeartbeats 800000 in
theorem rtrimmed_c {A : Option Addr} {l c : Nat} {xs : List Int} {w : World} (e : l = xs.length) (h : Rd w .i64 A xs) (hc : l ≤ c) :
  Calls Tryz.prog 126 #[.slice A l c] w fun e w' => e = .returned (.slice A (trim xs).length c) ∧ w = w' := by
 subst e
 have hl := h.1
 have key : ∀ n, n ≤ xs.length → trim (xs.take n) = trim xs → trim (xs.take n) = xs.take n → n = (trim xs).length := by
  intro n hn h1 h2
  rw [← h1, h2, List.length_take, Nat.min_eq_left hn]
 go_enter Tryz.func126, Tryz.ntmps126
 go_wp2
 go_loop [3] (fun l => ∃ n : Nat, n ≤ xs.length ∧ trim (xs.take n) = trim xs ∧ l = .int .i64 n) (fun l => (intOf l).toNat)
 case atStart => exact ⟨_, Nat.le_refl _, by rw [List.take_length], rfl⟩
 case round =>
  obtain ⟨n, hn, ht, rfl⟩ := hrel
  have HT := Lib.hid ht
  have KEY := Lib.hid key
  clear ht key
  by_cases h0 : 0 < n
  ·obtain ⟨ad, hA, hcell⟩ := h.2 (n - 1) (by omega)
   subst hA
   by_cases hz : at0 xs (n - 1) = 0
   ·have hzb : (at0 xs (n - 1) == 0) = true := by simpa using hz
    have HZ := Lib.hid hz
    clear hz
    go_wp2
    refine ⟨⟨n - 1, by omega, ?_, by apply congrArg (Value.int IntKind.i64); omega⟩, by simp [intOf]; omega⟩
    rw [← HT.out, ← trim_take_succ (by omega) HZ.out, Nat.sub_add_cancel h0]
   ·have hzb : (at0 xs (n - 1) == 0) = false := by simpa using hz
    have HZ := Lib.hid hz
    clear hz
    go_wp2
    go_ret
    have h1 := KEY.out n hn HT.out (by have := trim_stop (n := n - 1) (by omega) HZ.out; rwa [Nat.sub_add_cancel h0] at this)
    exact ⟨ret_val (by rw [← h1]; simp), rfl⟩
  ·obtain rfl : n = 0 := by omega
   go_wp2
   go_ret
   have h1 := KEY.out 0 (by omega) HT.out (by simp [trim])
   exact ⟨ret_val (by rw [← h1]; simp), rfl⟩
set_option maxHeartbeats 400000 in
theorem rmade_c {n : Bool} {A : Option Addr} {l c : Nat} {xs : List Int} {w : World} (e : l = xs.length) (rA : Rd w .i64 A xs) (hc : l ≤ c) (hd : dg b16 xs) :
  Calls Tryz.prog 117 #[.bool n, .slice A l c] w (Ret w (KJ (sg n (lv b16 xs)))) := by
 subst e
 have hn := num_made (n := n) hd
 have hlen := trim_len xs
 have HN := Lib.hid hn
 clear hn
 cases n
 ·go_enter Tryz.func117, Tryz.ntmps117
  go_wp2_with (go_at_call 126; refine (rtrimmed_c rfl (rA.kept (IntK.alloc _ _)) hc).mono ?_; rintro e w' ⟨rfl, rfl⟩)
  refine bodyPost_ret (v := .agg #[.bool false, .slice A (trim xs).length c]) (by simp [results, Tryz.results117, go_sem]) rfl (Ret.J ⟨trim xs, rfl, by omega, ?_, by simpa using HN.out⟩ ?_)
  ·exact rA.trim.kept (IntK.alloc _ _)
  ·exact (Below.refl _ _).alloc (Nat.le_refl _) _
 ·go_enter Tryz.func117, Tryz.ntmps117
  go_wp2_with (go_at_call 126; refine (rtrimmed_c rfl (rA.kept (IntK.alloc _ _)) hc).mono ?_; rintro e w' ⟨rfl, rfl⟩)
  refine bodyPost_ret (v := .agg #[.bool (decide (0 < (trim xs).length)), .slice A (trim xs).length c]) (by simp [results, Tryz.results117, go_sem]) rfl (Ret.J ⟨trim xs, rfl, by omega, ?_, by simpa using HN.out⟩ ?_)
  ·exact rA.trim.kept (IntK.alloc _ _)
  ·exact (Below.refl _ _).alloc (Nat.le_refl _) _
end Go.Proofs.YthpjmhhfcechmaaGreat
/- The contract of the reference's New. -/
namespace Go.Proofs.YthpjmhhfcechmaaGreat
open Go.RowKit Ma

theorem info_int : (Tryz.prog.info? 3).map (fun i => (i.zero, i.size, i.bytes)) = some (some (.int .i64 0), 1, 8) := by kernel_rfl
structure RnAt (V : Int) (k : Nat) (zs : List Int) (u : Int) : Prop where
 le : k ≤ 4
 len : zs.length = k
 dg : dg b16 zs
 u0 : 0 ≤ u
 u1 : u < 65536 ^ (4 - k)
 eq : lv b16 zs + b16 ^ k * u = V
theorem RnAt.lt {V : Int} {k : Nat} {zs : List Int} {u : Int} (h : RnAt V k zs u) (hu : 0 < u) : k < 4 := by
 have h5 := h.u1
 have := h.le
 apply Classical.byContradiction
 intro hk
 have h0 : 4 - k = 0 := by omega
 rw [h0, Int.pow_zero] at h5
 omega
theorem RnAt.step {V : Int} {k : Nat} {zs : List Int} {u : Int} (h : RnAt V k zs u) (hu : 0 < u) : RnAt V (k + 1) (zs ++ [u % 65536]) (u / 65536) := by
 have hk := h.lt hu
 obtain ⟨h1, h2, h3, h4, h5, h6⟩ := h
 refine ⟨by omega, by simp [h2], dg_append.2 ⟨h3, fun x hx => by rw [List.mem_singleton] at hx; rw [hx, b16_eq]; omega⟩, by omega, ?_, ?_⟩
 ·apply Int.ediv_lt_of_lt_mul (by decide)
  rw [← Int.pow_succ, show (4 - (k + 1)).succ = 4 - k by omega]
  exact h5
 ·rw [lv_snoc, h2, Int.pow_succ, ← h6, b16_eq]
  have e := Int.mul_ediv_add_emod u 65536
  generalize u / 65536 = q at *
  generalize u % 65536 = r at *
  generalize (65536 : Int) ^ k = p at *
  rw [← e]
  grind
set_option maxHeartbeats 1600000 in
set_option maxRecDepth 100000 in
theorem rnew_c {x : Int} {w : World} (hx : -9223372036854775808 ≤ x ∧ x < 9223372036854775808) :
  Calls Tryz.prog 109 #[.int .i64 x] w (Ret w (KJ x)) := by
 obtain ⟨hx0, hx1⟩ := hx
 obtain ⟨i0, hi, hz0, hz1, hz2⟩ := info_parts info_int
 have nw1 : Nw w (w.alloc (.cells #[.bool false, .slice none 0 0] 34)) := (Nw.refl w).alloc _
 have sg0 : Sg [] w.heap.size 2 (w.alloc (.cells #[.bool false, .slice none 0 0] 34)) := ⟨trivial, box_two w 34 false none 0 0, by go_simp⟩
 have SG := Lib.hid sg0
 clear sg0
 by_cases hneg : x < 0
 ·have hwx : IntKind.u64.wrap (-IntKind.u64.wrap x) = -x := by simp only [IntKind.wrap_u64]; omega
  have r0 := Lib.hid (⟨by omega, rfl, dg_nil _, by omega, by rw [show (65536 : Int) ^ (4 - 0) = 18446744073709551616 by decide]; omega, by simp [lv]⟩ : RnAt (-x) 0 [] (-x))
  go_enter Tryz.func109, Tryz.ntmps109
  go_wp2
  go_loopw [3, 4] (fun uv ov wr => ∃ (k : Nat) (zs : List Int) (u : Int), uv = .int .u64 u ∧ Own wr (w.heap.size + 1) 3 .i64 ov zs ∧ RnAt (-x) k zs u ∧ Nw (w.alloc (.cells #[.bool false, .slice none 0 0] 34)) wr)
   (fun uv _ _ => (intOf uv).toNat)
  case atStart => exact ⟨0, [], _, rfl, Own.nil _ _ _ _, r0.out, Nw.refl _⟩
  case round =>
   obtain ⟨k, zs, u, rfl, ho, hr, hn⟩ := hrel
   have hu0 := hr.u0
   have hu1 : u < 18446744073709551616 := by
    have h1 := hr.u1
    have h2 := pow_le (b := 65536) (by decide) (show 4 - k ≤ 4 by omega)
    have : (65536 : Int) ^ 4 = 18446744073709551616 := by decide
    omega
   by_cases hu : 0 < u
   ·have HST := Lib.hid (hr.step hu)
    have hk := hr.lt hu
    have hlen := hr.len
    clear hr
    go_wp2_with (at_builtin; refine wpList_append_own _ rfl (.tmp 13) (.tmp 17) 32 rfl (w.heap.size + 1) 3 i0 (.int .i64 0) 1 8 Tryz.underlying32 hi hz0 hz1 hz2 rfl (by decide) _ _ _ rfl (ho.alloc _) ⟨wr.heap.size, 0, none⟩ 1 1 [.int .i64 (u % 65536)] rfl rfl ?c1 ?c2 ?c3 ?c4 ?c5 ?_)
    case c1 => intro j u hu; exact cell_one_new _ _ _ j u hu
    case c2 => simp [Value.oneCell']
    case c3 => unfold maxLen; omega
    case c4 => omega
    case c5 => have := hn.size; simp at this ⊢; omega
    intro v1 w4 hown1 hgrow1 _
    have n4 := hn.grew ho hgrow1 (by simp)
    go_wp2
    go_roundw
    case rel => exact ⟨k + 1, _, _, rfl, Own.cast hown1 (by simp [hlen]) (by simp), HST.out, n4⟩
    case measure => simp [intOf]; omega
   ·have hz : u = 0 := by omega
    subst hz
    have he := hr.eq
    have dz := hr.dg
    rw [Int.mul_zero, Int.add_zero] at he
    have HE := Lib.hid he
    obtain ⟨Az, cz, rfl, hcz, rz⟩ := ho.rd
    clear hr he ho
    go_wp2_with (go_at_call 117; refine (rmade_c rfl rz hcz dz).mono ?_; rintro e w2 ⟨_, rfl, ⟨m, D, l2, c2, rfl, hi⟩, hb2⟩; have b2 := ((SG.out.nw hn).nw hb2).2.1; obtain ⟨⟨v0, hv0, hn0⟩, hf0⟩ := b2 0 (by omega); obtain ⟨⟨v1, hv1, hn1⟩, hf1⟩ := b2 1 (by omega))
    have hi' := hi.eq (z' := x) (by rw [HE.out]; simp [sg] <;> omega)
    exact bodyPost_ret (v := .agg #[.bool m, .slice D l2 c2]) (by simp [results, Tryz.results109, go_sem, hv0, hv1]) rfl (Ret.J (hi'.kept (store_J b2 hi').1.2.1) (((nw1.trans hn).trans hb2).rr (store_J b2 hi').1 (Nat.le_refl _)))
 ·have r0 := Lib.hid (⟨by omega, rfl, dg_nil _, by omega, by rw [show (65536 : Int) ^ (4 - 0) = 18446744073709551616 by decide]; omega, by simp [lv]⟩ : RnAt x 0 [] x)
  go_enter Tryz.func109, Tryz.ntmps109
  go_wp2
  go_loopw [3, 4] (fun uv ov wr => ∃ (k : Nat) (zs : List Int) (u : Int), uv = .int .u64 u ∧ Own wr (w.heap.size + 1) 3 .i64 ov zs ∧ RnAt x k zs u ∧ Nw (w.alloc (.cells #[.bool false, .slice none 0 0] 34)) wr)
   (fun uv _ _ => (intOf uv).toNat)
  case atStart => exact ⟨0, [], _, rfl, Own.nil _ _ _ _, r0.out, Nw.refl _⟩
  case round =>
   obtain ⟨k, zs, u, rfl, ho, hr, hn⟩ := hrel
   have hu0 := hr.u0
   have hu1 : u < 18446744073709551616 := by
    have h1 := hr.u1
    have h2 := pow_le (b := 65536) (by decide) (show 4 - k ≤ 4 by omega)
    have : (65536 : Int) ^ 4 = 18446744073709551616 := by decide
    omega
   by_cases hu : 0 < u
   ·have HST := Lib.hid (hr.step hu)
    have hk := hr.lt hu
    have hlen := hr.len
    clear hr
    go_wp2_with (at_builtin; refine wpList_append_own _ rfl (.tmp 13) (.tmp 17) 32 rfl (w.heap.size + 1) 3 i0 (.int .i64 0) 1 8 Tryz.underlying32 hi hz0 hz1 hz2 rfl (by decide) _ _ _ rfl (ho.alloc _) ⟨wr.heap.size, 0, none⟩ 1 1 [.int .i64 (u % 65536)] rfl rfl ?c1 ?c2 ?c3 ?c4 ?c5 ?_)
    case c1 => intro j u hu; exact cell_one_new _ _ _ j u hu
    case c2 => simp [Value.oneCell']
    case c3 => unfold maxLen; omega
    case c4 => omega
    case c5 => have := hn.size; simp at this ⊢; omega
    intro v1 w4 hown1 hgrow1 _
    have n4 := hn.grew ho hgrow1 (by simp)
    go_wp2
    go_roundw
    case rel => exact ⟨k + 1, _, _, rfl, Own.cast hown1 (by simp [hlen]) (by simp), HST.out, n4⟩
    case measure => simp [intOf]; omega
   ·have hz : u = 0 := by omega
    subst hz
    have he := hr.eq
    have dz := hr.dg
    rw [Int.mul_zero, Int.add_zero] at he
    have HE := Lib.hid he
    obtain ⟨Az, cz, rfl, hcz, rz⟩ := ho.rd
    clear hr he ho
    go_wp2_with (go_at_call 117; refine (rmade_c rfl rz hcz dz).mono ?_; rintro e w2 ⟨_, rfl, ⟨m, D, l2, c2, rfl, hi⟩, hb2⟩; have b2 := ((SG.out.nw hn).nw hb2).2.1; obtain ⟨⟨v0, hv0, hn0⟩, hf0⟩ := b2 0 (by omega); obtain ⟨⟨v1, hv1, hn1⟩, hf1⟩ := b2 1 (by omega))
    have hi' := hi.eq (z' := x) (by rw [HE.out]; simp [sg] <;> omega)
    exact bodyPost_ret (v := .agg #[.bool m, .slice D l2 c2]) (by simp [results, Tryz.results109, go_sem, hv0, hv1]) rfl (Ret.J (hi'.kept (store_J b2 hi').1.2.1) (((nw1.trans hn).trans hb2).rr (store_J b2 hi').1 (Nat.le_refl _)))
end Go.Proofs.YthpjmhhfcechmaaGreat
/- The contracts of the reference's Limbs, of the law's Is. -/
namespace Go.Proofs.YthpjmhhfcechmaaGreat
open Go.RowKit Ma

structure LbAt (ds : List Int) (k : Nat) (zs : List Int) : Prop where
 len : zs.length = k
 le : 2 * k ≤ ds.length + 1
 dg : dg b32 zs
 eq : lv b32 zs = lv b16 (ds.take (2 * k))
theorem LbAt.start (ds : List Int) : LbAt ds 0 [] := ⟨rfl, by omega, dg_nil _, by simp [lv]⟩
theorem pow_b (k : Nat) : b32 ^ k = b16 ^ (2 * k) := by rw [Int.pow_mul]; rfl
theorem LbAt.two {ds : List Int} {k : Nat} {zs : List Int} (h : LbAt ds k zs) (d : Ma.dg b16 ds) (hk : 2 * k + 1 < ds.length) : LbAt ds (k + 1) (zs ++ [at0 ds (2 * k) + at0 ds (2 * k + 1) * 65536]) := by
 obtain ⟨h1, h2, h3, h4⟩ := h
 have a := dg_at d (by decide) (2 * k)
 have b := dg_at d (by decide) (2 * k + 1)
 rw [b16_eq] at a b
 refine ⟨by simp [h1], by omega, dg_append.2 ⟨h3, fun x hx => by rw [List.mem_singleton] at hx; rw [hx, b32_eq]; omega⟩, ?_⟩
 rw [lv_snoc, h4, h1, show 2 * (k + 1) = 2 * k + 1 + 1 by omega, lv_take_succ _ _ _ hk, lv_take_succ _ _ _ (by omega), pow_b, Int.pow_succ, b16_eq]
 grind
theorem LbAt.one {ds : List Int} {k : Nat} {zs : List Int} (h : LbAt ds k zs) (d : Ma.dg b16 ds) (hk : 2 * k + 1 = ds.length) : LbAt ds (k + 1) (zs ++ [at0 ds (2 * k)]) := by
 obtain ⟨h1, h2, h3, h4⟩ := h
 have a := dg_at d (by decide) (2 * k)
 rw [b16_eq] at a
 refine ⟨by simp [h1], by omega, dg_append.2 ⟨h3, fun x hx => by rw [List.mem_singleton] at hx; rw [hx, b32_eq]; omega⟩, ?_⟩
 rw [lv_snoc, h4, h1, List.take_of_length_le (show ds.length ≤ 2 * (k + 1) by omega), pow_b]
 have e := lv_take_succ b16 ds (2 * k) (by omega)
 rw [hk, List.take_length] at e
 rw [e]
theorem LbAt.done {ds : List Int} {k : Nat} {zs : List Int} (h : LbAt ds k zs) (d : Ma.dg b16 ds) (t : Ma.top ds) (hk : ds.length ≤ 2 * k) : Ma.dg b32 zs ∧ Ma.top zs ∧ lv b32 zs = lv b16 ds := by
 obtain ⟨h1, h2, h3, h4⟩ := h
 rw [List.take_of_length_le hk] at h4
 refine ⟨h3, ?_, h4⟩
 by_cases hne : zs = []
 ·subst hne; exact top_nil
 ·rw [top_at hne]
  intro hz
  have hl : 0 < zs.length := List.length_pos_iff.2 hne
  have hd : ds ≠ [] := by intro e; subst e; simp at h2; omega
  have e := lv_take_succ b32 zs (zs.length - 1) (by omega)
  rw [Nat.sub_add_cancel hl, List.take_length, hz, Int.mul_zero, Int.add_zero] at e
  have l1 := lv_lt (show (0 : Int) < b32 by decide) (dg_take h3 (zs.length - 1))
  rw [List.length_take, Nat.min_eq_left (by omega), pow_b] at l1
  have l2 := top_le (show (0 : Int) < b16 by decide) d t hd
  have l3 := pow_le (b := b16) (by decide) (show 2 * (zs.length - 1) ≤ ds.length - 1 by omega)
  omega
set_option maxHeartbeats 1600000 in
set_option maxRecDepth 100000 in
theorem rlimbs_c {n : Bool} {A : Option Addr} {l c : Nat} {z : Int} {w : World} (hx : RJ w n A l c z) (hl : l ≤ 2000000) :
  Calls Tryz.prog 102 #[.agg #[.bool n, .slice A l c]] w (Ret w (KL .u32 fun zs => Num b32 n zs z)) := by
 obtain ⟨ds, rfl, hc, rA, dd, td, nd, ez⟩ := hx
 obtain ⟨i0, hi, hz0, hz1, hz2⟩ := info_parts info_u32
 have nw1 : Nw w (w.alloc (.cells #[.bool n, .slice A ds.length c] 34)) := (Nw.refl w).alloc _
 have q0 : Has [(w.heap.size, 1, Value.slice A ds.length c)] (w.alloc (.cells #[.bool n, .slice A ds.length c] 34)) := ⟨by go_simp, trivial⟩
 have RA := Lib.hid (rA.kept nw1.kept)
 have Q0 := Lib.hid q0
 have EZ := Lib.hid ez
 clear rA q0 ez
 go_enter Tryz.func102, Tryz.ntmps102
 go_wp2
 go_loopw [3, 4] (fun ov iv wr => ∃ (k : Nat) (zs : List Int), iv = .int .i64 ((2 * k : Nat) : Int) ∧ Own wr (w.heap.size + 1) 140 .u32 ov zs ∧ LbAt ds k zs ∧ Nw (w.alloc (.cells #[.bool n, .slice A ds.length c] 34)) wr)
  (fun _ iv _ => ds.length + 2 - (intOf iv).toNat)
 case atStart => exact ⟨0, [], rfl, Own.nil _ _ _ _, LbAt.start ds, Nw.refl _⟩
 case round =>
  obtain ⟨k, zs, rfl, ho, hb, hn⟩ := hrel
  obtain ⟨q1, _⟩ := Q0.out.nw hn
  have hlen := hb.len
  have hle := hb.le
  obtain ⟨j, hj⟩ : ∃ j, j = 2 * k := ⟨_, rfl⟩
  rw [← hj]
  by_cases h0 : j < ds.length
  ·obtain ⟨ad, hA, hcell⟩ := (RA.out.kept hn.kept).2 j h0
   subst hA
   have a0 := dg_at dd (by decide) j
   rw [b16_eq] at a0
   obtain ⟨a1, a2⟩ := a0
   have hb0 := Lib.hid hb
   have hjz : zs.length * 2 = j := by omega
   have HJ := Lib.hid hj
   have HLN := Lib.hid hlen
   have hsz := hn.size
   by_cases h1 : j + 1 < ds.length
   ·obtain ⟨ad', hA', hcell'⟩ := (RA.out.kept hn.kept).2 (j + 1) h1
    injection hA' with hA'
    subst hA'
    rw [Addr.add_succ'] at hcell'
    have b0 := dg_at dd (by decide) (j + 1)
    rw [b16_eq] at b0
    obtain ⟨b1, b2⟩ := b0
    have h2 : (j : Int) + 1 < (ds.length : Int) := by omega
    have HT := Lib.hid (hb.two dd (by omega))
    rw [← hj] at HT
    clear hb hj hlen hle
    go_wp2_with (at_builtin; refine wpList_append_own _ rfl (.tmp 35) (.tmp 37) 22 rfl (w.heap.size + 1) 140 i0 (.int .u32 0) 1 4 Tryz.underlying22 hi hz0 hz1 hz2 rfl (by decide) _ _ _ rfl (ho.alloc _) ⟨wr.heap.size, 0, none⟩ 1 1 [.int .u32 (at0 ds j + at0 ds (j + 1) * 65536)] rfl rfl ?c1 ?c2 ?c3 ?c4 ?c5 ?_)
    case c1 => intro j u hu; exact cell_one_new _ _ _ j u hu
    case c2 => simp [Value.oneCell']
    case c3 => unfold maxLen; omega
    case c4 => omega
    case c5 => simp at hsz ⊢; omega
    intro v1 w4 hown1 hgrow1 _
    have n4 := hn.grew ho hgrow1 (by simp)
    go_wp2
    exact ⟨⟨k + 1, _, by apply congrArg (Value.int IntKind.i64); have := HJ.out; omega, Own.cast hown1 (by simp) (by simp), HT.out, n4⟩, by simp [intOf]; omega⟩
   ·have h2 : ¬ (j : Int) + 1 < (ds.length : Int) := by omega
    have HT := Lib.hid (hb.one dd (by omega))
    rw [← hj] at HT
    clear hb hj hlen hle
    go_wp2_with (at_builtin; refine wpList_append_own _ rfl (.tmp 35) (.tmp 37) 22 rfl (w.heap.size + 1) 140 i0 (.int .u32 0) 1 4 Tryz.underlying22 hi hz0 hz1 hz2 rfl (by decide) _ _ _ rfl (ho.alloc _) ⟨wr.heap.size, 0, none⟩ 1 1 [.int .u32 (at0 ds j)] rfl rfl ?c1 ?c2 ?c3 ?c4 ?c5 ?_)
    case c2 => simp [Value.oneCell']
    case c3 => unfold maxLen; omega
    case c4 => omega
    case c5 => simp at hsz ⊢; omega
    intro v1 w4 hown1 hgrow1 _
    have n4 := hn.grew ho hgrow1 (by simp)
    go_wp2
    exact ⟨⟨k + 1, _, by apply congrArg (Value.int IntKind.i64); have := HJ.out; omega, Own.cast hown1 (by simp) (by simp), HT.out, n4⟩, by simp [intOf]; omega⟩
  ·have hd := hb.done dd td (by omega)
   have HD := Lib.hid hd
   have hnn : n = true → zs ≠ [] := by
    intro e e2; subst e2
    have h3 := nd e
    have := top_le (show (0 : Int) < b16 by decide) dd td h3
    have := pos_pow (show (0 : Int) < b16 by decide) (ds.length - 1)
    have h4 := hd.2.2
    simp [lv] at h4
    omega
   clear hd hb hj hlen hle
   go_wp2
   go_ret
   exact Ret.own ho ⟨HD.out.1, HD.out.2.1, hnn, by rw [EZ.out, HD.out.2.2]⟩ (nw1.trans hn)
end Go.Proofs.YthpjmhhfcechmaaGreat
/- The contracts of the law's Is (of equal numbers), of same. -/
namespace Go.Proofs.YthpjmhhfcechmaaGreat
open Go.RowKit Ma

theorem num_inj {b : Int} (hb : 1 < b) {n m : Bool} {xs ys : List Int} {z : Int} (hx : Num b n xs z) (hy : Num b m ys z) : n = m ∧ xs = ys := by
 obtain ⟨dx, tx, nx, ex⟩ := hx
 obtain ⟨dy, ty, ny, ey⟩ := hy
 have px := lv_nonneg (b := b) (by omega) dx
 have py := lv_nonneg (b := b) (by omega) dy
 have qx : n = true → 0 < lv b xs := fun h => Int.lt_of_lt_of_le (pos_pow (by omega) _) (top_le (b := b) (by omega) dx tx (nx h))
 have qy : m = true → 0 < lv b ys := fun h => Int.lt_of_lt_of_le (pos_pow (by omega) _) (top_le (b := b) (by omega) dy ty (ny h))
 have e : sg n (lv b xs) = sg m (lv b ys) := ex.symm.trans ey
 cases n <;> cases m <;> simp only [sg, if_true, if_false, Bool.false_eq_true, forall_const, true_implies] at e qx qy
 ·exact ⟨rfl, lv_inj hb dx dy tx ty e⟩
 ·omega
 ·omega
 ·exact ⟨rfl, lv_inj hb dx dy tx ty (by omega)⟩
theorem equal_l {A B : Option Addr} {l l' c d : Nat} {xs ys : List Int} {w : World} (e1 : l = xs.length) (e2 : l' = ys.length) (rA : Rd w .u32 A xs) (rB : Rd w .u32 B ys) (e : xs = ys) :
  Calls Tryz.prog 101 #[.slice A l c, .slice B l' d] w (Ret w (KV (.bool true))) := by
 subst e1 e2
 have := equal_c A B c d xs ys w rA rB
 rwa [decide_eq_true e] at this
set_option maxHeartbeats 1600000 in
set_option maxRecDepth 100000 in
theorem is_c {x y : Int} {n m : Bool} {A B : Option Addr} {l l' c d : Nat} {w : World} (hx : RI w n A l c x) (hy : RJ w m B l' d y) (e : x = y) (hl : l ≤ 1000000) (hl' : l' ≤ 2000000) :
  Calls Tryz.prog 52 #[.agg #[.bool n, .slice A l c], .agg #[.bool m, .slice B l' d]] w (Ret w (KV (.bool true))) := by
 subst e
 have nw1 : Nw w ((w.alloc (.cells #[.bool n, .slice A l c] 31)).alloc (.cells #[.bool m, .slice B l' d] 34)) := ((Nw.refl w).alloc _).alloc _
 have hc0 : Has [(w.heap.size + 1, 0, Value.bool m), (w.heap.size + 1, 1, Value.slice B l' d)] ((w.alloc (.cells #[.bool n, .slice A l c] 31)).alloc (.cells #[.bool m, .slice B l' d] 34)) := ⟨by go_simp, by go_simp, trivial⟩
 have HC := Lib.hid hc0
 have HX := Lib.hid hx
 have HY := Lib.hid hy
 have hnm : n = m := by
  obtain ⟨xs, _, _, _, nx⟩ := hx
  obtain ⟨ys, _, _, _, ny⟩ := hy
  have px := nx
  cases n <;> cases m
  ·rfl
  ·exfalso
   have h1 := lv_nonneg (b := b32) (by decide) nx.1
   have h2 := Int.lt_of_lt_of_le (pos_pow (b := b16) (by decide) _) (top_le (b := b16) (by decide) ny.1 ny.2.1 (ny.2.2.1 rfl))
   have e1 := nx.2.2.2
   have e2 := ny.2.2.2
   simp only [sg, if_true, if_false, Bool.false_eq_true] at e1 e2
   omega
  ·exfalso
   have h1 := lv_nonneg (b := b16) (by decide) ny.1
   have h2 := Int.lt_of_lt_of_le (pos_pow (b := b32) (by decide) _) (top_le (b := b32) (by decide) nx.1 nx.2.1 (nx.2.2.1 rfl))
   have e1 := nx.2.2.2
   have e2 := ny.2.2.2
   simp only [sg, if_true, if_false, Bool.false_eq_true] at e1 e2
   omega
  ·rfl
 subst hnm
 clear hx hy hc0
 go_enter Tryz.func52, Tryz.ntmps52
 go_wp2_with (first
  | (go_at_call 100; refine (limbs_c (HX.out.kept nw1.kept) hl).mono ?_; rintro e w1 ⟨_, rfl, ⟨_, _, rfl, rfl, ⟨zs, C, cc, rfl, hcc, rC, nC⟩⟩, hb1⟩; obtain ⟨q1, q2, _⟩ := HC.out.nw hb1)
  | (go_at_call 102; refine (rlimbs_c ((HY.out.kept nw1.kept).kept hb1.kept) hl').mono ?_; rintro e w2 ⟨_, rfl, ⟨us, D, cd, rfl, hcd, rD, nD⟩, hb2⟩)
  | (go_at_call 101; refine (equal_l rfl rfl (rC.kept hb2.kept) rD (num_inj (by decide) nC nD).2).mono ?_; rintro e w3 ⟨_, rfl, rfl, hb3⟩))
 go_ret
 exact Ret.V (((nw1.trans hb1).trans hb2).trans hb3)
end Go.Proofs.YthpjmhhfcechmaaGreat
/- The contract of the law's Short: a closure handed to slices.ContainsFunc; made. -/
namespace Go.Proofs.YthpjmhhfcechmaaGreat
open Go.RowKit Ma

abbrev Nn := Bool × Option Addr × Nat × Nat
def Ns (w : World) (b : Nat) (ns : List Nn) : Prop := ∀ i n A l c, ns[i]? = some (n, A, l, c) → w.cell? ⟨b, i * 2, none⟩ = some (.bool n) ∧ w.cell? ⟨b, i * 2 + 1, none⟩ = some (.slice A l c)
theorem Ns.nw {w W : World} {b : Nat} {ns : List Nn} (h : Ns w b ns) (k : Nw w W) : Ns W b ns := fun i n A l c e => ⟨k.c (h i n A l c e).1, k.c (h i n A l c e).2⟩
def shB (most : Nat) (ns : List Nn) : Bool := ns.all fun x => decide (x.2.2.1 ≤ most)
def KIx (b : Bool) : Rg.Know := fun v _ => ∃ r : Int, v = .int .i64 r ∧ (if b = true then r < 0 else 0 ≤ r)
set_option maxHeartbeats 1600000 in
set_option maxRecDepth 100000 in
theorem short1_c {n : Bool} {A : Option Addr} {l c p most : Nat} {w : World} (hc : w.cell? ⟨p, 0, none⟩ = some (.int .i64 most)) (hl : l ≤ 9223372036854775807) :
  Calls Tryz.prog 70 #[.agg #[.bool n, .slice A l c], .pointer (some ⟨p, 0, none⟩)] w (Ret w (KV (.bool (decide (most < l))))) := by
 have hc2 := (Nw.refl w).alloc (.cells #[.bool n, .slice A l c] 24) |>.c hc
 go_enter Tryz.func70, Tryz.ntmps70
 go_wp2
 go_ret
 exact Ret.Veq (by simp) ((Nw.refl w).alloc _)
set_option maxHeartbeats 1600000 in
set_option maxRecDepth 100000 in
theorem shortx_c {b c p most : Nat} {ns : List Nn} {w : World} (hc : w.cell? ⟨p, 0, none⟩ = some (.int .i64 most)) (hn : Ns w b ns) (hm : most ≤ 1000) (hl : ns.length ≤ 1000) (hL : ∀ x ∈ ns, x.2.2.1 ≤ 9223372036854775807) :
  Calls Tryz.prog 114 #[.slice (some ⟨b, 0, none⟩) ns.length c, .func (.func 70) #[] #[.pointer (some ⟨p, 0, none⟩)]] w (Ret w (KIx (shB most ns))) := by
 have HN := Lib.hid hn
 have HL := Lib.hid hL
 clear hn hL
 go_enter Tryz.func114, Tryz.ntmps114
 go_wp2
 go_loopw [5, 8] (fun _ ci wr => ∃ k : Nat, ci = .int .i64 k ∧ k ≤ ns.length ∧ shB most (ns.take k) = true ∧ Nw w wr)
  (fun _ ci _ => ns.length - (intOf ci).toNat)
 case atStart => exact ⟨0, rfl, by omega, rfl, Nw.refl w⟩
 case round =>
  obtain ⟨k, rfl, hk, hs, hn⟩ := hrel
  have HS := Lib.hid hs
  clear hs
  have hc2 := hn.c hc
  by_cases hlt : k < ns.length
  ·obtain ⟨⟨n, A, l, cc⟩, he⟩ : ∃ x, ns[k]? = some x := ⟨_, List.getElem?_eq_getElem hlt⟩
   obtain ⟨h1, h2⟩ := (HN.out.nw hn) k n A l cc he
   have hll := HL.out _ (List.mem_of_getElem? he)
   simp only at hll
   have hk0 : (0 : Int) ≤ (k : Int) := by omega
   have hki : (k : Int) < (ns.length : Int) := by omega
   have ht : shB most (ns.take (k + 1)) = (shB most (ns.take k) && decide (l ≤ most)) := by
    unfold shB
    rw [List.take_add_one, he]
    simp
   have HE := Lib.hid he
   have HT := Lib.hid ht
   clear he ht
   by_cases hlm : most < l
   ·have hb : decide (most < l) = true := by simpa using hlm
    go_wp2_with (go_at_call 70; refine (short1_c hc2 hll).mono ?_; rintro e w1 ⟨_, rfl, rfl, hb1⟩)
    go_ret
    have hf : shB most ns = false := by
     unfold shB
     rw [List.all_eq_false]
     exact ⟨_, List.mem_of_getElem? HE.out, by simpa using hlm⟩
    exact ⟨_, rfl, ⟨k, rfl, by rw [hf]; simp⟩, hn.trans hb1⟩
   ·have hb : decide (most < l) = false := by simpa using hlm
    go_wp2_with (go_at_call 70; refine (short1_c hc2 hll).mono ?_; rintro e w1 ⟨_, rfl, rfl, hb1⟩)
    go_roundw
    case rel => exact ⟨k + 1, by go_num, by omega, by rw [HT.out, HS.out]; simp; omega, hn.trans hb1⟩
    case measure => simp [intOf]; omega
  ·have hke : k = ns.length := by omega
   have hf : shB most ns = true := by
    have := HS.out
    rwa [hke, List.take_length] at this
   have HF := Lib.hid hf
   clear hke hf
   go_wp2
   go_ret
   exact ⟨_, rfl, ⟨-1, rfl, by rw [HF.out]; simp⟩, hn⟩
set_option maxHeartbeats 1600000 in
set_option maxRecDepth 100000 in
theorem shortc_c {b c p most : Nat} {ns : List Nn} {w : World} (hc : w.cell? ⟨p, 0, none⟩ = some (.int .i64 most)) (hn : Ns w b ns) (hm : most ≤ 1000) (hl : ns.length ≤ 1000) (hL : ∀ x ∈ ns, x.2.2.1 ≤ 9223372036854775807) :
    Calls Tryz.prog 69 #[.slice (some ⟨b, 0, none⟩) ns.length c, .func (.func 70) #[] #[.pointer (some ⟨p, 0, none⟩)]] w (Ret w (KV (.bool (!shB most ns)))) := by
  have HN := Lib.hid hn
  have HL := Lib.hid hL
  clear hn hL
  by_cases hs : shB most ns = true
  all_goals
    have HS := Lib.hid hs
    clear hs
    go_enter Tryz.func69, Tryz.ntmps69
    go_wp2_with (go_at_call 114; refine (shortx_c hc HN.out hm hl HL.out).mono ?_; rintro e w1 ⟨_, rfl, ⟨r, rfl, hr⟩, hb1⟩)
    go_ret
    have h1 := HS.out
    first
      | (rw [h1] at hr ⊢; exact Ret.Veq (by simp at hr ⊢; omega) hb1)
      | (have h1 : shB most ns = false := by simpa using h1
         rw [h1] at hr ⊢; exact Ret.Veq (by simp at hr ⊢; omega) hb1)
set_option maxHeartbeats 1600000 in
set_option maxRecDepth 100000 in
theorem short_c {b c most : Nat} {ns : List Nn} {w : World} (hn : Ns w b ns) (hm : most ≤ 1000) (hl : ns.length ≤ 1000) (hL : ∀ x ∈ ns, x.2.2.1 ≤ 9223372036854775807) :
  Calls Tryz.prog 11 #[.int .i64 most, .slice (some ⟨b, 0, none⟩) ns.length c] w (Ret w (KV (.bool (shB most ns)))) := by
 have nw1 : Nw w (w.alloc (.cells #[.int .i64 most] 3)) := (Nw.refl w).alloc _
 have hc : (w.alloc (.cells #[.int .i64 most] 3)).cell? ⟨w.heap.size, 0, none⟩ = some (.int .i64 most) := by go_simp
 have HN := Lib.hid (hn.nw nw1)
 have HL := Lib.hid hL
 clear hn hL
 go_enter Tryz.func11, Tryz.ntmps11
 go_wp2_with (go_at_call 69; refine (shortc_c hc HN.out hm hl HL.out).mono ?_; rintro e w1 ⟨_, rfl, rfl, hb1⟩)
 go_ret
 exact Ret.Veq (by simp) (nw1.trans hb1)
end Go.Proofs.YthpjmhhfcechmaaGreat
/- The contract of the law's made: a new slice of the program's integers. -/
namespace Go.Proofs.YthpjmhhfcechmaaGreat
open Go.RowKit Ma

theorem info_Int : (Tryz.prog.info? 31).map (fun i => (i.zero, i.size, i.bytes)) = some (some (.agg #[.bool false, .slice none 0 0]), 2, 32) := by kernel_rfl
def flat (rs : List Nn) : List Value := rs.flatMap fun x => [.bool x.1, .slice x.2.1 x.2.2.1 x.2.2.2]
theorem flat_at : ∀ (rs : List Nn) (i : Nat) (n : Bool) (A : Option Addr) (l c : Nat), rs[i]? = some (n, A, l, c) → (flat rs)[i * 2]? = some (.bool n) ∧ (flat rs)[i * 2 + 1]? = some (.slice A l c)
 | [], i, n, A, l, c, h => by simp at h
 | x :: rs, 0, n, A, l, c, h => by simp at h; subst h; exact ⟨rfl, rfl⟩
 | x :: rs, i + 1, n, A, l, c, h => by
  have := flat_at rs i n A l c (by simpa using h)
  rw [show (i + 1) * 2 = i * 2 + 1 + 1 by omega]
  exact this
def Rs (w : World) (rs : List Nn) (zs : List Int) : Prop := rs.length = zs.length ∧ ∀ i n A l c, rs[i]? = some (n, A, l, c) → RI w n A l c (at0 zs i)
theorem Own.trims {w : World} {base : Nat} {e : TypeId} {k : IntKind} {A : Option Addr} {l c : Nat} {xs : List Int} (h : Own w base e k (.slice A l c) xs) : Own w base e k (.slice A (trim xs).length c) (trim xs) := by
 have hl := trim_len xs
 obtain ⟨_, h1 | ⟨g, cap, cur, hv, hb, hg, _⟩⟩ := id h
 ·obtain ⟨e1, e2⟩ := h1
  have : xs = [] := List.eq_nil_of_length_eq_zero e2
  subst this
  simp only [Value.slice.injEq] at e1
  obtain ⟨rfl, rfl, rfl⟩ := e1
  exact h
 ·simp only [Value.slice.injEq] at hv
  obtain ⟨rfl, rfl, rfl⟩ := hv
  have := h.take (by rfl) (trim xs).length hl
  rwa [← trim_take] at this
theorem grown_set (w : World) (r o : Nat) (v : Value) : w.grownBy (w.setCell ⟨r, o, none⟩ v) (some r) := ⟨rfl, rfl, rfl, by simp [World.setCell], fun i _ hne => Below.heap_setCell w ⟨r, o, none⟩ v i (fun e => hne (by rw [e]))⟩
end Go.Proofs.YthpjmhhfcechmaaGreat
/- The contract of the law's made: a new slice of the program's integers. -/
namespace Go.Proofs.YthpjmhhfcechmaaGreat
open Go.RowKit Ma

end Go.Proofs.YthpjmhhfcechmaaGreat
/- The contract of the law's awake: it returns true. -/
namespace Go.Proofs.YthpjmhhfcechmaaGreat
open Go.RowKit Ma

theorem put_list (l : List Value) (d : List Deferred) (i : Nat) (v : Value) : Act.put { tmps := l.toArray, defers := d } (some i) v = { tmps := (l.set i v).toArray, defers := d } := by simp [Act.put]
theorem put_none (a : Act) (v : Value) : Act.put a none v = a := rfl
theorem RJ.len_le {w : World} {n : Bool} {A : Option Addr} {l c : Nat} {z : Int} (h : RJ w n A l c z) (k : Nat) (h1 : -(b16 ^ k) < z) (h2 : z < b16 ^ k) : l ≤ k := by
 obtain ⟨xs, rfl, hc, rA, dx, tx, nx, rfl⟩ := h
 have h3 := lv_nonneg (b := b16) (by decide) dx
 have h4 : lv b16 xs < b16 ^ k := by cases n <;> simp only [sg, if_true, if_false, Bool.false_eq_true] at h1 h2 <;> omega
 apply Classical.byContradiction
 intro hk
 have hne : xs ≠ [] := by intro e; subst e; simp at hk
 have h5 := top_le (b := b16) (by decide) dx tx hne
 have h6 := pow_le (b := b16) (by decide) (show k ≤ xs.length - 1 by omega)
 omega
end Go.Proofs.YthpjmhhfcechmaaGreat
/- Words for the laws: bounds, what came in; a region by its number. -/
namespace Go.Proofs.YthpjmhhfcechmaaGreat
open Go.RowKit Ma

def In (w : World) (A : Option Addr) (l c : Nat) (xs : List Int) : Prop := l = xs.length ∧ l ≤ c ∧ Rd w .u32 A xs ∧ dg b32 xs
theorem short_l {b l c : Nat} {m : Int} (most : Nat) (ns : List Nn) {w : World} (e1 : m = most) (e2 : l = ns.length) (hn : Ns w b ns) (hm : most ≤ 1000) (hl : ns.length ≤ 1000) (hL : ∀ x ∈ ns, x.2.2.1 ≤ 9223372036854775807) :
  Calls Tryz.prog 11 #[.int .i64 m, .slice (some ⟨b, 0, none⟩) l c] w (Ret w (KV (.bool (shB most ns)))) := by
 subst e1 e2; exact short_c hn hm hl hL
def bd (k : Nat) (z : Int) : Prop := -(b32 ^ k) < z ∧ z < b32 ^ k
theorem bd.neg {k : Nat} {x : Int} (h : bd k x) : bd k (-x) := by unfold bd at *; omega
theorem bd.mono {k j : Nat} {x : Int} (h : bd k x) (hj : k ≤ j) : bd j x := by
 have := pow_le (b := b32) (by decide) hj
 unfold bd at *; omega
theorem bd.add {a b : Nat} {x y : Int} (h : bd a x) (k : bd b y) : bd (max a b + 1) (x + y) := by
 have h1 := h.mono (Nat.le_max_left a b)
 have h2 := k.mono (Nat.le_max_right a b)
 unfold bd at *
 rw [Int.pow_succ]
 have := pos_pow (b := b32) (by decide) (max a b)
 have e : b32 ^ max a b * b32 = b32 ^ max a b * 4294967296 := rfl
 omega
theorem bd.natAbs {a : Nat} {x : Int} (h : bd a x) : (x.natAbs : Int) < b32 ^ a := by unfold bd at h; omega
theorem bd.of {a : Nat} {x : Int} (h : (x.natAbs : Int) < b32 ^ a) : bd a x := by unfold bd; omega
theorem bd.mul {a b : Nat} {x y : Int} (h : bd a x) (k : bd b y) : bd (a + b) (x * y) := by
 apply bd.of
 rw [Int.natAbs_mul, Int.natCast_mul, Int.pow_add]
 have h1 := h.natAbs
 have h2 := k.natAbs
 have p := pos_pow (b := b32) (by decide) b
 exact Int.lt_of_le_of_lt (Int.mul_le_mul_of_nonneg_left (Int.le_of_lt h2) (by omega)) (Int.mul_lt_mul_of_pos_right h1 p)
theorem RI.le {w : World} {n : Bool} {A : Option Addr} {l c k : Nat} {z : Int} (h : RI w n A l c z) (hb : bd k z) (hk : k ≤ 300000) : l ≤ 300000 := Nat.le_trans (h.len_le k hb.1 hb.2) hk
theorem RI.le5 {w : World} {n : Bool} {A : Option Addr} {l c k : Nat} {z : Int} (h : RI w n A l c z) (hb : bd k z) (hk : k ≤ 500000) : l ≤ 500000 := Nat.le_trans (h.len_le k hb.1 hb.2) hk
theorem bd_sg {n : Bool} {xs : List Int} {k : Nat} (d : dg b32 xs) (hl : xs.length ≤ k) : bd k (sg n (lv b32 xs)) := by
 have h1 := lv_lt (b := b32) (by decide) d
 have h2 := lv_nonneg (b := b32) (by decide) d
 have h3 := pow_le (b := b32) (by decide) hl
 unfold bd
 cases n <;> simp only [sg, if_true, if_false, Bool.false_eq_true] <;> omega
end Go.Proofs.YthpjmhhfcechmaaGreat
/- The width of a number, the count of its bits. No program in sight. -/
namespace Go.Proofs.YthpjmhhfcechmaaGreat.Ma
open Go

def wid (z : Int) : Nat := if z ≤ 0 then 0 else Nat.log2 z.toNat + 1
theorem wid_lt (z : Int) : z < 2 ^ wid z := by
 unfold wid
 by_cases h : z ≤ 0
 ·rw [if_pos h]; simp; omega
 ·rw [if_neg h]
  have := (Nat.log2_eq_iff (n := z.toNat) (k := Nat.log2 z.toNat) (by omega)).1 rfl
  have h2 := this.2
  have e : ((2 ^ (Nat.log2 z.toNat + 1) : Nat) : Int) = 2 ^ (Nat.log2 z.toNat + 1) := by push_cast; rfl
  omega
theorem wid_le {z : Int} (h : 0 < z) : 2 ^ (wid z - 1) ≤ z := by
 unfold wid
 rw [if_neg (by omega)]
 have := (Nat.log2_eq_iff (n := z.toNat) (k := Nat.log2 z.toNat) (by omega)).1 rfl
 have h2 := this.1
 have e : ((2 ^ Nat.log2 z.toNat : Nat) : Int) = 2 ^ Nat.log2 z.toNat := by push_cast; rfl
 rw [Nat.add_sub_cancel]
 omega
theorem wid_pos {z : Int} (h : 0 < z) : 0 < wid z := by unfold wid; rw [if_neg (by omega)]; omega
theorem wid_of {z : Int} {n : Nat} (h1 : z < 2 ^ n) (h2 : 0 < n) (h3 : 2 ^ (n - 1) ≤ z) : wid z = n := by
 have hp : (0 : Int) < 2 ^ (n - 1) := Int.pow_pos (by decide)
 have a := wid_lt z
 have b := wid_le (z := z) (by omega)
 have c := wid_pos (z := z) (by omega)
 rcases Nat.lt_trichotomy (wid z) n with h | h | h
 ·have := pow_le (b := 2) (by decide) (show wid z ≤ n - 1 by omega); omega
 ·exact h
 ·have := pow_le (b := 2) (by decide) (show n ≤ wid z - 1 by omega); omega
theorem wid_le_of {z : Int} {n : Nat} (h : z < 2 ^ n) : wid z ≤ n := by
 by_cases h0 : 0 < z
 ·have b := wid_le h0
  have c := wid_pos h0
  apply Classical.byContradiction
  intro h2
  have := pow_le (b := 2) (by decide) (show n ≤ wid z - 1 by omega)
  omega
 ·unfold wid; rw [if_pos (by omega)]; omega
theorem bitLen_wid (z : Int) (h0 : 0 ≤ z) (h1 : z < 4294967296) : Lib.bitLen z.toNat = wid z := by
 by_cases hz : z = 0
 ·subst hz; rfl
 ·obtain ⟨a, b, c⟩ := Lib.bitLenAux_bounds 64 z.toNat (by omega) (by omega)
  have e1 : ((2 ^ (Lib.bitLen z.toNat - 1) : Nat) : Int) = 2 ^ (Lib.bitLen z.toNat - 1) := by push_cast; rfl
  have e2 : ((2 ^ Lib.bitLen z.toNat : Nat) : Int) = 2 ^ Lib.bitLen z.toNat := by push_cast; rfl
  unfold Lib.bitLen at *
  exact (wid_of (by omega) (by omega) (by omega)).symm
end Go.Proofs.YthpjmhhfcechmaaGreat.Ma
/- The contracts of the program's pattern, length, Length, Count, Bit. -/
namespace Go.Proofs.YthpjmhhfcechmaaGreat
open Go.RowKit Ma

end Go.Proofs.YthpjmhhfcechmaaGreat
/- The contracts of the program's raised, lowered, shift, Shift. -/
namespace Go.Proofs.YthpjmhhfcechmaaGreat
open Go.RowKit Ma

end Go.Proofs.YthpjmhhfcechmaaGreat
/- Limbs divided by a power of two. No program in sight. -/
namespace Go.Proofs.YthpjmhhfcechmaaGreat.Ma
open Go

theorem emod_pow_succ (V b : Int) (hb : 0 < b) (k : Nat) : V % b ^ (k + 1) = V % b ^ k + b ^ k * (V / b ^ k % b) := by
 have hp : 0 < b ^ k := Int.pow_pos hb
 have a := Int.mul_ediv_add_emod V (b ^ k)
 have c := Int.mul_ediv_add_emod (V / b ^ k) b
 have r0 := Int.emod_nonneg V (Int.ne_of_gt hp)
 have r1 := Int.emod_lt_of_pos V hp
 have s0 := Int.emod_nonneg (V / b ^ k) (Int.ne_of_gt hb)
 have s1 := Int.emod_lt_of_pos (V / b ^ k) hb
 have e : V = (V % b ^ k + b ^ k * (V / b ^ k % b)) + b ^ (k + 1) * (V / b ^ k / b) := by
  rw [Int.pow_succ]
  generalize V / b ^ k / b = q at *
  generalize V / b ^ k % b = r at *
  generalize V % b ^ k = t at *
  generalize V / b ^ k = z at *
  generalize b ^ k = p at *
  rw [← a, ← c]; grind
 have l0 : 0 ≤ b ^ k * (V / b ^ k % b) := Int.mul_nonneg (Int.le_of_lt hp) s0
 have l1 : b ^ k * (V / b ^ k % b) + b ^ k ≤ b ^ (k + 1) := by
  have : b ^ k * (V / b ^ k % b + 1) ≤ b ^ k * b := Int.mul_le_mul_of_nonneg_left (by omega) (Int.le_of_lt hp)
  rw [Int.mul_add] at this
  rw [Int.pow_succ]; omega
 conv => lhs; rw [e]
 rw [Int.add_mul_emod_self_left, Int.emod_eq_of_lt (by omega) (by omega)]
theorem lv_digits {b V : Int} (hb : 0 < b) {zs : List Int} : ∀ k, k ≤ zs.length → (∀ j, j < k → at0 zs j = V / b ^ j % b) → lv b (zs.take k) = V % b ^ k
 | 0, _, _ => by simp [lv]
 | k + 1, hk, h => by
  rw [lv_take_succ b zs k (by omega), lv_digits hb k (by omega) (fun j hj => h j (by omega)), emod_pow_succ V b hb k, h k (by omega)]
theorem lv_ediv {b : Int} (hb : 0 < b) {ys : List Int} (d : dg b ys) (j : Nat) (h : j ≤ ys.length) : lv b ys / b ^ j = lv b (ys.drop j) := by
 have e := lv_split b ys j h
 have h1 := lv_nonneg hb (dg_take d j)
 have h2 := lv_lt hb (dg_take d j)
 rw [List.length_take, Nat.min_eq_left h] at h2
 rw [e, Int.add_mul_ediv_left _ _ (Int.ne_of_gt (Int.pow_pos hb)), Int.ediv_eq_zero_of_lt h1 h2, Int.zero_add]
theorem low_digit {ys : List Int} (d : dg 4294967296 ys) {r j : Nat} (hr : r < 32) (hj : j < ys.length) :
  ((at0 ys (j + 1) * 4294967296 + at0 ys j) / 2 ^ r) % 4294967296 = lv 4294967296 ys / 2 ^ r / 4294967296 ^ j % 4294967296 := by
 have hp : (0 : Int) < 2 ^ r := Int.pow_pos (by decide)
 have e1 : lv 4294967296 ys / 2 ^ r / 4294967296 ^ j = lv 4294967296 (ys.drop j) / 2 ^ r := by
  rw [← lv_ediv (by decide) d j (by omega), Int.ediv_ediv_of_nonneg (Int.le_of_lt hp), Int.ediv_ediv_of_nonneg (Int.pow_nonneg (by decide)), Int.mul_comm]
 obtain ⟨c, hc⟩ : ∃ c : Int, (4294967296 : Int) = 2 ^ r * c := ⟨2 ^ (32 - r), by rw [← Int.pow_add, show r + (32 - r) = 32 by omega]; rfl⟩
 rw [e1, lv_drop 4294967296 ys j hj]
 have e2 : ∃ R, lv 4294967296 (ys.drop (j + 1)) = at0 ys (j + 1) + 4294967296 * R := by
  by_cases h : j + 1 < ys.length
  ·exact ⟨_, lv_drop 4294967296 ys (j + 1) h⟩
  ·exact ⟨0, by rw [List.drop_eq_nil_of_le (by omega), at0_ge (by omega)]; simp [lv]⟩
 obtain ⟨R, hR⟩ := e2
 rw [hR]
 have e3 : at0 ys j + 4294967296 * (at0 ys (j + 1) + 4294967296 * R) = (at0 ys (j + 1) * 4294967296 + at0 ys j) + 2 ^ r * (c * R * 4294967296) := by
  have : 4294967296 * (4294967296 * R) = 2 ^ r * (c * R * 4294967296) := by
   conv => lhs; lhs; rw [hc]
   grind
  rw [Int.mul_add, this]; grind
 rw [e3, Int.add_mul_ediv_left _ _ (Int.ne_of_gt hp), Int.add_mul_emod_self_right]
end Go.Proofs.YthpjmhhfcechmaaGreat.Ma
/- The contract of the program's lowered. -/
namespace Go.Proofs.YthpjmhhfcechmaaGreat
open Go.RowKit Ma

end Go.Proofs.YthpjmhhfcechmaaGreat
/- The contract of the program's shift. -/
namespace Go.Proofs.YthpjmhhfcechmaaGreat
open Go.RowKit Ma

def sh (x n : Int) : Int := if 0 ≤ n then x * 2 ^ n.toNat else x / 2 ^ (-n).toNat
end Go.Proofs.YthpjmhhfcechmaaGreat
/- Bits of whole numbers: sums, fields and deposits (no program in sight). -/
namespace Go.Proofs.YthpjmhhfcechmaaGreat
open Go.RowKit Ma

end Go.Proofs.YthpjmhhfcechmaaGreat
/- The contract of the program's shift, every way. -/
namespace Go.Proofs.YthpjmhhfcechmaaGreat
open Go.RowKit Ma

end Go.Proofs.YthpjmhhfcechmaaGreat
/- The contracts of the program's sized, ones, and, Field, Shift. -/
namespace Go.Proofs.YthpjmhhfcechmaaGreat
open Go.RowKit Ma

def sz (a b : Int) : Bool := decide (0 ≤ a) && decide (a ≤ 65536) && decide (0 ≤ b) && decide (b ≤ 65536)
end Go.Proofs.YthpjmhhfcechmaaGreat
/- Boole's contract with a bound for its answer. -/
namespace Go.Proofs.YthpjmhhfcechmaaGreat
open Go.RowKit Ma

end Go.Proofs.YthpjmhhfcechmaaGreat
/- The contracts of the program's and, Field, Shift. -/
namespace Go.Proofs.YthpjmhhfcechmaaGreat
open Go.RowKit Ma

end Go.Proofs.YthpjmhhfcechmaaGreat
/- The contract of the program's Shift. -/
namespace Go.Proofs.YthpjmhhfcechmaaGreat
open Go.RowKit Ma

end Go.Proofs.YthpjmhhfcechmaaGreat
/- The contract of the program's Deposit. -/
namespace Go.Proofs.YthpjmhhfcechmaaGreat
open Go.RowKit Ma

end Go.Proofs.YthpjmhhfcechmaaGreat
/- The contracts of bits.OnesCount32 and of the program's Count. -/
namespace Go.Proofs.YthpjmhhfcechmaaGreat
open Go.RowKit Ma

end Go.Proofs.YthpjmhhfcechmaaGreat
/- Contracts in the form that the rules want. -/
namespace Go.Proofs.YthpjmhhfcechmaaGreat.Sy
open Go Go.RowKit Ma
theorem ce_add : CE 98 := fun args W => by go_simp
theorem ce_sub : CE 120 := fun args W => by go_simp
theorem ce_mul : CE 83 := fun args W => by go_simp
theorem ce_neg : CE 49 := fun args W => by go_simp
theorem ce_abs : CE 42 := fun args W => by go_simp
theorem ce_cmp : CE 37 := fun args W => by go_simp
theorem ce_sign : CE 36 := fun args W => by go_simp
theorem ce_new : CE 38 := fun args W => by go_simp
theorem ce_is : CE 52 := fun args W => by go_simp
theorem all1 {k1 : Know} {us : List Value} {W : World} (h : All [k1] us W) : ∃ u, us = [u] ∧ k1 u W := by
 match us, h with
 | [u], h => exact ⟨u, rfl, h.1⟩
theorem all2 {k1 k2 : Know} {us : List Value} {W : World} (h : All [k1, k2] us W) : ∃ u v, us = [u, v] ∧ k1 u W ∧ k2 v W := by
 match us, h with
 | [u, v], h => exact ⟨u, v, rfl, h.1, h.2.1⟩
theorem all3 {k1 k2 k3 : Know} {us : List Value} {W : World} (h : All [k1, k2, k3] us W) : ∃ u v x, us = [u, v, x] ∧ k1 u W ∧ k2 v W ∧ k3 x W := by
 match us, h with
 | [u, v, x], h => exact ⟨u, v, x, rfl, h.1, h.2.1, h.2.2.1⟩
theorem call1 {f : FuncId} {k1 r : Know} (ce : CE f) (h : ∀ W u, k1 u W → Calls Tryz.prog f #[u] W (Ret W r)) : CallOk f [k1] r := ⟨ce, fun W us hu => by obtain ⟨u, rfl, h1⟩ := all1 hu; exact h W u h1⟩
theorem call2 {f : FuncId} {k1 k2 r : Know} (ce : CE f) (h : ∀ W u v, k1 u W → k2 v W → Calls Tryz.prog f #[u, v] W (Ret W r)) : CallOk f [k1, k2] r := ⟨ce, fun W us hu => by obtain ⟨u, v, rfl, h1, h2⟩ := all2 hu; exact h W u v h1 h2⟩
theorem call3 {f : FuncId} {k1 k2 k3 r : Know} (ce : CE f) (h : ∀ W u v x, k1 u W → k2 v W → k3 x W → Calls Tryz.prog f #[u, v, x] W (Ret W r)) : CallOk f [k1, k2, k3] r := ⟨ce, fun W us hu => by obtain ⟨u, v, x, rfl, h1, h2, h3⟩ := all3 hu; exact h W u v x h1 h2 h3⟩
theorem callI {f : FuncId} {x : Int} {r : Know} (ce : CE f) (h : ∀ W n A l c, RI W n A l c x → Calls Tryz.prog f #[.agg #[.bool n, .slice A l c]] W (Ret W r)) : CallOk f [KI x] r := call1 ce fun W u ⟨n, A, l, c, e, hx⟩ => by subst e; exact h W n A l c hx
theorem callII {f : FuncId} {x y : Int} {r : Know} (ce : CE f) (h : ∀ W n A l c m B l' d, RI W n A l c x → RI W m B l' d y → Calls Tryz.prog f #[.agg #[.bool n, .slice A l c], .agg #[.bool m, .slice B l' d]] W (Ret W r)) : CallOk f [KI x, KI y] r :=
 call2 ce fun W u v ⟨n, A, l, c, e, hx⟩ ⟨m, B, l', d, e', hy⟩ => by subst e e'; exact h W n A l c m B l' d hx hy
variable {x y : Int} {a b : Nat}
theorem k_add (hx : bd a x) (hy : bd b y) (ha : a ≤ 300000) (hb : b ≤ 300000) : CallOk 98 [KI x, KI y] (KI (x + y)) := callII ce_add fun W n A l c m B l' d h1 h2 => add_c h1 h2 (h1.le5 hx (by omega)) (h2.le5 hy (by omega))
theorem k_sub (hx : bd a x) (hy : bd b y) (ha : a ≤ 300000) (hb : b ≤ 300000) : CallOk 120 [KI x, KI y] (KI (x - y)) := callII ce_sub fun W n A l c m B l' d h1 h2 => sub_c h1 h2 (h1.le5 hx (by omega)) (h2.le5 hy (by omega))
theorem k_mul (hx : bd a x) (hy : bd b y) (ha : a ≤ 300000) (hb : b ≤ 300000) : CallOk 83 [KI x, KI y] (KI (x * y)) := callII ce_mul fun W n A l c m B l' d h1 h2 => mul_c h1 h2 (h1.le5 hx (by omega)) (h2.le5 hy (by omega))
theorem k_neg : CallOk 49 [KI x] (KI (-x)) := callI ce_neg fun W n A l c h => neg_c h
theorem k_abs : CallOk 42 [KI x] (KI (x.natAbs : Int)) := callI ce_abs fun W n A l c h => abs_c h
theorem k_cmp {z : Int} (e : cmp x y = z) : CallOk 37 [KI x, KI y] (KV (.int .i64 z)) := callII ce_cmp fun W n A l c m B l' d h1 h2 => e ▸ cmp_c h1 h2
theorem k_sign {z : Int} (e : sgn x = z) : CallOk 36 [KI x] (KV (.int .i64 z)) := callI ce_sign fun W n A l c h => e ▸ sign_c h
theorem k_new (h : -9223372036854775808 ≤ x ∧ x < 9223372036854775808) : CallOk 38 [KV (.int .i64 x)] (KI x) := call1 ce_new fun W u e => by obtain rfl : u = _ := e; exact new_c h
end Go.Proofs.YthpjmhhfcechmaaGreat.Sy
/-! ### Bounds -/
namespace Go.Proofs.YthpjmhhfcechmaaGreat
open Go Go.RowKit Ma
variable {x y : Int} {a b : Nat}
theorem bd2 {n : Nat} {z : Int} : bd n z ↔ -(2 ^ (32 * n)) < z ∧ z < 2 ^ (32 * n) := by unfold bd; rw [pow32]
theorem bd.lit (h : -4294967296 < x ∧ x < 4294967296) : bd 1 x := by unfold bd; have e : b32 ^ 1 = 4294967296 := rfl; rw [e]; exact h
theorem bd.one : bd 1 1 := by unfold bd; decide
end Go.Proofs.YthpjmhhfcechmaaGreat
/- Ends of a walk by rules; a function's text behind a statement. -/
namespace Go.Proofs.YthpjmhhfcechmaaGreat.Sy
open Go Go.RowKit Ma
section
variable {B N : Nat} {w0 : World} {fr : List (Nat × AV)} {Q : Exit → Act → World → Prop} {fn : Func}
theorem run_res1 {s : Nat} (hr : fn.results = #[.tmp s]) (ts : Array Value) (W : World) : (results fn ts).run Tryz.prog W = .ok (ts.getD s undef) W := by
 simp [results, hr, go_sem]
theorem SX.done {s : Nat} {r : AV} (hr : fn.results = #[.tmp s]) (hs : opv fr (.tmp s) = some r) (hB : B = w0.heap.size) : SX B N w0 .ret fr (bodyPost Tryz.prog fn (Ret w0 r.of)) := fun a W hf =>
 bodyPost_ret (run_res1 hr _ _) hf.df ⟨_, rfl, ((opv_spec hf hs).1.of (opv_spec hf hs).2).1, by have := hf.be; rw [hB] at this; exact this⟩
theorem SX.blockX {id id' : Nat} (hne : (id' == id) = false) (h : SX B N w0 (.exit id') fr Q) : SX B N w0 (.exit id') fr (Exit.inBlock id Q) := fun a W hf => by
 show (if id' = id then _ else _)
 rw [if_neg (by simpa using hne)]
 exact h a W hf
theorem SC.run {c : Code} {a : Act} {W : World} (h : SC B N w0 c fr Q) (hf : Fr B N w0 fr a W) : c.wp Tryz.prog Q a W := h a W hf
def OpsAre (fr : List (Nat × AV)) : List (Operand × Value) → Prop
 | [] => True
 | (x, v) :: l => opv fr x = some (.vl v) ∧ OpsAre fr l
def RhoAre (ρ : Operand → Value) : List (Operand × Value) → Prop
 | [] => True
 | (x, v) :: l => ρ x = v ∧ RhoAre ρ l
theorem rho_of {a : Act} {W : World} (hf : Fr B N w0 fr a W) : ∀ {l : List (Operand × Value)}, OpsAre fr l → RhoAre a.eval l
 | [], _ => trivial
 | (x, v) :: l, h => ⟨opv_vl hf h.1, rho_of hf h.2⟩
theorem PW.qn {ops : Array Oper} {o : Oper} {rest : List Oper} {d : Nat} (l : List (Operand × Value)) (v : Value) (hw : wantB ops fr o = some true) (hd : o.dst = some d) (hN : Nat.blt d N = true) (hx : OpsAre fr l) (h : ∀ (ρ : Operand → Value) (W : World), RhoAre ρ l → (execOp ρ o).run Tryz.prog W = .ok (.value v) W) (hk : PW B N w0 ops rest ((d, .vl v) :: fr) Q) : PW B N w0 ops (o :: rest) fr Q :=
 PW.val (r := .vl v) hw hd hN rfl (fun a W hf => ⟨v, h _ W (rho_of hf hx), rfl⟩) hk
end
/-! ### Rows -/
def AV.calm : AV → Bool
 | .vl _ => true
 | .nb _ => true
 | .ro _ _ _ _ => true
 | .rx _ _ _ => true
 | .bc _ _ _ => true
 | _ => false
def calmB : List (Nat × AV) → Bool
 | [] => true
 | (_, v) :: l => v.calm && calmB l
theorem calm_look : ∀ {fr : List (Nat × AV)}, calmB fr = true → ∀ s v, look fr s = some v → v.calm = true
 | [], _, s, v, h => by cases h
 | (j, u) :: l, hc, s, v, h => by
  unfold calmB at hc
  rw [Bool.and_eq_true] at hc
  rw [look_cons] at h
  by_cases e : j = s
  ·rw [if_pos e] at h; injection h with h; subst h; exact hc.1
  ·rw [if_neg e] at h; exact calm_look hc.2 s v h
section
variable {B N : Nat} {w0 : World} {fr : List (Nat × AV)}
theorem Ho.calm {v : AV} {u : Value} {W W' : World} {q : Nat} (hc : v.calm = true) (h : Ho B v u W) (k : W.grownBy W' (some q)) (hne : v.blk u ≠ some q) : Ho B v u W' := by
 cases v with
 | vl v => exact h
 | nb b =>
  obtain ⟨p, x, e, hp, hh, ok⟩ := h
  subst e
  have : p ≠ q := fun e2 => hne (by rw [e2]; rfl)
  exact ⟨p, x, rfl, hp, hh.same (k.block p (hh.lt ok) (fun e => this (by injection e))), ok⟩
 | ro v e f zs => exact OwF.off h k hne
 | rx e f p => obtain ⟨zs, h1, h2⟩ := h; exact ⟨zs, OwF.off h1 k hne, h2⟩
 | bc b p v =>
  obtain ⟨e, hh, ok⟩ := h
  have : p ≠ q := fun e2 => hne (by rw [e2]; rfl)
  exact ⟨e, hh.same (k.block p (hh.lt ok) (fun e => this (by injection e))), ok⟩
 | _ => cases hc
theorem Fr.rset {a : Act} {W : World} {K g n c i : Nat} {e : TypeId} {f : Int → Value} {zs : List Int} (h : Fr B N w0 fr a W) (hK : look fr K = some (.ro (.slice (some ⟨g, 0, none⟩) n c) e f zs)) (hc : calmB fr = true) (y : Int) : Fr B N w0 ((K, .ro (.slice (some ⟨g, 0, none⟩) n c) e f (zs.set i y)) :: fr) a (W.setCell ⟨g, i, none⟩ (f y)) := by
 have ho : OwF W B e f (.slice (some ⟨g, 0, none⟩) n c) zs := h.ho K _ hK
 have hgr : W.grownBy (W.setCell ⟨g, i, none⟩ (f y)) (some g) := OwF.grew ho i _
 have hB : B ≤ g := ho.ge
 refine ⟨h.df, h.sz, Below.grown h.be hgr h.bs (fun k e => by injection e with e; omega), by simpa [World.setCell] using h.bs, fun j v hj => ?_, fun j l v v' p hjl hj hl => ?_⟩
 ·rw [look_cons] at hj
  by_cases e' : K = j
  ·rw [if_pos e'] at hj
   injection hj with hj
   subst hj
   exact OwF.set ho i y
  ·rw [if_neg e'] at hj
   exact Ho.calm (calm_look hc j v hj) (h.ho j v hj) hgr (h.di K j _ v g e' hK hj rfl)
 ·rw [look_cons] at hj hl
  by_cases e1 : K = j
  ·have e2 : K ≠ l := fun x => hjl (e1.symm.trans x)
   rw [if_pos e1] at hj
   rw [if_neg e2] at hl
   injection hj with hj
   subst hj
   intro x
   injection x with x
   subst x
   exact h.di K l _ v' g e2 hK hl rfl
  ·rw [if_neg e1] at hj
   by_cases e2 : K = l
   ·rw [if_pos e2] at hl
    injection hl with hl
    subst hl
    intro x y2
    injection y2 with y2
    subst y2
    exact h.di K j _ v g e1 hK hj rfl x
   ·rw [if_neg e2] at hl; exact h.di j l v v' p hjl hj hl
end
end Go.Proofs.YthpjmhhfcechmaaGreat.Sy
