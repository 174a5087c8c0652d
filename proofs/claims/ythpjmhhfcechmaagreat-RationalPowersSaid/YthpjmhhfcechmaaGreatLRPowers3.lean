/- Parts Sya, Syb, B5, Shelf, B6, Md, B7, B8, B9, Me, Mf, C1, C2, C3, C4, C5, C6, C7, C8, C9, Ca, Mg, Cb, Cd, Mh, Ce, B0, Mi, in one file. -/
import Derived.Tactics2
import Derived.Scope
import Derived.Shelf.Small.Bits
import Derived.Shelf.Small.Strs
import Derived.Shelf.Strings.Search1
import Derived.Shelf.Strings.Search2
import Derived.Shelf.Strings.Cut
import Derived.Shelf.LaysM
import Derived.Shelf.Strings.Shaped
import Derived.Shelf.Strings.Prefix
import Derived.Test.YthpjmhhfcechmaaGreatProg
import Derived.Shelf.Spec.SlicesGrow
import Derived.OpenShut
import Derived.WalkSmall
import Derived.IntWalk
import Derived.Deep.CutRange
import Derived.Deep.DeepCutAuto
import Derived.Lib.ItoaNum
import Derived.Lib.Tables
import Derived.Deep.AppendLies
import Derived.Deep.RegionLaw
import Derived.BigRegion
import Derived.Test.YthpjmhhfcechmaaGreatLRPowers1
import Derived.Test.YthpjmhhfcechmaaGreatLRPowers2
/- Words for a walk by rules: what is known of a frame's slots, boxes of the call's own; what the operations of a statement in the order of the text do. -/
set_option linter.unusedVariables false
set_option linter.unusedSimpArgs false
namespace Go.Proofs.YthpjmhhfcechmaaGreat.Sy
open Go Go.RowKit

abbrev Know := Rg.Know
abbrev ptr (p : Nat) : Value := .pointer (some ⟨p, 0, none⟩)
/-! ### Boxes -/
structure BT where
 T : TypeId
 sh : Value → List Value → Prop
def Holds (b : BT) (p : Nat) (v : Value) (W : World) : Prop := ∃ cs, b.sh v cs ∧ ∀ i x, cs[i]? = some x → W.cell? ⟨p, i, none⟩ = some x ∧ W.frozen? ⟨p, i, none⟩ = false
structure Only (p : Nat) (W W' : World) : Prop where
 gr : W.grownBy W' (some p)
 nu : IntK W W'
 sz : W'.heap.size = W.heap.size
structure BT.Ok (b : BT) : Prop where
 ne : ∀ v cs, b.sh v cs → cs ≠ []
 load : ∀ v cs W p, b.sh v cs → (∀ i x, cs[i]? = some x → W.cell? ⟨p, i, none⟩ = some x) → (Instr.loadAt b.T (ptr p)).run Tryz.prog W = .ok v W
 store : ∀ v v' cs' W p, Holds b p v W → b.sh v' cs' → ∃ W', (Instr.storeAt b.T (ptr p) v').run Tryz.prog W = .ok () W' ∧ Holds b p v' W' ∧ Only p W W'
 alloc : ∃ o z cs, b.sh z cs ∧ ∀ W, (Instr.alloc b.T true (.tuple #[])).run Tryz.prog W = .ok (ptr W.heap.size) (W.alloc o) ∧ (∀ i x, cs[i]? = some x → (W.alloc o).cell? ⟨W.heap.size, i, none⟩ = some x ∧ (W.alloc o).frozen? ⟨W.heap.size, i, none⟩ = false)
 box : ∀ v cs, b.sh v cs → ∃ o, ∀ W, (Instr.box b.T v).run Tryz.prog W = .ok (ptr W.heap.size) (W.alloc o) ∧ (∀ i x, cs[i]? = some x → (W.alloc o).cell? ⟨W.heap.size, i, none⟩ = some x ∧ (W.alloc o).frozen? ⟨W.heap.size, i, none⟩ = false)
theorem Holds.lt {b : BT} (hb : b.Ok) {p : Nat} {v : Value} {W : World} (h : Holds b p v W) : p < W.heap.size := by
 obtain ⟨cs, hs, hc⟩ := h
 cases cs with
 | nil => exact absurd rfl (hb.ne _ _ hs)
 | cons x l => exact World.block_lt_of_cell? W ⟨p, 0, none⟩ (hc 0 x rfl).1
theorem Holds.same {b : BT} {p : Nat} {v : Value} {W W' : World} (h : Holds b p v W) (e : W'.heap[p]? = W.heap[p]?) : Holds b p v W' := by
 obtain ⟨cs, hs, hc⟩ := h
 refine ⟨cs, hs, fun i x hx => ?_⟩
 obtain ⟨a, c⟩ := hc i x hx
 exact ⟨(World.cell?_of_block (a := ⟨p, i, none⟩) e).trans a, (World.frozen?_of_block (a := ⟨p, i, none⟩) e).trans c⟩
theorem Holds.nw {b : BT} (hb : b.Ok) {p : Nat} {v : Value} {W W' : World} (h : Holds b p v W) (k : Nw W W') : Holds b p v W' := h.same (Below.block k p (h.lt hb))
theorem Holds.off {b : BT} (hb : b.Ok) {p q : Nat} {v : Value} {W W' : World} (h : Holds b p v W) (k : Only q W W') (hne : p ≠ q) : Holds b p v W' :=
 h.same (k.gr.block p (h.lt hb) (fun e => hne (by injection e)))
/-! ### Rows of the call's own -/
def OwF (w : World) (base : Nat) (e : TypeId) (f : Int → Value) (v : Value) (xs : List Int) : Prop := w.ownsRow base e 1 v xs.length (xs.map f)
section
variable {w : World} {b0 : Nat} {e : TypeId} {f : Int → Value} {v : Value} {zs : List Int}
theorem OwF.kept {w' : World} (h : OwF w b0 e f v zs) (hb : Below w.heap.size w w') : OwF w' b0 e f v zs :=
 World.ownsRow.kept h (row := none) ⟨hb.os, hb.tape, hb.output, hb.size, fun i hi _ => hb.block i hi⟩ (by cases v.ownBlock <;> simp)
theorem OwF.off {w' : World} {q : Nat} (h : OwF w b0 e f v zs) (hg : w.grownBy w' (some q)) (hne : v.ownBlock ≠ some q) : OwF w' b0 e f v zs := World.ownsRow.kept h hg (.inr hne)
theorem OwF.base (h : OwF w b0 e f v zs) : ∀ g, v.ownBlock = some g → b0 ≤ g := fun g hg => (World.ownsRow.lt h g hg).1
theorem OwF.len {A : Option Addr} {n c : Nat} (h : OwF w b0 e f (.slice A n c) zs) : n = zs.length := by
 obtain ⟨_, h1 | ⟨g, cap, cur, hv, _⟩⟩ := h
 ·obtain ⟨e1, e2⟩ := h1
  injection e1 with _ e1 _
  rw [e1]; exact e2.symm
 ·injection hv with _ e1 _
theorem OwF.cellAt {g n c i : Nat} (h : OwF w b0 e f (.slice (some ⟨g, 0, none⟩) n c) zs) (hi : i < zs.length) : w.cell? ⟨g, i, none⟩ = some (f (Ma.at0 zs i)) := by
 have hn := h.len
 subst hn
 rw [World.ownsRow.cellAt h i (by omega), List.getElem?_map, List.getElem?_eq_getElem hi, Ma.at0_of_lt hi]
 rfl
theorem OwF.frozenAt {g n c : Nat} (h : OwF w b0 e f (.slice (some ⟨g, 0, none⟩) n c) zs) (i : Nat) : w.frozen? ⟨g, i, none⟩ = false := by
 have hn := h.len
 subst hn
 exact World.ownsRow.frozenAt h i
theorem OwF.set {g n c : Nat} (h : OwF w b0 e f (.slice (some ⟨g, 0, none⟩) n c) zs) (i : Nat) (x : Int) : OwF (w.setCell ⟨g, i, none⟩ (f x)) b0 e f (.slice (some ⟨g, 0, none⟩) n c) (zs.set i x) := by
 have hn := h.len
 subst hn
 have := World.ownsRow.stored h i (f x)
 unfold OwF
 rw [List.length_set, List.map_set]
 exact this.1
theorem OwF.ge {g n c : Nat} (h : OwF w b0 e f (.slice (some ⟨g, 0, none⟩) n c) zs) : b0 ≤ g := h.base g rfl
theorem OwF.grew {g n c : Nat} (h : OwF w b0 e f (.slice (some ⟨g, 0, none⟩) n c) zs) (i : Nat) (x : Value) : w.grownBy (w.setCell ⟨g, i, none⟩ x) (some g) := by
 have hn := h.len
 subst hn
 exact (World.ownsRow.stored h i x).2
theorem OwF.weaken {b' : Nat} (h : OwF w b0 e f v zs) (hb : b' ≤ b0) : OwF w b' e f v zs :=
 ⟨h.1, h.2.imp id fun ⟨g', cap, cur, h1, h2, h3⟩ => ⟨g', cap, cur, h1, Nat.le_trans hb h2, h3⟩⟩
theorem OwF.form (h : OwF w b0 e f v zs) : (v = .slice none 0 0 ∧ zs = []) ∨ ∃ g c, v = .slice (some ⟨g, 0, none⟩) zs.length c ∧ zs.length ≤ c := by
 obtain ⟨_, h1 | ⟨g, cap, cur, hv, hb, hg, hc, hm, _, _⟩⟩ := h
 ·exact .inl ⟨h1.1, List.eq_nil_of_length_eq_zero h1.2⟩
 ·exact .inr ⟨g, cap, hv, hc⟩
end
/-! ### Frames -/
inductive AV
 | vl (v : Value)
 | kw (k : Know)
 | bx (b : BT) (k : Know)
 | nb (b : BT)
 | bp (b : BT) (p : Nat) (k : Know)
 | ro (v : Value) (e : TypeId) (f : Int → Value) (zs : List Int)
 | rx (e : TypeId) (f : Int → Value) (p : List Int → Prop)
 | bc (b : BT) (p : Nat) (v : Value)
 | rs (v : Value) (e : TypeId) (s n : Nat) (R : List Value → World → Prop)
 | rz (e : TypeId) (s n : Nat) (R : List Value → World → Prop)
def AV.isBx : AV → Bool
 | .vl _ => false
 | .kw _ => false
 | _ => true
def AV.of : AV → Know
 | .vl v => KV v
 | .kw k => k
 | _ => fun _ _ => False
def blk0 : Value → Option Nat
 | .pointer (some ⟨p, 0, none⟩) => some p
 | _ => none
def AV.blk : AV → Value → Option Nat
 | .bx _ _, u => blk0 u
 | .nb _, u => blk0 u
 | .bp _ p _, _ => some p
 | .ro v _ _ _, _ => v.ownBlock
 | .rx _ _ _, u => u.ownBlock
 | .bc _ p _, _ => some p
 | .rs v _ _ _ _, _ => v.ownBlock
 | .rz _ _ _ _, u => u.ownBlock
 | _, _ => none
theorem AV.blk_no {v : AV} (h : v.isBx = false) (u : Value) : v.blk u = none := by cases v <;> first | rfl | cases h
def look : List (Nat × AV) → Nat → Option AV
 | [], _ => none
 | (j, v) :: l, i => match Nat.beq j i with
  | true => some v
  | false => look l i
def Ho (B : Nat) : AV → Value → World → Prop
 | .vl v, u, _ => u = v
 | .kw k, u, W => k u W ∧ St k
 | .bx b k, u, W => ∃ p v, u = ptr p ∧ B ≤ p ∧ Holds b p v W ∧ k v W ∧ St k ∧ b.Ok
 | .nb b, u, W => ∃ p v, u = ptr p ∧ B ≤ p ∧ Holds b p v W ∧ b.Ok
 | .bp b p k, u, W => ∃ v, u = ptr p ∧ B ≤ p ∧ Holds b p v W ∧ k v W ∧ St k ∧ b.Ok
 | .ro v e f zs, _, W => OwF W B e f v zs
 | .rx e f p, u, W => ∃ zs, OwF W B e f u zs ∧ p zs
 | .bc b p v, u, W => u = ptr p ∧ Holds b p v W ∧ b.Ok
 | .rs v e s n R, _, W => OwS W B e s v n R
 | .rz e s n R, u, W => OwS W B e s u n R
theorem Ho.of {B : Nat} {v : AV} (hv : v.isBx = false) {u : Value} {W : World} (h : Ho B v u W) : v.of u W ∧ St v.of := by
 cases v with
 | vl v => exact ⟨h, KV.st v⟩
 | kw k => exact h
 | _ => cases hv
theorem Ho.mk {B : Nat} {v : AV} (hv : v.isBx = false) {u : Value} {W : World} (h : v.of u W) (hs : St v.of) : Ho B v u W := by
 cases v with
 | vl v => exact h
 | kw k => exact ⟨h, hs⟩
 | _ => cases hv
theorem Ho.nw {B : Nat} {v : AV} {u : Value} {W W' : World} (h : Ho B v u W) (k : Nw W W') : Ho B v u W' := by
 cases v with
 | vl v => exact h
 | kw kk => exact ⟨h.2 _ _ _ k.kept h.1, h.2⟩
 | bx b kk =>
  obtain ⟨p, x, e, hp, hh, hk, hs, ok⟩ := h
  exact ⟨p, x, e, hp, hh.nw ok k, hs _ _ _ k.kept hk, hs, ok⟩
 | nb b =>
  obtain ⟨p, x, e, hp, hh, ok⟩ := h
  exact ⟨p, x, e, hp, hh.nw ok k, ok⟩
 | bp b p kk =>
  obtain ⟨x, e, hp, hh, hk, hs, ok⟩ := h
  exact ⟨x, e, hp, hh.nw ok k, hs _ _ _ k.kept hk, hs, ok⟩
 | ro v e f zs => exact OwF.kept h k
 | rx e f p => obtain ⟨zs, h1, h2⟩ := h; exact ⟨zs, OwF.kept h1 k, h2⟩
 | bc b p v => obtain ⟨e, hh, ok⟩ := h; exact ⟨e, hh.nw ok k, ok⟩
 | rs v e s n R => exact OwS.kept h k
 | rz e s n R => exact OwS.kept h k
theorem Ho.off {B : Nat} {v : AV} {u : Value} {W W' : World} {q : Nat} (h : Ho B v u W) (k : Only q W W') (hne : v.blk u ≠ some q) : Ho B v u W' := by
 cases v with
 | vl v => exact h
 | kw kk => exact ⟨h.2 _ _ _ k.nu h.1, h.2⟩
 | bx b kk =>
  obtain ⟨p, x, e, hp, hh, hk, hs, ok⟩ := h
  subst e
  exact ⟨p, x, rfl, hp, hh.off ok k (fun e2 => hne (by rw [e2]; rfl)), hs _ _ _ k.nu hk, hs, ok⟩
 | nb b =>
  obtain ⟨p, x, e, hp, hh, ok⟩ := h
  subst e
  exact ⟨p, x, rfl, hp, hh.off ok k (fun e2 => hne (by rw [e2]; rfl)), ok⟩
 | bp b p kk =>
  obtain ⟨x, e, hp, hh, hk, hs, ok⟩ := h
  exact ⟨x, e, hp, hh.off ok k (fun e2 => hne (by rw [e2]; rfl)), hs _ _ _ k.nu hk, hs, ok⟩
 | ro v e f zs => exact OwF.off h k.gr hne
 | rx e f p => obtain ⟨zs, h1, h2⟩ := h; exact ⟨zs, OwF.off h1 k.gr hne, h2⟩
 | bc b p v => obtain ⟨e, hh, ok⟩ := h; exact ⟨e, hh.off ok k (fun e2 => hne (by rw [e2]; rfl)), ok⟩
 | rs v e s n R => exact OwS.off h k.gr k.nu hne
 | rz e s n R => exact OwS.off h k.gr k.nu hne
theorem Ho.blk {B : Nat} {v : AV} {u : Value} {W : World} {p : Nat} (h : Ho B v u W) (e : v.blk u = some p) : p < W.heap.size := by
 cases v with
 | vl v => cases e
 | kw k => cases e
 | bx b k =>
  obtain ⟨q, x, e2, hp, hh, _, _, ok⟩ := h
  subst e2
  injection e with e
  subst e
  exact hh.lt ok
 | nb b =>
  obtain ⟨q, x, e2, hp, hh, ok⟩ := h
  subst e2
  injection e with e
  subst e
  exact hh.lt ok
 | bp b q k =>
  obtain ⟨x, _, hp, hh, _, _, ok⟩ := h
  injection e with e
  subst e
  exact hh.lt ok
 | ro v e2 f zs => exact (World.ownsRow.lt h p e).2
 | rx e2 f pp => obtain ⟨zs, h1, h2⟩ := h; exact (World.ownsRow.lt h1 p e).2
 | bc b q x =>
  obtain ⟨_, hh, ok⟩ := h
  injection e with e
  subst e
  exact hh.lt ok
 | rs v e2 s n R => exact NoI.lt h.2.1 e
 | rz e2 s n R => exact NoI.lt h.2.1 e
structure Fr (B N : Nat) (w0 : World) (fr : List (Nat × AV)) (a : Act) (W : World) : Prop where
 df : a.defers = []
 sz : a.tmps.size = N
 be : Below B w0 W
 bs : B ≤ W.heap.size
 ho : ∀ i v, look fr i = some v → Ho B v (a.tmps.getD i undef) W
 di : ∀ i j v v' p, i ≠ j → look fr i = some v → look fr j = some v' → v.blk (a.tmps.getD i undef) = some p → v'.blk (a.tmps.getD j undef) ≠ some p
section
variable {B N : Nat} {w0 : World} {fr : List (Nat × AV)} {a : Act} {W : World}
theorem Fr.nw {W' : World} (h : Fr B N w0 fr a W) (k : Nw W W') : Fr B N w0 fr a W' :=
 ⟨h.df, h.sz, h.be.trans (Below.mono k h.bs), Nat.le_trans h.bs k.size, fun i v hi => (h.ho i v hi).nw k, h.di⟩
theorem getD_put {a : Act} {d i : Nat} {u : Value} (hd : d < a.tmps.size) : (a.put (some d) u).tmps.getD i undef = if d = i then u else a.tmps.getD i undef := by
 show (a.tmps.setIfInBounds d u).getD i undef = _
 simp only [Array.getD_eq_getD_getElem?, Array.getElem?_setIfInBounds]
 by_cases e : d = i
 ·subst e; simp [hd]
 ·simp [e]
theorem look_cons (j : Nat) (v : AV) (l : List (Nat × AV)) (i : Nat) : look ((j, v) :: l) i = if j = i then some v else look l i := by
 show (match Nat.beq j i with | true => some v | false => look l i) = _
 by_cases e : j = i
 ·subst e; simp
 ·have : Nat.beq j i = false := by rw [← Bool.not_eq_true]; exact fun h => e (Nat.eq_of_beq_eq_true h)
  rw [this, if_neg e]
theorem Fr.put {d : Nat} {u : Value} {v : AV} (h : Fr B N w0 fr a W) (hd : Nat.blt d N = true) (hu : Ho B v u W) (hn : ∀ i v' p, look fr i = some v' → v.blk u = some p → v'.blk (a.tmps.getD i undef) ≠ some p) : Fr B N w0 ((d, v) :: fr) (a.put (some d) u) W := by
 have hd' : d < a.tmps.size := by rw [h.sz]; simpa [Nat.blt_eq] using hd
 refine ⟨h.df, by show (a.tmps.setIfInBounds d u).size = N; rw [Array.size_setIfInBounds]; exact h.sz, h.be, h.bs, fun i x hi => ?_, fun i j b b' p hij hi hj => ?_⟩
 ·rw [look_cons] at hi
  rw [getD_put hd']
  by_cases e : d = i
  ·rw [if_pos e] at hi ⊢; injection hi with hi; subst hi; exact hu
  ·rw [if_neg e] at hi ⊢; exact h.ho i x hi
 ·rw [look_cons] at hi hj
  rw [getD_put hd', getD_put hd']
  by_cases e : d = i
  ·rw [if_pos e] at hi ⊢
   injection hi with hi
   subst hi
   have e' : d ≠ j := fun x => hij (e.symm.trans x)
   rw [if_neg e'] at hj ⊢
   intro x
   exact hn j b' p hj x
  ·rw [if_neg e] at hi ⊢
   by_cases e' : d = j
   ·rw [if_pos e'] at hj ⊢
    injection hj with hj
    subst hj
    intro x y
    exact hn i b p hi y x
   ·rw [if_neg e'] at hj ⊢; exact h.di i j b b' p hij hi hj
theorem Fr.set {d : Nat} {u : Value} {v : AV} (h : Fr B N w0 fr a W) (hd : Nat.blt d N = true) (hu : Ho B v u W) (hv : v.isBx = false) : Fr B N w0 ((d, v) :: fr) (a.put (some d) u) W :=
 h.put hd hu fun _ _ p _ e => by rw [AV.blk_no hv] at e; cases e
theorem Fr.fresh {d p : Nat} {v : AV} {W' : World} (h : Fr B N w0 fr a W) (hn : Nw W W') (hd : Nat.blt d N = true) (hp : W.heap.size ≤ p) (hv : v.blk (ptr p) = some p) (hu : Ho B v (ptr p) W') : Fr B N w0 ((d, v) :: fr) (a.put (some d) (ptr p)) W' := by
 refine (h.nw hn).put hd hu fun i v' q hi e e2 => ?_
 rw [hv] at e
 injection e with e
 have := (h.ho i _ hi).blk e2
 omega
theorem Fr.more {i : Nat} {v : AV} (h : Fr B N w0 fr a W) (hu : Ho B v (a.tmps.getD i undef) W) (hn : ∀ j v' p, look fr j = some v' → v.blk (a.tmps.getD i undef) = some p → v'.blk (a.tmps.getD j undef) ≠ some p) : Fr B N w0 ((i, v) :: fr) a W := by
 refine ⟨h.df, h.sz, h.be, h.bs, fun j x hj => ?_, fun j l b b' p hjl hj hl => ?_⟩
 ·rw [look_cons] at hj
  by_cases e : i = j
  ·rw [if_pos e] at hj; injection hj with hj; subst hj; subst e; exact hu
  ·rw [if_neg e] at hj; exact h.ho j x hj
 ·rw [look_cons] at hj hl
  by_cases e : i = j
  ·have e' : i ≠ l := fun x => hjl (e.symm.trans x)
   rw [if_pos e] at hj
   rw [if_neg e'] at hl
   injection hj with hj
   subst hj e
   exact fun x => hn l b' p hl x
  ·rw [if_neg e] at hj
   by_cases e' : i = l
   ·rw [if_pos e'] at hl
    injection hl with hl
    subst hl e'
    exact fun x y => hn j b p hj y x
   ·rw [if_neg e'] at hl; exact h.di j l b b' p hjl hj hl
theorem Fr.know {i : Nat} {v : AV} (h : Fr B N w0 fr a W) (hv : v.isBx = false) (hu : Ho B v (a.tmps.getD i undef) W) : Fr B N w0 ((i, v) :: fr) a W :=
 h.more hu fun _ _ p _ e => by rw [AV.blk_no hv] at e; cases e
theorem Fr.stored {s q : Nat} {v : AV} {b : BT} {k' : Know} {v' : Value} {W' : World} (h : Fr B N w0 fr a W) (hs : look fr s = some v) (hq : a.tmps.getD s undef = ptr q) (hB : B ≤ q) (hvq : v.blk (ptr q) = some q) (ok : b.Ok) (ho : Only q W W') (hh : Holds b q v' W') (hk : k' v' W') (hst : St k') : Fr B N w0 ((s, .bx b k') :: fr) a W' := by
 refine ⟨h.df, h.sz, ?_, by rw [ho.sz]; exact h.bs, fun j y hj => ?_, fun j l y y' p hjl hj hl => ?_⟩
 ·exact Below.grown h.be ho.gr h.bs (fun k e => by injection e with e; omega)
 ·rw [look_cons] at hj
  by_cases e' : s = j
  ·rw [if_pos e'] at hj; injection hj with hj; subst hj; subst e'; exact ⟨q, v', hq, hB, hh, hk, hst, ok⟩
  ·rw [if_neg e'] at hj
   exact (h.ho j y hj).off ho (h.di s j v y q e' hs hj (by rw [hq]; exact hvq))
 ·rw [look_cons] at hj hl
  by_cases e1 : s = j
  ·have e2 : s ≠ l := fun x => hjl (e1.symm.trans x)
   rw [if_pos e1] at hj
   rw [if_neg e2] at hl
   injection hj with hj
   subst hj e1
   intro x
   have x' : some q = some p := by rw [← x, hq]; rfl
   injection x' with x'
   subst x'
   exact h.di s l v y' q e2 hs hl (by rw [hq]; exact hvq)
  ·rw [if_neg e1] at hj
   by_cases e2 : s = l
   ·rw [if_pos e2] at hl
    injection hl with hl
    subst hl e2
    intro x y2
    have x' : some q = some p := by rw [← y2, hq]; rfl
    injection x' with x'
    subst x'
    exact h.di s j v y q e1 hs hj (by rw [hq]; exact hvq) x
   ·rw [if_neg e2] at hl; exact h.di j l y y' p hjl hj hl
end

/-! ### Operands -/
def opv (fr : List (Nat × AV)) : Operand → Option AV
 | .tmp t => match look fr t with
  | some (.vl v) => some (.vl v)
  | some (.kw k) => some (.kw k)
  | _ => none
 | .const v => some (.vl v)
 | .func f => some (.vl (.func (.func f) #[] #[]))
 | .global g => some (.vl (ptr g))
theorem opv_spec {B N : Nat} {w0 : World} {fr : List (Nat × AV)} {a : Act} {W : World} (h : Fr B N w0 fr a W) {x : Operand} {v : AV} (hx : opv fr x = some v) : Ho B v (a.eval x) W ∧ v.isBx = false := by
 cases x with
 | tmp t =>
  simp only [opv] at hx
  cases hl : look fr t with
  | none => rw [hl] at hx; cases hx
  | some r =>
   rw [hl] at hx
   cases r with
   | vl x => injection hx with hx; subst hx; exact ⟨h.ho t _ hl, rfl⟩
   | kw x => injection hx with hx; subst hx; exact ⟨h.ho t _ hl, rfl⟩
   | _ => cases hx
 | const v' => injection hx with hx; subst hx; exact ⟨rfl, rfl⟩
 | func f => injection hx with hx; subst hx; exact ⟨rfl, rfl⟩
 | global g => injection hx with hx; subst hx; exact ⟨rfl, rfl⟩
theorem opv_vl {B N : Nat} {w0 : World} {fr : List (Nat × AV)} {a : Act} {W : World} (h : Fr B N w0 fr a W) {x : Operand} {v : Value} (hx : opv fr x = some (.vl v)) : a.eval x = v := (opv_spec h hx).1
def All : List Know → List Value → World → Prop
 | [], [], _ => True
 | k :: ks, u :: us, W => k u W ∧ All ks us W
 | _, _, _ => False
def opks (fr : List (Nat × AV)) : List Operand → Option (List Know)
 | [] => some []
 | x :: xs => match opv fr x with
  | none => none
  | some v => match opks fr xs with
   | none => none
   | some ks => some (v.of :: ks)
theorem opks_spec {B N : Nat} {w0 : World} {fr : List (Nat × AV)} {a : Act} {W : World} (h : Fr B N w0 fr a W) : ∀ {xs : List Operand} {ks : List Know}, opks fr xs = some ks → All ks (xs.map a.eval) W
 | [], ks, e => by injection e with e; subst e; trivial
 | x :: xs, ks, e => by
  unfold opks at e
  split at e
  ·cases e
  ·rename_i v hv
   split at e
   ·cases e
   ·rename_i ks' hk
    injection e with e
    subst e
    obtain ⟨h1, h2⟩ := opv_spec h hv
    exact ⟨(h1.of h2).1, opks_spec h hk⟩
def wantB (ops : Array Oper) (fr : List (Nat × AV)) (o : Oper) : Option Bool := match o.guard with
 | none => some true
 | some (j, b) => match (ops[j]?).bind (·.dst) with
  | none => some false
  | some d => match look fr d with
   | some (.vl (.bool c)) => some (c == b)
   | some (.vl (.tuple _)) => some false
   | _ => none
theorem wantB_ex {ops : Array Oper} {fr : List (Nat × AV)} {o : Oper} {a : Act} (h : ∀ s v, look fr s = some (.vl v) → a.tmps.getD s undef = v) {b : Bool} (hw : wantB ops fr o = some b) : Region.wanted o (yielded ops a.tmps) = b := by
 unfold wantB at hw
 unfold Region.wanted
 split at hw
 ·rename_i hg; rw [hg]; injection hw
 ·rename_i j c hg
  rw [hg]
  split at hw
  ·rename_i hd
   injection hw with hw
   subst hw
   simp only [yielded, hd, Option.bind_none]
   rfl
  ·rename_i d hd
   have key : ∀ v, look fr d = some (.vl v) → yielded ops a.tmps j = (match (some v : Option Value) with | some (.bool b) => some b | _ => none) ∨ (yielded ops a.tmps j = none ∧ v = undef) := by
    intro v hv
    have e : a.tmps.getD d undef = v := h d v hv
    simp only [Array.getD_eq_getD_getElem?] at e
    simp only [yielded, hd, Option.bind_some]
    cases hq : a.tmps[d]? with
    | none => rw [hq] at e; exact .inr ⟨rfl, by simpa using e.symm⟩
    | some x => rw [hq] at e; simp only [Option.getD_some] at e; subst e; exact .inl rfl
   split at hw
   ·rename_i c' hl
    injection hw with hw
    subst hw
    rcases key _ hl with e | ⟨_, e⟩
    ·simp only [e]; rfl
    ·unfold undef at e; cases e
   ·rename_i xs hl
    injection hw with hw
    subst hw
    rcases key _ hl with e | ⟨e, _⟩
    ·simp only [e]; rfl
    ·simp only [e]; rfl
   ·cases hw
theorem Fr.ex {B N : Nat} {w0 : World} {fr : List (Nat × AV)} {a : Act} {W : World} (h : Fr B N w0 fr a W) : ∀ s v, look fr s = some (.vl v) → a.tmps.getD s undef = v := fun s v e => h.ho s _ e
theorem wantB_spec {B N : Nat} {w0 : World} {ops : Array Oper} {fr : List (Nat × AV)} {o : Oper} {a : Act} {W : World} (h : Fr B N w0 fr a W) {b : Bool} (hw : wantB ops fr o = some b) : Region.wanted o (yielded ops a.tmps) = b := wantB_ex h.ex hw
end Go.Proofs.YthpjmhhfcechmaaGreat.Sy
/- A walk by rules: statements in the order of the text, and how they follow one another. -/
namespace Go.Proofs.YthpjmhhfcechmaaGreat.Sy
open Go Go.RowKit
section
variable {B N : Nat} {w0 : World} {ops : Array Oper} {o : Oper} {rest : List Oper} {fr : List (Nat × AV)} {Q : Exit → Act → World → Prop} {d : Nat}

def PW (B N : Nat) (w0 : World) (ops : Array Oper) (rest : List Oper) (fr : List (Nat × AV)) (Q : Exit → Act → World → Prop) : Prop := ∀ a W, Fr B N w0 fr a W → wpList Tryz.prog ops Q rest a W
def SC (B N : Nat) (w0 : World) (c : Code) (fr : List (Nat × AV)) (Q : Exit → Act → World → Prop) : Prop := ∀ a W, Fr B N w0 fr a W → c.wp Tryz.prog Q a W
def SX (B N : Nat) (w0 : World) (e : Exit) (fr : List (Nat × AV)) (Q : Exit → Act → World → Prop) : Prop := ∀ a W, Fr B N w0 fr a W → Q e a W
theorem PW.nil (h : SX B N w0 .normal fr Q) : PW B N w0 ops [] fr Q := fun a W hf => wpList_nil (h a W hf)
theorem PW.step (hw : wantB ops fr o = some true) (h : ∀ a W, Fr B N w0 fr a W → ∀ K : Act → World → Prop, (∀ a W, wpList Tryz.prog ops Q rest a W → K a W) → o.wp Tryz.prog a W K Q) : PW B N w0 ops (o :: rest) fr Q :=
 fun a W hf => wpList_step fun K hK => by rw [if_pos (wantB_spec hf hw)]; exact h a W hf K hK
theorem PW.val {r : AV} (hw : wantB ops fr o = some true) (hd : o.dst = some d) (hN : Nat.blt d N = true) (hr : r.isBx = false)
  (h : ∀ a W, Fr B N w0 fr a W → ∃ u, (execOp a.eval o).run Tryz.prog W = .ok (.value u) W ∧ Ho B r u W) (hk : PW B N w0 ops rest ((d, r) :: fr) Q) : PW B N w0 ops (o :: rest) fr Q :=
 PW.step hw fun a W hf K hK => by
  obtain ⟨u, e, hu⟩ := h a W hf
  unfold Oper.wp
  rw [e, Oper.upon_value, hd]
  exact hK _ _ (hk _ _ (hf.set hN hu hr))
theorem PW.skip (hw : wantB ops fr o = some false) (hd : o.dst = some d) (hN : Nat.blt d N = true) (hk : PW B N w0 ops rest ((d, .vl undef) :: fr) Q) : PW B N w0 ops (o :: rest) fr Q :=
 fun a W hf => wpList_skip (wantB_spec hf hw) (by rw [hd]; exact hk _ _ (hf.set hN rfl rfl))
theorem PW.move {x : Operand} {r : AV} (hw : wantB ops fr o = some true) (hd : o.dst = some d) (hN : Nat.blt d N = true) (ho : o.op = .move x) (hx : opv fr x = some r) (hk : PW B N w0 ops rest ((d, r) :: fr) Q) : PW B N w0 ops (o :: rest) fr Q :=
 PW.step hw fun a W hf K hK => by
  obtain ⟨h1, h2⟩ := opv_spec hf hx
  have e : (execOp a.eval o).run Tryz.prog W = .ok (.value (a.eval x)) W := by unfold execOp; rw [ho]; rfl
  unfold Oper.wp
  rw [e, Oper.upon_value, hd]
  exact hK _ _ (hk _ _ (hf.set hN h1 h2))
theorem PW.assign {x : Operand} {r : AV} (hw : wantB ops fr o = some true) (hd : o.dst = some d) (hN : Nat.blt d N = true) (ho : o.op = .assign x) (hx : opv fr x = some r) (hk : PW B N w0 ops rest ((d, r) :: fr) Q) : PW B N w0 ops (o :: rest) fr Q :=
 PW.step hw fun a W hf K hK => by
  obtain ⟨h1, h2⟩ := opv_spec hf hx
  have e : (execOp a.eval o).run Tryz.prog W = .ok (.value (a.eval x)) W := by unfold execOp; rw [ho]; rfl
  unfold Oper.wp
  rw [e, Oper.upon_value, hd]
  exact hK _ _ (hk _ _ (hf.set hN h1 h2))
theorem run_val {s : Sem Value} {W W' : World} {v : Value} (h : s.run Tryz.prog W = .ok v W') : (do pure (.value (← s)) : Sem Next).run Tryz.prog W = .ok (.value v) W' := by
 simp [h, go_sem]
theorem run_skip {s : Sem Unit} {W W' : World} (h : s.run Tryz.prog W = .ok () W') : (do s; pure .skip : Sem Next).run Tryz.prog W = .ok .skip W' := by
 simp [h, go_sem]
theorem PW.load {T : TypeId} {s : Nat} {b : BT} {k : Know} (hw : wantB ops fr o = some true) (hd : o.dst = some d) (hN : Nat.blt d N = true) (ho : o.op = .load T (.tmp s)) (hs : look fr s = some (.bx b k)) (hT : b.T = T) (hk : PW B N w0 ops rest ((d, .kw k) :: fr) Q) : PW B N w0 ops (o :: rest) fr Q :=
 PW.val hw hd hN rfl (fun a W hf => by
  obtain ⟨p, v, e, _, ⟨cs, hs1, hc⟩, hv, st, ok⟩ := hf.ho s _ hs
  refine ⟨v, ?_, hv, st⟩
  have := run_val (ok.load v cs W p hs1 fun i x hx => (hc i x hx).1)
  unfold execOp
  rw [ho]
  show (do pure (.value (← Instr.loadAt T (a.tmps.getD s undef))) : Sem Next).run Tryz.prog W = _
  rw [e, ← hT]
  exact this) hk
def Ex (k : Know) (i : Nat) (r : AV) : Prop := ∀ u W, k u W → ∃ vs v, u = .tuple vs ∧ vs[i]? = some v ∧ r.of v W
theorem ex20 {k1 k2 : Know} : Ex (K2 k1 k2) 0 (.kw k1) := fun u W ⟨v1, v2, e, h1, h2⟩ => ⟨_, v1, e, rfl, h1⟩
theorem ex21 {k1 k2 : Know} : Ex (K2 k1 k2) 1 (.kw k2) := fun u W ⟨v1, v2, e, h1, h2⟩ => ⟨_, v2, e, rfl, h2⟩
theorem ex20v {v : Value} {k2 : Know} : Ex (K2 (KV v) k2) 0 (.vl v) := fun u W ⟨v1, v2, e, h1, h2⟩ => ⟨_, v1, e, rfl, h1⟩
theorem ex21v {v : Value} {k1 : Know} : Ex (K2 k1 (KV v)) 1 (.vl v) := fun u W ⟨v1, v2, e, h1, h2⟩ => ⟨_, v2, e, rfl, h2⟩
theorem ex30 {k1 k2 k3 : Know} : Ex (K3 k1 k2 k3) 0 (.kw k1) := fun u W ⟨v1, v2, v3, e, h1, h2, h3⟩ => ⟨_, v1, e, rfl, h1⟩
theorem ex31 {k1 k2 k3 : Know} : Ex (K3 k1 k2 k3) 1 (.kw k2) := fun u W ⟨v1, v2, v3, e, h1, h2, h3⟩ => ⟨_, v2, e, rfl, h2⟩
theorem ex32v {v : Value} {k1 k2 : Know} : Ex (K3 k1 k2 (KV v)) 2 (.vl v) := fun u W ⟨v1, v2, v3, e, h1, h2, h3⟩ => ⟨_, v3, e, rfl, h3⟩
theorem ex30v {v : Value} {k2 k3 : Know} : Ex (K3 (KV v) k2 k3) 0 (.vl v) := fun u W ⟨v1, v2, v3, e, h1, h2, h3⟩ => ⟨_, v1, e, rfl, h1⟩
theorem run_ext {vs : Array Value} {i : Nat} {v : Value} (h : vs[i]? = some v) (W : World) : (Instr.extract (.tuple vs) i).run Tryz.prog W = .ok v W := by
 simp [Instr.extract, h, go_sem]
theorem PW.ext {s i : Nat} {k : Know} {r : AV} (hw : wantB ops fr o = some true) (hd : o.dst = some d) (hN : Nat.blt d N = true) (ho : o.op = .extract (.tmp s) i) (hs : look fr s = some (.kw k)) (hx : Ex k i r) (hst : St r.of) (hr : r.isBx = false) (hk : PW B N w0 ops rest ((d, r) :: fr) Q) : PW B N w0 ops (o :: rest) fr Q :=
 PW.val hw hd hN hr (fun a W hf => by
  obtain ⟨hv, _⟩ := hf.ho s _ hs
  obtain ⟨vs, v, e, hi, hv'⟩ := hx _ W hv
  refine ⟨v, ?_, Ho.mk hr hv' hst⟩
  unfold execOp
  rw [ho]
  show (do pure (.value (← Instr.extract (a.tmps.getD s undef) i)) : Sem Next).run Tryz.prog W = _
  rw [e]
  exact run_val (run_ext hi W)) hk
def CE (f : FuncId) : Prop := ∀ args W, (callFunc f args).run Tryz.prog W = .ok (.enter f args) W
def CallOk (f : FuncId) (ks : List Know) (r : Know) : Prop := CE f ∧ ∀ W us, All ks us W → Calls Tryz.prog f us.toArray W (Ret W r)
theorem run_call {c : Call} {f : FuncId} (ce : CE f) (hc : c.callee = .value (.func f)) (ρ : Operand → Value) (hρ : ρ (.func f) = .func (.func f) #[] #[]) (ty : TypeId) (W : World) {dst : Option Tmp} {pos : String} {after : Array Edge} {guard : Option (Nat × Bool)} :
  (execOp ρ ⟨dst, .call c, ty, pos, after, guard⟩).run Tryz.prog W = .ok (.enter f (c.args.map ρ)) W := by
 obtain ⟨cal, args, ats⟩ := c
 simp only at hc
 subst hc
 have := ce (args.map ρ) W
 simp [execOp, resolve, hρ, go_sem, this]
theorem PW.call {c : Call} {f : FuncId} {ks : List Know} {r : AV} (hw : wantB ops fr o = some true) (hd : o.dst = some d) (hN : Nat.blt d N = true) (ho : o.op = .call c) (hc : c.callee = .value (.func f)) (ha : opks fr c.args.toList = some ks) (hst : St r.of) (hr : r.isBx = false)
  (h : CallOk f ks r.of) (hk : PW B N w0 ops rest ((d, r) :: fr) Q) : PW B N w0 ops (o :: rest) fr Q :=
 PW.step hw fun a W hf K hK => by
  obtain ⟨dst, op, ty, pos, after, guard⟩ := o
  simp only at ho hd
  subst ho
  subst hd
  unfold Oper.wp
  rw [run_call h.1 hc a.eval rfl ty W]
  simp only [Oper.upon]
  have e : (c.args.toList.map a.eval).toArray = c.args.map a.eval := by rw [← Array.toList_map]
  have := h.2 W _ (opks_spec hf ha)
  rw [e] at this
  refine this.mono fun e W' ⟨v, he, hv, hn⟩ => ?_
  subst he
  exact hK _ _ (hk _ _ ((hf.nw hn).set hN (Ho.mk hr hv hst) hr))
def KT : Know := fun _ _ => True
theorem KT.st : St KT := fun _ _ _ _ _ => trivial
theorem PW.alloc {T : TypeId} (b : BT) (hw : wantB ops fr o = some true) (hd : o.dst = some d) (hN : Nat.blt d N = true) (ho : o.op = .alloc T) (hT : b.T = T) (ok : b.Ok) (hk : PW B N w0 ops rest ((d, .nb b) :: fr) Q) : PW B N w0 ops (o :: rest) fr Q :=
 PW.step hw fun a W hf K hK => by
  obtain ⟨ob, z, cs, hz, hal⟩ := ok.alloc
  obtain ⟨h1, h2⟩ := hal W
  have e : (execOp a.eval o).run Tryz.prog W = .ok (.value (ptr W.heap.size)) (W.alloc ob) := by
   unfold execOp
   rw [ho, ← hT]
   exact run_val h1
  unfold Oper.wp
  rw [e, Oper.upon_value, hd]
  exact hK _ _ (hk _ _ (hf.fresh ((Nw.refl W).alloc ob) hN (Nat.le_refl _) rfl ⟨_, z, rfl, hf.bs, ⟨cs, hz, h2⟩, ok⟩))
theorem PW.box {T : TypeId} {x : Operand} {r : AV} (b : BT) (hw : wantB ops fr o = some true) (hd : o.dst = some d) (hN : Nat.blt d N = true) (ho : o.op = .box T x) (hT : b.T = T) (ok : b.Ok) (hx : opv fr x = some r) (hsh : ∀ v W, r.of v W → ∃ cs, b.sh v cs) (hk : PW B N w0 ops rest ((d, .bx b r.of) :: fr) Q) : PW B N w0 ops (o :: rest) fr Q :=
 PW.step hw fun a W hf K hK => by
  obtain ⟨h1, h2⟩ := opv_spec hf hx
  obtain ⟨h3, h4⟩ := h1.of h2
  obtain ⟨cs, hcs⟩ := hsh _ _ h3
  obtain ⟨ob, hbx⟩ := ok.box _ _ hcs
  obtain ⟨h5, h6⟩ := hbx W
  have e : (execOp a.eval o).run Tryz.prog W = .ok (.value (ptr W.heap.size)) (W.alloc ob) := by
   unfold execOp
   rw [ho, ← hT]
   exact run_val h5
  unfold Oper.wp
  rw [e, Oper.upon_value, hd]
  have hn := (Nw.refl W).alloc ob
  exact hK _ _ (hk _ _ (hf.fresh hn hN (Nat.le_refl _) rfl ⟨_, _, rfl, hf.bs, ⟨cs, hcs, h6⟩, h4 _ _ _ hn.kept h3, h4, ok⟩))
def bxT : AV → Option BT
 | .bx b _ => some b
 | .nb b => some b
 | _ => none
theorem Ho.bxT {B : Nat} {v : AV} {b : BT} {u : Value} {W : World} (h : Ho B v u W) (e : Sy.bxT v = some b) : ∃ p x, u = ptr p ∧ B ≤ p ∧ Holds b p x W ∧ b.Ok ∧ v.blk (ptr p) = some p := by
 cases v with
 | bx b' k =>
  injection e with e
  subst e
  obtain ⟨p, x, e2, hp, hh, _, _, ok⟩ := h
  exact ⟨p, x, e2, hp, hh, ok, rfl⟩
 | nb b' =>
  injection e with e
  subst e
  obtain ⟨p, x, e2, hp, hh, ok⟩ := h
  exact ⟨p, x, e2, hp, hh, ok, rfl⟩
 | _ => cases e
theorem bind_look {fr : List (Nat × AV)} {s : Nat} {b : BT} (h : (look fr s).bind Sy.bxT = some b) : ∃ v, look fr s = some v ∧ Sy.bxT v = some b := by
 cases hl : look fr s with
 | none => rw [hl] at h; cases h
 | some v => rw [hl] at h; exact ⟨v, rfl, h⟩
theorem PW.store {T : TypeId} {s : Nat} {x : Operand} {r : AV} {b : BT} (hw : wantB ops fr o = some true) (hd : o.dst = none) (ho : o.op = .store T (.tmp s) x) (hs : (look fr s).bind bxT = some b) (hT : b.T = T) (hx : opv fr x = some r) (hsh : ∀ v W, r.of v W → ∃ cs, b.sh v cs) (hk : PW B N w0 ops rest ((s, .bx b r.of) :: fr) Q) : PW B N w0 ops (o :: rest) fr Q :=
 PW.step hw fun a W hf K hK => by
  obtain ⟨h1, h2⟩ := opv_spec hf hx
  obtain ⟨h3, h4⟩ := h1.of h2
  obtain ⟨cs', hcs⟩ := hsh _ _ h3
  obtain ⟨y, hl, hy⟩ := bind_look hs
  obtain ⟨p, v, e, hB, hh, ok, hbk⟩ := (hf.ho s _ hl).bxT hy
  obtain ⟨W', h5, h6, h7⟩ := ok.store v _ cs' W p hh hcs
  have e2 : (execOp a.eval o).run Tryz.prog W = .ok .skip W' := by
   unfold execOp
   rw [ho, ← hT]
   show (do (Instr.storeAt b.T (a.tmps.getD s undef) (a.eval x)); pure .skip : Sem Next).run Tryz.prog W = _
   rw [e]
   exact run_skip h5
  unfold Oper.wp
  rw [e2]
  show K (a.put o.dst undef) W'
  rw [hd]
  exact hK _ _ (hk _ _ (hf.stored hl e hB hbk ok h7 h6 (h4 _ _ _ h7.nu h3) h4))
theorem PW.q1 {x : Operand} {u : Value} (v : Value) (hw : wantB ops fr o = some true) (hd : o.dst = some d) (hN : Nat.blt d N = true) (hx : opv fr x = some (.vl u)) (h : ∀ (ρ : Operand → Value) (W : World), ρ x = u → (execOp ρ o).run Tryz.prog W = .ok (.value v) W) (hk : PW B N w0 ops rest ((d, .vl v) :: fr) Q) : PW B N w0 ops (o :: rest) fr Q :=
 PW.val (r := .vl v) hw hd hN rfl (fun a W hf => ⟨v, h _ W (opv_vl hf hx), rfl⟩) hk
theorem PW.q2 {x y : Operand} {u u2 : Value} (v : Value) (hw : wantB ops fr o = some true) (hd : o.dst = some d) (hN : Nat.blt d N = true) (hx : opv fr x = some (.vl u)) (hy : opv fr y = some (.vl u2)) (h : ∀ (ρ : Operand → Value) (W : World), ρ x = u → ρ y = u2 → (execOp ρ o).run Tryz.prog W = .ok (.value v) W) (hk : PW B N w0 ops rest ((d, .vl v) :: fr) Q) : PW B N w0 ops (o :: rest) fr Q :=
 PW.val (r := .vl v) hw hd hN rfl (fun a W hf => ⟨v, h _ W (opv_vl hf hx) (opv_vl hf hy), rfl⟩) hk
theorem PW.pick {c x y : Operand} {t : Bool} {r : AV} (hw : wantB ops fr o = some true) (hd : o.dst = some d) (hN : Nat.blt d N = true) (ho : o.op = .pick c x y) (hc : opv fr c = some (.vl (.bool t))) (hx : opv fr (bif t then x else y) = some r) (hk : PW B N w0 ops rest ((d, r) :: fr) Q) : PW B N w0 ops (o :: rest) fr Q :=
 PW.step hw fun a W hf K hK => by
  obtain ⟨h1, h2⟩ := opv_spec hf hx
  have e : (execOp a.eval o).run Tryz.prog W = .ok (.value (a.eval (bif t then x else y))) W := by
   unfold execOp
   rw [ho]
   have := opv_vl hf hc
   simp only [this]
   cases t <;> simp [asBool, go_sem]
  unfold Oper.wp
  rw [e, Oper.upon_value, hd]
  exact hK _ _ (hk _ _ (hf.set hN h1 h2))
/-! ### Code -/
theorem SC.region {id : Nat} {l : List Oper} (h : PW B N w0 l.toArray l fr Q) : SC B N w0 (.region id l.toArray false) fr Q := fun a W hf => wp_region_lit (h a W hf)
theorem SC.seq {x y : Code} (h : SC B N w0 x fr (Exit.then (y.wp Tryz.prog Q) Q)) : SC B N w0 (.seq x y) fr Q := fun a W hf => wp_seq (h a W hf)
theorem SX.then {y : Code} (h : SC B N w0 y fr Q) : SX B N w0 .normal fr (Exit.then (y.wp Tryz.prog Q) Q) := h
theorem SC.cond {c : Operand} {x y : Code} {t : Bool} (hc : opv fr c = some (.vl (.bool t))) (h : SC B N w0 (bif t then x else y) fr Q) : SC B N w0 (.cond c x y) fr Q :=
 fun a W hf => wp_cond (opv_vl hf hc) (by cases t <;> exact h a W hf)
theorem SC.block {id : Nat} {c : Code} (h : SC B N w0 c fr (Exit.inBlock id Q)) : SC B N w0 (.block id c) fr Q := fun a W hf => wp_block (h a W hf)
theorem SC.skip (h : SX B N w0 .normal fr Q) : SC B N w0 .skip fr Q := fun a W hf => wp_skip (h a W hf)
theorem SC.exit {id : Nat} (h : SX B N w0 (.exit id) fr Q) : SC B N w0 (.exit id) fr Q := fun a W hf => wp_exit (h a W hf)
theorem SC.ret (h : SX B N w0 .ret fr Q) : SC B N w0 .ret fr Q := fun a W hf => wp_ret (h a W hf)
theorem SX.blockN {id : Nat} (h : SX B N w0 .normal fr Q) : SX B N w0 .normal fr (Exit.inBlock id Q) := h
theorem SX.blockE {id : Nat} (h : SX B N w0 .normal fr Q) : SX B N w0 (.exit id) fr (Exit.inBlock id Q) := fun a W hf => by show (if id = id then _ else _); rw [if_pos rfl]; exact h a W hf
theorem SX.blockR {id : Nat} (h : SX B N w0 .ret fr Q) : SX B N w0 .ret fr (Exit.inBlock id Q) := h
theorem SX.thenE {id : Nat} {K : Act → World → Prop} (h : SX B N w0 (.exit id) fr Q) : SX B N w0 (.exit id) fr (Exit.then K Q) := h
theorem SX.thenR {K : Act → World → Prop} (h : SX B N w0 .ret fr Q) : SX B N w0 .ret fr (Exit.then K Q) := h
theorem SC.weak {c : Code} {fr' : List (Nat × AV)} (hf : ∀ a W, Fr B N w0 fr a W → Fr B N w0 fr' a W) (h : SC B N w0 c fr' Q) : SC B N w0 c fr Q := fun a W f => h a W (hf a W f)
end

/-! ### The boxes of integers -/
def BI (T : TypeId) : BT := ⟨T, fun v cs => ∃ m A l c, v = .agg #[.bool m, .slice A l c] ∧ cs = [.bool m, .slice A l c]⟩
theorem two_at {x y : Value} {i : Nat} {z : Value} (h : [x, y][i]? = some z) : (i = 0 ∧ z = x) ∨ (i = 1 ∧ z = y) := by
 match i, h with
 | 0, h => exact .inl ⟨rfl, by simpa using h.symm⟩
 | 1, h => exact .inr ⟨rfl, by simpa using h.symm⟩
theorem bI : (BI 31).Ok := by
 refine ⟨?_, ?_, ?_, ?_, ?_⟩
 ·rintro v cs ⟨m, A, l, c, rfl, rfl⟩; simp
 ·rintro v cs W p ⟨m, A, l, c, rfl, rfl⟩ h
  have h0 := h 0 _ rfl
  have h1 := h 1 _ rfl
  show (Instr.loadAt 31 (ptr p)).run Tryz.prog W = _
  go_simp
 ·rintro v v' cs' W p ⟨cs, ⟨m, A, l, c, rfl, rfl⟩, hc⟩ ⟨m', A', l', c', rfl, rfl⟩
  obtain ⟨h0, f0⟩ := hc 0 _ rfl
  obtain ⟨h1, f1⟩ := hc 1 _ rfl
  have hb : Box p 2 W := fun i hi => match i, hi with
   | 0, _ => ⟨⟨_, h0, by simp⟩, f0⟩
   | 1, _ => ⟨⟨_, h1, by simp⟩, f1⟩
  obtain ⟨W', e, hr, k0, k1⟩ := store_two (m := m') (D := A') (l := l') (c := c') hb
  refine ⟨(W.setCell ⟨p, 0, none⟩ (.bool m')).setCell ⟨p, 1, none⟩ (.slice A' l' c'), ?_, ⟨_, ⟨m', A', l', c', rfl, rfl⟩, fun i x hx => ?_⟩, ?_, ?_, ?_⟩
  ·show (Instr.storeAt 31 (ptr p) _).run Tryz.prog W = _
   go_simp
  ·rcases two_at hx with ⟨rfl, rfl⟩ | ⟨rfl, rfl⟩
   ·exact ⟨by rw [e]; exact k0, by simp [World.frozen?_setCell, f0]⟩
   ·exact ⟨by rw [e]; exact k1, by simp [World.frozen?_setCell, f1]⟩
  ·exact ⟨by simp [World.setCell], by simp [World.setCell], by simp [World.setCell], by simp [World.setCell], fun k _ hk => by rw [Below.heap_setCell _ _ _ _ (fun x => hk (by rw [x])), Below.heap_setCell _ _ _ _ (fun x => hk (by rw [x]))]⟩
  ·rw [e]; exact hr.2.1
  ·simp [World.setCell]
 ·refine ⟨.cells #[.bool false, .slice none 0 0] 31, _, _, ⟨false, none, 0, 0, rfl, rfl⟩, fun W => ⟨by show (Instr.alloc 31 true (.tuple #[])).run Tryz.prog W = _; go_simp, fun i x hx => ?_⟩⟩
  rcases two_at hx with ⟨rfl, rfl⟩ | ⟨rfl, rfl⟩
  ·exact ⟨by rw [World.cell?_alloc_at _ _ _ _ rfl]; rfl, World.frozen?_alloc_at _ _ _ _ rfl⟩
  ·exact ⟨by rw [World.cell?_alloc_at _ _ _ _ rfl]; rfl, World.frozen?_alloc_at _ _ _ _ rfl⟩
 ·rintro v cs ⟨m, A, l, c, rfl, rfl⟩
  refine ⟨.cells #[.bool m, .slice A l c] 31, fun W => ⟨by show (Instr.box 31 _).run Tryz.prog W = _; go_simp, fun i x hx => ?_⟩⟩
  rcases two_at hx with ⟨rfl, rfl⟩ | ⟨rfl, rfl⟩
  ·exact ⟨by rw [World.cell?_alloc_at _ _ _ _ rfl]; rfl, World.frozen?_alloc_at _ _ _ _ rfl⟩
  ·exact ⟨by rw [World.cell?_alloc_at _ _ _ _ rfl]; rfl, World.frozen?_alloc_at _ _ _ _ rfl⟩
theorem bN : (BI 24).Ok := by
 refine ⟨?_, ?_, ?_, ?_, ?_⟩
 ·rintro v cs ⟨m, A, l, c, rfl, rfl⟩; simp
 ·rintro v cs W p ⟨m, A, l, c, rfl, rfl⟩ h
  have h0 := h 0 _ rfl
  have h1 := h 1 _ rfl
  show (Instr.loadAt 24 (ptr p)).run Tryz.prog W = _
  go_simp
 ·rintro v v' cs' W p ⟨cs, ⟨m, A, l, c, rfl, rfl⟩, hc⟩ ⟨m', A', l', c', rfl, rfl⟩
  obtain ⟨h0, f0⟩ := hc 0 _ rfl
  obtain ⟨h1, f1⟩ := hc 1 _ rfl
  have hb : Box p 2 W := fun i hi => match i, hi with
   | 0, _ => ⟨⟨_, h0, by simp⟩, f0⟩
   | 1, _ => ⟨⟨_, h1, by simp⟩, f1⟩
  obtain ⟨W', e, hr, k0, k1⟩ := store_two (m := m') (D := A') (l := l') (c := c') hb
  refine ⟨(W.setCell ⟨p, 0, none⟩ (.bool m')).setCell ⟨p, 1, none⟩ (.slice A' l' c'), ?_, ⟨_, ⟨m', A', l', c', rfl, rfl⟩, fun i x hx => ?_⟩, ?_, ?_, ?_⟩
  ·show (Instr.storeAt 24 (ptr p) _).run Tryz.prog W = _
   go_simp
  ·rcases two_at hx with ⟨rfl, rfl⟩ | ⟨rfl, rfl⟩
   ·exact ⟨by rw [e]; exact k0, by simp [World.frozen?_setCell, f0]⟩
   ·exact ⟨by rw [e]; exact k1, by simp [World.frozen?_setCell, f1]⟩
  ·exact ⟨by simp [World.setCell], by simp [World.setCell], by simp [World.setCell], by simp [World.setCell], fun k _ hk => by rw [Below.heap_setCell _ _ _ _ (fun x => hk (by rw [x])), Below.heap_setCell _ _ _ _ (fun x => hk (by rw [x]))]⟩
  ·rw [e]; exact hr.2.1
  ·simp [World.setCell]
 ·refine ⟨.cells #[.bool false, .slice none 0 0] 24, _, _, ⟨false, none, 0, 0, rfl, rfl⟩, fun W => ⟨by show (Instr.alloc 24 true (.tuple #[])).run Tryz.prog W = _; go_simp, fun i x hx => ?_⟩⟩
  rcases two_at hx with ⟨rfl, rfl⟩ | ⟨rfl, rfl⟩
  ·exact ⟨by rw [World.cell?_alloc_at _ _ _ _ rfl]; rfl, World.frozen?_alloc_at _ _ _ _ rfl⟩
  ·exact ⟨by rw [World.cell?_alloc_at _ _ _ _ rfl]; rfl, World.frozen?_alloc_at _ _ _ _ rfl⟩
 ·rintro v cs ⟨m, A, l, c, rfl, rfl⟩
  refine ⟨.cells #[.bool m, .slice A l c] 24, fun W => ⟨by show (Instr.box 24 _).run Tryz.prog W = _; go_simp, fun i x hx => ?_⟩⟩
  rcases two_at hx with ⟨rfl, rfl⟩ | ⟨rfl, rfl⟩
  ·exact ⟨by rw [World.cell?_alloc_at _ _ _ _ rfl]; rfl, World.frozen?_alloc_at _ _ _ _ rfl⟩
  ·exact ⟨by rw [World.cell?_alloc_at _ _ _ _ rfl]; rfl, World.frozen?_alloc_at _ _ _ _ rfl⟩
theorem bJ : (BI 34).Ok := by
 refine ⟨?_, ?_, ?_, ?_, ?_⟩
 ·rintro v cs ⟨m, A, l, c, rfl, rfl⟩; simp
 ·rintro v cs W p ⟨m, A, l, c, rfl, rfl⟩ h
  have h0 := h 0 _ rfl
  have h1 := h 1 _ rfl
  show (Instr.loadAt 34 (ptr p)).run Tryz.prog W = _
  go_simp
 ·rintro v v' cs' W p ⟨cs, ⟨m, A, l, c, rfl, rfl⟩, hc⟩ ⟨m', A', l', c', rfl, rfl⟩
  obtain ⟨h0, f0⟩ := hc 0 _ rfl
  obtain ⟨h1, f1⟩ := hc 1 _ rfl
  have hb : Box p 2 W := fun i hi => match i, hi with
   | 0, _ => ⟨⟨_, h0, by simp⟩, f0⟩
   | 1, _ => ⟨⟨_, h1, by simp⟩, f1⟩
  obtain ⟨W', e, hr, k0, k1⟩ := store_two (m := m') (D := A') (l := l') (c := c') hb
  refine ⟨(W.setCell ⟨p, 0, none⟩ (.bool m')).setCell ⟨p, 1, none⟩ (.slice A' l' c'), ?_, ⟨_, ⟨m', A', l', c', rfl, rfl⟩, fun i x hx => ?_⟩, ?_, ?_, ?_⟩
  ·show (Instr.storeAt 34 (ptr p) _).run Tryz.prog W = _
   go_simp
  ·rcases two_at hx with ⟨rfl, rfl⟩ | ⟨rfl, rfl⟩
   ·exact ⟨by rw [e]; exact k0, by simp [World.frozen?_setCell, f0]⟩
   ·exact ⟨by rw [e]; exact k1, by simp [World.frozen?_setCell, f1]⟩
  ·exact ⟨by simp [World.setCell], by simp [World.setCell], by simp [World.setCell], by simp [World.setCell], fun k _ hk => by rw [Below.heap_setCell _ _ _ _ (fun x => hk (by rw [x])), Below.heap_setCell _ _ _ _ (fun x => hk (by rw [x]))]⟩
  ·rw [e]; exact hr.2.1
  ·simp [World.setCell]
 ·refine ⟨.cells #[.bool false, .slice none 0 0] 34, _, _, ⟨false, none, 0, 0, rfl, rfl⟩, fun W => ⟨by show (Instr.alloc 34 true (.tuple #[])).run Tryz.prog W = _; go_simp, fun i x hx => ?_⟩⟩
  rcases two_at hx with ⟨rfl, rfl⟩ | ⟨rfl, rfl⟩
  ·exact ⟨by rw [World.cell?_alloc_at _ _ _ _ rfl]; rfl, World.frozen?_alloc_at _ _ _ _ rfl⟩
  ·exact ⟨by rw [World.cell?_alloc_at _ _ _ _ rfl]; rfl, World.frozen?_alloc_at _ _ _ _ rfl⟩
 ·rintro v cs ⟨m, A, l, c, rfl, rfl⟩
  refine ⟨.cells #[.bool m, .slice A l c] 34, fun W => ⟨by show (Instr.box 34 _).run Tryz.prog W = _; go_simp, fun i x hx => ?_⟩⟩
  rcases two_at hx with ⟨rfl, rfl⟩ | ⟨rfl, rfl⟩
  ·exact ⟨by rw [World.cell?_alloc_at _ _ _ _ rfl]; rfl, World.frozen?_alloc_at _ _ _ _ rfl⟩
  ·exact ⟨by rw [World.cell?_alloc_at _ _ _ _ rfl]; rfl, World.frozen?_alloc_at _ _ _ _ rfl⟩
theorem sh_I {T : TypeId} {z : Int} (v : Value) (W : World) (h : KI z v W) : ∃ cs, (BI T).sh v cs := by obtain ⟨m, A, l, c, rfl, _⟩ := h; exact ⟨_, m, A, l, c, rfl, rfl⟩
theorem sh_J {T : TypeId} {z : Int} (v : Value) (W : World) (h : KJ z v W) : ∃ cs, (BI T).sh v cs := by obtain ⟨m, A, l, c, rfl, _⟩ := h; exact ⟨_, m, A, l, c, rfl, rfl⟩
end Go.Proofs.YthpjmhhfcechmaaGreat.Sy
/- The contract of the program's Divide, but for divisors of two limbs and more. -/
namespace Go.Proofs.YthpjmhhfcechmaaGreat
open Go.RowKit Ma

theorem K2L {k : IntKind} {p : List Int → Prop} {x y : Value} {A : Option Addr} {l c : Nat} {w : World} (h : K2 (KL k p) (KV x) (.tuple #[.slice A l c, y]) w) : y = x ∧ ∃ zs, l = zs.length ∧ l ≤ c ∧ Rd w k A zs ∧ p zs := by
 obtain ⟨v1, v2, e, h1, h2⟩ := h
 simp only [Value.tuple.injEq, Array.mk.injEq, List.cons.injEq, and_true] at e
 obtain ⟨rfl, rfl⟩ := e
 exact ⟨h2, h1.slice⟩
theorem divided_l (A : Option Addr) (l c : Nat) (xs : List Int) (y : Int) (w : World) (e : l = xs.length) (rA : Rd w .u32 A xs) (dx : dg b32 xs) (hl : xs.length ≤ 1000000) (hy0 : 0 < y) (hy1 : y < 4294967296) :
  Calls Tryz.prog 124 #[.slice A l c, .int .u32 y] w (Ret w (K2 (KL .u32 fun zs => dg b32 zs ∧ lv b32 zs = lv b32 xs / y ∧ top zs) (KV (.int .u32 (lv b32 xs % y))))) := by
 subst e
 exact (divided_c A c xs y w rA dx hl hy0 hy1).mono fun e w' ⟨v, e1, ⟨v1, v2, e2, h1, h2⟩, hb⟩ => ⟨v, e1, ⟨v1, v2, e2, h1.l, h2⟩, hb⟩
theorem sg_nz {n : Bool} {z : Int} (h : sg n z ≠ 0) : z ≠ 0 := by intro e; subst e; cases n <;> simp [sg] at h
theorem sg_tdiv (n m : Bool) (a b : Int) (ha : 0 ≤ a) (hb : 0 ≤ b) : (sg n a).tdiv (sg m b) = sg (n != m) (a / b) := by
 have e : a.tdiv b = a / b := Int.tdiv_eq_ediv_of_nonneg ha
 cases n <;> cases m <;> simp [sg, Int.neg_tdiv, Int.tdiv_neg, e]
theorem sg_tmod (n m : Bool) (a b : Int) (ha : 0 ≤ a) (hb : 0 ≤ b) : (sg n a).tmod (sg m b) = sg n (a % b) := by
 have e : a.tmod b = a % b := Int.tmod_eq_emod_of_nonneg ha
 cases n <;> cases m <;> simp [sg, Int.neg_tmod, Int.tmod_neg, e]
theorem RI.zero (w : World) : RI w false none 0 0 0 := ⟨[], rfl, Nat.le_refl _, Rd.nil _ _ _, dg_nil _, top_nil, (fun h => nomatch h), by simp [sg, lv]⟩
theorem cmp_lt {a b : Int} (h : a < b) : cmp a b = -1 := by unfold cmp; rw [if_pos h]
theorem cmp_ge {a b : Int} (h : b ≤ a) : decide (cmp a b < 0) = false := by unfold cmp; rw [if_neg (by omega)]; split <;> decide
theorem sg_natAbs (n : Bool) (z : Int) (h : 0 ≤ z) : ((sg n z).natAbs : Int) = z := by cases n <;> simp [sg] <;> omega
theorem lv_of_one {z : List Int} {x : Int} (h : z = [x]) : lv b32 z = x := by subst h; simp [lv]
theorem dg_of_one {z : List Int} {x : Int} (h : z = [x]) (d : dg b32 [x]) : dg b32 z := h ▸ d
theorem bd_zero (bd : Addr) : bd.add 0 = bd := by cases bd; unfold Addr.add; split <;> simp_all
set_option maxHeartbeats 3200000 in
set_option maxRecDepth 100000 in
theorem divide_1 {x y : Int} {n m : Bool} {A B : Option Addr} {l l' c d : Nat} {w : World} (hx : RI w n A l c x) (hy : RI w m B l' d y) (hl : l ≤ 500000) (hy0 : y ≠ 0) (h1 : l' ≤ 1 ∨ x.natAbs < y.natAbs) :
  Calls Tryz.prog 119 #[.agg #[.bool n, .slice A l c], .agg #[.bool m, .slice B l' d]] w (Ret w (K3 (KI (x.tdiv y)) (KI (x.tmod y)) (KV (.int .i64 0)))) := by
 have hx0 := hx
 obtain ⟨xs, rfl, hc, rA, dx, tx, nx, rfl⟩ := hx
 obtain ⟨ys, rfl, hd, rB, dy, ty, ny, rfl⟩ := hy
 have hxn := lv_nonneg (show (0 : Int) < b32 by decide) dx
 have hyn := lv_nonneg (show (0 : Int) < b32 by decide) dy
 have hyz := sg_nz hy0
 have hyl : 0 < ys.length := by
  cases ys with
  | nil => exact absurd (by simp [lv]) hyz
  | cons a t => simp
 have e1 := sg_natAbs n _ hxn
 have e2 := sg_natAbs m _ hyn
 have HT := Lib.hid (sg_tdiv n m _ _ hxn hyn)
 have HM := Lib.hid (sg_tmod n m _ _ hxn hyn)
 have nw1 : Nw w ((((w.alloc (.cells #[.bool n, .slice A xs.length c] 31)).alloc (.cells #[.bool m, .slice B ys.length d] 31)).alloc (.cells #[.bool false, .slice none 0 0] 31)).alloc (.cells #[.bool false, .slice none 0 0] 31)) := ((((Nw.refl w).alloc _).alloc _).alloc _).alloc _
 have sg0 : Sg2 [(w.heap.size, 0, Value.bool n), (w.heap.size, 1, Value.slice A xs.length c), (w.heap.size + 1, 0, Value.bool m), (w.heap.size + 1, 1, Value.slice B ys.length d)] (w.heap.size + 1 + 1) (w.heap.size + 1 + 1 + 1) ((((w.alloc (.cells #[.bool n, .slice A xs.length c] 31)).alloc (.cells #[.bool m, .slice B ys.length d] 31)).alloc (.cells #[.bool false, .slice none 0 0] 31)).alloc (.cells #[.bool false, .slice none 0 0] 31)) := by
  refine ⟨⟨by go_simp, by go_simp, by go_simp, by go_simp, trivial⟩, ?_, ?_, by go_simp⟩
  ·have h1 := box_two ((w.alloc (.cells #[.bool n, .slice A xs.length c] 31)).alloc (.cells #[.bool m, .slice B ys.length d] 31)) 31 false none 0 0
   have h2 := h1.below ((Nw.refl _).alloc (.cells #[.bool false, .slice none 0 0] 31))
   simpa using h2
  ·have h1 := box_two (((w.alloc (.cells #[.bool n, .slice A xs.length c] 31)).alloc (.cells #[.bool m, .slice B ys.length d] 31)).alloc (.cells #[.bool false, .slice none 0 0] 31)) 31 false none 0 0
   simpa using h1
 have SG := Lib.hid sg0
 have HX0 := Lib.hid hx0
 have RA := Lib.hid (rA.kept nw1.kept)
 have RB := Lib.hid (rB.kept nw1.kept)
 by_cases hlt : lv b32 xs < lv b32 ys
 ·have hcm := Lib.hid (cmp_lt hlt)
  clear rA rB e1 e2 h1 hy0 hx0
  have e3 : sg n (lv b32 xs / lv b32 ys) = sg n 0 := by rw [Int.ediv_eq_zero_of_lt hxn hlt]
  have HQ : (sg n (lv b32 xs)).tdiv (sg m (lv b32 ys)) = 0 := by rw [HT.out, Int.ediv_eq_zero_of_lt hxn hlt]; cases (n != m) <;> simp [sg]
  have HR : (sg n (lv b32 xs)).tmod (sg m (lv b32 ys)) = sg n (lv b32 xs) := by rw [HM.out, Int.emod_eq_of_lt hxn hlt]
  have HQ := Lib.hid HQ
  have HR := Lib.hid HR
  clear e3 hlt hyz hxn hyn
  go_enter Tryz.func119, Tryz.ntmps119
  go_wp2_with (go_at_call 94; refine (compared_c A B c d xs ys _ RA.out RB.out dx dy tx ty).mono ?_; rintro e w1 ⟨_, rfl, hk, hb⟩; rw [hcm.out] at hk; subst hk; obtain ⟨⟨q1, q2, q3, q4, _⟩, B1, B2, _⟩ := SG.out.nw hb; obtain ⟨⟨u0, hu0, hm0⟩, hf0⟩ := B1 0 (by omega); obtain ⟨⟨u1, hu1, hm1⟩, hf1⟩ := B1 1 (by omega); obtain ⟨⟨t0, ht0, hk0⟩, hg0⟩ := B2 0 (by omega); obtain ⟨⟨t1, ht1, hk1⟩, hg1⟩ := B2 1 (by omega))
  go_region
  have r1 := store_I1 (z := 0) (z' := sg n (lv b32 xs)) (show w.heap.size + 1 + 1 < w.heap.size + 1 + 1 + 1 by omega) B1 (RI.zero w1)
  have r2 := store_I2 (z := 0) (z' := sg n (lv b32 xs)) (show w.heap.size + 1 + 1 < w.heap.size + 1 + 1 + 1 by omega) (r1.1.2.2.2.2.1 B2) (((HX0.out.kept nw1.kept).kept hb.kept).kept r1.1.2.1)
  have b2 := (KB.nwst _ _ _ _ (Nw.refl _).drew) r2.2
  have b1 := (KB.nwst _ _ _ _ (Nw.refl _).drew) (r2.1.2.2.2.2.2.1 r1.2)
  have hn := (((nw1.trans hb).r2 r1.1 (by omega)).r2 r2.1 (by omega)).drew
  generalize World.drew _ = w9 at *
  obtain ⟨m1, D1, l1, c1, p0, p1, i1⟩ := b1
  obtain ⟨m2, D2, l2, c2, p2, p3, i2⟩ := b2
  go_wp2
  exact bodyPost_ret (v := .tuple #[.agg #[.bool m1, .slice D1 l1 c1], .agg #[.bool m2, .slice D2 l2 c2], .int .i64 0]) (by simp [results, Tryz.results119, go_sem, p0, p1, p2, p3]) rfl ⟨_, rfl, ⟨_, _, _, rfl, ⟨_, _, _, _, rfl, i1.eq (by rw [HQ.out])⟩, ⟨_, _, _, _, rfl, i2.eq (by rw [HR.out])⟩, rfl⟩, hn⟩
 ·have hge : lv b32 ys ≤ lv b32 xs := by omega
  have hcm := Lib.hid (cmp_ge hge)
  have hl1 : ys.length = 1 := by omega
  obtain ⟨y0, hys⟩ := List.length_eq_one_iff.1 hl1
  subst hys
  have ely : lv b32 [y0] = y0 := by simp [lv]
  have hy1 := dy y0 (by simp)
  rw [b32_eq] at hy1
  obtain ⟨y1, y2⟩ := hy1
  have y3 : 0 < y0 := by rw [ely] at hyz; omega
  have HQ : (sg n (lv b32 xs)).tdiv (sg m (lv b32 [y0])) = sg (n != m) (lv b32 xs / y0) := by rw [HT.out, ely]
  have HR : (sg n (lv b32 xs)).tmod (sg m (lv b32 [y0])) = sg n (lv b32 xs % y0) := by rw [HM.out, ely]
  have HQ := Lib.hid HQ
  have HR := Lib.hid HR
  obtain ⟨bd, hB, hcellb⟩ := RB.out.2 0 (by simp)
  subst hB
  clear rA rB e1 e2 h1 hy0 hx0 hlt hge hyz hxn hyn hyl hl1
  go_enter Tryz.func119, Tryz.ntmps119
  go_wp2_with (go_at_call 94; refine (compared_c A _ c d xs [y0] _ RA.out RB.out dx dy tx ty).mono ?_; rintro e w1 ⟨_, rfl, hk, hb⟩; have hcm1 := hcm.out; generalize cmp (lv b32 xs) (lv b32 [y0]) = cm at hcm1 hk; subst hk; obtain ⟨⟨q1, q2, q3, q4, _⟩, B1, B2, _⟩ := SG.out.nw hb; obtain ⟨⟨u0, hu0, hm0⟩, hf0⟩ := B1 0 (by omega); obtain ⟨⟨u1, hu1, hm1⟩, hf1⟩ := B1 1 (by omega); obtain ⟨⟨t0, ht0, hk0⟩, hg0⟩ := B2 0 (by omega); obtain ⟨⟨t1, ht1, hk1⟩, hg1⟩ := B2 1 (by omega); have hcb := hb.kept _ _ _ hcellb; simp only [at0, List.getD_cons_zero] at hcb; have hcb0 := hcb; rw [bd_zero] at hcb0)
  have n1 : Nw w _ := nw1.trans hb
  refine region_nw [(6, K2 (KL .u32 (fun zs => dg b32 zs ∧ lv b32 zs = lv b32 xs / y0 ∧ top zs)) (KV (.int .u32 (lv b32 xs % y0))))] (by kernel_rfl) (by kernel_rfl) (by kernel_rfl) (by kernel_rfl) ⟨SN.st (K2.st (KL.st _ _) (KV.st _)), trivial⟩ ?_
  repeat
   apply Rg.wpK_quiet rfl rfl
   case hq => intro W hS; have q0 := hS.c q1; have q1 := hS.c q2; have q2 := hS.c q3; have q3 := hS.c q4; have q4 := hS.c hcb; have q5 := hS.c hcb0; go_simp; exact rfl
   case he => exact (by simp only [Act.put, List.setIfInBounds_toArray, List.set_cons_zero, List.set_cons_succ]; exact rfl)
  apply Rg.wpK_know rfl rfl
  case ha =>
   intro W hR hS hF
   have hn := n1.trans hS
   have q0 := hS.c q1
   have q1 := hS.c q2
   have q2 := hS.c q3
   have q3 := hS.c q4
   have q4 := hS.c hcb
   have q5 := hS.c hcb0
   unfold Rg.gives
   go_simp
   exact Rg.gives_enter (call_nw (divided_l A _ c xs y0 W rfl ((RA.out.kept hb.kept).kept hS.kept) dx (by omega) y3 y2))
  intro u hu
  obtain ⟨W0, hw1, hw2, hf⟩ := hu
  obtain ⟨_, _, rfl, ⟨zs, C6, c6, e0, hx⟩, rfl⟩ := Rg.upd_at rfl (hf 6)
  obtain ⟨l6, e1⟩ : ∃ n, n = zs.length := ⟨_, rfl⟩
  rw [← e1] at e0
  subst e0
  clear hx e1
  have hx := trivial
  refine ⟨_, (by simp only [Act.put, List.setIfInBounds_toArray, List.set_cons_zero, List.set_cons_succ]; exact rfl), ?_⟩
  clear hf hw1 hw2 hx W0
  repeat
   apply Rg.wpK_quiet rfl rfl
   case hq => intro W hS; have q0 := hS.c q1; have q1 := hS.c q2; have q2 := hS.c q3; have q3 := hS.c q4; have q4 := hS.c hcb; have q5 := hS.c hcb0; go_simp; exact rfl
   case he => exact (by simp only [Act.put, List.setIfInBounds_toArray, List.set_cons_zero, List.set_cons_succ]; exact rfl)
  refine Rg.wpK_end fun w9 hR hS hF => ?_
  have hn := n1.trans hS
  have h6 := Rg.upd_at rfl (hF 6)
  clear hF hR
  obtain ⟨_, us, e8, hc8, r8, p81, p82, _⟩ := K2L h6
  obtain ⟨qr, hqr⟩ : ∃ qr, qr = lv b32 xs % y0 := ⟨_, rfl⟩
  have hr0 : 0 ≤ qr := by rw [hqr]; exact Int.emod_nonneg _ (by omega)
  have hr1 : qr < b32 := by have := Int.emod_lt_of_pos (lv b32 xs) y3; rw [← hqr] at this; rw [b32_eq]; omega
  have dqr : dg b32 [qr] := by intro x hx; simp at hx; rw [hx]; exact ⟨hr0, hr1⟩
  rw [← hqr] at HR ⊢
  have S2 := Lib.hid ((SG.out.nw hb).nw hS)
  have HC8 := Lib.hid hc8
  have E8 := Lib.hid e8
  clear h6 hqr hc8 e8 q1 q2 q3 q4
  go_wp2
  have n1 : Nw w _ := (hn).drew
  have hw : w.heap.size ≤ w.heap.size + 1 + 1 := by omega
  refine region_two [(w.heap.size, 0, Value.bool n), (w.heap.size, 1, Value.slice A xs.length c), (w.heap.size + 1, 0, Value.bool m), (w.heap.size + 1, 1, Value.slice (some bd) [y0].length d)] (w.heap.size + 1 + 1) (w.heap.size + 1 + 1 + 1) 1000 (KB (w.heap.size + 1 + 1) (sg (!(n == m)) (lv b32 xs / y0)) undef) (KB (w.heap.size + 1 + 1 + 1) (sg n qr) undef) [(2, KI (sg (!(n == m)) (lv b32 xs / y0))), (6, KL .u32 (fun zs => zs = [qr])), (7, KI (sg n qr)), (8, fun _ W => (KB (w.heap.size + 1 + 1) (sg (!(n == m)) (lv b32 xs / y0)) undef) W), (9, fun _ W => (KB (w.heap.size + 1 + 1 + 1) (sg n qr) undef) W)] (by kernel_rfl) (by kernel_rfl) (by kernel_rfl) (by kernel_rfl) ?_ ⟨St2.st (KI.st _), St2.st (KL.st _ _), St2.st (KI.st _), St2.r, St2.s, trivial⟩ ((S2.out.nw (Nw.refl _).drew)) ?_
  ·first | trivial | (simp only [Low, and_true]; omega)
  repeat
   apply Rg.wpK_quiet rfl rfl
   case hq => intro W hS; obtain ⟨⟨q1, q2, q3, q4, _⟩, _⟩ := hS; go_simp; exact rfl
   case he => exact (by simp only [Act.put, List.setIfInBounds_toArray, List.set_cons_zero, List.set_cons_succ]; exact rfl)
  apply Rg.wpK_know rfl rfl
  case ha =>
   intro W hR hS hF
   have hn := n1.r2 hR hw
   obtain ⟨⟨q1, q2, q3, q4, _⟩, hB1, hB2, hr⟩ := hS
   unfold Rg.gives
   go_simp
   exact Rg.gives_enter (call_r2 (KB.nwst _ _) (KB.nwst _ _) (ret_eq (made_l E8.out (!(n == m)) ((r8.kept (Nw.refl _).drew.kept).kept hR.2.1) (by rw [← E8.out]; exact HC8.out) p81) (by rw [p82])) hr)
  intro u hu
  obtain ⟨W0, hw1, hw2, hf⟩ := hu
  obtain ⟨m2, D2, l2, c2, rfl, hx⟩ := Rg.upd_at rfl (hf 2)
  refine ⟨_, (by simp only [Act.put, List.setIfInBounds_toArray, List.set_cons_zero, List.set_cons_succ]; exact rfl), ?_⟩
  clear hf hw1 hw2 hx W0
  repeat
   apply Rg.wpK_quiet rfl rfl
   case hq => intro W hS; obtain ⟨⟨q1, q2, q3, q4, _⟩, _⟩ := hS; go_simp; exact rfl
   case he => exact (by simp only [Act.put, List.setIfInBounds_toArray, List.set_cons_zero, List.set_cons_succ]; exact rfl)
  apply Rg.wpK_know rfl rfl
  case ha =>
   intro W hR hS hF
   have hn := n1.r2 hR hw
   obtain ⟨⟨q1, q2, q3, q4, _⟩, hB1, hB2, hr⟩ := hS
   unfold Rg.gives
   go_simp
   exact Rg.gives_value ⟨R2.nw hr (KB.nwst _ _) (KB.nwst _ _) ((Nw.refl W).alloc _), [qr], _, _, rfl, by simp, Rd.new1 _ _ _ _, rfl⟩
  intro u hu
  obtain ⟨W0, hw1, hw2, hf⟩ := hu
  obtain ⟨zs, C6, c6, e0, hx⟩ := Rg.upd_at rfl (hf 6)
  obtain ⟨l6, e1⟩ : ∃ n, n = zs.length := ⟨_, rfl⟩
  rw [← e1] at e0
  subst e0
  clear hx e1
  have hx := trivial
  refine ⟨_, (by simp only [Act.put, List.setIfInBounds_toArray, List.set_cons_zero, List.set_cons_succ]; exact rfl), ?_⟩
  clear hf hw1 hw2 hx W0
  repeat
   apply Rg.wpK_quiet rfl rfl
   case hq => intro W hS; obtain ⟨⟨q1, q2, q3, q4, _⟩, _⟩ := hS; go_simp; exact rfl
   case he => exact (by simp only [Act.put, List.setIfInBounds_toArray, List.set_cons_zero, List.set_cons_succ]; exact rfl)
  apply Rg.wpK_know rfl rfl
  case ha =>
   intro W hR hS hF
   have hn := n1.r2 hR hw
   obtain ⟨⟨q1, q2, q3, q4, _⟩, hB1, hB2, hr⟩ := hS
   have h6 := KL.slice (Rg.upd_at rfl (hF 6 (by kernel_rfl)))
   obtain ⟨z6, e6, hc6, r6, p6⟩ := h6
   subst e6
   unfold Rg.gives
   go_simp
   exact Rg.gives_enter (call_r2 (KB.nwst _ _) (KB.nwst _ _) (ret_eq (made_l (show 1 = z6.length by rw [p6]; rfl) n r6 hc6 (dg_of_one p6 dqr)) (congrArg (fun t => KI (sg n t)) (lv_of_one p6))) hr)
  intro u hu
  obtain ⟨W0, hw1, hw2, hf⟩ := hu
  obtain ⟨m7, D7, l7, c7, rfl, hx⟩ := Rg.upd_at rfl (hf 7)
  refine ⟨_, (by simp only [Act.put, List.setIfInBounds_toArray, List.set_cons_zero, List.set_cons_succ]; exact rfl), ?_⟩
  clear hf hw1 hw2 hx W0
  repeat
   apply Rg.wpK_quiet rfl rfl
   case hq => intro W hS; obtain ⟨⟨q1, q2, q3, q4, _⟩, _⟩ := hS; go_simp; exact rfl
   case he => exact (by simp only [Act.put, List.setIfInBounds_toArray, List.set_cons_zero, List.set_cons_succ]; exact rfl)
  apply Rg.wpK_know rfl rfl
  case ha =>
   intro W hR hS hF
   have hn := n1.r2 hR hw
   obtain ⟨⟨q1, q2, q3, q4, _⟩, hB1, hB2, hr⟩ := hS
   have i2 := KI.agg (Rg.upd_at rfl (Rg.upd_off rfl (Rg.upd_off rfl (hF 2 (by kernel_rfl)))))
   obtain ⟨⟨v0, hv0, hn0⟩, hf0⟩ := hB1 0 (by omega)
   obtain ⟨⟨v1, hv1, hn1⟩, hf1⟩ := hB1 1 (by omega)
   unfold Rg.gives
   go_simp
   exact Rg.gives_skip (store_I1 (by omega) hB1 i2)
  intro u hu
  obtain ⟨W0, hw1, hw2, hf⟩ := hu
  have hx := trivial
  refine ⟨_, (by simp only [Act.put, List.setIfInBounds_toArray, List.set_cons_zero, List.set_cons_succ]; exact rfl), ?_⟩
  clear hf hw1 hw2 hx W0
  repeat
   apply Rg.wpK_quiet rfl rfl
   case hq => intro W hS; obtain ⟨⟨q1, q2, q3, q4, _⟩, _⟩ := hS; go_simp; exact rfl
   case he => exact (by simp only [Act.put, List.setIfInBounds_toArray, List.set_cons_zero, List.set_cons_succ]; exact rfl)
  apply Rg.wpK_know rfl rfl
  case ha =>
   intro W hR hS hF
   have hn := n1.r2 hR hw
   obtain ⟨⟨q1, q2, q3, q4, _⟩, hB1, hB2, hr⟩ := hS
   have i7 := KI.agg (Rg.upd_at rfl (Rg.upd_off rfl (hF 7 (by kernel_rfl))))
   obtain ⟨⟨v0, hv0, hn0⟩, hf0⟩ := hB2 0 (by omega)
   obtain ⟨⟨v1, hv1, hn1⟩, hf1⟩ := hB2 1 (by omega)
   unfold Rg.gives
   go_simp
   exact Rg.gives_skip (store_I2 (by omega) hB2 i7)
  intro u hu
  obtain ⟨W0, hw1, hw2, hf⟩ := hu
  have hx := trivial
  refine ⟨_, (by simp only [Act.put, List.setIfInBounds_toArray, List.set_cons_zero, List.set_cons_succ]; exact rfl), ?_⟩
  clear hf hw1 hw2 hx W0
  repeat
   apply Rg.wpK_quiet rfl rfl
   case hq => intro W hS; obtain ⟨⟨q1, q2, q3, q4, _⟩, _⟩ := hS; go_simp; exact rfl
   case he => exact (by simp only [Act.put, List.setIfInBounds_toArray, List.set_cons_zero, List.set_cons_succ]; exact rfl)
  refine Rg.wpK_end fun w9 hR hS hF => ?_
  have hn := n1.r2 hR hw
  have b1 := Rg.upd_at rfl (Rg.upd_off rfl (hF 8))
  have b2 := Rg.upd_at rfl (hF 9)
  obtain ⟨m1, D1, l1, c1, p0, p1, i1⟩ := b1
  obtain ⟨m2, D2, l2, c2, p2, p3, i2⟩ := b2
  go_wp2
  exact bodyPost_ret (v := .tuple #[.agg #[.bool m1, .slice D1 l1 c1], .agg #[.bool m2, .slice D2 l2 c2], .int .i64 0]) (by simp [results, Tryz.results119, go_sem, p0, p1, p2, p3]) rfl ⟨_, rfl, ⟨_, _, _, rfl, ⟨_, _, _, _, rfl, i1.eq HQ.out.symm⟩, ⟨_, _, _, _, rfl, i2.eq HR.out.symm⟩, rfl⟩, hn⟩
end Go.Proofs.YthpjmhhfcechmaaGreat
/- Contracts of library functions (bits, strings, slices.Grow) at this program, laid by the kit's own tool in plain words. -/
namespace Go.Proofs
open Go.Shelf
def Tryz.lays133_ren : Go.Shelf.Ren := ⟨fun | 133 => 161 | 128 => 167 | n => n, fun | 51 => 140 | 3 => 3 | 4 => 4 | 46 => 158 | 5 => 5 | 9 => 9 | n => n, fun | n => n⟩
theorem Tryz.lays133 : Go.Proofs.Lays.n133 Tryz.prog Tryz.lays133_ren := {
 mixed := by kernel_rfl
 f128 := Tryz.func167.trans (congrArg some (by kernel_rfl))
 f133 := Tryz.func161.trans (congrArg some (by kernel_rfl))
 t3 := Tryz.underlying3
 a3 := Tryz.isAgg3
 z3 := Tryz.sizeOf3
 v3 := Tryz.zeroValue3
 t4 := Tryz.underlying4
 a4 := Tryz.isAgg4
 z4 := Tryz.sizeOf4
 v4 := Tryz.zeroValue4
 t5 := Tryz.underlying5
 a5 := Tryz.isAgg5
 z5 := Tryz.sizeOf5
 v5 := Tryz.zeroValue5
 t9 := Tryz.underlying9
 a9 := Tryz.isAgg9
 z9 := Tryz.sizeOf9
 v9 := Tryz.zeroValue9
 t46 := Tryz.underlying158
 a46 := Tryz.isAgg158
 z46 := Tryz.sizeOf158
 v46 := Tryz.zeroValue158
 t51 := Tryz.underlying140
 a51 := Tryz.isAgg140
 z51 := Tryz.sizeOf140
 v51 := Tryz.zeroValue140 }
theorem Tryz.bits_LeadingZeros32 (x : Int) (w : World) (h0 : 0 ≤ x) (h1 : x ≤ 4294967295) :
  Calls Tryz.prog 161 #[.int .u32 x] w fun e w' => e = .returned (.int .i64 (32 - (Lib.bitLen x.toNat : Int))) ∧ w' = w := Any.bits_LeadingZeros32 Tryz.lays133 x w h0 h1
def Tryz.lays137_ren : Go.Shelf.Ren := ⟨fun | 137 => 152 | 217 => 163 | 266 => 168 | n => n, fun | 9 => 9 | 5 => 5 | 3 => 3 | n => n, fun | n => n⟩
theorem Tryz.lays137 : Go.Proofs.Lays.n137 Tryz.prog Tryz.lays137_ren := {
 mixed := by kernel_rfl
 f137 := Tryz.func152.trans (congrArg some (by kernel_rfl))
 f217 := Tryz.func163.trans (congrArg some (by kernel_rfl))
 f266 := Tryz.func168.trans (congrArg some (by kernel_rfl))
 t3 := Tryz.underlying3
 a3 := Tryz.isAgg3
 z3 := Tryz.sizeOf3
 v3 := Tryz.zeroValue3
 t5 := Tryz.underlying5
 a5 := Tryz.isAgg5
 z5 := Tryz.sizeOf5
 v5 := Tryz.zeroValue5
 t9 := Tryz.underlying9
 a9 := Tryz.isAgg9
 z9 := Tryz.sizeOf9
 v9 := Tryz.zeroValue9 }
open Go.RowKit in
theorem Tryz.strings_IndexByte (s : ByteArray) (c : Int) (w : World) :
  Calls Tryz.prog 152 #[.string s, .int .u8 c] w fun e w' => e = .returned (.int .i64 (Lib.indexByte s.data.toList c.toNat.toUInt8)) ∧ w' = w := Any.strings_IndexByte Tryz.lays137 s c w
def Tryz.lays219_ren : Go.Shelf.Ren := ⟨fun | 219 => 151 | 217 => 163 | 225 => 164 | 224 => 165 | 267 => 166 | 266 => 168 | 314 => 169 | n => n, fun | 9 => 9 | 3 => 3 | 4 => 4 | 5 => 5 | 46 => 158 | 146 => 177 | 51 => 140 | n => n, fun | 1 => 1 | n => n⟩
theorem Tryz.lays219 : Go.Proofs.Lays.n219 Tryz.prog Tryz.lays219_ren := {
 mixed := by kernel_rfl
 f217 := Tryz.func163.trans (congrArg some (by kernel_rfl))
 f219 := Tryz.func151.trans (congrArg some (by kernel_rfl))
 f224 := Tryz.func165.trans (congrArg some (by kernel_rfl))
 f225 := Tryz.func164.trans (congrArg some (by kernel_rfl))
 f266 := Tryz.func168.trans (congrArg some (by kernel_rfl))
 f267 := Tryz.func166.trans (congrArg some (by kernel_rfl))
 f314 := Tryz.func169.trans (congrArg some (by kernel_rfl))
 t3 := Tryz.underlying3
 a3 := Tryz.isAgg3
 z3 := Tryz.sizeOf3
 v3 := Tryz.zeroValue3
 t4 := Tryz.underlying4
 a4 := Tryz.isAgg4
 z4 := Tryz.sizeOf4
 v4 := Tryz.zeroValue4
 t5 := Tryz.underlying5
 a5 := Tryz.isAgg5
 z5 := Tryz.sizeOf5
 v5 := Tryz.zeroValue5
 t9 := Tryz.underlying9
 a9 := Tryz.isAgg9
 z9 := Tryz.sizeOf9
 v9 := Tryz.zeroValue9
 t46 := Tryz.underlying158
 a46 := Tryz.isAgg158
 z46 := Tryz.sizeOf158
 v46 := Tryz.zeroValue158
 t51 := Tryz.underlying140
 a51 := Tryz.isAgg140
 z51 := Tryz.sizeOf140
 v51 := Tryz.zeroValue140
 t146 := Tryz.underlying177
 a146 := Tryz.isAgg177
 z146 := Tryz.sizeOf177
 v146 := Tryz.zeroValue177
 g1 := by kernel_rfl }
open Go.RowKit Go.Lib in
theorem Tryz.stringslite_Index_one (s : ByteArray) (c : UInt8) (w : World) :
  Calls Tryz.prog 151 #[.string s, .string ⟨#[c]⟩] w fun e w' => e = .returned (.int .i64 (Lib.indexByte s.data.toList c)) ∧ w' = w := Any.stringslite_Index_one Tryz.lays219 s c w
def Tryz.lays99_ren : Go.Shelf.Ren := ⟨fun | 99 => 89 | 206 => 129 | n => n, fun | 9 => 9 | 4 => 4 | 3 => 3 | n => n, fun | n => n⟩
theorem Tryz.lays99 : Go.Proofs.Lays.n99 Tryz.prog Tryz.lays99_ren := {
 mixed := by kernel_rfl
 f99 := Tryz.func89.trans (congrArg some (by kernel_rfl))
 f206 := Tryz.func129.trans (congrArg some (by kernel_rfl))
 t3 := Tryz.underlying3
 a3 := Tryz.isAgg3
 z3 := Tryz.sizeOf3
 v3 := Tryz.zeroValue3
 t4 := Tryz.underlying4
 a4 := Tryz.isAgg4
 z4 := Tryz.sizeOf4
 v4 := Tryz.zeroValue4
 t9 := Tryz.underlying9
 a9 := Tryz.isAgg9
 z9 := Tryz.sizeOf9
 v9 := Tryz.zeroValue9 }
open Go.RowKit Go.Lib in
theorem Tryz.strings_HasPrefix (s p : ByteArray) (w : World) :
  Calls Tryz.prog 89 #[.string s, .string p] w fun e w' => e = .returned (.bool (Lib.hasPrefix s.data.toList p.data.toList)) ∧ w' = w := Any.strings_HasPrefix Tryz.lays99 s p w
end Go.Proofs
/- The contract of the program's twos. -/
namespace Go.Proofs.YthpjmhhfcechmaaGreat
open Go.RowKit Ma

end Go.Proofs.YthpjmhhfcechmaaGreat
/- Bits of words: turning all bits of a word. No program in sight. -/
namespace Go.Proofs.YthpjmhhfcechmaaGreat.Ma
open Go

end Go.Proofs.YthpjmhhfcechmaaGreat.Ma
/- The contract of the program's twos. -/
namespace Go.Proofs.YthpjmhhfcechmaaGreat
open Go.RowKit Ma

end Go.Proofs.YthpjmhhfcechmaaGreat
/- The contract of the program's untwos. -/
namespace Go.Proofs.YthpjmhhfcechmaaGreat
open Go.RowKit Ma

end Go.Proofs.YthpjmhhfcechmaaGreat
/- The contract of the program's Boole: its closure, the walk. -/
namespace Go.Proofs.YthpjmhhfcechmaaGreat
open Go.RowKit Ma

def tq (q a b : Int) : Int := if (bits .and .i64 q 1 == 0) = true then 0 else bits .and .u32 a b
end Go.Proofs.YthpjmhhfcechmaaGreat
/- The bits of a whole number, in two's complement. No program in sight. -/
namespace Go.Proofs.YthpjmhhfcechmaaGreat.Ma
open Go

def tb (z : Int) (i : Nat) : Bool := decide (z / 2 ^ i % 2 = 1)
end Go.Proofs.YthpjmhhfcechmaaGreat.Ma
/- The bits of limbs, of the rounds of Boole, of a two's complement read back. No program in sight. -/
namespace Go.Proofs.YthpjmhhfcechmaaGreat.Ma
open Go

end Go.Proofs.YthpjmhhfcechmaaGreat.Ma
/- The law of Boole: the bits of what a round stores; of the number that is read back. No walk. -/
namespace Go.Proofs.YthpjmhhfcechmaaGreat
open Go.RowKit Ma

def ch (op : Int) (a b : Bool) : Bool := decide (op / (if a then (if b then 8 else 4) else (if b then 2 else 1)) % 2 = 1)
theorem pow32 (n : Nat) : b32 ^ n = 2 ^ (32 * n) := by rw [Int.pow_mul]; rfl
noncomputable def bo (op x y : Int) : Int := @dite _ (∃ z, ∀ i, tb z i = ch op (tb x i) (tb y i)) (Classical.propDecidable _) (fun h => Classical.choose h) (fun _ => 0)
end Go.Proofs.YthpjmhhfcechmaaGreat
/- The contracts of the reference's trimmed and made. -/
namespace Go.Proofs.YthpjmhhfcechmaaGreat
open Go.RowKit Ma

set_option maxHeartbeats 800000 in
theorem rtrimmed_c {A : Option Addr} {l c : Nat} {xs : List Int} {w : World} (e : l = xs.length) (h : Rd w .i64 A xs) (hc : l ≤ c) :
  Calls Tryz.prog 126 #[.slice A l c] w fun e w' => e = .returned (.slice A (trim xs).length c) ∧ w = w' := by
 subst e
 have hl := h.1
 have key : ∀ n, n ≤ xs.length → trim (xs.take n) = trim xs → trim (xs.take n) = xs.take n → n = (trim xs).length := by
  intro n hn h1 h2
  rw [← h1, h2, List.length_take, Nat.min_eq_left hn]
 go_enter Tryz.func126, Tryz.ntmps126
 go_wp2
 go_loop [3] (fun l => ∃ n : Nat, n ≤ xs.length ∧ trim (xs.take n) = trim xs ∧ l = .int .i64 n) (fun l => (intOf l).toNat)
 case atStart => exact ⟨_, Nat.le_refl _, by rw [List.take_length], rfl⟩
 case round =>
  obtain ⟨n, hn, ht, rfl⟩ := hrel
  have HT := Lib.hid ht
  have KEY := Lib.hid key
  clear ht key
  by_cases h0 : 0 < n
  ·obtain ⟨ad, hA, hcell⟩ := h.2 (n - 1) (by omega)
   subst hA
   by_cases hz : at0 xs (n - 1) = 0
   ·have hzb : (at0 xs (n - 1) == 0) = true := by simpa using hz
    have HZ := Lib.hid hz
    clear hz
    go_wp2
    refine ⟨⟨n - 1, by omega, ?_, by apply congrArg (Value.int IntKind.i64); omega⟩, by simp [intOf]; omega⟩
    rw [← HT.out, ← trim_take_succ (by omega) HZ.out, Nat.sub_add_cancel h0]
   ·have hzb : (at0 xs (n - 1) == 0) = false := by simpa using hz
    have HZ := Lib.hid hz
    clear hz
    go_wp2
    go_ret
    have h1 := KEY.out n hn HT.out (by have := trim_stop (n := n - 1) (by omega) HZ.out; rwa [Nat.sub_add_cancel h0] at this)
    exact ⟨ret_val (by rw [← h1]; simp), rfl⟩
  ·obtain rfl : n = 0 := by omega
   go_wp2
   go_ret
   have h1 := KEY.out 0 (by omega) HT.out (by simp [trim])
   exact ⟨ret_val (by rw [← h1]; simp), rfl⟩
set_option maxHeartbeats 400000 in
theorem rmade_c {n : Bool} {A : Option Addr} {l c : Nat} {xs : List Int} {w : World} (e : l = xs.length) (rA : Rd w .i64 A xs) (hc : l ≤ c) (hd : dg b16 xs) :
  Calls Tryz.prog 117 #[.bool n, .slice A l c] w (Ret w (KJ (sg n (lv b16 xs)))) := by
 subst e
 have hn := num_made (n := n) hd
 have hlen := trim_len xs
 have HN := Lib.hid hn
 clear hn
 cases n
 ·go_enter Tryz.func117, Tryz.ntmps117
  go_wp2_with (go_at_call 126; refine (rtrimmed_c rfl (rA.kept (IntK.alloc _ _)) hc).mono ?_; rintro e w' ⟨rfl, rfl⟩)
  refine bodyPost_ret (v := .agg #[.bool false, .slice A (trim xs).length c]) (by simp [results, Tryz.results117, go_sem]) rfl (Ret.J ⟨trim xs, rfl, by omega, ?_, by simpa using HN.out⟩ ?_)
  ·exact rA.trim.kept (IntK.alloc _ _)
  ·exact (Below.refl _ _).alloc (Nat.le_refl _) _
 ·go_enter Tryz.func117, Tryz.ntmps117
  go_wp2_with (go_at_call 126; refine (rtrimmed_c rfl (rA.kept (IntK.alloc _ _)) hc).mono ?_; rintro e w' ⟨rfl, rfl⟩)
  refine bodyPost_ret (v := .agg #[.bool (decide (0 < (trim xs).length)), .slice A (trim xs).length c]) (by simp [results, Tryz.results117, go_sem]) rfl (Ret.J ⟨trim xs, rfl, by omega, ?_, by simpa using HN.out⟩ ?_)
  ·exact rA.trim.kept (IntK.alloc _ _)
  ·exact (Below.refl _ _).alloc (Nat.le_refl _) _
end Go.Proofs.YthpjmhhfcechmaaGreat
/- The contract of the reference's New. -/
namespace Go.Proofs.YthpjmhhfcechmaaGreat
open Go.RowKit Ma

theorem info_int : (Tryz.prog.info? 3).map (fun i => (i.zero, i.size, i.bytes)) = some (some (.int .i64 0), 1, 8) := by kernel_rfl
structure RnAt (V : Int) (k : Nat) (zs : List Int) (u : Int) : Prop where
 le : k ≤ 4
 len : zs.length = k
 dg : dg b16 zs
 u0 : 0 ≤ u
 u1 : u < 65536 ^ (4 - k)
 eq : lv b16 zs + b16 ^ k * u = V
theorem RnAt.lt {V : Int} {k : Nat} {zs : List Int} {u : Int} (h : RnAt V k zs u) (hu : 0 < u) : k < 4 := by
 have h5 := h.u1
 have := h.le
 apply Classical.byContradiction
 intro hk
 have h0 : 4 - k = 0 := by omega
 rw [h0, Int.pow_zero] at h5
 omega
theorem RnAt.step {V : Int} {k : Nat} {zs : List Int} {u : Int} (h : RnAt V k zs u) (hu : 0 < u) : RnAt V (k + 1) (zs ++ [u % 65536]) (u / 65536) := by
 have hk := h.lt hu
 obtain ⟨h1, h2, h3, h4, h5, h6⟩ := h
 refine ⟨by omega, by simp [h2], dg_append.2 ⟨h3, fun x hx => by rw [List.mem_singleton] at hx; rw [hx, b16_eq]; omega⟩, by omega, ?_, ?_⟩
 ·apply Int.ediv_lt_of_lt_mul (by decide)
  rw [← Int.pow_succ, show (4 - (k + 1)).succ = 4 - k by omega]
  exact h5
 ·rw [lv_snoc, h2, Int.pow_succ, ← h6, b16_eq]
  have e := Int.mul_ediv_add_emod u 65536
  generalize u / 65536 = q at *
  generalize u % 65536 = r at *
  generalize (65536 : Int) ^ k = p at *
  rw [← e]
  grind
set_option maxHeartbeats 1600000 in
set_option maxRecDepth 100000 in
theorem rnew_c {x : Int} {w : World} (hx : -9223372036854775808 ≤ x ∧ x < 9223372036854775808) :
  Calls Tryz.prog 109 #[.int .i64 x] w (Ret w (KJ x)) := by
 obtain ⟨hx0, hx1⟩ := hx
 obtain ⟨i0, hi, hz0, hz1, hz2⟩ := info_parts info_int
 have nw1 : Nw w (w.alloc (.cells #[.bool false, .slice none 0 0] 34)) := (Nw.refl w).alloc _
 have sg0 : Sg [] w.heap.size 2 (w.alloc (.cells #[.bool false, .slice none 0 0] 34)) := ⟨trivial, box_two w 34 false none 0 0, by go_simp⟩
 have SG := Lib.hid sg0
 clear sg0
 by_cases hneg : x < 0
 ·have hwx : IntKind.u64.wrap (-IntKind.u64.wrap x) = -x := by simp only [IntKind.wrap_u64]; omega
  have r0 := Lib.hid (⟨by omega, rfl, dg_nil _, by omega, by rw [show (65536 : Int) ^ (4 - 0) = 18446744073709551616 by decide]; omega, by simp [lv]⟩ : RnAt (-x) 0 [] (-x))
  go_enter Tryz.func109, Tryz.ntmps109
  go_wp2
  go_loopw [3, 4] (fun uv ov wr => ∃ (k : Nat) (zs : List Int) (u : Int), uv = .int .u64 u ∧ Own wr (w.heap.size + 1) 3 .i64 ov zs ∧ RnAt (-x) k zs u ∧ Nw (w.alloc (.cells #[.bool false, .slice none 0 0] 34)) wr)
   (fun uv _ _ => (intOf uv).toNat)
  case atStart => exact ⟨0, [], _, rfl, Own.nil _ _ _ _, r0.out, Nw.refl _⟩
  case round =>
   obtain ⟨k, zs, u, rfl, ho, hr, hn⟩ := hrel
   have hu0 := hr.u0
   have hu1 : u < 18446744073709551616 := by
    have h1 := hr.u1
    have h2 := pow_le (b := 65536) (by decide) (show 4 - k ≤ 4 by omega)
    have : (65536 : Int) ^ 4 = 18446744073709551616 := by decide
    omega
   by_cases hu : 0 < u
   ·have HST := Lib.hid (hr.step hu)
    have hk := hr.lt hu
    have hlen := hr.len
    clear hr
    go_wp2_with (at_builtin; refine wpList_append_own _ rfl (.tmp 13) (.tmp 17) 32 rfl (w.heap.size + 1) 3 i0 (.int .i64 0) 1 8 Tryz.underlying32 hi hz0 hz1 hz2 rfl (by decide) _ _ _ rfl (ho.alloc _) ⟨wr.heap.size, 0, none⟩ 1 1 [.int .i64 (u % 65536)] rfl rfl ?c1 ?c2 ?c3 ?c4 ?c5 ?_)
    case c1 => intro j u hu; exact cell_one_new _ _ _ j u hu
    case c2 => simp [Value.oneCell']
    case c3 => unfold maxLen; omega
    case c4 => omega
    case c5 => have := hn.size; simp at this ⊢; omega
    intro v1 w4 hown1 hgrow1 _
    have n4 := hn.grew ho hgrow1 (by simp)
    go_wp2
    go_roundw
    case rel => exact ⟨k + 1, _, _, rfl, Own.cast hown1 (by simp [hlen]) (by simp), HST.out, n4⟩
    case measure => simp [intOf]; omega
   ·have hz : u = 0 := by omega
    subst hz
    have he := hr.eq
    have dz := hr.dg
    rw [Int.mul_zero, Int.add_zero] at he
    have HE := Lib.hid he
    obtain ⟨Az, cz, rfl, hcz, rz⟩ := ho.rd
    clear hr he ho
    go_wp2_with (go_at_call 117; refine (rmade_c rfl rz hcz dz).mono ?_; rintro e w2 ⟨_, rfl, ⟨m, D, l2, c2, rfl, hi⟩, hb2⟩; have b2 := ((SG.out.nw hn).nw hb2).2.1; obtain ⟨⟨v0, hv0, hn0⟩, hf0⟩ := b2 0 (by omega); obtain ⟨⟨v1, hv1, hn1⟩, hf1⟩ := b2 1 (by omega))
    have hi' := hi.eq (z' := x) (by rw [HE.out]; simp [sg] <;> omega)
    exact bodyPost_ret (v := .agg #[.bool m, .slice D l2 c2]) (by simp [results, Tryz.results109, go_sem, hv0, hv1]) rfl (Ret.J (hi'.kept (store_J b2 hi').1.2.1) (((nw1.trans hn).trans hb2).rr (store_J b2 hi').1 (Nat.le_refl _)))
 ·have r0 := Lib.hid (⟨by omega, rfl, dg_nil _, by omega, by rw [show (65536 : Int) ^ (4 - 0) = 18446744073709551616 by decide]; omega, by simp [lv]⟩ : RnAt x 0 [] x)
  go_enter Tryz.func109, Tryz.ntmps109
  go_wp2
  go_loopw [3, 4] (fun uv ov wr => ∃ (k : Nat) (zs : List Int) (u : Int), uv = .int .u64 u ∧ Own wr (w.heap.size + 1) 3 .i64 ov zs ∧ RnAt x k zs u ∧ Nw (w.alloc (.cells #[.bool false, .slice none 0 0] 34)) wr)
   (fun uv _ _ => (intOf uv).toNat)
  case atStart => exact ⟨0, [], _, rfl, Own.nil _ _ _ _, r0.out, Nw.refl _⟩
  case round =>
   obtain ⟨k, zs, u, rfl, ho, hr, hn⟩ := hrel
   have hu0 := hr.u0
   have hu1 : u < 18446744073709551616 := by
    have h1 := hr.u1
    have h2 := pow_le (b := 65536) (by decide) (show 4 - k ≤ 4 by omega)
    have : (65536 : Int) ^ 4 = 18446744073709551616 := by decide
    omega
   by_cases hu : 0 < u
   ·have HST := Lib.hid (hr.step hu)
    have hk := hr.lt hu
    have hlen := hr.len
    clear hr
    go_wp2_with (at_builtin; refine wpList_append_own _ rfl (.tmp 13) (.tmp 17) 32 rfl (w.heap.size + 1) 3 i0 (.int .i64 0) 1 8 Tryz.underlying32 hi hz0 hz1 hz2 rfl (by decide) _ _ _ rfl (ho.alloc _) ⟨wr.heap.size, 0, none⟩ 1 1 [.int .i64 (u % 65536)] rfl rfl ?c1 ?c2 ?c3 ?c4 ?c5 ?_)
    case c1 => intro j u hu; exact cell_one_new _ _ _ j u hu
    case c2 => simp [Value.oneCell']
    case c3 => unfold maxLen; omega
    case c4 => omega
    case c5 => have := hn.size; simp at this ⊢; omega
    intro v1 w4 hown1 hgrow1 _
    have n4 := hn.grew ho hgrow1 (by simp)
    go_wp2
    go_roundw
    case rel => exact ⟨k + 1, _, _, rfl, Own.cast hown1 (by simp [hlen]) (by simp), HST.out, n4⟩
    case measure => simp [intOf]; omega
   ·have hz : u = 0 := by omega
    subst hz
    have he := hr.eq
    have dz := hr.dg
    rw [Int.mul_zero, Int.add_zero] at he
    have HE := Lib.hid he
    obtain ⟨Az, cz, rfl, hcz, rz⟩ := ho.rd
    clear hr he ho
    go_wp2_with (go_at_call 117; refine (rmade_c rfl rz hcz dz).mono ?_; rintro e w2 ⟨_, rfl, ⟨m, D, l2, c2, rfl, hi⟩, hb2⟩; have b2 := ((SG.out.nw hn).nw hb2).2.1; obtain ⟨⟨v0, hv0, hn0⟩, hf0⟩ := b2 0 (by omega); obtain ⟨⟨v1, hv1, hn1⟩, hf1⟩ := b2 1 (by omega))
    have hi' := hi.eq (z' := x) (by rw [HE.out]; simp [sg] <;> omega)
    exact bodyPost_ret (v := .agg #[.bool m, .slice D l2 c2]) (by simp [results, Tryz.results109, go_sem, hv0, hv1]) rfl (Ret.J (hi'.kept (store_J b2 hi').1.2.1) (((nw1.trans hn).trans hb2).rr (store_J b2 hi').1 (Nat.le_refl _)))
end Go.Proofs.YthpjmhhfcechmaaGreat
/- The contracts of the reference's Limbs, of the law's Is. -/
namespace Go.Proofs.YthpjmhhfcechmaaGreat
open Go.RowKit Ma

end Go.Proofs.YthpjmhhfcechmaaGreat
/- The contracts of the law's Is (of equal numbers), of same. -/
namespace Go.Proofs.YthpjmhhfcechmaaGreat
open Go.RowKit Ma

end Go.Proofs.YthpjmhhfcechmaaGreat
/- The contract of the law's Short: a closure handed to slices.ContainsFunc; made. -/
namespace Go.Proofs.YthpjmhhfcechmaaGreat
open Go.RowKit Ma

abbrev Nn := Bool × Option Addr × Nat × Nat
def Ns (w : World) (b : Nat) (ns : List Nn) : Prop := ∀ i n A l c, ns[i]? = some (n, A, l, c) → w.cell? ⟨b, i * 2, none⟩ = some (.bool n) ∧ w.cell? ⟨b, i * 2 + 1, none⟩ = some (.slice A l c)
theorem Ns.nw {w W : World} {b : Nat} {ns : List Nn} (h : Ns w b ns) (k : Nw w W) : Ns W b ns := fun i n A l c e => ⟨k.c (h i n A l c e).1, k.c (h i n A l c e).2⟩
def shB (most : Nat) (ns : List Nn) : Bool := ns.all fun x => decide (x.2.2.1 ≤ most)
def KIx (b : Bool) : Rg.Know := fun v _ => ∃ r : Int, v = .int .i64 r ∧ (if b = true then r < 0 else 0 ≤ r)
set_option maxHeartbeats 1600000 in
set_option maxRecDepth 100000 in
theorem short1_c {n : Bool} {A : Option Addr} {l c p most : Nat} {w : World} (hc : w.cell? ⟨p, 0, none⟩ = some (.int .i64 most)) (hl : l ≤ 9223372036854775807) :
  Calls Tryz.prog 70 #[.agg #[.bool n, .slice A l c], .pointer (some ⟨p, 0, none⟩)] w (Ret w (KV (.bool (decide (most < l))))) := by
 have hc2 := (Nw.refl w).alloc (.cells #[.bool n, .slice A l c] 24) |>.c hc
 go_enter Tryz.func70, Tryz.ntmps70
 go_wp2
 go_ret
 exact Ret.Veq (by simp) ((Nw.refl w).alloc _)
set_option maxHeartbeats 1600000 in
set_option maxRecDepth 100000 in
theorem shortx_c {b c p most : Nat} {ns : List Nn} {w : World} (hc : w.cell? ⟨p, 0, none⟩ = some (.int .i64 most)) (hn : Ns w b ns) (hm : most ≤ 1000) (hl : ns.length ≤ 1000) (hL : ∀ x ∈ ns, x.2.2.1 ≤ 9223372036854775807) :
  Calls Tryz.prog 114 #[.slice (some ⟨b, 0, none⟩) ns.length c, .func (.func 70) #[] #[.pointer (some ⟨p, 0, none⟩)]] w (Ret w (KIx (shB most ns))) := by
 have HN := Lib.hid hn
 have HL := Lib.hid hL
 clear hn hL
 go_enter Tryz.func114, Tryz.ntmps114
 go_wp2
 go_loopw [5, 8] (fun _ ci wr => ∃ k : Nat, ci = .int .i64 k ∧ k ≤ ns.length ∧ shB most (ns.take k) = true ∧ Nw w wr)
  (fun _ ci _ => ns.length - (intOf ci).toNat)
 case atStart => exact ⟨0, rfl, by omega, rfl, Nw.refl w⟩
 case round =>
  obtain ⟨k, rfl, hk, hs, hn⟩ := hrel
  have HS := Lib.hid hs
  clear hs
  have hc2 := hn.c hc
  by_cases hlt : k < ns.length
  ·obtain ⟨⟨n, A, l, cc⟩, he⟩ : ∃ x, ns[k]? = some x := ⟨_, List.getElem?_eq_getElem hlt⟩
   obtain ⟨h1, h2⟩ := (HN.out.nw hn) k n A l cc he
   have hll := HL.out _ (List.mem_of_getElem? he)
   simp only at hll
   have hk0 : (0 : Int) ≤ (k : Int) := by omega
   have hki : (k : Int) < (ns.length : Int) := by omega
   have ht : shB most (ns.take (k + 1)) = (shB most (ns.take k) && decide (l ≤ most)) := by
    unfold shB
    rw [List.take_add_one, he]
    simp
   have HE := Lib.hid he
   have HT := Lib.hid ht
   clear he ht
   by_cases hlm : most < l
   ·have hb : decide (most < l) = true := by simpa using hlm
    go_wp2_with (go_at_call 70; refine (short1_c hc2 hll).mono ?_; rintro e w1 ⟨_, rfl, rfl, hb1⟩)
    go_ret
    have hf : shB most ns = false := by
     unfold shB
     rw [List.all_eq_false]
     exact ⟨_, List.mem_of_getElem? HE.out, by simpa using hlm⟩
    exact ⟨_, rfl, ⟨k, rfl, by rw [hf]; simp⟩, hn.trans hb1⟩
   ·have hb : decide (most < l) = false := by simpa using hlm
    go_wp2_with (go_at_call 70; refine (short1_c hc2 hll).mono ?_; rintro e w1 ⟨_, rfl, rfl, hb1⟩)
    go_roundw
    case rel => exact ⟨k + 1, by go_num, by omega, by rw [HT.out, HS.out]; simp; omega, hn.trans hb1⟩
    case measure => simp [intOf]; omega
  ·have hke : k = ns.length := by omega
   have hf : shB most ns = true := by
    have := HS.out
    rwa [hke, List.take_length] at this
   have HF := Lib.hid hf
   clear hke hf
   go_wp2
   go_ret
   exact ⟨_, rfl, ⟨-1, rfl, by rw [HF.out]; simp⟩, hn⟩
set_option maxHeartbeats 1600000 in
set_option maxRecDepth 100000 in
theorem shortc_c {b c p most : Nat} {ns : List Nn} {w : World} (hc : w.cell? ⟨p, 0, none⟩ = some (.int .i64 most)) (hn : Ns w b ns) (hm : most ≤ 1000) (hl : ns.length ≤ 1000) (hL : ∀ x ∈ ns, x.2.2.1 ≤ 9223372036854775807) :
    Calls Tryz.prog 69 #[.slice (some ⟨b, 0, none⟩) ns.length c, .func (.func 70) #[] #[.pointer (some ⟨p, 0, none⟩)]] w (Ret w (KV (.bool (!shB most ns)))) := by
  have HN := Lib.hid hn
  have HL := Lib.hid hL
  clear hn hL
  by_cases hs : shB most ns = true
  all_goals
    have HS := Lib.hid hs
    clear hs
    go_enter Tryz.func69, Tryz.ntmps69
    go_wp2_with (go_at_call 114; refine (shortx_c hc HN.out hm hl HL.out).mono ?_; rintro e w1 ⟨_, rfl, ⟨r, rfl, hr⟩, hb1⟩)
    go_ret
    have h1 := HS.out
    first
      | (rw [h1] at hr ⊢; exact Ret.Veq (by simp at hr ⊢; omega) hb1)
      | (have h1 : shB most ns = false := by simpa using h1
         rw [h1] at hr ⊢; exact Ret.Veq (by simp at hr ⊢; omega) hb1)
set_option maxHeartbeats 1600000 in
set_option maxRecDepth 100000 in
theorem short_c {b c most : Nat} {ns : List Nn} {w : World} (hn : Ns w b ns) (hm : most ≤ 1000) (hl : ns.length ≤ 1000) (hL : ∀ x ∈ ns, x.2.2.1 ≤ 9223372036854775807) :
  Calls Tryz.prog 11 #[.int .i64 most, .slice (some ⟨b, 0, none⟩) ns.length c] w (Ret w (KV (.bool (shB most ns)))) := by
 have nw1 : Nw w (w.alloc (.cells #[.int .i64 most] 3)) := (Nw.refl w).alloc _
 have hc : (w.alloc (.cells #[.int .i64 most] 3)).cell? ⟨w.heap.size, 0, none⟩ = some (.int .i64 most) := by go_simp
 have HN := Lib.hid (hn.nw nw1)
 have HL := Lib.hid hL
 clear hn hL
 go_enter Tryz.func11, Tryz.ntmps11
 go_wp2_with (go_at_call 69; refine (shortc_c hc HN.out hm hl HL.out).mono ?_; rintro e w1 ⟨_, rfl, rfl, hb1⟩)
 go_ret
 exact Ret.Veq (by simp) (nw1.trans hb1)
end Go.Proofs.YthpjmhhfcechmaaGreat
/- The contract of the law's made: a new slice of the program's integers. -/
namespace Go.Proofs.YthpjmhhfcechmaaGreat
open Go.RowKit Ma

theorem info_Int : (Tryz.prog.info? 31).map (fun i => (i.zero, i.size, i.bytes)) = some (some (.agg #[.bool false, .slice none 0 0]), 2, 32) := by kernel_rfl
def flat (rs : List Nn) : List Value := rs.flatMap fun x => [.bool x.1, .slice x.2.1 x.2.2.1 x.2.2.2]
theorem flat_at : ∀ (rs : List Nn) (i : Nat) (n : Bool) (A : Option Addr) (l c : Nat), rs[i]? = some (n, A, l, c) → (flat rs)[i * 2]? = some (.bool n) ∧ (flat rs)[i * 2 + 1]? = some (.slice A l c)
 | [], i, n, A, l, c, h => by simp at h
 | x :: rs, 0, n, A, l, c, h => by simp at h; subst h; exact ⟨rfl, rfl⟩
 | x :: rs, i + 1, n, A, l, c, h => by
  have := flat_at rs i n A l c (by simpa using h)
  rw [show (i + 1) * 2 = i * 2 + 1 + 1 by omega]
  exact this
def Rs (w : World) (rs : List Nn) (zs : List Int) : Prop := rs.length = zs.length ∧ ∀ i n A l c, rs[i]? = some (n, A, l, c) → RI w n A l c (at0 zs i)
theorem Own.trims {w : World} {base : Nat} {e : TypeId} {k : IntKind} {A : Option Addr} {l c : Nat} {xs : List Int} (h : Own w base e k (.slice A l c) xs) : Own w base e k (.slice A (trim xs).length c) (trim xs) := by
 have hl := trim_len xs
 obtain ⟨_, h1 | ⟨g, cap, cur, hv, hb, hg, _⟩⟩ := id h
 ·obtain ⟨e1, e2⟩ := h1
  have : xs = [] := List.eq_nil_of_length_eq_zero e2
  subst this
  simp only [Value.slice.injEq] at e1
  obtain ⟨rfl, rfl, rfl⟩ := e1
  exact h
 ·simp only [Value.slice.injEq] at hv
  obtain ⟨rfl, rfl, rfl⟩ := hv
  have := h.take (by rfl) (trim xs).length hl
  rwa [← trim_take] at this
end Go.Proofs.YthpjmhhfcechmaaGreat
/- The contract of the law's made: a new slice of the program's integers. -/
namespace Go.Proofs.YthpjmhhfcechmaaGreat
open Go.RowKit Ma

end Go.Proofs.YthpjmhhfcechmaaGreat
/- The contract of the law's awake: it returns true. -/
namespace Go.Proofs.YthpjmhhfcechmaaGreat
open Go.RowKit Ma

theorem put_list (l : List Value) (d : List Deferred) (i : Nat) (v : Value) : Act.put { tmps := l.toArray, defers := d } (some i) v = { tmps := (l.set i v).toArray, defers := d } := by simp [Act.put]
theorem put_none (a : Act) (v : Value) : Act.put a none v = a := rfl
end Go.Proofs.YthpjmhhfcechmaaGreat
/- Words for the laws: bounds, what came in; a region by its number. -/
namespace Go.Proofs.YthpjmhhfcechmaaGreat
open Go.RowKit Ma

def In (w : World) (A : Option Addr) (l c : Nat) (xs : List Int) : Prop := l = xs.length ∧ l ≤ c ∧ Rd w .u32 A xs ∧ dg b32 xs
theorem short_l {b l c : Nat} {m : Int} (most : Nat) (ns : List Nn) {w : World} (e1 : m = most) (e2 : l = ns.length) (hn : Ns w b ns) (hm : most ≤ 1000) (hl : ns.length ≤ 1000) (hL : ∀ x ∈ ns, x.2.2.1 ≤ 9223372036854775807) :
  Calls Tryz.prog 11 #[.int .i64 m, .slice (some ⟨b, 0, none⟩) l c] w (Ret w (KV (.bool (shB most ns)))) := by
 subst e1 e2; exact short_c hn hm hl hL
def bd (k : Nat) (z : Int) : Prop := -(b32 ^ k) < z ∧ z < b32 ^ k
theorem bd.neg {k : Nat} {x : Int} (h : bd k x) : bd k (-x) := by unfold bd at *; omega
theorem bd.mono {k j : Nat} {x : Int} (h : bd k x) (hj : k ≤ j) : bd j x := by
 have := pow_le (b := b32) (by decide) hj
 unfold bd at *; omega
theorem bd.add {a b : Nat} {x y : Int} (h : bd a x) (k : bd b y) : bd (max a b + 1) (x + y) := by
 have h1 := h.mono (Nat.le_max_left a b)
 have h2 := k.mono (Nat.le_max_right a b)
 unfold bd at *
 rw [Int.pow_succ]
 have := pos_pow (b := b32) (by decide) (max a b)
 have e : b32 ^ max a b * b32 = b32 ^ max a b * 4294967296 := rfl
 omega
theorem bd.natAbs {a : Nat} {x : Int} (h : bd a x) : (x.natAbs : Int) < b32 ^ a := by unfold bd at h; omega
theorem bd.of {a : Nat} {x : Int} (h : (x.natAbs : Int) < b32 ^ a) : bd a x := by unfold bd; omega
theorem bd.mul {a b : Nat} {x y : Int} (h : bd a x) (k : bd b y) : bd (a + b) (x * y) := by
 apply bd.of
 rw [Int.natAbs_mul, Int.natCast_mul, Int.pow_add]
 have h1 := h.natAbs
 have h2 := k.natAbs
 have p := pos_pow (b := b32) (by decide) b
 exact Int.lt_of_le_of_lt (Int.mul_le_mul_of_nonneg_left (Int.le_of_lt h2) (by omega)) (Int.mul_lt_mul_of_pos_right h1 p)
theorem RI.le {w : World} {n : Bool} {A : Option Addr} {l c k : Nat} {z : Int} (h : RI w n A l c z) (hb : bd k z) (hk : k ≤ 300000) : l ≤ 300000 := Nat.le_trans (h.len_le k hb.1 hb.2) hk
theorem RI.le5 {w : World} {n : Bool} {A : Option Addr} {l c k : Nat} {z : Int} (h : RI w n A l c z) (hb : bd k z) (hk : k ≤ 500000) : l ≤ 500000 := Nat.le_trans (h.len_le k hb.1 hb.2) hk
theorem bd_sg {n : Bool} {xs : List Int} {k : Nat} (d : dg b32 xs) (hl : xs.length ≤ k) : bd k (sg n (lv b32 xs)) := by
 have h1 := lv_lt (b := b32) (by decide) d
 have h2 := lv_nonneg (b := b32) (by decide) d
 have h3 := pow_le (b := b32) (by decide) hl
 unfold bd
 cases n <;> simp only [sg, if_true, if_false, Bool.false_eq_true] <;> omega
end Go.Proofs.YthpjmhhfcechmaaGreat
/- The width of a number, the count of its bits. No program in sight. -/
namespace Go.Proofs.YthpjmhhfcechmaaGreat.Ma
open Go

def pat (x : Int) : Int := if x < 0 then -1 - x else x
def wid (z : Int) : Nat := if z ≤ 0 then 0 else Nat.log2 z.toNat + 1
theorem wid_lt (z : Int) : z < 2 ^ wid z := by
 unfold wid
 by_cases h : z ≤ 0
 ·rw [if_pos h]; simp; omega
 ·rw [if_neg h]
  have := (Nat.log2_eq_iff (n := z.toNat) (k := Nat.log2 z.toNat) (by omega)).1 rfl
  have h2 := this.2
  have e : ((2 ^ (Nat.log2 z.toNat + 1) : Nat) : Int) = 2 ^ (Nat.log2 z.toNat + 1) := by push_cast; rfl
  omega
theorem wid_le {z : Int} (h : 0 < z) : 2 ^ (wid z - 1) ≤ z := by
 unfold wid
 rw [if_neg (by omega)]
 have := (Nat.log2_eq_iff (n := z.toNat) (k := Nat.log2 z.toNat) (by omega)).1 rfl
 have h2 := this.1
 have e : ((2 ^ Nat.log2 z.toNat : Nat) : Int) = 2 ^ Nat.log2 z.toNat := by push_cast; rfl
 rw [Nat.add_sub_cancel]
 omega
theorem wid_pos {z : Int} (h : 0 < z) : 0 < wid z := by unfold wid; rw [if_neg (by omega)]; omega
theorem wid_of {z : Int} {n : Nat} (h1 : z < 2 ^ n) (h2 : 0 < n) (h3 : 2 ^ (n - 1) ≤ z) : wid z = n := by
 have hp : (0 : Int) < 2 ^ (n - 1) := Int.pow_pos (by decide)
 have a := wid_lt z
 have b := wid_le (z := z) (by omega)
 have c := wid_pos (z := z) (by omega)
 rcases Nat.lt_trichotomy (wid z) n with h | h | h
 ·have := pow_le (b := 2) (by decide) (show wid z ≤ n - 1 by omega); omega
 ·exact h
 ·have := pow_le (b := 2) (by decide) (show n ≤ wid z - 1 by omega); omega
theorem wid_le_of {z : Int} {n : Nat} (h : z < 2 ^ n) : wid z ≤ n := by
 by_cases h0 : 0 < z
 ·have b := wid_le h0
  have c := wid_pos h0
  apply Classical.byContradiction
  intro h2
  have := pow_le (b := 2) (by decide) (show n ≤ wid z - 1 by omega)
  omega
 ·unfold wid; rw [if_pos (by omega)]; omega
theorem wid_zero : wid 0 = 0 := rfl
theorem bitLen_wid (z : Int) (h0 : 0 ≤ z) (h1 : z < 4294967296) : Lib.bitLen z.toNat = wid z := by
 by_cases hz : z = 0
 ·subst hz; rfl
 ·obtain ⟨a, b, c⟩ := Lib.bitLenAux_bounds 64 z.toNat (by omega) (by omega)
  have e1 : ((2 ^ (Lib.bitLen z.toNat - 1) : Nat) : Int) = 2 ^ (Lib.bitLen z.toNat - 1) := by push_cast; rfl
  have e2 : ((2 ^ Lib.bitLen z.toNat : Nat) : Int) = 2 ^ Lib.bitLen z.toNat := by push_cast; rfl
  unfold Lib.bitLen at *
  exact (wid_of (by omega) (by omega) (by omega)).symm
theorem wid_lv {zs : List Int} (d : dg 4294967296 zs) (t : top zs) (hne : zs ≠ []) : wid (lv 4294967296 zs) = 32 * (zs.length - 1) + wid (at0 zs (zs.length - 1)) := by
 have hl : 0 < zs.length := List.length_pos_iff.2 hne
 have e := lv_take_succ 4294967296 zs (zs.length - 1) (by omega)
 rw [Nat.sub_add_cancel hl, List.take_length] at e
 have a0 := lv_nonneg (b := 4294967296) (by decide) (dg_take d (zs.length - 1))
 have a1 := lv_lt (b := 4294967296) (by decide) (dg_take d (zs.length - 1))
 rw [List.length_take, Nat.min_eq_left (by omega)] at a1
 have b0 := dg_at d (by decide) (zs.length - 1)
 have b1 := (top_at hne).1 t
 have hp : (4294967296 : Int) ^ (zs.length - 1) = 2 ^ (32 * (zs.length - 1)) := by rw [Int.pow_mul]; rfl
 rw [hp] at e a1
 have c0 := wid_lt (at0 zs (zs.length - 1))
 have c1 := wid_le (z := at0 zs (zs.length - 1)) (by omega)
 have c2 := wid_pos (z := at0 zs (zs.length - 1)) (by omega)
 have hq : (0 : Int) < 2 ^ (32 * (zs.length - 1)) := Int.pow_pos (by decide)
 apply wid_of
 ·rw [e, Int.pow_add]
  have : 2 ^ (32 * (zs.length - 1)) * (at0 zs (zs.length - 1) + 1) ≤ 2 ^ (32 * (zs.length - 1)) * (2 : Int) ^ wid (at0 zs (zs.length - 1)) := Int.mul_le_mul_of_nonneg_left (by omega) (by omega)
  rw [Int.mul_add] at this
  omega
 ·omega
 ·rw [e, show 32 * (zs.length - 1) + wid (at0 zs (zs.length - 1)) - 1 = 32 * (zs.length - 1) + (wid (at0 zs (zs.length - 1)) - 1) by omega, Int.pow_add]
  have : 2 ^ (32 * (zs.length - 1)) * (2 : Int) ^ (wid (at0 zs (zs.length - 1)) - 1) ≤ 2 ^ (32 * (zs.length - 1)) * at0 zs (zs.length - 1) := Int.mul_le_mul_of_nonneg_left c1 (by omega)
  omega
end Go.Proofs.YthpjmhhfcechmaaGreat.Ma
/- The contracts of the program's pattern, length, Length, Count, Bit. -/
namespace Go.Proofs.YthpjmhhfcechmaaGreat
open Go.RowKit Ma

theorem RI.sign {w : World} {n : Bool} {A : Option Addr} {l c : Nat} {x : Int} (h : RI w n A l c x) : n = decide (x < 0) := by
 obtain ⟨xs, _, _, _, d, t, nz, rfl⟩ := h
 have h1 := lv_nonneg (b := b32) (by decide) d
 cases n
 ·simp [sg]; exact h1
 ·have := top_le (b := b32) (by decide) d t (nz rfl)
  have := pos_pow (b := b32) (by decide) (xs.length - 1)
  simp [sg]; omega
set_option maxHeartbeats 1600000 in
set_option maxRecDepth 100000 in
theorem pattern_c {x : Int} {n : Bool} {A : Option Addr} {l c : Nat} {w : World} (hx : RI w n A l c x) (hl : l ≤ 400000) :
  Calls Tryz.prog 160 #[.agg #[.bool n, .slice A l c]] w (Ret w (KL .u32 fun zs => dg b32 zs ∧ top zs ∧ lv b32 zs = pat x)) := by
 have nw1 : Nw w (w.alloc (.cells #[.bool n, .slice A l c] 31)) := (Nw.refl w).alloc _
 have hs := hx.sign
 have HX := Lib.hid (hx.kept nw1.kept)
 cases n
 ·have hx0 : ¬ x < 0 := by simpa using hs.symm
  have hp : pat x = x := by unfold pat; rw [if_neg hx0]
  have HP := Lib.hid hp
  obtain ⟨xs, rfl, hc, rA, d, t, nz, ex⟩ := hx
  have D := Lib.hid (⟨d, t, ex⟩ : _ ∧ _ ∧ _)
  have RA := Lib.hid (rA.kept nw1.kept)
  clear hs hp d t nz ex rA HX
  go_enter Tryz.func160, Tryz.ntmps160
  go_wp2
  go_ret
  obtain ⟨d, t, ex⟩ := D.out
  exact Ret.L (zs := xs) RA.out hc ⟨d, t, by rw [HP.out, ex]; simp [sg]⟩ nw1
 ·have hx0 : x < 0 := by simpa using hs.symm
  have hp : pat x = -1 - x := by unfold pat; rw [if_pos hx0]
  have HP := Lib.hid hp
  have hf : ∀ (W : World) (b : Bool) (D : Option Addr) (l c : Nat), (Instr.field 31 (.agg #[.bool b, .slice D l c]) 1).run Tryz.prog W = .ok (.slice D l c) W := fun _ _ _ _ _ => by kernel_rfl
  clear hs hp
  go_enter Tryz.func160, Tryz.ntmps160
  go_wp2_with (go_at_call 157; refine (complement_c HX.out hl).mono ?_; rintro e w1 ⟨_, rfl, ⟨m, D, l2, c2, rfl, i2⟩, hb1⟩)
  have hs2 := i2.sign
  obtain ⟨zs, rfl, hc2, rD, d, t, nz, ez⟩ := i2
  have hm : m = false := by rw [hs2]; simp; omega
  subst hm
  go_ret
  exact Ret.L rD hc2 ⟨d, t, by rw [HP.out, ez]; simp [sg]⟩ (nw1.trans hb1)
set_option maxHeartbeats 1600000 in
set_option maxRecDepth 100000 in
theorem length_c {A : Option Addr} {l c : Nat} {xs : List Int} {w : World} (e : l = xs.length) (rA : Rd w .u32 A xs) (d : dg b32 xs) (t : top xs) (hl : l ≤ 500000) :
  Calls Tryz.prog 159 #[.slice A l c] w fun e w' => e = .returned (.int .i64 (wid (lv b32 xs))) ∧ w = w' := by
 by_cases h0 : xs = []
 ·subst h0
  obtain rfl : l = 0 := e
  go_enter Tryz.func159, Tryz.ntmps159
  go_wp2
  go_ret
  exact ⟨ret_val (by simp [lv, wid_zero]), rfl⟩
 ·have hpos : 0 < xs.length := List.length_pos_iff.2 h0
  obtain ⟨k, hk⟩ : ∃ k, l = k + 1 := ⟨l - 1, by omega⟩
  have hw := wid_lv d t h0
  rw [← e, hk, Nat.add_sub_cancel] at hw
  obtain ⟨a0, a1⟩ := dg_at d (by decide) k
  have hbl := bitLen_wid (at0 xs k) a0 a1
  rw [b32_eq] at a1
  obtain ⟨ad, hA, hcell⟩ := rA.2 k (by omega)
  subst hA
  subst hk
  have HW := Lib.hid hw
  have HB := Lib.hid hbl
  have hwb : wid (at0 xs k) ≤ 32 := wid_le_of a1
  have hz : ((k : Int) + 1 == 0) = false := by rw [beq_eq_false_iff_ne]; omega
  clear hw hbl h0 e rA d t
  go_enter Tryz.func159, Tryz.ntmps159
  go_wp2_with (go_at_call 161; refine (Tryz.bits_LeadingZeros32 (at0 xs k) _ a0 (by omega)).mono ?_; rintro e w' ⟨rfl, rfl⟩; rw [HB.out])
  go_ret
  refine ⟨ret_val ?_, rfl⟩
  have := HW.out
  rw [b32_eq, this]
  apply congrArg (Value.int IntKind.i64)
  push_cast
  omega
set_option maxHeartbeats 1600000 in
set_option maxRecDepth 100000 in
theorem len_c {x : Int} {n : Bool} {A : Option Addr} {l c : Nat} {w : World} (hx : RI w n A l c x) (hl : l ≤ 400000) :
  Calls Tryz.prog 143 #[.agg #[.bool n, .slice A l c]] w (Ret w (KV (.int .i64 (wid (pat x))))) := by
 have nw1 : Nw w (w.alloc (.cells #[.bool n, .slice A l c] 31)) := (Nw.refl w).alloc _
 have HX := Lib.hid (hx.kept nw1.kept)
 have hb := hx.abs_lt
 have hp : pat x < b32 ^ l := by unfold pat; split <;> omega
 have HP := Lib.hid hp
 clear hx hb hp
 go_enter Tryz.func143, Tryz.ntmps143
 go_wp2_with (first
  | (go_at_call 160; refine (pattern_c HX.out hl).mono ?_; rintro e w1 ⟨_, rfl, ⟨zs, C, cc, rfl, hcc, rC, dz, tz, ez⟩, hb1⟩; have EZ := Lib.hid ez; clear ez)
  | (go_at_call 159; refine (length_c rfl rC dz tz ?hl).mono ?_; rotate_left; rintro e w2 ⟨rfl, rfl⟩; rw [EZ.out]))
 case hl =>
  have := HP.out
  rw [← EZ.out] at this
  by_cases h0 : zs = []
  ·subst h0; simp
  ·have h1 := top_le (b := b32) (by decide) dz tz h0
   by_cases h2 : zs.length ≤ l
   ·omega
   ·have := pow_le (b := b32) (by decide) (show l ≤ zs.length - 1 by omega)
    omega
 go_ret
 exact Ret.V (nw1.trans hb1)
end Go.Proofs.YthpjmhhfcechmaaGreat
/- The contracts of the program's raised, lowered, shift, Shift. -/
namespace Go.Proofs.YthpjmhhfcechmaaGreat
open Go.RowKit Ma

theorem own_up {w w' : World} {base : Nat} {e : TypeId} {s : Nat} {v : Value} {n : Nat} {xs : List Value} (h : w.ownsRow base e s v n xs) (hb : Nw w w') : w'.ownsRow base e s v n xs :=
 World.ownsRow.kept h (row := none) ⟨hb.os, hb.tape, hb.output, hb.size, fun i hi _ => hb.block i hi⟩ (by cases v.ownBlock <;> simp)
theorem news_of {W : World} {ad : Addr} {zs : List Int} (h : ∀ i, i < zs.length → W.cell? (ad.add i) = some (.int .u32 (at0 zs i))) : ∀ j u, (zs.map (Value.int .u32))[j]? = some u → W.cell? (ad.add j) = some u := by
 intro j u hu
 have hj : j < zs.length := by have := (List.getElem?_eq_some_iff.1 hu).1; simpa using this
 rw [List.getElem?_map, List.getElem?_eq_getElem hj] at hu
 injection hu with hu
 rw [h j hj, ← hu, at0_of_lt hj]
theorem made_list (q : Nat) : (madeCells #[Value.int .u32 0] q).toList = (List.replicate q (0 : Int)).map (Value.int .u32) := by
 apply List.ext_getElem
 ·simp [madeCells]
 ·intro i h1 h2
  simp [madeCells, Nat.mod_one]
theorem lv_up (q : Nat) (zs : List Int) : lv b32 (List.replicate q 0 ++ zs) = 2 ^ (32 * q) * lv b32 zs := by
 rw [lv_append, lv_zeros, List.length_replicate, Int.zero_add]
 congr 1
 rw [Int.pow_mul]; rfl
set_option maxHeartbeats 3200000 in
set_option maxRecDepth 100000 in
theorem raised_c {A : Option Addr} {l c n : Nat} {xs : List Int} {w : World} (e : l = xs.length) (rA : Rd w .u32 A xs) (dx : dg b32 xs) (hl : l ≤ 500000) (hn : n ≤ 1000000) :
  Calls Tryz.prog 156 #[.slice A l c, .int .i64 n] w (Ret w (KL .u32 fun zs => dg b32 zs ∧ lv b32 zs = lv b32 xs * 2 ^ n ∧ zs.length ≤ l + n / 32 + 1)) := by
 subst e
 obtain ⟨i0, hi, hz0, hz1, hz2⟩ := info_parts info_u32
 obtain ⟨q, hq⟩ : ∃ q : Nat, q = n / 32 := ⟨_, rfl⟩
 obtain ⟨r, hr⟩ : ∃ r : Nat, r = n % 32 := ⟨_, rfl⟩
 have eq' : ((n : Int) / 32) = (q : Int) := by omega
 have er' : ((n : Int) % 32) = (r : Int) := by omega
 have hr32 : r < 32 := by omega
 have hnq : n = 32 * q + r := by omega
 have hmk : ∀ W : World, (Instr.makeSlice 22 (.int .i64 (q : Int)) (.int .i64 (q : Int))).run Tryz.prog W = .ok (.slice (some ⟨W.heap.size, 0, none⟩) q q) (W.alloc (.cells (madeCells #[.int .u32 0] q) 140)) := by
  intro W
  have := run_make W 22 140 i0 (.int .u32 0) Tryz.underlying22 hi hz0 .i64 .i64 q q (by omega) (by omega) (by rw [hz2]; omega) (by omega)
  rw [hz1] at this
  simp only [Int.toNat_natCast, Nat.mul_one] at this
  exact this
 have hown : ∀ W : World, (W.alloc (.cells (madeCells #[.int .u32 0] q) 140)).ownsRow 0 140 1 (.slice (some ⟨W.heap.size, 0, none⟩) q q) q (madeCells #[.int .u32 0] q).toList := fun W => World.ownsRow_lit W _ q (Nat.zero_le _) (by unfold maxLen; omega) (by rw [size_madeCells]; omega)
 have hw1 : IntKind.i64.wrap (q : Int) = (q : Int) := IntWalk.i64_in _ (by omega)
 have hw2 : IntKind.u64.wrap (r : Int) = (r : Int) := by simp only [IntKind.wrap_u64]; omega
 have hw3 : (n : Int).tmod 32 = (r : Int) := by rw [Int.tmod_eq_emod_of_nonneg (by omega)]; omega
 have RA := Lib.hid rA
 have HQ := Lib.hid hq
 have HR := Lib.hid hr
 have HNQ := Lib.hid hnq
 have HOWN := Lib.hid hown
 have HI := Lib.hid (And.intro hi (And.intro hz0 (And.intro hz1 hz2)))
 have nd : Nw w w.drew := (Nw.refl w).drew
 have cS : ∀ W, Nw w W → Calls Tryz.prog 162 #[.slice A xs.length c, .int .u64 r] W (Ret W (KL .u32 fun zs => dg b32 zs ∧ lv b32 zs = lv b32 xs * (2 : Int) ^ r ∧ zs.length = xs.length + 1)) := fun W h => shifted_c A c xs r W (RA.out.kept h.kept) dx (by omega) hr32
 have CS := Lib.hid cS
 clear cS rA hq hr hnq hown hi hz0 hz1 hz2
 go_enter Tryz.func156, Tryz.ntmps156
 go_wp2
 have htt : True := trivial
 go_region_held3 (fun w' => True) (trivial)
  (first
   | (go_at_call 162; refine (CS.out _ (by repeat (first | exact Nw.refl _ | apply Nw.drew | apply Nw.alloc))).mono ?_; rintro e w1 ⟨_, rfl, ⟨zs, C, cc, rfl, hcc, rC, dz, lz, ez⟩, hb1⟩; obtain ⟨ad, rfl, hcell⟩ := rC.addr (by omega); have LZ := Lib.hid lz; have EZ := Lib.hid ez; have hzl : zs.length ≤ 500001 := (by omega); have hzp : 0 < zs.length := (by omega); clear lz ez; first | have hoA := own_up (own_up (HOWN.out w) ((Nw.refl _).drew)) hb1 | skip)
   | (refine step_append_lies _ (by rfl) (.tmp 7) (.tmp 12) 22 (by rfl) 0 140 i0 (.int .u32 0) 1 4 Tryz.underlying22 HI.out.1 HI.out.2.1 HI.out.2.2.1 HI.out.2.2.2 rfl (by decide) _ q _ (by rfl) hoA ad zs.length cc (zs.map (Value.int .u32)) (by rfl) (by simp) (news_of hcell) (by simp [Value.oneCell']) (by omega) (by unfold maxLen; omega) (by omega) (Nat.zero_le _) _ rfl ?_; intro g cap w9 hown9 hgrow9 _ _)
   | (refine step_append_lies _ (by rfl) (.tmp 7) (.tmp 12) 22 (by rfl) 0 140 i0 (.int .u32 0) 1 4 Tryz.underlying22 HI.out.1 HI.out.2.1 HI.out.2.2.1 HI.out.2.2.2 rfl (by decide) _ q _ (by rfl) (HOWN.out w1) ad zs.length cc (zs.map (Value.int .u32)) (by rfl) (by simp) (news_of (fun i hi => Nw.c ((Nw.refl w1).alloc _) (hcell i hi))) (by simp [Value.oneCell']) (by omega) (by unfold maxLen; omega) (by omega) (Nat.zero_le _) _ rfl ?_; intro g cap w9 hown9 hgrow9 _ _))
 all_goals
  have fin : dg b32 (List.replicate q 0 ++ zs) ∧ lv b32 (List.replicate q 0 ++ zs) = lv b32 xs * 2 ^ n ∧ (List.replicate q 0 ++ zs).length ≤ xs.length + n / 32 + 1 := by
   refine ⟨dg_append.2 ⟨dg_replicate _ (by decide) (by decide), dz⟩, ?_, ?_⟩
   ·rw [lv_up, LZ.out, HNQ.out, Int.pow_add]
    generalize (2 : Int) ^ (32 * q) = a
    generalize (2 : Int) ^ r = b
    rw [Int.mul_comm a b, ← Int.mul_assoc, ← Int.mul_assoc, Int.mul_assoc (lv b32 xs) b a] <;> grind
   ·rw [List.length_append, List.length_replicate, EZ.out, HQ.out]; omega
  have FIN := Lib.hid fin
  have own9 : Own w9 0 140 .u32 (.slice (some ⟨g, 0, none⟩) (q + zs.length) cap) (List.replicate q 0 ++ zs) := Own.cast hown9 (by simp) (by rw [made_list, List.map_append])
  have OWN9 := Lib.hid own9
  have n9 : Nw w w9 := (by
   first
    | exact Below.grown (Nw.trans (((Nw.refl w).alloc _).drew) hb1) hgrow9 (Nw.trans (((Nw.refl w).alloc _).drew) hb1).size (fun g hg => by simp [Value.ownBlock] at hg; omega)
    | exact Below.grown ((Nw.trans nd hb1).alloc _) hgrow9 ((Nw.trans nd hb1).alloc _).size (fun g hg => by simp [Value.ownBlock] at hg; have := (Nw.trans nd hb1).size; omega))
  clear fin own9 hown9 hgrow9 hmk hw1 hw2 hw3
  go_wp2
  go_ret
  exact Ret.own OWN9.out FIN.out n9
end Go.Proofs.YthpjmhhfcechmaaGreat
/- Limbs divided by a power of two. No program in sight. -/
namespace Go.Proofs.YthpjmhhfcechmaaGreat.Ma
open Go

theorem emod_pow_succ (V b : Int) (hb : 0 < b) (k : Nat) : V % b ^ (k + 1) = V % b ^ k + b ^ k * (V / b ^ k % b) := by
 have hp : 0 < b ^ k := Int.pow_pos hb
 have a := Int.mul_ediv_add_emod V (b ^ k)
 have c := Int.mul_ediv_add_emod (V / b ^ k) b
 have r0 := Int.emod_nonneg V (Int.ne_of_gt hp)
 have r1 := Int.emod_lt_of_pos V hp
 have s0 := Int.emod_nonneg (V / b ^ k) (Int.ne_of_gt hb)
 have s1 := Int.emod_lt_of_pos (V / b ^ k) hb
 have e : V = (V % b ^ k + b ^ k * (V / b ^ k % b)) + b ^ (k + 1) * (V / b ^ k / b) := by
  rw [Int.pow_succ]
  generalize V / b ^ k / b = q at *
  generalize V / b ^ k % b = r at *
  generalize V % b ^ k = t at *
  generalize V / b ^ k = z at *
  generalize b ^ k = p at *
  rw [← a, ← c]; grind
 have l0 : 0 ≤ b ^ k * (V / b ^ k % b) := Int.mul_nonneg (Int.le_of_lt hp) s0
 have l1 : b ^ k * (V / b ^ k % b) + b ^ k ≤ b ^ (k + 1) := by
  have : b ^ k * (V / b ^ k % b + 1) ≤ b ^ k * b := Int.mul_le_mul_of_nonneg_left (by omega) (Int.le_of_lt hp)
  rw [Int.mul_add] at this
  rw [Int.pow_succ]; omega
 conv => lhs; rw [e]
 rw [Int.add_mul_emod_self_left, Int.emod_eq_of_lt (by omega) (by omega)]
theorem lv_digits {b V : Int} (hb : 0 < b) {zs : List Int} : ∀ k, k ≤ zs.length → (∀ j, j < k → at0 zs j = V / b ^ j % b) → lv b (zs.take k) = V % b ^ k
 | 0, _, _ => by simp [lv]
 | k + 1, hk, h => by
  rw [lv_take_succ b zs k (by omega), lv_digits hb k (by omega) (fun j hj => h j (by omega)), emod_pow_succ V b hb k, h k (by omega)]
theorem lv_ediv {b : Int} (hb : 0 < b) {ys : List Int} (d : dg b ys) (j : Nat) (h : j ≤ ys.length) : lv b ys / b ^ j = lv b (ys.drop j) := by
 have e := lv_split b ys j h
 have h1 := lv_nonneg hb (dg_take d j)
 have h2 := lv_lt hb (dg_take d j)
 rw [List.length_take, Nat.min_eq_left h] at h2
 rw [e, Int.add_mul_ediv_left _ _ (Int.ne_of_gt (Int.pow_pos hb)), Int.ediv_eq_zero_of_lt h1 h2, Int.zero_add]
theorem low_digit {ys : List Int} (d : dg 4294967296 ys) {r j : Nat} (hr : r < 32) (hj : j < ys.length) :
  ((at0 ys (j + 1) * 4294967296 + at0 ys j) / 2 ^ r) % 4294967296 = lv 4294967296 ys / 2 ^ r / 4294967296 ^ j % 4294967296 := by
 have hp : (0 : Int) < 2 ^ r := Int.pow_pos (by decide)
 have e1 : lv 4294967296 ys / 2 ^ r / 4294967296 ^ j = lv 4294967296 (ys.drop j) / 2 ^ r := by
  rw [← lv_ediv (by decide) d j (by omega), Int.ediv_ediv_of_nonneg (Int.le_of_lt hp), Int.ediv_ediv_of_nonneg (Int.pow_nonneg (by decide)), Int.mul_comm]
 obtain ⟨c, hc⟩ : ∃ c : Int, (4294967296 : Int) = 2 ^ r * c := ⟨2 ^ (32 - r), by rw [← Int.pow_add, show r + (32 - r) = 32 by omega]; rfl⟩
 rw [e1, lv_drop 4294967296 ys j hj]
 have e2 : ∃ R, lv 4294967296 (ys.drop (j + 1)) = at0 ys (j + 1) + 4294967296 * R := by
  by_cases h : j + 1 < ys.length
  ·exact ⟨_, lv_drop 4294967296 ys (j + 1) h⟩
  ·exact ⟨0, by rw [List.drop_eq_nil_of_le (by omega), at0_ge (by omega)]; simp [lv]⟩
 obtain ⟨R, hR⟩ := e2
 rw [hR]
 have e3 : at0 ys j + 4294967296 * (at0 ys (j + 1) + 4294967296 * R) = (at0 ys (j + 1) * 4294967296 + at0 ys j) + 2 ^ r * (c * R * 4294967296) := by
  have : 4294967296 * (4294967296 * R) = 2 ^ r * (c * R * 4294967296) := by
   conv => lhs; lhs; rw [hc]
   grind
  rw [Int.mul_add, this]; grind
 rw [e3, Int.add_mul_ediv_left _ _ (Int.ne_of_gt hp), Int.add_mul_emod_self_right]
theorem low_zero {V : Int} {k n : Nat} (h0 : 0 ≤ V) (h : V < 4294967296 ^ k) (hn : k ≤ n / 32) : V / 2 ^ n = 0 := by
 apply Int.ediv_eq_zero_of_lt h0
 have h1 : (4294967296 : Int) ^ k = 2 ^ (32 * k) := by rw [Int.pow_mul]; rfl
 have := pow_le (b := 2) (by decide) (show 32 * k ≤ n by omega)
 omega
theorem low_split {xs : List Int} (d : dg 4294967296 xs) {n : Nat} (hq : n / 32 ≤ xs.length) : lv 4294967296 xs / 2 ^ n = lv 4294967296 (xs.drop (n / 32)) / 2 ^ (n % 32) := by
 rw [← lv_ediv (by decide) d (n / 32) hq, Int.ediv_ediv_of_nonneg (Int.pow_nonneg (by decide))]
 congr 1
 have : (4294967296 : Int) ^ (n / 32) = 2 ^ (32 * (n / 32)) := by rw [Int.pow_mul]; rfl
 rw [this, ← Int.pow_add]
 congr 1; omega
end Go.Proofs.YthpjmhhfcechmaaGreat.Ma
/- The contract of the program's lowered. -/
namespace Go.Proofs.YthpjmhhfcechmaaGreat
open Go.RowKit Ma

structure LwAt (ys : List Int) (r m k : Nat) (zs : List Int) : Prop where
 le : k ≤ m
 len : zs.length = m + 1
 dg : dg b32 zs
 done : ∀ j, j < k → at0 zs j = ((at0 ys (j + 1) * 4294967296 + at0 ys j) / 2 ^ r) % 4294967296
 rest : ∀ j, k ≤ j → at0 zs j = at0 ys j
theorem LwAt.step {ys : List Int} {r m k : Nat} {zs : List Int} (h : LwAt ys r m k zs) (hk : k < m) : LwAt ys r m (k + 1) (zs.set k (((at0 ys (k + 1) * 4294967296 + at0 ys k) / 2 ^ r) % 4294967296)) := by
 obtain ⟨h1, h2, h3, h4, h5⟩ := h
 refine ⟨by omega, by simp [h2], dg_set h3 _ (Int.emod_nonneg _ (by decide)) (by rw [b32_eq]; exact Int.emod_lt_of_pos _ (by decide)), fun j hj => ?_, fun j hj => ?_⟩
 ·rw [at0_set _ _ _ _ (by omega)]
  by_cases e : j = k
  ·rw [if_pos e, e]
  ·rw [if_neg e]; exact h4 j (by omega)
 ·rw [at0_set _ _ _ _ (by omega), if_neg (by omega)]; exact h5 j (by omega)
theorem clone_lo {A : Option Addr} {l c : Nat} {xs : List Int} {w : World} (e : l = xs.length) (rA : Rd w .u32 A xs) (hl : xs.length ≤ 1000000) :
  Calls Tryz.prog 116 #[.slice A l c] w (Ret w (fun v W => Own W w.heap.size 140 .u32 v xs)) := by
 subst e; exact clone_o A c xs w rA hl
set_option maxHeartbeats 3200000 in
set_option maxRecDepth 100000 in
theorem lowered_c {A : Option Addr} {l c n : Nat} {xs : List Int} {w : World} (e : l = xs.length) (rA : Rd w .u32 A xs) (hc : l ≤ c) (dx : dg b32 xs) (hl : l ≤ 500000) (hn : n ≤ 1000000000) :
  Calls Tryz.prog 158 #[.slice A l c, .int .i64 n] w (Ret w (KL .u32 fun zs => dg b32 zs ∧ lv b32 zs = lv b32 xs / 2 ^ n ∧ zs.length ≤ l)) := by
 subst e
 obtain ⟨i0, hi, hz0, hz1, hz2⟩ := info_parts info_u32
 obtain ⟨q, hq⟩ : ∃ q : Nat, q = n / 32 := ⟨_, rfl⟩
 obtain ⟨r, hr⟩ : ∃ r : Nat, r = n % 32 := ⟨_, rfl⟩
 have eq' : ((n : Int) / 32) = (q : Int) := by omega
 have er' : ((n : Int) % 32) = (r : Int) := by omega
 have hr32 : r < 32 := by omega
 have HQ := Lib.hid hq
 have HR := Lib.hid hr
 by_cases hlt : q < xs.length
 ·obtain ⟨ad, hA, hcell⟩ := rA.addr (by omega)
  subst hA
  have hqc : q < c := by omega
  have hd : Rd w .u32 (some (ad.add q)) (xs.drop q) := by
   refine ⟨by have := rA.1; simp; omega, fun i hi => ⟨_, rfl, ?_⟩⟩
   rw [Addr.add_add, hcell (q + i) (by simp at hi; omega)]
   simp only [at0, List.getD_eq_getElem?_getD, List.getElem?_drop]
  have HD := Lib.hid hd
  have HI := Lib.hid (And.intro hi (And.intro hz0 (And.intro hz1 hz2)))
  clear hq hr hd hi hz0 hz1 hz2
  go_enter Tryz.func158, Tryz.ntmps158
  obtain ⟨m, hm⟩ : ∃ m : Nat, m = xs.length - q := ⟨_, rfl⟩
  have hml : (xs.drop q).length = m := by simp; omega
  have hmp : 0 < m := by omega
  have hm5 : m ≤ 500000 := by omega
  obtain ⟨ys, hys⟩ : ∃ ys, ys = xs.drop q ++ [(0 : Int)] := ⟨_, rfl⟩
  have dy : dg b32 ys := by rw [hys]; exact dg_append.2 ⟨dg_drop dx q, fun x hx => by rw [List.mem_singleton] at hx; rw [hx]; decide⟩
  have hyl : ys.length = m + 1 := by rw [hys]; simp; omega
  have HYS := Lib.hid hys
  have HYL := Lib.hid hyl
  have HML := Lib.hid hml
  have HM := Lib.hid hm
  clear hys hyl hml hm
  go_wp2_with fail
  refine (clone_lo (by simp) HD.out (by have := HML.out; omega)).mono ?_
  rintro e w1 ⟨_, rfl, ho, hb1⟩
  rw [← HM.out]
  have HO1 := Lib.hid ho
  clear ho
  go_wp2_with (at_builtin; refine wpList_append_own _ rfl (.tmp 15) (.tmp 16) 22 rfl w.heap.size 140 i0 (.int .u32 0) 1 4 Tryz.underlying22 HI.out.1 HI.out.2.1 HI.out.2.2.1 HI.out.2.2.2 rfl (by decide) _ _ _ rfl (HO1.out.alloc _) ⟨w1.heap.size, 0, none⟩ 1 1 [.int .u32 0] rfl rfl ?c1 ?c2 ?c3 ?c4 ?c5 ?_)
  case c1 => intro j u hu; exact cell_one_new _ _ _ j u hu
  case c2 => simp [Value.oneCell']
  case c3 => unfold maxLen; have := HML.out; omega
  case c4 => have := HML.out; omega
  case c5 => have := Nw.size hb1; simp; omega
  intro v1 w2 hown2 hgrow2 _
  have n2 : Nw w w2 := Below.grown (Nw.alloc hb1 _) hgrow2 (Nw.alloc hb1 _).size (fun g hg => (World.ownsRow.lt HO1.out g hg).1)
  have own2 : Own w2 w.heap.size 140 .u32 v1 ys := Own.cast hown2 (by rw [HYS.out]; simp) (by rw [HYS.out]; simp)
  obtain ⟨g, cap, rfl⟩ := own2.some' (by intro e; have := HYL.out; rw [e] at this; simp at this)
  rw [HYL.out] at own2 ⊢
  have OWN2 := Lib.hid own2
  clear hown2 hgrow2 own2
  go_wp2
  clear hcell
  go_loopw [5, 21] (fun _ ci wr => ∃ (k : Nat) (zs : List Int), ci = .int .i64 k ∧ Own wr w.heap.size 140 .u32 (.slice (some ⟨g, 0, none⟩) (m + 1) cap) zs ∧ LwAt ys r m k zs ∧ Nw w wr)
   (fun _ ci _ => m - (intOf ci).toNat)
  case atStart => exact ⟨0, ys, rfl, OWN2.out, ⟨by omega, HYL.out, dy, fun j hj => by omega, fun j _ => rfl⟩, n2⟩
  case round =>
   obtain ⟨k, zs, rfl, ho, hs, hn⟩ := hrel
   have hkle := hs.le
   by_cases hk : k < m
   ·have ca := ho.cellAt (i := k) (by rw [hs.len]; omega) hs.len.symm
    have cb := ho.cellAt (i := k + 1) (by rw [hs.len]; omega) hs.len.symm
    have fa := ho.frozenAt hs.len.symm k
    rw [hs.rest k (Nat.le_refl _)] at ca
    rw [hs.rest (k + 1) (by omega)] at cb
    have hst := hs.step hk
    have HLEN := Lib.hid hs.len
    have HO := Lib.hid ho
    have HST := Lib.hid hst
    have a0 := dg_at dy (by decide) k
    have a1 := dg_at dy (by decide) (k + 1)
    rw [b32_eq] at a0 a1
    obtain ⟨a0, a0'⟩ := a0
    obtain ⟨a1, a1'⟩ := a1
    have hjo := join32 (at0 ys (k + 1)) (at0 ys k) ⟨a1, a1'⟩ ⟨a0, a0'⟩
    have hk0 : (0 : Int) ≤ (k : Int) := by omega
    have hk1 : (k : Int) < (m : Int) + 1 := by omega
    have hw1 : IntKind.i64.wrap ((k : Int) + 1) = (k : Int) + 1 := IntWalk.i64_in _ (by omega)
    clear hs hst ho
    go_wp2
    go_region
    go_wp2
    exact ⟨⟨k + 1, _, by go_num, World.ownsRow.drew (HO.out.set HLEN.out.symm k _), HST.out, (hn.set (by have := HO.out.ge; simpa using this) _).drew⟩, by simp [intOf]; omega⟩
   ·have hke : k = m := by omega
    have hlz := lv_digits (b := b32) (V := lv b32 ys / 2 ^ r) (by decide) (zs := zs) m (by rw [hs.len]; omega) (fun j hj => by
     rw [hs.done j (by omega)]
     exact low_digit dy hr32 (by rw [HYL.out]; omega))
    have hys0 : lv b32 ys = lv b32 (xs.drop q) := by rw [HYS.out, lv_snoc]; simp
    have hp : (0 : Int) < 2 ^ r := Int.pow_pos (by decide)
    have h0 := lv_nonneg (b := b32) (by decide) (dg_drop dx q)
    have h1 := lv_lt (b := b32) (by decide) (dg_drop dx q)
    rw [HML.out] at h1
    have h2 : lv b32 (xs.drop q) / 2 ^ r ≤ lv b32 (xs.drop q) := Int.ediv_le_self _ h0
    have h3 : 0 ≤ lv b32 (xs.drop q) / 2 ^ r := Int.ediv_nonneg h0 (by omega)
    rw [hys0, Int.emod_eq_of_lt h3 (by omega)] at hlz
    have hfin : lv b32 (zs.take m) = lv b32 xs / 2 ^ n := by
     rw [hlz]
     have := low_split dx (n := n) (by have := HQ.out; omega)
     rw [HQ.out, HR.out]
     exact this.symm
    have hown := ho.take hs.len.symm m (by omega)
    have HF := Lib.hid (⟨dg_take hs.dg m, hfin, Nat.le_trans (List.length_take_le m zs) (by have := HM.out; omega)⟩ : dg b32 (zs.take m) ∧ lv b32 (zs.take m) = lv b32 xs / 2 ^ n ∧ (zs.take m).length ≤ xs.length)
    have HOWN := Lib.hid hown
    have hmc : m ≤ cap := by have := ho.rdg; omega
    clear hke hlz hys0 h0 h1 h2 h3 hfin hown hs ho
    go_wp2
    go_ret
    exact Ret.own HOWN.out HF.out hn
 ·have hz : lv b32 xs / 2 ^ n = 0 := low_zero (lv_nonneg (b := b32) (by decide) dx) (lv_lt (b := b32) (by decide) dx) (by omega)
  have HZ := Lib.hid hz
  clear hq hr hz
  go_enter Tryz.func158, Tryz.ntmps158
  go_wp2
  go_ret
  exact Ret.L (zs := []) (Rd.nil _ _ _) (Nat.le_refl _) ⟨dg_nil _, by rw [HZ.out]; rfl, Nat.zero_le _⟩ (Nw.refl w)
end Go.Proofs.YthpjmhhfcechmaaGreat
/- The contract of the program's shift. -/
namespace Go.Proofs.YthpjmhhfcechmaaGreat
open Go.RowKit Ma

def sh (x n : Int) : Int := if 0 ≤ n then x * 2 ^ n.toNat else x / 2 ^ (-n).toNat
theorem shr_neg (x : Int) (k : Nat) : -1 - ((-1 - x) / 2 ^ k) = x / 2 ^ k := by
 have hp : (0 : Int) < 2 ^ k := Int.pow_pos (by decide)
 have a := Int.mul_ediv_add_emod x (2 ^ k)
 have b := Int.emod_nonneg x (Int.ne_of_gt hp)
 have c := Int.emod_lt_of_pos x hp
 have d : -1 - x = (2 ^ k - 1 - x % 2 ^ k) + 2 ^ k * (-1 - x / 2 ^ k) := by rw [Int.mul_sub, Int.mul_neg]; omega
 rw [d, Int.add_mul_ediv_left _ _ (Int.ne_of_gt hp), Int.ediv_eq_zero_of_lt (by omega) (by omega)]
 omega
theorem sg_mul (n : Bool) (a p : Int) : sg n (a * p) = sg n a * p := by cases n <;> simp [sg, Int.neg_mul]
set_option maxHeartbeats 3200000 in
set_option maxRecDepth 100000 in
theorem shl_c {x : Int} {n : Bool} {A : Option Addr} {l c k : Nat} {w : World} (hx : RI w n A l c x) (hl : l ≤ 400000) (hk : k ≤ 1000000) :
  Calls Tryz.prog 142 #[.agg #[.bool n, .slice A l c], .int .i64 k] w (Ret w (KI (x * 2 ^ k))) := by
 have nw1 : Nw w ((w.alloc (.cells #[.bool n, .slice A l c] 31)).alloc (.cells #[.bool false, .slice none 0 0] 31)) := ((Nw.refl w).alloc _).alloc _
 have sg0 : Sg [(w.heap.size, 0, Value.bool n), (w.heap.size, 1, Value.slice A l c)] (w.heap.size + 1) 2 ((w.alloc (.cells #[.bool n, .slice A l c] 31)).alloc (.cells #[.bool false, .slice none 0 0] 31)) := by
  refine ⟨⟨by go_simp, by go_simp, trivial⟩, ?_, by go_simp⟩
  have := box_two (w.alloc (.cells #[.bool n, .slice A l c] 31)) 31 false none 0 0
  simpa using this
 obtain ⟨xs, rfl, hc, rA, dx, tx, nx, rfl⟩ := hx
 have RA := Lib.hid (rA.kept nw1.kept)
 have SG := Lib.hid sg0
 clear rA
 go_enter Tryz.func142, Tryz.ntmps142
 go_wp2
 have n1 : Nw w _ := (nw1).drew
 have hw : w.heap.size ≤ w.heap.size + 1 := by omega
 refine region_std [(w.heap.size, 0, Value.bool n), (w.heap.size, 1, Value.slice A xs.length c)] (w.heap.size + 1) 2 7 [(5, KL .u32 (fun zs => dg b32 zs ∧ lv b32 zs = lv b32 xs * 2 ^ k ∧ zs.length ≤ xs.length + k / 32 + 1)), (6, KI (sg n (lv b32 xs * 2 ^ k))), (7, KB (w.heap.size + 1) (sg n (lv b32 xs * 2 ^ k)))] (by kernel_rfl) (by kernel_rfl) (by kernel_rfl) (by kernel_rfl) ?_ ⟨.inr (KL.st _ _), .inr (KI.st _), .inl rfl, trivial⟩ (SG.out.nw (Nw.refl _).drew) ?_
 ·first | trivial | (simp only [Low, and_true]; omega)
 repeat
  apply Rg.wpK_quiet rfl rfl
  case hq => intro W hS; obtain ⟨⟨q1, q2, _⟩, _⟩ := hS; go_simp; exact rfl
  case he => exact (by simp only [Act.put, List.setIfInBounds_toArray, List.set_cons_zero, List.set_cons_succ]; exact rfl)
 apply Rg.wpK_know rfl rfl
 case ha =>
  intro W hR hS hF
  have hn := n1.rr hR hw
  obtain ⟨⟨q1, q2, _⟩, hB, hr⟩ := hS
  unfold Rg.gives
  go_simp
  exact Rg.gives_enter (call_inr (raised_c rfl ((RA.out.kept (Nw.refl _).drew.kept).kept hR.2.1) dx (by omega) hk) hr)
 intro u hu
 obtain ⟨W0, hw1, hw2, hf⟩ := hu
 obtain ⟨zs, C5, c5, e0, hx⟩ := Rg.upd_at rfl (hf 5)
 obtain ⟨l5, e1⟩ : ∃ n, n = zs.length := ⟨_, rfl⟩
 rw [← e1] at e0
 subst e0
 clear hx e1
 have hx := trivial
 refine ⟨_, (by simp only [Act.put, List.setIfInBounds_toArray, List.set_cons_zero, List.set_cons_succ]; exact rfl), ?_⟩
 clear hf hw1 hw2 hx W0
 repeat
  apply Rg.wpK_quiet rfl rfl
  case hq => intro W hS; obtain ⟨⟨q1, q2, _⟩, _⟩ := hS; go_simp; exact rfl
  case he => exact (by simp only [Act.put, List.setIfInBounds_toArray, List.set_cons_zero, List.set_cons_succ]; exact rfl)
 apply Rg.wpK_know rfl rfl
 case ha =>
  intro W hR hS hF
  have hn := n1.rr hR hw
  obtain ⟨⟨q1, q2, _⟩, hB, hr⟩ := hS
  have h5 := KL.slice (Rg.upd_at rfl (hF 5 (by kernel_rfl)))
  obtain ⟨z5, e5, hc5, r5, p5⟩ := h5
  subst e5
  unfold Rg.gives
  go_simp
  exact Rg.gives_enter (call_inr (ret_eq (made_l rfl n r5 hc5 p5.1) (by rw [p5.2.1])) hr)
 intro u hu
 obtain ⟨W0, hw1, hw2, hf⟩ := hu
 obtain ⟨m6, D6, l6, c6, rfl, hx⟩ := Rg.upd_at rfl (hf 6)
 refine ⟨_, (by simp only [Act.put, List.setIfInBounds_toArray, List.set_cons_zero, List.set_cons_succ]; exact rfl), ?_⟩
 clear hf hw1 hw2 hx W0
 repeat
  apply Rg.wpK_quiet rfl rfl
  case hq => intro W hS; obtain ⟨⟨q1, q2, _⟩, _⟩ := hS; go_simp; exact rfl
  case he => exact (by simp only [Act.put, List.setIfInBounds_toArray, List.set_cons_zero, List.set_cons_succ]; exact rfl)
 apply Rg.wpK_know rfl rfl
 case ha =>
  intro W hR hS hF
  have hn := n1.rr hR hw
  obtain ⟨⟨q1, q2, _⟩, hB, hr⟩ := hS
  have i6 := KI.agg (Rg.upd_at rfl (hF 6 (by kernel_rfl)))
  obtain ⟨⟨v0, hv0, hn0⟩, hf0⟩ := hB 0 (by omega)
  obtain ⟨⟨v1, hv1, hn1⟩, hf1⟩ := hB 1 (by omega)
  unfold Rg.gives
  go_simp
  exact Rg.gives_skip (store_I hB i6)
 intro u hu
 obtain ⟨W0, hw1, hw2, hf⟩ := hu
 have hx := trivial
 refine ⟨_, (by simp only [Act.put, List.setIfInBounds_toArray, List.set_cons_zero, List.set_cons_succ]; exact rfl), ?_⟩
 clear hf hw1 hw2 hx W0
 repeat
  apply Rg.wpK_quiet rfl rfl
  case hq => intro W hS; obtain ⟨⟨q1, q2, _⟩, _⟩ := hS; go_simp; exact rfl
  case he => exact (by simp only [Act.put, List.setIfInBounds_toArray, List.set_cons_zero, List.set_cons_succ]; exact rfl)
 refine Rg.wpK_end fun w9 hR hS hF => ?_
 have hn := n1.rr hR hw
 obtain ⟨m', D', l', c', hc0, hc1, hi⟩ := Rg.upd_at rfl (hF 7)
 go_wp2
 exact bodyPost_ret (v := .agg #[.bool m', .slice D' l' c']) (by simp [results, Tryz.results142, go_sem, hc0, hc1]) rfl (Ret.I (RI.eq hi (sg_mul _ _ _)) hn)
end Go.Proofs.YthpjmhhfcechmaaGreat
/- Bits of whole numbers: sums, fields and deposits (no program in sight). -/
namespace Go.Proofs.YthpjmhhfcechmaaGreat
open Go.RowKit Ma

theorem sh_up (x : Int) (p : Nat) : sh x (p : Int) = x * 2 ^ p := by unfold sh; rw [if_pos (by omega)]; rfl
theorem sh_down (x : Int) (p : Nat) : sh x (-(p : Int)) = x / 2 ^ p := by
 unfold sh
 by_cases h : p = 0
 ·subst h; simp
 ·rw [if_neg (by omega)]; simp
end Go.Proofs.YthpjmhhfcechmaaGreat
