/- Contracts and words, parts Sya, Syb, Syc, B5, Shelf, B6, Md, B7, B8, in one file. -/
import Derived.Tactics2
import Derived.Scope
import Derived.Shelf.Small.Bits
import Derived.Shelf.Small.Strs
import Derived.Shelf.Strings.Search1
import Derived.Shelf.Strings.Prefix
import Derived.Shelf.Spec.SlicesGrow
import Derived.Test.YtcgkgcciogibkaaProg
import Derived.Test.YtcgkgcciogibkaaK1
import Derived.Test.YtcgkgcciogibkaaK2
/- Words for a walk by rules: what is known of a frame's slots, boxes of the call's own; what the operations of a statement in the order of the text do. -/
set_option linter.unusedVariables false
set_option linter.unusedSimpArgs false
namespace Go.Proofs.Ytcgkgcciogibkaa.Sy
open Go Go.RowKit

abbrev Know := Rg.Know
abbrev ptr (p : Nat) : Value := .pointer (some ⟨p, 0, none⟩)

/-! ### Boxes -/
/-- A kind of boxes: the type; which values it holds, in which cells. -/
structure BT where
  T : TypeId
  sh : Value → List Value → Prop
/-- The box at p holds v. -/
def Holds (b : BT) (p : Nat) (v : Value) (W : World) : Prop := ∃ cs, b.sh v cs ∧ ∀ i x, cs[i]? = some x → W.cell? ⟨p, i, none⟩ = some x ∧ W.frozen? ⟨p, i, none⟩ = false
/-- What turned is the block p alone, and no number. -/
structure Only (p : Nat) (W W' : World) : Prop where
  gr : W.grownBy W' (some p)
  nu : IntK W W'
  sz : W'.heap.size = W.heap.size
structure BT.Ok (b : BT) : Prop where
  ne : ∀ v cs, b.sh v cs → cs ≠ []
  load : ∀ v cs W p, b.sh v cs → (∀ i x, cs[i]? = some x → W.cell? ⟨p, i, none⟩ = some x) → (Instr.loadAt b.T (ptr p)).run Try.prog W = .ok v W
  store : ∀ v v' cs' W p, Holds b p v W → b.sh v' cs' → ∃ W', (Instr.storeAt b.T (ptr p) v').run Try.prog W = .ok () W' ∧ Holds b p v' W' ∧ Only p W W'
  alloc : ∃ o z cs, b.sh z cs ∧ ∀ W, (Instr.alloc b.T true (.tuple #[])).run Try.prog W = .ok (ptr W.heap.size) (W.alloc o) ∧ (∀ i x, cs[i]? = some x → (W.alloc o).cell? ⟨W.heap.size, i, none⟩ = some x ∧ (W.alloc o).frozen? ⟨W.heap.size, i, none⟩ = false)
  box : ∀ v cs, b.sh v cs → ∃ o, ∀ W, (Instr.box b.T v).run Try.prog W = .ok (ptr W.heap.size) (W.alloc o) ∧ (∀ i x, cs[i]? = some x → (W.alloc o).cell? ⟨W.heap.size, i, none⟩ = some x ∧ (W.alloc o).frozen? ⟨W.heap.size, i, none⟩ = false)
theorem Holds.lt {b : BT} (hb : b.Ok) {p : Nat} {v : Value} {W : World} (h : Holds b p v W) : p < W.heap.size := by
  obtain ⟨cs, hs, hc⟩ := h
  cases cs with
  | nil => exact absurd rfl (hb.ne _ _ hs)
  | cons x l => exact World.block_lt_of_cell? W ⟨p, 0, none⟩ (hc 0 x rfl).1
theorem Holds.same {b : BT} {p : Nat} {v : Value} {W W' : World} (h : Holds b p v W) (e : W'.heap[p]? = W.heap[p]?) : Holds b p v W' := by
  obtain ⟨cs, hs, hc⟩ := h
  refine ⟨cs, hs, fun i x hx => ?_⟩
  obtain ⟨a, c⟩ := hc i x hx
  exact ⟨(World.cell?_of_block (a := ⟨p, i, none⟩) e).trans a, (World.frozen?_of_block (a := ⟨p, i, none⟩) e).trans c⟩
theorem Holds.nw {b : BT} (hb : b.Ok) {p : Nat} {v : Value} {W W' : World} (h : Holds b p v W) (k : Nw W W') : Holds b p v W' := h.same (Below.block k p (h.lt hb))
theorem Holds.off {b : BT} (hb : b.Ok) {p q : Nat} {v : Value} {W W' : World} (h : Holds b p v W) (k : Only q W W') (hne : p ≠ q) : Holds b p v W' :=
  h.same (k.gr.block p (h.lt hb) (fun e => hne (by injection e)))

/-! ### Frames -/
inductive AV
  | vl (v : Value)
  | kw (k : Know)
  | bx (b : BT) (k : Know)
def AV.isBx : AV → Bool
  | .bx _ _ => true
  | _ => false
def AV.of : AV → Know
  | .vl v => KV v
  | .kw k => k
  | .bx _ _ => fun _ _ => False
def look : List (Nat × AV) → Nat → Option AV
  | [], _ => none
  | (j, v) :: l, i => match Nat.beq j i with
    | true => some v
    | false => look l i
/-- What is known of a slot's value; B: where the call's own blocks begin. -/
def Ho (B : Nat) : AV → Value → World → Prop
  | .vl v, u, _ => u = v
  | .kw k, u, W => k u W ∧ St k
  | .bx b k, u, W => ∃ p v, u = ptr p ∧ B ≤ p ∧ Holds b p v W ∧ k v W ∧ St k ∧ b.Ok
theorem Ho.of {B : Nat} {v : AV} (hv : v.isBx = false) {u : Value} {W : World} (h : Ho B v u W) : v.of u W ∧ St v.of := by
  cases v with
  | vl v => exact ⟨h, KV.st v⟩
  | kw k => exact h
  | bx b k => cases hv
theorem Ho.mk {B : Nat} {v : AV} (hv : v.isBx = false) {u : Value} {W : World} (h : v.of u W) (hs : St v.of) : Ho B v u W := by
  cases v with
  | vl v => exact h
  | kw k => exact ⟨h, hs⟩
  | bx b k => cases hv
theorem Ho.nw {B : Nat} {v : AV} {u : Value} {W W' : World} (h : Ho B v u W) (k : Nw W W') : Ho B v u W' := by
  cases v with
  | vl v => exact h
  | kw kk => exact ⟨h.2 _ _ _ k.kept h.1, h.2⟩
  | bx b kk =>
    obtain ⟨p, x, e, hp, hh, hk, hs, ok⟩ := h
    exact ⟨p, x, e, hp, hh.nw ok k, hs _ _ _ k.kept hk, hs, ok⟩
theorem Ho.off {B : Nat} {v : AV} {u : Value} {W W' : World} {q : Nat} (h : Ho B v u W) (k : Only q W W') (hne : v.isBx = true → u ≠ ptr q) : Ho B v u W' := by
  cases v with
  | vl v => exact h
  | kw kk => exact ⟨h.2 _ _ _ k.nu h.1, h.2⟩
  | bx b kk =>
    obtain ⟨p, x, e, hp, hh, hk, hs, ok⟩ := h
    refine ⟨p, x, e, hp, hh.off ok k (fun e2 => hne rfl (by rw [e, e2])), hs _ _ _ k.nu hk, hs, ok⟩

/-- A frame of N slots in a call that began in the world w0, whose own blocks begin at B. -/
structure Fr (B N : Nat) (w0 : World) (fr : List (Nat × AV)) (a : Act) (W : World) : Prop where
  df : a.defers = []
  sz : a.tmps.size = N
  be : Below B w0 W
  bs : B ≤ W.heap.size
  ho : ∀ i v, look fr i = some v → Ho B v (a.tmps.getD i undef) W
  di : ∀ i j b k b' k' p, i ≠ j → look fr i = some (.bx b k) → look fr j = some (.bx b' k') → a.tmps.getD i undef = ptr p → a.tmps.getD j undef ≠ ptr p
section
variable {B N : Nat} {w0 : World} {fr : List (Nat × AV)} {a : Act} {W : World}
theorem Fr.nw {W' : World} (h : Fr B N w0 fr a W) (k : Nw W W') : Fr B N w0 fr a W' :=
  ⟨h.df, h.sz, h.be.trans (Below.mono k h.bs), Nat.le_trans h.bs k.size, fun i v hi => (h.ho i v hi).nw k, h.di⟩
theorem getD_put {a : Act} {d i : Nat} {u : Value} (hd : d < a.tmps.size) : (a.put (some d) u).tmps.getD i undef = if d = i then u else a.tmps.getD i undef := by
  show (a.tmps.setIfInBounds d u).getD i undef = _
  simp only [Array.getD_eq_getD_getElem?, Array.getElem?_setIfInBounds]
  by_cases e : d = i
  · subst e; simp [hd]
  · simp [e]
theorem look_cons (j : Nat) (v : AV) (l : List (Nat × AV)) (i : Nat) : look ((j, v) :: l) i = if j = i then some v else look l i := by
  show (match Nat.beq j i with | true => some v | false => look l i) = _
  by_cases e : j = i
  · subst e; simp
  · have : Nat.beq j i = false := by rw [← Bool.not_eq_true]; exact fun h => e (Nat.eq_of_beq_eq_true h)
    rw [this, if_neg e]
/-- A slot is written. -/
theorem Fr.put {d : Nat} {u : Value} {v : AV} (h : Fr B N w0 fr a W) (hd : Nat.blt d N = true) (hu : Ho B v u W) (hn : ∀ i b k, v.isBx = true → look fr i = some (.bx b k) → u ≠ a.tmps.getD i undef) : Fr B N w0 ((d, v) :: fr) (a.put (some d) u) W := by
  have hd' : d < a.tmps.size := by rw [h.sz]; simpa [Nat.blt_eq] using hd
  refine ⟨h.df, by show (a.tmps.setIfInBounds d u).size = N; rw [Array.size_setIfInBounds]; exact h.sz, h.be, h.bs, fun i x hi => ?_, fun i j b k b' k' p hij hi hj => ?_⟩
  · rw [look_cons] at hi
    rw [getD_put hd']
    by_cases e : d = i
    · rw [if_pos e] at hi ⊢; injection hi with hi; subst hi; exact hu
    · rw [if_neg e] at hi ⊢; exact h.ho i x hi
  · rw [look_cons] at hi hj
    rw [getD_put hd', getD_put hd']
    by_cases e : d = i
    · rw [if_pos e] at hi ⊢
      injection hi with hi
      have e' : d ≠ j := fun x => hij (e.symm.trans x)
      rw [if_neg e'] at hj ⊢
      intro x y
      exact hn j b' k' (by rw [hi]; rfl) hj (x.trans y.symm)
    · rw [if_neg e] at hi ⊢
      by_cases e' : d = j
      · rw [if_pos e'] at hj ⊢
        injection hj with hj
        intro x y
        exact hn i b k (by rw [hj]; rfl) hi (y.trans x.symm)
      · rw [if_neg e'] at hj ⊢; exact h.di i j b k b' k' p hij hi hj
theorem Fr.set {d : Nat} {u : Value} {v : AV} (h : Fr B N w0 fr a W) (hd : Nat.blt d N = true) (hu : Ho B v u W) (hv : v.isBx = false) : Fr B N w0 ((d, v) :: fr) (a.put (some d) u) W :=
  h.put hd hu fun _ _ _ e => by rw [hv] at e; cases e
/-- A fresh box. -/
theorem Fr.fresh {d p : Nat} {b : BT} {k : Know} {W' : World} (h : Fr B N w0 fr a W) (hn : Nw W W') (hd : Nat.blt d N = true) (hp : W.heap.size ≤ p) (hu : Ho B (.bx b k) (ptr p) W') : Fr B N w0 ((d, .bx b k) :: fr) (a.put (some d) (ptr p)) W' := by
  refine (h.nw hn).put hd hu fun i b' k' _ hi e => ?_
  obtain ⟨q, x, e2, _, hh, _, _, ok⟩ := h.ho i _ hi
  rw [e2] at e
  injection e with e
  injection e with e
  injection e with e
  have := hh.lt ok
  omega
/-- A slot is known better, or otherwise. -/
theorem Fr.know {i : Nat} {v : AV} (h : Fr B N w0 fr a W) (hv : v.isBx = false) (hu : Ho B v (a.tmps.getD i undef) W) : Fr B N w0 ((i, v) :: fr) a W := by
  refine ⟨h.df, h.sz, h.be, h.bs, fun j x hj => ?_, fun j l b k b' k' p hjl hj hl => ?_⟩
  · rw [look_cons] at hj
    by_cases e : i = j
    · rw [if_pos e] at hj; injection hj with hj; subst hj; subst e; exact hu
    · rw [if_neg e] at hj; exact h.ho j x hj
  · rw [look_cons] at hj hl
    by_cases e : i = j
    · rw [if_pos e] at hj; injection hj with hj; rw [hj] at hv; cases hv
    · by_cases e' : i = l
      · rw [if_pos e'] at hl; injection hl with hl; rw [hl] at hv; cases hv
      · rw [if_neg e] at hj; rw [if_neg e'] at hl; exact h.di j l b k b' k' p hjl hj hl
/-- A box is written. -/
theorem Fr.stored {s q : Nat} {b : BT} {k k' : Know} {v' : Value} {W' : World} (h : Fr B N w0 fr a W) (hs : look fr s = some (.bx b k)) (hq : a.tmps.getD s undef = ptr q) (ho : Only q W W') (hh : Holds b q v' W') (hk : k' v' W') (hst : St k') : Fr B N w0 ((s, .bx b k') :: fr) a W' := by
  obtain ⟨q', x, e, hB, hx, _, _, ok⟩ := h.ho s _ hs
  have eq' : q' = q := by rw [e] at hq; injection hq with hq; injection hq with hq; injection hq
  subst eq'
  refine ⟨h.df, h.sz, ?_, by rw [ho.sz]; exact h.bs, fun j y hj => ?_, fun j l b1 k1 b2 k2 p hjl hj hl => ?_⟩
  · exact Below.grown h.be ho.gr h.bs (fun k e => by injection e with e; omega)
  · rw [look_cons] at hj
    by_cases e' : s = j
    · rw [if_pos e'] at hj; injection hj with hj; subst hj; subst e'; exact ⟨q', v', e, hB, hh, hk, hst, ok⟩
    · rw [if_neg e'] at hj
      refine (h.ho j y hj).off ho fun hy => ?_
      cases y with
      | bx b3 k3 => exact h.di s j b k b3 k3 q' e' hs hj e
      | vl _ => cases hy
      | kw _ => cases hy
  · rw [look_cons] at hj hl
    by_cases e1 : s = j
    · have e2 : s ≠ l := fun x => hjl (e1.symm.trans x)
      rw [if_neg e2] at hl
      subst e1
      exact h.di s l b k b2 k2 p hjl hs hl
    · rw [if_neg e1] at hj
      by_cases e2 : s = l
      · subst e2; exact h.di j s b1 k1 b k p hjl hj hs
      · rw [if_neg e2] at hl; exact h.di j l b1 k1 b2 k2 p hjl hj hl
end

/-! ### Operands -/
def opv (fr : List (Nat × AV)) : Operand → Option AV
  | .tmp t => match look fr t with
    | some (.bx _ _) => none
    | r => r
  | .const v => some (.vl v)
  | .func f => some (.vl (.func (.func f) #[] #[]))
  | .global g => some (.vl (ptr g))
theorem opv_spec {B N : Nat} {w0 : World} {fr : List (Nat × AV)} {a : Act} {W : World} (h : Fr B N w0 fr a W) {x : Operand} {v : AV} (hx : opv fr x = some v) : Ho B v (a.eval x) W ∧ v.isBx = false := by
  cases x with
  | tmp t =>
    simp only [opv] at hx
    cases hl : look fr t with
    | none => rw [hl] at hx; cases hx
    | some r =>
      rw [hl] at hx
      cases r with
      | bx b k => cases hx
      | vl x => injection hx with hx; subst hx; exact ⟨h.ho t _ hl, rfl⟩
      | kw x => injection hx with hx; subst hx; exact ⟨h.ho t _ hl, rfl⟩
  | const v' => injection hx with hx; subst hx; exact ⟨rfl, rfl⟩
  | func f => injection hx with hx; subst hx; exact ⟨rfl, rfl⟩
  | global g => injection hx with hx; subst hx; exact ⟨rfl, rfl⟩
theorem opv_vl {B N : Nat} {w0 : World} {fr : List (Nat × AV)} {a : Act} {W : World} (h : Fr B N w0 fr a W) {x : Operand} {v : Value} (hx : opv fr x = some (.vl v)) : a.eval x = v := (opv_spec h hx).1
/-- Of values something is known, one by one. -/
def All : List Know → List Value → World → Prop
  | [], [], _ => True
  | k :: ks, u :: us, W => k u W ∧ All ks us W
  | _, _, _ => False
def opks (fr : List (Nat × AV)) : List Operand → Option (List Know)
  | [] => some []
  | x :: xs => match opv fr x with
    | none => none
    | some v => match opks fr xs with
      | none => none
      | some ks => some (v.of :: ks)
theorem opks_spec {B N : Nat} {w0 : World} {fr : List (Nat × AV)} {a : Act} {W : World} (h : Fr B N w0 fr a W) : ∀ {xs : List Operand} {ks : List Know}, opks fr xs = some ks → All ks (xs.map a.eval) W
  | [], ks, e => by injection e with e; subst e; trivial
  | x :: xs, ks, e => by
    unfold opks at e
    split at e
    · cases e
    · rename_i v hv
      split at e
      · cases e
      · rename_i ks' hk
        injection e with e
        subst e
        obtain ⟨h1, h2⟩ := opv_spec h hv
        exact ⟨(h1.of h2).1, opks_spec h hk⟩
/-- Is an operation carried out. -/
def wantB (ops : Array Oper) (fr : List (Nat × AV)) (o : Oper) : Option Bool := match o.guard with
  | none => some true
  | some (j, b) => match (ops[j]?).bind (·.dst) with
    | none => some false
    | some d => match look fr d with
      | some (.vl (.bool c)) => some (c == b)
      | some (.vl (.tuple _)) => some false
      | _ => none
theorem wantB_ex {ops : Array Oper} {fr : List (Nat × AV)} {o : Oper} {a : Act} (h : ∀ s v, look fr s = some (.vl v) → a.tmps.getD s undef = v) {b : Bool} (hw : wantB ops fr o = some b) : Region.wanted o (yielded ops a.tmps) = b := by
  unfold wantB at hw
  unfold Region.wanted
  split at hw
  · rename_i hg; rw [hg]; injection hw
  · rename_i j c hg
    rw [hg]
    split at hw
    · rename_i hd
      injection hw with hw
      subst hw
      simp only [yielded, hd, Option.bind_none]
      rfl
    · rename_i d hd
      have key : ∀ v, look fr d = some (.vl v) → yielded ops a.tmps j = (match (some v : Option Value) with | some (.bool b) => some b | _ => none) ∨ (yielded ops a.tmps j = none ∧ v = undef) := by
        intro v hv
        have e : a.tmps.getD d undef = v := h d v hv
        simp only [Array.getD_eq_getD_getElem?] at e
        simp only [yielded, hd, Option.bind_some]
        cases hq : a.tmps[d]? with
        | none => rw [hq] at e; exact .inr ⟨rfl, by simpa using e.symm⟩
        | some x => rw [hq] at e; simp only [Option.getD_some] at e; subst e; exact .inl rfl
      split at hw
      · rename_i c' hl
        injection hw with hw
        subst hw
        rcases key _ hl with e | ⟨_, e⟩
        · simp only [e]; rfl
        · unfold undef at e; cases e
      · rename_i xs hl
        injection hw with hw
        subst hw
        rcases key _ hl with e | ⟨e, _⟩
        · simp only [e]; rfl
        · simp only [e]; rfl
      · cases hw
theorem Fr.ex {B N : Nat} {w0 : World} {fr : List (Nat × AV)} {a : Act} {W : World} (h : Fr B N w0 fr a W) : ∀ s v, look fr s = some (.vl v) → a.tmps.getD s undef = v := fun s v e => h.ho s _ e
theorem wantB_spec {B N : Nat} {w0 : World} {ops : Array Oper} {fr : List (Nat × AV)} {o : Oper} {a : Act} {W : World} (h : Fr B N w0 fr a W) {b : Bool} (hw : wantB ops fr o = some b) : Region.wanted o (yielded ops a.tmps) = b := wantB_ex h.ex hw
theorem opv_ex {fr : List (Nat × AV)} {a : Act} (h : ∀ s v, look fr s = some (.vl v) → a.tmps.getD s undef = v) {x : Operand} {v : Value} (hx : opv fr x = some (.vl v)) : a.eval x = v := by
  cases x with
  | tmp t =>
    simp only [opv] at hx
    cases hl : look fr t with
    | none => rw [hl] at hx; cases hx
    | some r =>
      rw [hl] at hx
      cases r with
      | bx b k => cases hx
      | vl x => injection hx with hx; injection hx with hx; subst hx; exact h t _ hl
      | kw x => injection hx with hx; cases hx
  | const v' => injection hx with hx; injection hx
  | func f => injection hx with hx; injection hx
  | global g => injection hx with hx; injection hx
end Go.Proofs.Ytcgkgcciogibkaa.Sy
/- A walk by rules: statements in the order of the text, and how they follow one another. -/
set_option linter.unusedVariables false
set_option linter.unusedSimpArgs false
namespace Go.Proofs.Ytcgkgcciogibkaa.Sy
open Go Go.RowKit
section
variable {B N : Nat} {w0 : World} {ops : Array Oper} {o : Oper} {rest : List Oper} {fr : List (Nat × AV)} {Q : Exit → Act → World → Prop} {d : Nat}

/-- A plain statement from an operation on. -/
def PW (B N : Nat) (w0 : World) (ops : Array Oper) (rest : List Oper) (fr : List (Nat × AV)) (Q : Exit → Act → World → Prop) : Prop := ∀ a W, Fr B N w0 fr a W → wpList Try.prog ops Q rest a W
/-- Code under what is known of the frame; what is asked at its end. -/
def SC (B N : Nat) (w0 : World) (c : Code) (fr : List (Nat × AV)) (Q : Exit → Act → World → Prop) : Prop := ∀ a W, Fr B N w0 fr a W → c.wp Try.prog Q a W
def SX (B N : Nat) (w0 : World) (e : Exit) (fr : List (Nat × AV)) (Q : Exit → Act → World → Prop) : Prop := ∀ a W, Fr B N w0 fr a W → Q e a W

theorem PW.nil (h : SX B N w0 .normal fr Q) : PW B N w0 ops [] fr Q := fun a W hf => wpList_nil (h a W hf)
theorem PW.step (hw : wantB ops fr o = some true) (h : ∀ a W, Fr B N w0 fr a W → ∀ K : Act → World → Prop, (∀ a W, wpList Try.prog ops Q rest a W → K a W) → o.wp Try.prog a W K Q) : PW B N w0 ops (o :: rest) fr Q :=
  fun a W hf => wpList_step fun K hK => by rw [if_pos (wantB_spec hf hw)]; exact h a W hf K hK
/-- An operation that gives a value. -/
theorem PW.val {r : AV} (hw : wantB ops fr o = some true) (hd : o.dst = some d) (hN : Nat.blt d N = true) (hr : r.isBx = false)
    (h : ∀ a W, Fr B N w0 fr a W → ∃ u, (execOp a.eval o).run Try.prog W = .ok (.value u) W ∧ Ho B r u W) (hk : PW B N w0 ops rest ((d, r) :: fr) Q) : PW B N w0 ops (o :: rest) fr Q :=
  PW.step hw fun a W hf K hK => by
    obtain ⟨u, e, hu⟩ := h a W hf
    unfold Oper.wp
    rw [e, Oper.upon_value, hd]
    exact hK _ _ (hk _ _ (hf.set hN hu hr))
theorem PW.skip (hw : wantB ops fr o = some false) (hd : o.dst = some d) (hN : Nat.blt d N = true) (hk : PW B N w0 ops rest ((d, .vl undef) :: fr) Q) : PW B N w0 ops (o :: rest) fr Q :=
  fun a W hf => wpList_skip (wantB_spec hf hw) (by rw [hd]; exact hk _ _ (hf.set hN rfl rfl))
theorem PW.move {x : Operand} {r : AV} (hw : wantB ops fr o = some true) (hd : o.dst = some d) (hN : Nat.blt d N = true) (ho : o.op = .move x) (hx : opv fr x = some r) (hk : PW B N w0 ops rest ((d, r) :: fr) Q) : PW B N w0 ops (o :: rest) fr Q :=
  PW.step hw fun a W hf K hK => by
    obtain ⟨h1, h2⟩ := opv_spec hf hx
    have e : (execOp a.eval o).run Try.prog W = .ok (.value (a.eval x)) W := by unfold execOp; rw [ho]; rfl
    unfold Oper.wp
    rw [e, Oper.upon_value, hd]
    exact hK _ _ (hk _ _ (hf.set hN h1 h2))
theorem PW.assign {x : Operand} {r : AV} (hw : wantB ops fr o = some true) (hd : o.dst = some d) (hN : Nat.blt d N = true) (ho : o.op = .assign x) (hx : opv fr x = some r) (hk : PW B N w0 ops rest ((d, r) :: fr) Q) : PW B N w0 ops (o :: rest) fr Q :=
  PW.step hw fun a W hf K hK => by
    obtain ⟨h1, h2⟩ := opv_spec hf hx
    have e : (execOp a.eval o).run Try.prog W = .ok (.value (a.eval x)) W := by unfold execOp; rw [ho]; rfl
    unfold Oper.wp
    rw [e, Oper.upon_value, hd]
    exact hK _ _ (hk _ _ (hf.set hN h1 h2))
theorem run_val {s : Sem Value} {W W' : World} {v : Value} (h : s.run Try.prog W = .ok v W') : (do pure (.value (← s)) : Sem Next).run Try.prog W = .ok (.value v) W' := by
  simp [h, go_sem]
theorem run_skip {s : Sem Unit} {W W' : World} (h : s.run Try.prog W = .ok () W') : (do s; pure .skip : Sem Next).run Try.prog W = .ok .skip W' := by
  simp [h, go_sem]
theorem PW.load {T : TypeId} {s : Nat} {b : BT} {k : Know} (hw : wantB ops fr o = some true) (hd : o.dst = some d) (hN : Nat.blt d N = true) (ho : o.op = .load T (.tmp s)) (hs : look fr s = some (.bx b k)) (hT : b.T = T) (hk : PW B N w0 ops rest ((d, .kw k) :: fr) Q) : PW B N w0 ops (o :: rest) fr Q :=
  PW.val hw hd hN rfl (fun a W hf => by
    obtain ⟨p, v, e, _, ⟨cs, hs1, hc⟩, hv, st, ok⟩ := hf.ho s _ hs
    refine ⟨v, ?_, hv, st⟩
    have := run_val (ok.load v cs W p hs1 fun i x hx => (hc i x hx).1)
    unfold execOp
    rw [ho]
    show (do pure (.value (← Instr.loadAt T (a.tmps.getD s undef))) : Sem Next).run Try.prog W = _
    rw [e, ← hT]
    exact this) hk
/-- What is known of a part of a tuple. -/
def Ex (k : Know) (i : Nat) (r : AV) : Prop := ∀ u W, k u W → ∃ vs v, u = .tuple vs ∧ vs[i]? = some v ∧ r.of v W
theorem ex20 {k1 k2 : Know} : Ex (K2 k1 k2) 0 (.kw k1) := fun u W ⟨v1, v2, e, h1, h2⟩ => ⟨_, v1, e, rfl, h1⟩
theorem ex21 {k1 k2 : Know} : Ex (K2 k1 k2) 1 (.kw k2) := fun u W ⟨v1, v2, e, h1, h2⟩ => ⟨_, v2, e, rfl, h2⟩
theorem ex20v {v : Value} {k2 : Know} : Ex (K2 (KV v) k2) 0 (.vl v) := fun u W ⟨v1, v2, e, h1, h2⟩ => ⟨_, v1, e, rfl, h1⟩
theorem ex21v {v : Value} {k1 : Know} : Ex (K2 k1 (KV v)) 1 (.vl v) := fun u W ⟨v1, v2, e, h1, h2⟩ => ⟨_, v2, e, rfl, h2⟩
theorem ex30 {k1 k2 k3 : Know} : Ex (K3 k1 k2 k3) 0 (.kw k1) := fun u W ⟨v1, v2, v3, e, h1, h2, h3⟩ => ⟨_, v1, e, rfl, h1⟩
theorem ex31 {k1 k2 k3 : Know} : Ex (K3 k1 k2 k3) 1 (.kw k2) := fun u W ⟨v1, v2, v3, e, h1, h2, h3⟩ => ⟨_, v2, e, rfl, h2⟩
theorem ex32v {v : Value} {k1 k2 : Know} : Ex (K3 k1 k2 (KV v)) 2 (.vl v) := fun u W ⟨v1, v2, v3, e, h1, h2, h3⟩ => ⟨_, v3, e, rfl, h3⟩
theorem ex30v {v : Value} {k2 k3 : Know} : Ex (K3 (KV v) k2 k3) 0 (.vl v) := fun u W ⟨v1, v2, v3, e, h1, h2, h3⟩ => ⟨_, v1, e, rfl, h1⟩
theorem run_ext {vs : Array Value} {i : Nat} {v : Value} (h : vs[i]? = some v) (W : World) : (Instr.extract (.tuple vs) i).run Try.prog W = .ok v W := by
  simp [Instr.extract, h, go_sem]
theorem PW.ext {s i : Nat} {k : Know} {r : AV} (hw : wantB ops fr o = some true) (hd : o.dst = some d) (hN : Nat.blt d N = true) (ho : o.op = .extract (.tmp s) i) (hs : look fr s = some (.kw k)) (hx : Ex k i r) (hst : St r.of) (hr : r.isBx = false) (hk : PW B N w0 ops rest ((d, r) :: fr) Q) : PW B N w0 ops (o :: rest) fr Q :=
  PW.val hw hd hN hr (fun a W hf => by
    obtain ⟨hv, _⟩ := hf.ho s _ hs
    obtain ⟨vs, v, e, hi, hv'⟩ := hx _ W hv
    refine ⟨v, ?_, Ho.mk hr hv' hst⟩
    unfold execOp
    rw [ho]
    show (do pure (.value (← Instr.extract (a.tmps.getD s undef) i)) : Sem Next).run Try.prog W = _
    rw [e]
    exact run_val (run_ext hi W)) hk
/-- A call of which a contract is known. -/
def CE (f : FuncId) : Prop := ∀ args W, (callFunc f args).run Try.prog W = .ok (.enter f args) W
def CallOk (f : FuncId) (ks : List Know) (r : Know) : Prop := CE f ∧ ∀ W us, All ks us W → Calls Try.prog f us.toArray W (Ret W r)
theorem run_call {c : Call} {f : FuncId} (ce : CE f) (hc : c.callee = .value (.func f)) (ρ : Operand → Value) (hρ : ρ (.func f) = .func (.func f) #[] #[]) (ty : TypeId) (W : World) {dst : Option Tmp} {pos : String} {after : Array Edge} {guard : Option (Nat × Bool)} :
    (execOp ρ ⟨dst, .call c, ty, pos, after, guard⟩).run Try.prog W = .ok (.enter f (c.args.map ρ)) W := by
  obtain ⟨cal, args, ats⟩ := c
  simp only at hc
  subst hc
  have := ce (args.map ρ) W
  simp [execOp, resolve, hρ, go_sem, this]
theorem PW.call {c : Call} {f : FuncId} {ks : List Know} {r : AV} (hw : wantB ops fr o = some true) (hd : o.dst = some d) (hN : Nat.blt d N = true) (ho : o.op = .call c) (hc : c.callee = .value (.func f)) (ha : opks fr c.args.toList = some ks) (hst : St r.of) (hr : r.isBx = false)
    (h : CallOk f ks r.of) (hk : PW B N w0 ops rest ((d, r) :: fr) Q) : PW B N w0 ops (o :: rest) fr Q :=
  PW.step hw fun a W hf K hK => by
    obtain ⟨dst, op, ty, pos, after, guard⟩ := o
    simp only at ho hd
    subst ho
    subst hd
    unfold Oper.wp
    rw [run_call h.1 hc a.eval rfl ty W]
    simp only [Oper.upon]
    have e : (c.args.toList.map a.eval).toArray = c.args.map a.eval := by rw [← Array.toList_map]
    have := h.2 W _ (opks_spec hf ha)
    rw [e] at this
    refine this.mono fun e W' ⟨v, he, hv, hn⟩ => ?_
    subst he
    exact hK _ _ (hk _ _ ((hf.nw hn).set hN (Ho.mk hr hv hst) hr))
/-- A new box. -/
def KT : Know := fun _ _ => True
theorem KT.st : St KT := fun _ _ _ _ _ => trivial
theorem PW.alloc {T : TypeId} (b : BT) (hw : wantB ops fr o = some true) (hd : o.dst = some d) (hN : Nat.blt d N = true) (ho : o.op = .alloc T) (hT : b.T = T) (ok : b.Ok) (hk : PW B N w0 ops rest ((d, .bx b KT) :: fr) Q) : PW B N w0 ops (o :: rest) fr Q :=
  PW.step hw fun a W hf K hK => by
    obtain ⟨ob, z, cs, hz, hal⟩ := ok.alloc
    obtain ⟨h1, h2⟩ := hal W
    have e : (execOp a.eval o).run Try.prog W = .ok (.value (ptr W.heap.size)) (W.alloc ob) := by
      unfold execOp
      rw [ho, ← hT]
      exact run_val h1
    unfold Oper.wp
    rw [e, Oper.upon_value, hd]
    exact hK _ _ (hk _ _ (hf.fresh ((Nw.refl W).alloc ob) hN (Nat.le_refl _) ⟨_, z, rfl, hf.bs, ⟨cs, hz, h2⟩, trivial, KT.st, ok⟩))
theorem PW.box {T : TypeId} {x : Operand} {r : AV} (b : BT) (hw : wantB ops fr o = some true) (hd : o.dst = some d) (hN : Nat.blt d N = true) (ho : o.op = .box T x) (hT : b.T = T) (ok : b.Ok) (hx : opv fr x = some r) (hsh : ∀ v W, r.of v W → ∃ cs, b.sh v cs) (hk : PW B N w0 ops rest ((d, .bx b r.of) :: fr) Q) : PW B N w0 ops (o :: rest) fr Q :=
  PW.step hw fun a W hf K hK => by
    obtain ⟨h1, h2⟩ := opv_spec hf hx
    obtain ⟨h3, h4⟩ := h1.of h2
    obtain ⟨cs, hcs⟩ := hsh _ _ h3
    obtain ⟨ob, hbx⟩ := ok.box _ _ hcs
    obtain ⟨h5, h6⟩ := hbx W
    have e : (execOp a.eval o).run Try.prog W = .ok (.value (ptr W.heap.size)) (W.alloc ob) := by
      unfold execOp
      rw [ho, ← hT]
      exact run_val h5
    unfold Oper.wp
    rw [e, Oper.upon_value, hd]
    have hn := (Nw.refl W).alloc ob
    exact hK _ _ (hk _ _ (hf.fresh hn hN (Nat.le_refl _) ⟨_, _, rfl, hf.bs, ⟨cs, hcs, h6⟩, h4 _ _ _ hn.kept h3, h4, ok⟩))
theorem PW.store {T : TypeId} {s : Nat} {x : Operand} {r : AV} {b : BT} {k : Know} (hw : wantB ops fr o = some true) (hd : o.dst = none) (ho : o.op = .store T (.tmp s) x) (hs : look fr s = some (.bx b k)) (hT : b.T = T) (hx : opv fr x = some r) (hsh : ∀ v W, r.of v W → ∃ cs, b.sh v cs) (hk : PW B N w0 ops rest ((s, .bx b r.of) :: fr) Q) : PW B N w0 ops (o :: rest) fr Q :=
  PW.step hw fun a W hf K hK => by
    obtain ⟨h1, h2⟩ := opv_spec hf hx
    obtain ⟨h3, h4⟩ := h1.of h2
    obtain ⟨cs', hcs⟩ := hsh _ _ h3
    obtain ⟨p, v, e, hB, hh, hv, st, ok⟩ := hf.ho s _ hs
    obtain ⟨W', h5, h6, h7⟩ := ok.store v _ cs' W p hh hcs
    have e2 : (execOp a.eval o).run Try.prog W = .ok .skip W' := by
      unfold execOp
      rw [ho, ← hT]
      show (do (Instr.storeAt b.T (a.tmps.getD s undef) (a.eval x)); pure .skip : Sem Next).run Try.prog W = _
      rw [e]
      exact run_skip h5
    unfold Oper.wp
    rw [e2]
    show K (a.put o.dst undef) W'
    rw [hd]
    exact hK _ _ (hk _ _ (hf.stored hs e h7 h6 (h4 _ _ _ h7.nu h3) h4))
/-- An operation on values that are known. -/
theorem PW.q1 {x : Operand} {u : Value} (v : Value) (hw : wantB ops fr o = some true) (hd : o.dst = some d) (hN : Nat.blt d N = true) (hx : opv fr x = some (.vl u)) (h : ∀ (ρ : Operand → Value) (W : World), ρ x = u → (execOp ρ o).run Try.prog W = .ok (.value v) W) (hk : PW B N w0 ops rest ((d, .vl v) :: fr) Q) : PW B N w0 ops (o :: rest) fr Q :=
  PW.val (r := .vl v) hw hd hN rfl (fun a W hf => ⟨v, h _ W (opv_vl hf hx), rfl⟩) hk
theorem PW.q2 {x y : Operand} {u u2 : Value} (v : Value) (hw : wantB ops fr o = some true) (hd : o.dst = some d) (hN : Nat.blt d N = true) (hx : opv fr x = some (.vl u)) (hy : opv fr y = some (.vl u2)) (h : ∀ (ρ : Operand → Value) (W : World), ρ x = u → ρ y = u2 → (execOp ρ o).run Try.prog W = .ok (.value v) W) (hk : PW B N w0 ops rest ((d, .vl v) :: fr) Q) : PW B N w0 ops (o :: rest) fr Q :=
  PW.val (r := .vl v) hw hd hN rfl (fun a W hf => ⟨v, h _ W (opv_vl hf hx) (opv_vl hf hy), rfl⟩) hk
/-- A choice. -/
theorem PW.pick {c x y : Operand} {t : Bool} {r : AV} (hw : wantB ops fr o = some true) (hd : o.dst = some d) (hN : Nat.blt d N = true) (ho : o.op = .pick c x y) (hc : opv fr c = some (.vl (.bool t))) (hx : opv fr (bif t then x else y) = some r) (hk : PW B N w0 ops rest ((d, r) :: fr) Q) : PW B N w0 ops (o :: rest) fr Q :=
  PW.step hw fun a W hf K hK => by
    obtain ⟨h1, h2⟩ := opv_spec hf hx
    have e : (execOp a.eval o).run Try.prog W = .ok (.value (a.eval (bif t then x else y))) W := by
      unfold execOp
      rw [ho]
      have := opv_vl hf hc
      simp only [this]
      cases t <;> simp [asBool, go_sem]
    unfold Oper.wp
    rw [e, Oper.upon_value, hd]
    exact hK _ _ (hk _ _ (hf.set hN h1 h2))

/-! ### Code -/
theorem SC.region {id : Nat} {l : List Oper} (h : PW B N w0 l.toArray l fr Q) : SC B N w0 (.region id l.toArray false) fr Q := fun a W hf => wp_region_lit (h a W hf)
theorem SC.seq {x y : Code} (h : SC B N w0 x fr (Exit.then (y.wp Try.prog Q) Q)) : SC B N w0 (.seq x y) fr Q := fun a W hf => wp_seq (h a W hf)
theorem SX.then {y : Code} (h : SC B N w0 y fr Q) : SX B N w0 .normal fr (Exit.then (y.wp Try.prog Q) Q) := h
theorem SC.cond {c : Operand} {x y : Code} {t : Bool} (hc : opv fr c = some (.vl (.bool t))) (h : SC B N w0 (bif t then x else y) fr Q) : SC B N w0 (.cond c x y) fr Q :=
  fun a W hf => wp_cond (opv_vl hf hc) (by cases t <;> exact h a W hf)
theorem SC.split {c : Operand} {x y : Code} {t : Bool} (hc : opv fr c = some (.vl (.bool t))) (h1 : t = true → SC B N w0 x fr Q) (h2 : t = false → SC B N w0 y fr Q) : SC B N w0 (.cond c x y) fr Q :=
  fun a W hf => wp_cond_split (opv_vl hf hc) (fun e => h1 e a W hf) (fun e => h2 e a W hf)
theorem SC.block {id : Nat} {c : Code} (h : SC B N w0 c fr (Exit.inBlock id Q)) : SC B N w0 (.block id c) fr Q := fun a W hf => wp_block (h a W hf)
theorem SC.skip (h : SX B N w0 .normal fr Q) : SC B N w0 .skip fr Q := fun a W hf => wp_skip (h a W hf)
theorem SC.exit {id : Nat} (h : SX B N w0 (.exit id) fr Q) : SC B N w0 (.exit id) fr Q := fun a W hf => wp_exit (h a W hf)
theorem SC.ret (h : SX B N w0 .ret fr Q) : SC B N w0 .ret fr Q := fun a W hf => wp_ret (h a W hf)
theorem SX.blockN {id : Nat} (h : SX B N w0 .normal fr Q) : SX B N w0 .normal fr (Exit.inBlock id Q) := h
theorem SX.blockE {id : Nat} (h : SX B N w0 .normal fr Q) : SX B N w0 (.exit id) fr (Exit.inBlock id Q) := fun a W hf => by show (if id = id then _ else _); rw [if_pos rfl]; exact h a W hf
theorem SX.blockR {id : Nat} (h : SX B N w0 .ret fr Q) : SX B N w0 .ret fr (Exit.inBlock id Q) := h
theorem SX.thenE {id : Nat} {K : Act → World → Prop} (h : SX B N w0 (.exit id) fr Q) : SX B N w0 (.exit id) fr (Exit.then K Q) := h
theorem SX.thenR {K : Act → World → Prop} (h : SX B N w0 .ret fr Q) : SX B N w0 .ret fr (Exit.then K Q) := h
/-- Only what is still asked for is kept, or what is known is said otherwise. -/
theorem SC.weak {c : Code} {fr' : List (Nat × AV)} (hf : ∀ a W, Fr B N w0 fr a W → Fr B N w0 fr' a W) (h : SC B N w0 c fr' Q) : SC B N w0 c fr Q := fun a W f => h a W (hf a W f)
end

/-! ### The boxes of integers -/
def BI (T : TypeId) : BT := ⟨T, fun v cs => ∃ m A l c, v = .agg #[.bool m, .slice A l c] ∧ cs = [.bool m, .slice A l c]⟩
theorem two_at {x y : Value} {i : Nat} {z : Value} (h : [x, y][i]? = some z) : (i = 0 ∧ z = x) ∨ (i = 1 ∧ z = y) := by
  match i, h with
  | 0, h => exact .inl ⟨rfl, by simpa using h.symm⟩
  | 1, h => exact .inr ⟨rfl, by simpa using h.symm⟩
theorem bI : (BI 28).Ok := by
  refine ⟨?_, ?_, ?_, ?_, ?_⟩
  · rintro v cs ⟨m, A, l, c, rfl, rfl⟩; simp
  · rintro v cs W p ⟨m, A, l, c, rfl, rfl⟩ h
    have h0 := h 0 _ rfl
    have h1 := h 1 _ rfl
    show (Instr.loadAt 28 (ptr p)).run Try.prog W = _
    go_simp
  · rintro v v' cs' W p ⟨cs, ⟨m, A, l, c, rfl, rfl⟩, hc⟩ ⟨m', A', l', c', rfl, rfl⟩
    obtain ⟨h0, f0⟩ := hc 0 _ rfl
    obtain ⟨h1, f1⟩ := hc 1 _ rfl
    have hb : Box p 2 W := fun i hi => match i, hi with
      | 0, _ => ⟨⟨_, h0, by simp⟩, f0⟩
      | 1, _ => ⟨⟨_, h1, by simp⟩, f1⟩
    obtain ⟨W', e, hr, k0, k1⟩ := store_two (m := m') (D := A') (l := l') (c := c') hb
    refine ⟨(W.setCell ⟨p, 0, none⟩ (.bool m')).setCell ⟨p, 1, none⟩ (.slice A' l' c'), ?_, ⟨_, ⟨m', A', l', c', rfl, rfl⟩, fun i x hx => ?_⟩, ?_, ?_, ?_⟩
    · show (Instr.storeAt 28 (ptr p) _).run Try.prog W = _
      go_simp
    · rcases two_at hx with ⟨rfl, rfl⟩ | ⟨rfl, rfl⟩
      · exact ⟨by rw [e]; exact k0, by simp [World.frozen?_setCell, f0]⟩
      · exact ⟨by rw [e]; exact k1, by simp [World.frozen?_setCell, f1]⟩
    · exact ⟨by simp [World.setCell], by simp [World.setCell], by simp [World.setCell], by simp [World.setCell], fun k _ hk => by rw [Below.heap_setCell _ _ _ _ (fun x => hk (by rw [x])), Below.heap_setCell _ _ _ _ (fun x => hk (by rw [x]))]⟩
    · rw [e]; exact hr.2.1
    · simp [World.setCell]
  · refine ⟨.cells #[.bool false, .slice none 0 0] 28, _, _, ⟨false, none, 0, 0, rfl, rfl⟩, fun W => ⟨by show (Instr.alloc 28 true (.tuple #[])).run Try.prog W = _; go_simp, fun i x hx => ?_⟩⟩
    rcases two_at hx with ⟨rfl, rfl⟩ | ⟨rfl, rfl⟩
    · exact ⟨by rw [World.cell?_alloc_at _ _ _ _ rfl]; rfl, World.frozen?_alloc_at _ _ _ _ rfl⟩
    · exact ⟨by rw [World.cell?_alloc_at _ _ _ _ rfl]; rfl, World.frozen?_alloc_at _ _ _ _ rfl⟩
  · rintro v cs ⟨m, A, l, c, rfl, rfl⟩
    refine ⟨.cells #[.bool m, .slice A l c] 28, fun W => ⟨by show (Instr.box 28 _).run Try.prog W = _; go_simp, fun i x hx => ?_⟩⟩
    rcases two_at hx with ⟨rfl, rfl⟩ | ⟨rfl, rfl⟩
    · exact ⟨by rw [World.cell?_alloc_at _ _ _ _ rfl]; rfl, World.frozen?_alloc_at _ _ _ _ rfl⟩
    · exact ⟨by rw [World.cell?_alloc_at _ _ _ _ rfl]; rfl, World.frozen?_alloc_at _ _ _ _ rfl⟩
theorem bN : (BI 24).Ok := by
  refine ⟨?_, ?_, ?_, ?_, ?_⟩
  · rintro v cs ⟨m, A, l, c, rfl, rfl⟩; simp
  · rintro v cs W p ⟨m, A, l, c, rfl, rfl⟩ h
    have h0 := h 0 _ rfl
    have h1 := h 1 _ rfl
    show (Instr.loadAt 24 (ptr p)).run Try.prog W = _
    go_simp
  · rintro v v' cs' W p ⟨cs, ⟨m, A, l, c, rfl, rfl⟩, hc⟩ ⟨m', A', l', c', rfl, rfl⟩
    obtain ⟨h0, f0⟩ := hc 0 _ rfl
    obtain ⟨h1, f1⟩ := hc 1 _ rfl
    have hb : Box p 2 W := fun i hi => match i, hi with
      | 0, _ => ⟨⟨_, h0, by simp⟩, f0⟩
      | 1, _ => ⟨⟨_, h1, by simp⟩, f1⟩
    obtain ⟨W', e, hr, k0, k1⟩ := store_two (m := m') (D := A') (l := l') (c := c') hb
    refine ⟨(W.setCell ⟨p, 0, none⟩ (.bool m')).setCell ⟨p, 1, none⟩ (.slice A' l' c'), ?_, ⟨_, ⟨m', A', l', c', rfl, rfl⟩, fun i x hx => ?_⟩, ?_, ?_, ?_⟩
    · show (Instr.storeAt 24 (ptr p) _).run Try.prog W = _
      go_simp
    · rcases two_at hx with ⟨rfl, rfl⟩ | ⟨rfl, rfl⟩
      · exact ⟨by rw [e]; exact k0, by simp [World.frozen?_setCell, f0]⟩
      · exact ⟨by rw [e]; exact k1, by simp [World.frozen?_setCell, f1]⟩
    · exact ⟨by simp [World.setCell], by simp [World.setCell], by simp [World.setCell], by simp [World.setCell], fun k _ hk => by rw [Below.heap_setCell _ _ _ _ (fun x => hk (by rw [x])), Below.heap_setCell _ _ _ _ (fun x => hk (by rw [x]))]⟩
    · rw [e]; exact hr.2.1
    · simp [World.setCell]
  · refine ⟨.cells #[.bool false, .slice none 0 0] 24, _, _, ⟨false, none, 0, 0, rfl, rfl⟩, fun W => ⟨by show (Instr.alloc 24 true (.tuple #[])).run Try.prog W = _; go_simp, fun i x hx => ?_⟩⟩
    rcases two_at hx with ⟨rfl, rfl⟩ | ⟨rfl, rfl⟩
    · exact ⟨by rw [World.cell?_alloc_at _ _ _ _ rfl]; rfl, World.frozen?_alloc_at _ _ _ _ rfl⟩
    · exact ⟨by rw [World.cell?_alloc_at _ _ _ _ rfl]; rfl, World.frozen?_alloc_at _ _ _ _ rfl⟩
  · rintro v cs ⟨m, A, l, c, rfl, rfl⟩
    refine ⟨.cells #[.bool m, .slice A l c] 24, fun W => ⟨by show (Instr.box 24 _).run Try.prog W = _; go_simp, fun i x hx => ?_⟩⟩
    rcases two_at hx with ⟨rfl, rfl⟩ | ⟨rfl, rfl⟩
    · exact ⟨by rw [World.cell?_alloc_at _ _ _ _ rfl]; rfl, World.frozen?_alloc_at _ _ _ _ rfl⟩
    · exact ⟨by rw [World.cell?_alloc_at _ _ _ _ rfl]; rfl, World.frozen?_alloc_at _ _ _ _ rfl⟩
theorem bJ : (BI 31).Ok := by
  refine ⟨?_, ?_, ?_, ?_, ?_⟩
  · rintro v cs ⟨m, A, l, c, rfl, rfl⟩; simp
  · rintro v cs W p ⟨m, A, l, c, rfl, rfl⟩ h
    have h0 := h 0 _ rfl
    have h1 := h 1 _ rfl
    show (Instr.loadAt 31 (ptr p)).run Try.prog W = _
    go_simp
  · rintro v v' cs' W p ⟨cs, ⟨m, A, l, c, rfl, rfl⟩, hc⟩ ⟨m', A', l', c', rfl, rfl⟩
    obtain ⟨h0, f0⟩ := hc 0 _ rfl
    obtain ⟨h1, f1⟩ := hc 1 _ rfl
    have hb : Box p 2 W := fun i hi => match i, hi with
      | 0, _ => ⟨⟨_, h0, by simp⟩, f0⟩
      | 1, _ => ⟨⟨_, h1, by simp⟩, f1⟩
    obtain ⟨W', e, hr, k0, k1⟩ := store_two (m := m') (D := A') (l := l') (c := c') hb
    refine ⟨(W.setCell ⟨p, 0, none⟩ (.bool m')).setCell ⟨p, 1, none⟩ (.slice A' l' c'), ?_, ⟨_, ⟨m', A', l', c', rfl, rfl⟩, fun i x hx => ?_⟩, ?_, ?_, ?_⟩
    · show (Instr.storeAt 31 (ptr p) _).run Try.prog W = _
      go_simp
    · rcases two_at hx with ⟨rfl, rfl⟩ | ⟨rfl, rfl⟩
      · exact ⟨by rw [e]; exact k0, by simp [World.frozen?_setCell, f0]⟩
      · exact ⟨by rw [e]; exact k1, by simp [World.frozen?_setCell, f1]⟩
    · exact ⟨by simp [World.setCell], by simp [World.setCell], by simp [World.setCell], by simp [World.setCell], fun k _ hk => by rw [Below.heap_setCell _ _ _ _ (fun x => hk (by rw [x])), Below.heap_setCell _ _ _ _ (fun x => hk (by rw [x]))]⟩
    · rw [e]; exact hr.2.1
    · simp [World.setCell]
  · refine ⟨.cells #[.bool false, .slice none 0 0] 31, _, _, ⟨false, none, 0, 0, rfl, rfl⟩, fun W => ⟨by show (Instr.alloc 31 true (.tuple #[])).run Try.prog W = _; go_simp, fun i x hx => ?_⟩⟩
    rcases two_at hx with ⟨rfl, rfl⟩ | ⟨rfl, rfl⟩
    · exact ⟨by rw [World.cell?_alloc_at _ _ _ _ rfl]; rfl, World.frozen?_alloc_at _ _ _ _ rfl⟩
    · exact ⟨by rw [World.cell?_alloc_at _ _ _ _ rfl]; rfl, World.frozen?_alloc_at _ _ _ _ rfl⟩
  · rintro v cs ⟨m, A, l, c, rfl, rfl⟩
    refine ⟨.cells #[.bool m, .slice A l c] 31, fun W => ⟨by show (Instr.box 31 _).run Try.prog W = _; go_simp, fun i x hx => ?_⟩⟩
    rcases two_at hx with ⟨rfl, rfl⟩ | ⟨rfl, rfl⟩
    · exact ⟨by rw [World.cell?_alloc_at _ _ _ _ rfl]; rfl, World.frozen?_alloc_at _ _ _ _ rfl⟩
    · exact ⟨by rw [World.cell?_alloc_at _ _ _ _ rfl]; rfl, World.frozen?_alloc_at _ _ _ _ rfl⟩
theorem sh_I {T : TypeId} {z : Int} (v : Value) (W : World) (h : KI z v W) : ∃ cs, (BI T).sh v cs := by obtain ⟨m, A, l, c, rfl, _⟩ := h; exact ⟨_, m, A, l, c, rfl, rfl⟩
theorem sh_J {T : TypeId} {z : Int} (v : Value) (W : World) (h : KJ z v W) : ∃ cs, (BI T).sh v cs := by obtain ⟨m, A, l, c, rfl, _⟩ := h; exact ⟨_, m, A, l, c, rfl, rfl⟩
end Go.Proofs.Ytcgkgcciogibkaa.Sy
/- A walk by rules: statements that draw their order. -/
set_option linter.unusedVariables false
set_option linter.unusedSimpArgs false
namespace Go.Proofs.Ytcgkgcciogibkaa.Sy
open Go Go.RowKit
/-- What may turn in a statement that draws its order: boxes from n1 on, which stay boxes. -/
structure RR (bb : BT) (n1 : Nat) (W W' : World) : Prop where
  be : Below n1 W W'
  nu : IntK W W'
  sz : W.heap.size ≤ W'.heap.size
  nb : ∀ p, n1 ≤ p → (∃ v, Holds bb p v W) → ∃ v, Holds bb p v W'
theorem RR.refl (bb : BT) (n1 : Nat) (W : World) : RR bb n1 W W := ⟨Below.refl _ _, IntK.refl _, Nat.le_refl _, fun _ _ h => h⟩
theorem RR.trans {bb : BT} {n1 : Nat} {a b c : World} (h : RR bb n1 a b) (k : RR bb n1 b c) : RR bb n1 a c := ⟨h.be.trans k.be, h.nu.trans k.nu, Nat.le_trans h.sz k.sz, fun p hp x => k.nb p hp (h.nb p hp x)⟩
theorem RR.nw {bb : BT} (ok : bb.Ok) {n1 : Nat} {W W' : World} (hn : n1 ≤ W.heap.size) (h : Nw W W') : RR bb n1 W W' := ⟨Below.mono h hn, h.kept, h.size, fun p _ ⟨v, hv⟩ => ⟨v, hv.nw ok h⟩⟩
/-- A new box. -/
def KA (bb : BT) (n1 : Nat) : Know := fun u W => ∃ p, u = ptr p ∧ n1 ≤ p ∧ ∃ v, Holds bb p v W
/-- What the last operation, a store into a new box, leaves. -/
def KS (bb : BT) (n1 s : Nat) (k : Know) (a : Act) : Know := fun _ W => ∃ p v, a.tmps.getD s undef = ptr p ∧ n1 ≤ p ∧ Holds bb p v W ∧ k v W
def ks (L : List (Nat × Know)) (tl : Nat) (tk : Act → Know) (i : Nat) (a : Act) : Option Know := match Nat.beq i tl with
  | true => some (tk a)
  | false => kn L i
def StR (bb : BT) (n1 : Nat) (k : Know) : Prop := ∀ v W W', RR bb n1 W W' → k v W → k v W'
theorem StR.of {bb : BT} {n1 : Nat} {k : Know} (h : St k) : StR bb n1 k := fun v W W' r x => h v W W' r.nu x
theorem StR.ka (bb : BT) (n1 : Nat) : StR bb n1 (KA bb n1) := fun v W W' r ⟨p, e, hp, x⟩ => ⟨p, e, hp, r.nb p hp x⟩
def AllR (bb : BT) (n1 : Nat) : List (Nat × Know) → Prop
  | [] => True
  | (_, k) :: L => StR bb n1 k ∧ AllR bb n1 L
theorem AllR.spec {bb : BT} {n1 : Nat} : ∀ {L : List (Nat × Know)}, AllR bb n1 L → ∀ i k, kn L i = some k → StR bb n1 k
  | [], _, i, k, h => by cases h
  | (j, k') :: L, hs, i, k, h => by
    unfold kn at h
    split at h
    · injection h with h; subst h; exact hs.1
    · exact AllR.spec hs.2 i k h
theorem fits {bb : BT} {n1 tl : Nat} {w1 : World} {L : List (Nat × Know)} {tk : Act → Know} (hn : n1 = w1.heap.size) (h : AllR bb n1 L) : Rh.Fits (RR bb n1) (Nw w1) (ks L tl tk) tl :=
  ⟨RR.refl bb n1, fun _ _ _ => RR.trans, fun W W' r s => Below.trans s (Below.mono r.be (by omega)), fun i a b hi => by unfold ks; rw [show Nat.beq i tl = false by rw [← Bool.not_eq_true]; exact fun e => hi (Nat.eq_of_beq_eq_true e)],
    fun i a k hk hi v W W' r x => by
      unfold ks at hk
      rw [show Nat.beq i tl = false by rw [← Bool.not_eq_true]; exact fun e => hi (Nat.eq_of_beq_eq_true e)] at hk
      exact h.spec i k hk v W W' r x⟩

def dlook : List (Nat × Nat) → Nat → Option Nat
  | [], _ => none
  | (j, v) :: l, i => match Nat.beq j i with
    | true => some v
    | false => dlook l i
theorem dlook_cons (j v : Nat) (l : List (Nat × Nat)) (i : Nat) : dlook ((j, v) :: l) i = if j = i then some v else dlook l i := by
  show (match Nat.beq j i with | true => some v | false => dlook l i) = _
  by_cases e : j = i
  · subst e; simp
  · have : Nat.beq j i = false := by rw [← Bool.not_eq_true]; exact fun h => e (Nat.eq_of_beq_eq_true h)
    rw [this, if_neg e]
/-- What is known of the frame within the statement; dp: of which operation's value a slot's is. -/
structure DF (B N : Nat) (w1 : World) (L : List (Nat × Know)) (fr : List (Nat × AV)) (dp : List (Nat × Nat)) (n : Nat) (a : Act) (F : Rh.Facts) : Prop where
  df : a.defers = []
  sz : a.tmps.size = N
  ho : ∀ s v, look fr s = some v → ∀ W, Nw w1 W → (∀ j, dlook dp s = some j → F j W) → Ho B v (a.tmps.getD s undef) W
  ex : ∀ s v, look fr s = some (.vl v) → a.tmps.getD s undef = v
  lt : ∀ s j, dlook dp s = some j → j < n
  dk : ∀ s j k, dlook dp s = some j → kn L j = some k → ∀ W, F j W → k (a.tmps.getD s undef) W
  bf : ∀ s b k, look fr s = some (.bx b k) → dlook dp s = none
  di : ∀ i j b k b' k' p, i ≠ j → look fr i = some (.bx b k) → look fr j = some (.bx b' k') → a.tmps.getD i undef = ptr p → a.tmps.getD j undef ≠ ptr p
section
variable {B N : Nat} {w0 w1 : World} {L : List (Nat × Know)} {fr : List (Nat × AV)} {dp : List (Nat × Nat)} {n : Nat} {a : Act} {F : Rh.Facts}
/-- In a world in which all facts hold. -/
theorem DF.toFr (h : DF B N w1 L fr dp n a F) {bb : BT} {n1 : Nat} {w' : World} (hn : n1 = w1.heap.size) (hb : Below B w0 w1) (hB : B ≤ n1) (hr : RR bb n1 w1 w') (hs : Nw w1 w') (hF : ∀ k, F k w') : Fr B N w0 fr a w' :=
  ⟨h.df, h.sz, hb.trans (Below.mono hr.be hB), Nat.le_trans hB (hn ▸ hr.sz), fun i v hi => h.ho i v hi w' hs fun j _ => hF j, h.di⟩
/-- At a world w as if it were alone. -/
theorem DF.at (h : DF B N w1 L fr dp n a F) (hb : Below B w0 w1) {W : World} (hB : B ≤ w1.heap.size) (hs : Nw w1 W) (hF : ∀ s j, dlook dp s = some j → F j W) : Fr B N w0 fr a W :=
  ⟨h.df, h.sz, hb.trans (Below.mono hs hB), Nat.le_trans hB (Below.size hs), fun i v hi => h.ho i v hi W hs fun j hj => hF i j hj, h.di⟩
theorem DF.step (h : DF B N w1 L fr dp n a F) : DF B N w1 L fr dp (n + 1) a F := ⟨h.df, h.sz, h.ho, h.ex, fun s j e => by have := h.lt s j e; omega, h.dk, h.bf, h.di⟩
theorem DF.set {d : Nat} {u : Value} {v : AV} (h : DF B N w1 L fr dp n a F) (hd : Nat.blt d N = true) (hv : v.isBx = false) {dp' : List (Nat × Nat)} (hdp : ∀ s, s ≠ d → dlook dp' s = dlook dp s) (hlt : ∀ j, dlook dp' d = some j → j < n)
    (hx : ∀ x, v = .vl x → u = x) (hdk : ∀ j k, dlook dp' d = some j → kn L j = some k → ∀ W, F j W → k u W) (hu : ∀ W, Nw w1 W → (∀ j, dlook dp' d = some j → F j W) → Ho B v u W) : DF B N w1 L ((d, v) :: fr) dp' n (a.put (some d) u) F := by
  have hd' : d < a.tmps.size := by rw [h.sz]; simpa [Nat.blt_eq] using hd
  refine ⟨h.df, by show (a.tmps.setIfInBounds d u).size = N; rw [Array.size_setIfInBounds]; exact h.sz, fun i x hi W hs hF => ?_, fun i x hi => ?_, fun s j e => ?_, fun s j k e hk W hW => ?_, fun s b k e => ?_, fun i j b k b' k' p hij hi hj => ?_⟩
  · rw [look_cons] at hi
    rw [getD_put hd']
    by_cases e : d = i
    · rw [if_pos e] at hi ⊢; injection hi with hi; subst hi; subst e; exact hu W hs hF
    · rw [if_neg e] at hi ⊢; exact h.ho i x hi W hs (by rw [← hdp i (Ne.symm e)]; exact hF)
  · rw [look_cons] at hi
    rw [getD_put hd']
    by_cases e : d = i
    · rw [if_pos e] at hi ⊢; injection hi with hi; exact hx x hi
    · rw [if_neg e] at hi ⊢; exact h.ex i x hi
  · by_cases e' : s = d
    · subst e'; exact hlt j e
    · exact h.lt s j (by rw [← hdp s e']; exact e)
  · rw [getD_put hd']
    by_cases e' : d = s
    · subst e'; rw [if_pos rfl]; exact hdk j k e hk W hW
    · rw [if_neg e']; exact h.dk s j k (by rw [← hdp s (Ne.symm e')]; exact e) hk W hW
  · rw [look_cons] at e
    by_cases e' : d = s
    · rw [if_pos e'] at e; injection e with e; rw [e] at hv; cases hv
    · rw [if_neg e'] at e; rw [hdp s (Ne.symm e')]; exact h.bf s b k e
  · rw [look_cons] at hi hj
    rw [getD_put hd', getD_put hd']
    by_cases e : d = i
    · rw [if_pos e] at hi; injection hi with hi; rw [hi] at hv; cases hv
    · by_cases e' : d = j
      · rw [if_pos e'] at hj; injection hj with hj; rw [hj] at hv; cases hv
      · rw [if_neg e] at hi ⊢; rw [if_neg e'] at hj ⊢; exact h.di i j b k b' k' p hij hi hj
theorem DF.upd (h : DF B N w1 L fr dp n a F) (p : World → Prop) : DF B N w1 L fr dp n a (Rh.upd F n p) :=
  ⟨h.df, h.sz, fun s v hi W hs hF => h.ho s v hi W hs fun j hj => by have := hF j hj; rwa [Rh.upd_ne _ _ _ (by have := h.lt s j hj; omega)] at this, h.ex, h.lt, fun s j k e hk W hW => h.dk s j k e hk W (by rwa [Rh.upd_ne _ _ _ (by have := h.lt s j e; omega)] at hW), h.bf, h.di⟩
theorem nd_cons (s : Nat) : dlook dp s = dlook dp s := rfl
end
/-- The dependence of an operand. -/
def dpo (dp : List (Nat × Nat)) : Operand → Option Nat
  | .tmp t => dlook dp t
  | _ => none
def setd (d : Nat) (x : Option Nat) (dp : List (Nat × Nat)) : List (Nat × Nat) := match x with
  | some j => (d, j) :: dp
  | none => dp
/-- A slot that has no dependence. -/
def free (dp : List (Nat × Nat)) (d : Nat) : Bool := (dlook dp d).isNone

section
variable {B N n1 : Nat} {w0 w1 : World} {bb : BT} {ops : Array Oper} {jss : List (List Nat)} {L : List (Nat × Know)} {tl : Nat} {tk : Act → Know} {o : Oper} {rest : List Oper} {fr : List (Nat × AV)} {dp : List (Nat × Nat)} {Q : Exit → Act → World → Prop} {d i : Nat}
/-- From operation number i on. -/
def DW (B N : Nat) (w0 w1 : World) (bb : BT) (ops : Array Oper) (jss : List (List Nat)) (L : List (Nat × Know)) (tl : Nat) (tk : Act → Know) (i : Nat) (rest : List Oper) (fr : List (Nat × AV)) (dp : List (Nat × Nat)) (Q : Exit → Act → World → Prop) : Prop :=
  bb.Ok → Below B w0 w1 → B ≤ w1.heap.size → ∀ a F, DF B N w1 L fr dp i a F →
    Rh.wpK Try.prog ops (RR bb w1.heap.size) (Nw w1) w1 (Rh.jOf jss) (ks L tl tk) (fun a' F => ∀ w', RR bb w1.heap.size w1 w' → Nw w1 w' → (∀ k, F k w') → Q .normal a' w') i rest a F
theorem DW.nil (h : SX B N w0 .normal fr Q) : DW B N w0 w1 bb ops jss L tl tk i [] fr dp Q := fun ok hb hB a F hf =>
  Rh.wpK_end fun w' hr hs hF => h a w' (hf.toFr rfl hb hB hr hs hF)
theorem ks_none (h1 : Nat.beq i tl = false) (h2 : kn L i = none) (a : Act) : ks L tl tk i a = none := by unfold ks; rw [h1]; exact h2
theorem ks_some {k : Know} (h1 : Nat.beq i tl = false) (h2 : kn L i = some k) (a : Act) : ks L tl tk i a = some k := by unfold ks; rw [h1]; exact h2
theorem run_pick (t : Bool) (p q : Value) (W : World) : (do pure (.value (if ← asBool (.bool t) then p else q)) : Sem Next).run Try.prog W = .ok (.value (bif t then p else q)) W := by
  cases t <;> simp [asBool, go_sem]
/-- An operation whose value is fixed. -/
theorem DW.val {r : AV} (hw : wantB ops fr o = some true) (hd : o.dst = some d) (hN : Nat.blt d N = true) (h1 : Nat.beq i tl = false) (h2 : kn L i = none) (hr : r.isBx = false) {dp' : List (Nat × Nat)} (hdp : ∀ s, s ≠ d → dlook dp' s = dlook dp s)
    (h : bb.Ok → ∀ a F, DF B N w1 L fr dp i a F → ∃ u, (∀ W, Nw w1 W → (execOp a.eval o).run Try.prog W = .ok (.value u) W) ∧ (∀ x, r = .vl x → u = x) ∧ (∀ j, dlook dp' d = some j → j < i ∧ ∀ k, kn L j = some k → ∀ W, F j W → k u W) ∧ ∀ W, Nw w1 W → (∀ j, dlook dp' d = some j → F j W) → Ho B r u W)
    (hk : DW B N w0 w1 bb ops jss L tl tk (i + 1) rest ((d, r) :: fr) dp' Q) : DW B N w0 w1 bb ops jss L tl tk i (o :: rest) fr dp Q := fun ok hb hB a F hf => by
  obtain ⟨u, e, hx, hl, hu⟩ := h ok a F hf
  refine Rh.wpK_quiet (ks_none h1 h2 a) (wantB_ex hf.ex hw) (fun W hW => e W hW) (by rw [hd]) ?_
  exact hk ok hb hB _ _ (hf.set hN hr hdp (fun j e => (hl j e).1) hx (fun j k e => (hl j e).2 k) hu).step
theorem DW.skip (hw : wantB ops fr o = some false) (hd : o.dst = some d) (hN : Nat.blt d N = true) (hfr : free dp d = true) (hk : DW B N w0 w1 bb ops jss L tl tk (i + 1) rest ((d, .vl undef) :: fr) dp Q) : DW B N w0 w1 bb ops jss L tl tk i (o :: rest) fr dp Q := fun ok hb hB a F hf => by
  refine Rh.wpK_skip (wantB_ex hf.ex hw) (by rw [hd]) ?_
  have hn : dlook dp d = none := by unfold free at hfr; simpa using hfr
  exact hk ok hb hB _ _ (hf.set (v := .vl undef) hN rfl (fun _ _ => rfl) (fun j e => by rw [hn] at e; cases e) (fun x e => by injection e) (fun j k e => by rw [hn] at e; cases e) fun _ _ _ => rfl).step
theorem free_none (h : free dp d = true) {j : Nat} (e : dlook dp d = some j) : False := by unfold free at h; rw [e] at h; cases h
/-- A copy. -/
theorem DW.copy {x : Operand} {r : AV} (hw : wantB ops fr o = some true) (hd : o.dst = some d) (hN : Nat.blt d N = true) (h1 : Nat.beq i tl = false) (h2 : kn L i = none) (hfr : free dp d = true)
    (he : ∀ (a : Act) W, (execOp a.eval o).run Try.prog W = .ok (.value (a.eval x)) W) (hx : opv fr x = some r) (hk : DW B N w0 w1 bb ops jss L tl tk (i + 1) rest ((d, r) :: fr) (setd d (dpo dp x) dp) Q) : DW B N w0 w1 bb ops jss L tl tk i (o :: rest) fr dp Q := by
  have hs : ∀ s, s ≠ d → dlook (setd d (dpo dp x) dp) s = dlook dp s := by
    intro s hs
    unfold setd
    split
    · rw [dlook_cons, if_neg (Ne.symm hs)]
    · rfl
  have hdd : ∀ j, dlook (setd d (dpo dp x) dp) d = some j → dpo dp x = some j := by
    intro j e
    unfold setd at e
    split at e
    · rename_i k hk; rw [dlook_cons, if_pos rfl] at e; exact hk.trans e
    · exact absurd e (fun e => free_none hfr e)
  refine DW.val hw hd hN h1 h2 ?_ hs (fun ok a F hf => ⟨a.eval x, fun W _ => he a W, fun y e => ?_, fun j e => ?_, fun W hW hF => ?_⟩) hk
  · cases x with
    | tmp t =>
      simp only [opv] at hx
      cases hl : look fr t with
      | none => rw [hl] at hx; cases hx
      | some q => rw [hl] at hx; cases q <;> first | (injection hx with hx; subst hx; rfl) | cases hx
    | const v => injection hx with hx; subst hx; rfl
    | func f => injection hx with hx; subst hx; rfl
    | global g => injection hx with hx; subst hx; rfl
  · subst e; exact opv_ex hf.ex hx
  · have := hdd j e
    cases x with
    | tmp t => exact ⟨hf.lt t j this, fun k hk W hW => hf.dk t j k this hk W hW⟩
    | _ => cases this
  · cases x with
    | tmp t =>
      simp only [opv] at hx
      cases hl : look fr t with
      | none => rw [hl] at hx; cases hx
      | some q =>
        rw [hl] at hx
        have hq := hf.ho t q hl W hW fun j e => hF j (by
          have : dpo dp (.tmp t) = some j := e
          unfold setd
          rw [this]
          simp only []
          rw [dlook_cons, if_pos rfl])
        cases q with
        | bx b k => cases hx
        | vl v => injection hx with hx; subst hx; exact hq
        | kw v => injection hx with hx; subst hx; exact hq
    | const v => injection hx with hx; subst hx; rfl
    | func f => injection hx with hx; subst hx; rfl
    | global g => injection hx with hx; subst hx; rfl
theorem DW.move {x : Operand} {r : AV} (hw : wantB ops fr o = some true) (hd : o.dst = some d) (hN : Nat.blt d N = true) (h1 : Nat.beq i tl = false) (h2 : kn L i = none) (hfr : free dp d = true) (ho : o.op = .move x) (hx : opv fr x = some r) (hk : DW B N w0 w1 bb ops jss L tl tk (i + 1) rest ((d, r) :: fr) (setd d (dpo dp x) dp) Q) : DW B N w0 w1 bb ops jss L tl tk i (o :: rest) fr dp Q :=
  DW.copy hw hd hN h1 h2 hfr (fun a W => by unfold execOp; rw [ho]; rfl) hx hk
theorem DW.assign {x : Operand} {r : AV} (hw : wantB ops fr o = some true) (hd : o.dst = some d) (hN : Nat.blt d N = true) (h1 : Nat.beq i tl = false) (h2 : kn L i = none) (hfr : free dp d = true) (ho : o.op = .assign x) (hx : opv fr x = some r) (hk : DW B N w0 w1 bb ops jss L tl tk (i + 1) rest ((d, r) :: fr) (setd d (dpo dp x) dp) Q) : DW B N w0 w1 bb ops jss L tl tk i (o :: rest) fr dp Q :=
  DW.copy hw hd hN h1 h2 hfr (fun a W => by unfold execOp; rw [ho]; rfl) hx hk
theorem DW.q1 {x : Operand} {u : Value} (v : Value) (hw : wantB ops fr o = some true) (hd : o.dst = some d) (hN : Nat.blt d N = true) (h1 : Nat.beq i tl = false) (h2 : kn L i = none) (hfr : free dp d = true) (hx : opv fr x = some (.vl u)) (h : ∀ (ρ : Operand → Value) (W : World), ρ x = u → (execOp ρ o).run Try.prog W = .ok (.value v) W) (hk : DW B N w0 w1 bb ops jss L tl tk (i + 1) rest ((d, .vl v) :: fr) dp Q) : DW B N w0 w1 bb ops jss L tl tk i (o :: rest) fr dp Q :=
  DW.val (r := .vl v) hw hd hN h1 h2 rfl (fun _ _ => rfl) (fun ok a F hf => ⟨v, fun W _ => h _ W (opv_ex hf.ex hx), fun y e => by injection e, fun j e => absurd e (fun e => free_none hfr e), fun _ _ _ => rfl⟩) hk
theorem DW.q2 {x y : Operand} {u u2 : Value} (v : Value) (hw : wantB ops fr o = some true) (hd : o.dst = some d) (hN : Nat.blt d N = true) (h1 : Nat.beq i tl = false) (h2 : kn L i = none) (hfr : free dp d = true) (hx : opv fr x = some (.vl u)) (hy : opv fr y = some (.vl u2)) (h : ∀ (ρ : Operand → Value) (W : World), ρ x = u → ρ y = u2 → (execOp ρ o).run Try.prog W = .ok (.value v) W) (hk : DW B N w0 w1 bb ops jss L tl tk (i + 1) rest ((d, .vl v) :: fr) dp Q) : DW B N w0 w1 bb ops jss L tl tk i (o :: rest) fr dp Q :=
  DW.val (r := .vl v) hw hd hN h1 h2 rfl (fun _ _ => rfl) (fun ok a F hf => ⟨v, fun W _ => h _ W (opv_ex hf.ex hx) (opv_ex hf.ex hy), fun y e => by injection e, fun j e => absurd e (fun e => free_none hfr e), fun _ _ _ => rfl⟩) hk
theorem DW.pick {c x y : Operand} {t : Bool} {u : Value} (hw : wantB ops fr o = some true) (hd : o.dst = some d) (hN : Nat.blt d N = true) (h1 : Nat.beq i tl = false) (h2 : kn L i = none) (hfr : free dp d = true) (ho : o.op = .pick c x y) (hc : opv fr c = some (.vl (.bool t))) (hx : opv fr (bif t then x else y) = some (.vl u)) (hk : DW B N w0 w1 bb ops jss L tl tk (i + 1) rest ((d, .vl u) :: fr) dp Q) : DW B N w0 w1 bb ops jss L tl tk i (o :: rest) fr dp Q :=
  DW.val (r := .vl u) hw hd hN h1 h2 rfl (fun _ _ => rfl) (fun ok a F hf => ⟨u, fun W _ => by
    have e1 := opv_ex hf.ex hc
    have e2 := opv_ex hf.ex hx
    unfold execOp
    rw [ho]
    simp only [e1]
    refine (run_pick t _ _ W).trans ?_
    cases t
    · exact congrArg (fun v => Result.ok (Next.value v) W) e2
    · exact congrArg (fun v => Result.ok (Next.value v) W) e2, fun y e => by injection e, fun j e => absurd e (fun e => free_none hfr e), fun _ _ _ => rfl⟩) hk
theorem DW.load {T : TypeId} {s : Nat} {b : BT} {k : Know} (hw : wantB ops fr o = some true) (hd : o.dst = some d) (hN : Nat.blt d N = true) (h1 : Nat.beq i tl = false) (h2 : kn L i = none) (hfr : free dp d = true) (hfs : free dp s = true) (ho : o.op = .load T (.tmp s)) (hs : look fr s = some (.bx b k)) (hT : b.T = T) (hk : DW B N w0 w1 bb ops jss L tl tk (i + 1) rest ((d, .kw k) :: fr) dp Q) : DW B N w0 w1 bb ops jss L tl tk i (o :: rest) fr dp Q :=
  DW.val (r := .kw k) hw hd hN h1 h2 rfl (fun _ _ => rfl) (fun ok a F hf => by
    obtain ⟨p, v, e, _, hh, hv, st, ok⟩ := hf.ho s _ hs w1 (Nw.refl _) fun j e => absurd e (fun e => free_none hfs e)
    refine ⟨v, fun W hW => ?_, fun x e => (by cases e), fun j e => absurd e (fun e => free_none hfr e), fun W hW _ => ⟨st _ _ _ hW.kept hv, st⟩⟩
    obtain ⟨cs, hs1, hc⟩ := hh.nw ok hW
    have := run_val (ok.load v cs W p hs1 fun i x hx => (hc i x hx).1)
    unfold execOp
    rw [ho]
    show (do pure (.value (← Instr.loadAt T (a.tmps.getD s undef))) : Sem Next).run Try.prog W = _
    rw [e, ← hT]
    exact this) hk
/-- What the operands of a call depend on is at hand. -/
def depB (jss : List (List Nat)) (dp : List (Nat × Nat)) (i : Nat) (xs : List Operand) : Bool := xs.all fun x => match dpo dp x with
  | none => true
  | some j => Rh.jOf jss i j
theorem opksD {B N : Nat} {w1 : World} {fr : List (Nat × AV)} {dp : List (Nat × Nat)} {i : Nat} {a : Act} {F : Rh.Facts} (hf : DF B N w1 L fr dp i a F) {jss : List (List Nat)} {W : World} (hW : Nw w1 W) (hJ : ∀ k, Rh.jOf jss i k = true → F k W) : ∀ {xs : List Operand} {ks : List Know}, opks fr xs = some ks → depB jss dp i xs = true → All ks (xs.map a.eval) W
  | [], ks, e, _ => by injection e with e; subst e; trivial
  | x :: xs, ks, e, hd => by
    unfold depB at hd
    rw [List.all_cons, Bool.and_eq_true] at hd
    unfold opks at e
    split at e
    · cases e
    · rename_i v hv
      split at e
      · cases e
      · rename_i ks' hk
        injection e with e
        subst e
        refine ⟨?_, opksD hf hW hJ hk hd.2⟩
        cases x with
        | tmp t =>
          simp only [opv] at hv
          cases hl : look fr t with
          | none => rw [hl] at hv; cases hv
          | some q =>
            rw [hl] at hv
            have hq := hf.ho t q hl W hW fun j e => hJ j (by have h1 := hd.1; have : dpo dp (.tmp t) = some j := e; rw [this] at h1; exact h1)
            cases q with
            | bx b k => cases hv
            | vl v => injection hv with hv; subst hv; exact hq
            | kw v => injection hv with hv; subst hv; exact hq.1
        | const v => injection hv with hv; subst hv; rfl
        | func f => injection hv with hv; subst hv; rfl
        | global g => injection hv with hv; subst hv; rfl
theorem call_gives {c : Call} {f : FuncId} {ks : List Know} {k : Know} (hn : B ≤ w1.heap.size) (ok : bb.Ok) (ho : o.op = .call c) (hc : c.callee = .value (.func f)) (ha : opks fr c.args.toList = some ks) (h : CallOk f ks k) (hdp : depB jss dp i c.args.toList = true) {a : Act} {F : Rh.Facts} (hf : DF B N w1 L fr dp i a F) :
    Rh.Actively Try.prog (RR bb w1.heap.size) (Nw w1) w1 (Rh.jOf jss) i o a F k := by
  intro W hr hs hJ
  obtain ⟨dst, op, ty, pos, after, guard⟩ := o
  simp only at ho
  subst ho
  unfold Rh.gives
  rw [run_call h.1 hc a.eval rfl ty W]
  have e : (c.args.toList.map a.eval).toArray = c.args.map a.eval := by rw [← Array.toList_map]
  have := h.2 W _ (opksD hf hs hJ ha hdp)
  rw [e] at this
  exact Rh.gives_enter (this.mono fun e W' ⟨v, he, hv, hn'⟩ => ⟨v, he, RR.nw ok (Below.size hs) hn', hv⟩)
theorem DW.call {c : Call} {f : FuncId} {ks : List Know} {k : Know} (hw : wantB ops fr o = some true) (hd : o.dst = some d) (hN : Nat.blt d N = true) (h1 : Nat.beq i tl = false) (h2 : kn L i = some k) (ho : o.op = .call c) (hc : c.callee = .value (.func f)) (ha : opks fr c.args.toList = some ks) (hdp : depB jss dp i c.args.toList = true) (hst : St k)
    (h : CallOk f ks k) (hk : DW B N w0 w1 bb ops jss L tl tk (i + 1) rest ((d, .kw k) :: fr) ((d, i) :: dp) Q) : DW B N w0 w1 bb ops jss L tl tk i (o :: rest) fr dp Q := fun ok hb hB a F hf => by
  refine Rh.wpK_know (ks_some h1 h2 a) (wantB_ex hf.ex hw) (call_gives hB ok ho hc ha h hdp hf) fun u hu => ⟨_, by rw [hd], ?_⟩
  refine hk ok hb hB _ _ (((hf.upd _).step).set hN rfl (fun s hs => by rw [dlook_cons, if_neg (Ne.symm hs)]) (fun j e => ?_) (fun x e => by cases e) (fun j k' e hk' W hW => ?_) fun W hW hF => ⟨?_, hst⟩)
  · rw [dlook_cons, if_pos rfl] at e; injection e with e; omega
  · rw [dlook_cons, if_pos rfl] at e; injection e with e; subst e; rw [h2] at hk'; injection hk' with hk'; subst hk'; exact Rh.upd_at rfl hW
  · have := hF i (by rw [dlook_cons, if_pos rfl])
    exact Rh.upd_at rfl this
theorem DW.callV {c : Call} {f : FuncId} {ks : List Know} {v : Value} (hw : wantB ops fr o = some true) (hd : o.dst = some d) (hN : Nat.blt d N = true) (h1 : Nat.beq i tl = false) (h2 : kn L i = some (KV v)) (hfr : free dp d = true) (ho : o.op = .call c) (hc : c.callee = .value (.func f)) (ha : opks fr c.args.toList = some ks) (hdp : depB jss dp i c.args.toList = true)
    (h : CallOk f ks (KV v)) (hk : DW B N w0 w1 bb ops jss L tl tk (i + 1) rest ((d, .vl v) :: fr) dp Q) : DW B N w0 w1 bb ops jss L tl tk i (o :: rest) fr dp Q := fun ok hb hB a F hf => by
  refine Rh.wpK_know (ks_some h1 h2 a) (wantB_ex hf.ex hw) (call_gives hB ok ho hc ha h hdp hf) fun u hu => ⟨_, by rw [hd], ?_⟩
  obtain ⟨W0, _, _, hF0⟩ := hu
  obtain rfl : u = v := Rh.upd_at rfl (hF0 i)
  exact hk ok hb hB _ _ (((hf.upd _).step).set hN rfl (fun s hs => rfl) (fun j e => absurd e (fun e => free_none hfr e)) (fun x e => by injection e) (fun j k e => absurd e (fun e => free_none hfr e)) fun W hW hF => rfl)
theorem DW.alloc {T : TypeId} (hw : wantB ops fr o = some true) (hd : o.dst = some d) (hN : Nat.blt d N = true) (h1 : Nat.beq i tl = false) (h2 : kn L i = some (KA bb w1.heap.size)) (ho : o.op = .alloc T) (hT : bb.T = T) (hk : DW B N w0 w1 bb ops jss L tl tk (i + 1) rest ((d, .kw KT) :: fr) ((d, i) :: dp) Q) : DW B N w0 w1 bb ops jss L tl tk i (o :: rest) fr dp Q := fun ok hb hB a F hf => by
  refine Rh.wpK_know (ks_some h1 h2 a) (wantB_ex hf.ex hw) (fun W hr hs hJ => ?_) fun u hu => ⟨_, by rw [hd], ?_⟩
  · obtain ⟨ob, z, cs, hz, hal⟩ := ok.alloc
    obtain ⟨h5, h6⟩ := hal W
    unfold Rh.gives
    have e : (execOp a.eval o).run Try.prog W = .ok (.value (ptr W.heap.size)) (W.alloc ob) := by
      unfold execOp
      rw [ho, ← hT]
      exact run_val h5
    rw [e]
    have hn : Nw W (W.alloc ob) := (Nw.refl W).alloc ob
    exact Rh.gives_value ⟨RR.nw ok (Below.size hs) hn, _, rfl, Below.size hs, z, cs, hz, h6⟩
  · refine hk ok hb hB _ _ (((hf.upd _).step).set hN rfl (fun s hs => by rw [dlook_cons, if_neg (Ne.symm hs)]) (fun j e => ?_) (fun x e => by cases e) (fun j k' e hk' W hW => ?_) fun W hW hF => ⟨trivial, KT.st⟩)
    · rw [dlook_cons, if_pos rfl] at e; injection e with e; omega
    · rw [dlook_cons, if_pos rfl] at e; injection e with e; subst e; rw [h2] at hk'; injection hk' with hk'; subst hk'; exact Rh.upd_at rfl hW
/-- The last operation stores into a new box. -/
theorem DW.store {T : TypeId} {s j : Nat} {x : Operand} {r : AV} (hw : wantB ops fr o = some true) (hd : o.dst = none) (h1 : Nat.beq i tl = true) (htk : tk = KS bb w1.heap.size s r.of) (ho : o.op = .store T (.tmp s) x) (hT : bb.T = T) (hs : dlook dp s = some j) (hj : kn L j = some (KA bb w1.heap.size)) (hx : opv fr x = some r) (hdp : depB jss dp i [.tmp s, x] = true)
    (hst : St r.of) (hsh : ∀ v W, r.of v W → ∃ cs, bb.sh v cs) (hk : SX B N w0 .normal ((s, .bx bb r.of) :: fr) Q) : DW B N w0 w1 bb ops jss L tl tk i [o] fr dp Q := fun ok hb hB a F hf => by
  subst htk
  have e1 : ks L tl (KS bb w1.heap.size s r.of) i a = some (KS bb w1.heap.size s r.of a) := by unfold ks; rw [h1]
  have hks : opks fr [x] = some [r.of] := by unfold opks opks; rw [hx]
  rw [depB, List.all_cons, Bool.and_eq_true] at hdp
  have hjj : Rh.jOf jss i j = true := by have := hdp.1; simp only [dpo, hs] at this; exact this
  refine Rh.wpK_know e1 (wantB_ex hf.ex hw) (fun W hr hsW hJ => ?_) fun u hu => ⟨_, rfl, ?_⟩
  · obtain ⟨p, e, hp, v, hh⟩ := hf.dk s j _ hs hj W (hJ j hjj)
    have hxv := (opksD hf hsW hJ hks (by unfold depB; exact hdp.2)).1
    obtain ⟨cs', hcs⟩ := hsh _ _ hxv
    obtain ⟨W', h5, h6, h7⟩ := ok.store v _ cs' W p hh hcs
    unfold Rh.gives
    have e2 : (execOp a.eval o).run Try.prog W = .ok .skip W' := by
      unfold execOp
      rw [ho, ← hT]
      show (do (Instr.storeAt bb.T (a.tmps.getD s undef) (a.eval x)); pure .skip : Sem Next).run Try.prog W = _
      rw [e]
      exact run_skip h5
    rw [e2]
    refine Rh.gives_skip ⟨⟨Below.grown (Below.refl _ _) h7.gr (Below.size hsW) (fun k e => by injection e with e; omega), h7.nu, by rw [h7.sz]; exact Nat.le_refl _, fun q hq ⟨y, hy⟩ => ?_⟩, p, _, e, hp, h6, hst _ _ _ h7.nu hxv⟩
    by_cases eq : q = p
    · subst eq; exact ⟨_, h6⟩
    · exact ⟨y, hy.off ok h7 eq⟩
  · have ea : a.put o.dst u = a := by rw [hd]; rfl
    rw [ea]
    refine Rh.wpK_end fun w' hr hsW hF => ?_
    have ht := hF i
    obtain ⟨p, v, e, hp, hh, hv⟩ := Rh.upd_at rfl ht
    have hfr := (hf.upd _).step.toFr rfl hb hB hr hsW hF
    refine hk a w' ⟨hfr.df, hfr.sz, hfr.be, hfr.bs, fun q y hq => ?_, fun q l b k b' k' p' hql hq hl => ?_⟩
    · rw [look_cons] at hq
      by_cases eq : s = q
      · rw [if_pos eq] at hq; injection hq with hq; subst hq; subst eq; exact ⟨p, v, e, Nat.le_trans hB hp, hh, hv, hst, ok⟩
      · rw [if_neg eq] at hq; exact hfr.ho q y hq
    · have old : ∀ q b k p', look fr q = some (.bx b k) → a.tmps.getD q undef = ptr p' → p' < w1.heap.size := by
        intro q b k p' hq e'
        obtain ⟨p2, v2, e2, _, hh2, _, _, ok2⟩ := hf.ho q _ hq w1 (Nw.refl _) fun j hj => by rw [hf.bf q b k hq] at hj; cases hj
        rw [e'] at e2
        injection e2 with e2
        injection e2 with e2
        injection e2 with e2
        rw [e2]; exact hh2.lt ok2
      rw [look_cons] at hq hl
      by_cases eq : s = q
      · have el : s ≠ l := fun x => hql (eq.symm.trans x)
        rw [if_neg el] at hl
        subst eq
        intro e3 e4
        rw [e] at e3
        injection e3 with e3
        injection e3 with e3
        injection e3 with e3
        have := old l b' k' p' hl e4
        omega
      · rw [if_neg eq] at hq
        by_cases el : s = l
        · subst el
          intro e3 e4
          rw [e] at e4
          injection e4 with e4
          injection e4 with e4
          injection e4 with e4
          have := old q b k p' hq e3
          omega
        · rw [if_neg el] at hl; exact hfr.di q l b k b' k' p' hql hq hl
/-- A statement that draws its order. -/
theorem SC.draw {id : Nat} {l : List Oper} (bb : BT) (jss : List (List Nat)) (L : Nat → List (Nat × Know)) (tl : Nat) (tk : Nat → Act → Know) (hB : Region.lexB .any l.toArray = true) (hJ : Rh.jOkB l.toArray jss = true) (ht : Rh.tlB l.toArray tl = true) (ok : bb.Ok) (hL : ∀ n1, AllR bb n1 (L n1))
    (h : ∀ w1, DW B N w0 w1 bb l.toArray jss (L w1.heap.size) tl (tk w1.heap.size) 0 l fr [] Q) : SC B N w0 (.region id l.toArray true) fr Q := fun a W hf => by
  have hd : Nw W W.drew := (Nw.refl W).drew
  have hf' := hf.nw hd
  refine Rh.wp_region_know (Nw W.drew) (RR bb W.drew.heap.size) jss tl (ks (L W.drew.heap.size) tl (tk W.drew.heap.size)) (by kernel_rfl) hB hJ ht (fits rfl (hL _)) (Nw.refl _) ?_
  refine h W.drew ok hf'.be hf'.bs a Rh.noFacts ⟨hf.df, hf.sz, fun s v hs W' hW _ => (hf'.ho s v hs).nw hW, hf.ex, fun s j e => (by cases e), fun s j k e => (by cases e), fun _ _ _ _ => rfl, hf.di⟩
end
end Go.Proofs.Ytcgkgcciogibkaa.Sy
/- The contract of the program's Divide, but for divisors of two limbs and more. -/
set_option linter.unusedVariables false
set_option linter.unusedSimpArgs false
namespace Go.Proofs.Ytcgkgcciogibkaa
open Go.RowKit Ma

theorem K2L {k : IntKind} {p : List Int → Prop} {x y : Value} {A : Option Addr} {l c : Nat} {w : World} (h : K2 (KL k p) (KV x) (.tuple #[.slice A l c, y]) w) : y = x ∧ ∃ zs, l = zs.length ∧ l ≤ c ∧ Rd w k A zs ∧ p zs := by
  obtain ⟨v1, v2, e, h1, h2⟩ := h
  simp only [Value.tuple.injEq, Array.mk.injEq, List.cons.injEq, and_true] at e
  obtain ⟨rfl, rfl⟩ := e
  exact ⟨h2, h1.slice⟩
theorem divided_l (A : Option Addr) (l c : Nat) (xs : List Int) (y : Int) (w : World) (e : l = xs.length) (rA : Rd w .u32 A xs) (dx : dg b32 xs) (hl : xs.length ≤ 1000000) (hy0 : 0 < y) (hy1 : y < 4294967296) :
    Calls Try.prog 85 #[.slice A l c, .int .u32 y] w (Ret w (K2 (KL .u32 fun zs => dg b32 zs ∧ lv b32 zs = lv b32 xs / y ∧ top zs) (KV (.int .u32 (lv b32 xs % y))))) := by
  subst e
  exact (divided_c A c xs y w rA dx hl hy0 hy1).mono fun e w' ⟨v, e1, ⟨v1, v2, e2, h1, h2⟩, hb⟩ => ⟨v, e1, ⟨v1, v2, e2, h1.l, h2⟩, hb⟩
theorem sg_nz {n : Bool} {z : Int} (h : sg n z ≠ 0) : z ≠ 0 := by intro e; subst e; cases n <;> simp [sg] at h
theorem sg_tdiv (n m : Bool) (a b : Int) (ha : 0 ≤ a) (hb : 0 ≤ b) : (sg n a).tdiv (sg m b) = sg (n != m) (a / b) := by
  have e : a.tdiv b = a / b := Int.tdiv_eq_ediv_of_nonneg ha
  cases n <;> cases m <;> simp [sg, Int.neg_tdiv, Int.tdiv_neg, e]
theorem sg_tmod (n m : Bool) (a b : Int) (ha : 0 ≤ a) (hb : 0 ≤ b) : (sg n a).tmod (sg m b) = sg n (a % b) := by
  have e : a.tmod b = a % b := Int.tmod_eq_emod_of_nonneg ha
  cases n <;> cases m <;> simp [sg, Int.neg_tmod, Int.tmod_neg, e]

theorem RI.zero (w : World) : RI w false none 0 0 0 := ⟨[], rfl, Nat.le_refl _, Rd.nil _ _ _, dg_nil _, top_nil, (fun h => nomatch h), by simp [sg, lv]⟩
set_option maxHeartbeats 1600000 in
set_option maxRecDepth 100000 in
theorem divide_0 {x : Int} {n m : Bool} {A B : Option Addr} {l l' c d : Nat} {w : World} (hx : RI w n A l c x) (hy : RI w m B l' d 0) :
    Calls Try.prog 29 #[.agg #[.bool n, .slice A l c], .agg #[.bool m, .slice B l' d]] w (Ret w (K3 (KI 0) (KI 0) (KV (.int .i64 6)))) := by
  obtain rfl : l' = 0 := Nat.le_zero.1 (hy.len_le 0 (by decide) (by decide))
  obtain ⟨xs, rfl, hc, rA, dx, tx, nx, rfl⟩ := hx
  obtain ⟨ys, hy0, hd, rB, dy, ty, ny, ey⟩ := hy
  have RA := Lib.hid rA
  clear rA rB ey dx dy tx ty nx ny hy0 ys
  go_enter Try.func29, Try.ntmps29
  go_wp2
  exact bodyPost_ret (v := .tuple #[.agg #[.bool false, .slice none 0 0], .agg #[.bool false, .slice none 0 0], .int .i64 6]) (by simp [results, Try.results29, go_sem]) rfl ⟨_, rfl, ⟨_, _, _, rfl, ⟨_, _, _, _, rfl, RI.zero _⟩, ⟨_, _, _, _, rfl, RI.zero _⟩, rfl⟩, ((((Nw.refl w).alloc _).alloc _).alloc _).alloc _⟩
theorem cmp_lt {a b : Int} (h : a < b) : cmp a b = -1 := by unfold cmp; rw [if_pos h]
theorem cmp_ge {a b : Int} (h : b ≤ a) : decide (cmp a b < 0) = false := by unfold cmp; rw [if_neg (by omega)]; split <;> decide
theorem sg_natAbs (n : Bool) (z : Int) (h : 0 ≤ z) : ((sg n z).natAbs : Int) = z := by cases n <;> simp [sg] <;> omega
theorem lv_of_one {z : List Int} {x : Int} (h : z = [x]) : lv b32 z = x := by subst h; simp [lv]
theorem dg_of_one {z : List Int} {x : Int} (h : z = [x]) (d : dg b32 [x]) : dg b32 z := h ▸ d
theorem bd_zero (bd : Addr) : bd.add 0 = bd := by cases bd; unfold Addr.add; split <;> simp_all
set_option maxHeartbeats 3200000 in
set_option maxRecDepth 100000 in
theorem divide_1 {x y : Int} {n m : Bool} {A B : Option Addr} {l l' c d : Nat} {w : World} (hx : RI w n A l c x) (hy : RI w m B l' d y) (hl : l ≤ 500000) (hy0 : y ≠ 0) (h1 : l' ≤ 1 ∨ x.natAbs < y.natAbs) :
    Calls Try.prog 29 #[.agg #[.bool n, .slice A l c], .agg #[.bool m, .slice B l' d]] w (Ret w (K3 (KI (x.tdiv y)) (KI (x.tmod y)) (KV (.int .i64 0)))) := by
  have hx0 := hx
  obtain ⟨xs, rfl, hc, rA, dx, tx, nx, rfl⟩ := hx
  obtain ⟨ys, rfl, hd, rB, dy, ty, ny, rfl⟩ := hy
  have hxn := lv_nonneg (show (0 : Int) < b32 by decide) dx
  have hyn := lv_nonneg (show (0 : Int) < b32 by decide) dy
  have hyz := sg_nz hy0
  have hyl : 0 < ys.length := by
    cases ys with
    | nil => exact absurd (by simp [lv]) hyz
    | cons a t => simp
  have e1 := sg_natAbs n _ hxn
  have e2 := sg_natAbs m _ hyn
  have HT := Lib.hid (sg_tdiv n m _ _ hxn hyn)
  have HM := Lib.hid (sg_tmod n m _ _ hxn hyn)
  have nw1 : Nw w ((((w.alloc (.cells #[.bool n, .slice A xs.length c] 28)).alloc (.cells #[.bool m, .slice B ys.length d] 28)).alloc (.cells #[.bool false, .slice none 0 0] 28)).alloc (.cells #[.bool false, .slice none 0 0] 28)) := ((((Nw.refl w).alloc _).alloc _).alloc _).alloc _
  have sg0 : Sg2 [(w.heap.size, 0, Value.bool n), (w.heap.size, 1, Value.slice A xs.length c), (w.heap.size + 1, 0, Value.bool m), (w.heap.size + 1, 1, Value.slice B ys.length d)] (w.heap.size + 1 + 1) (w.heap.size + 1 + 1 + 1) ((((w.alloc (.cells #[.bool n, .slice A xs.length c] 28)).alloc (.cells #[.bool m, .slice B ys.length d] 28)).alloc (.cells #[.bool false, .slice none 0 0] 28)).alloc (.cells #[.bool false, .slice none 0 0] 28)) := by
    refine ⟨⟨by go_simp, by go_simp, by go_simp, by go_simp, trivial⟩, ?_, ?_, by go_simp⟩
    · have h1 := box_two ((w.alloc (.cells #[.bool n, .slice A xs.length c] 28)).alloc (.cells #[.bool m, .slice B ys.length d] 28)) 28 false none 0 0
      have h2 := h1.below ((Nw.refl _).alloc (.cells #[.bool false, .slice none 0 0] 28))
      simpa using h2
    · have h1 := box_two (((w.alloc (.cells #[.bool n, .slice A xs.length c] 28)).alloc (.cells #[.bool m, .slice B ys.length d] 28)).alloc (.cells #[.bool false, .slice none 0 0] 28)) 28 false none 0 0
      simpa using h1
  have SG := Lib.hid sg0
  have HX0 := Lib.hid hx0
  have RA := Lib.hid (rA.kept nw1.kept)
  have RB := Lib.hid (rB.kept nw1.kept)
  by_cases hlt : lv b32 xs < lv b32 ys
  · have hcm := Lib.hid (cmp_lt hlt)
    clear rA rB e1 e2 h1 hy0 hx0
    have e3 : sg n (lv b32 xs / lv b32 ys) = sg n 0 := by rw [Int.ediv_eq_zero_of_lt hxn hlt]
    have HQ : (sg n (lv b32 xs)).tdiv (sg m (lv b32 ys)) = 0 := by rw [HT.out, Int.ediv_eq_zero_of_lt hxn hlt]; cases (n != m) <;> simp [sg]
    have HR : (sg n (lv b32 xs)).tmod (sg m (lv b32 ys)) = sg n (lv b32 xs) := by rw [HM.out, Int.emod_eq_of_lt hxn hlt]
    have HQ := Lib.hid HQ
    have HR := Lib.hid HR
    clear e3 hlt hyz hxn hyn
    go_enter Try.func29, Try.ntmps29
    go_wp2_with (go_at_call 83; refine (compared_c A B c d xs ys _ RA.out RB.out dx dy tx ty).mono ?_; rintro e w1 ⟨_, rfl, hk, hb⟩; rw [hcm.out] at hk; subst hk; obtain ⟨⟨q1, q2, q3, q4, _⟩, B1, B2, _⟩ := SG.out.nw hb; obtain ⟨⟨u0, hu0, hm0⟩, hf0⟩ := B1 0 (by omega); obtain ⟨⟨u1, hu1, hm1⟩, hf1⟩ := B1 1 (by omega); obtain ⟨⟨t0, ht0, hk0⟩, hg0⟩ := B2 0 (by omega); obtain ⟨⟨t1, ht1, hk1⟩, hg1⟩ := B2 1 (by omega))
    go_region
    have r1 := store_I1 (z := 0) (z' := sg n (lv b32 xs)) (show w.heap.size + 1 + 1 < w.heap.size + 1 + 1 + 1 by omega) B1 (RI.zero w1)
    have r2 := store_I2 (z := 0) (z' := sg n (lv b32 xs)) (show w.heap.size + 1 + 1 < w.heap.size + 1 + 1 + 1 by omega) (r1.1.2.2.2.2.1 B2) (((HX0.out.kept nw1.kept).kept hb.kept).kept r1.1.2.1)
    have b2 := (KB.nwst _ _ _ _ (Nw.refl _).drew) r2.2
    have b1 := (KB.nwst _ _ _ _ (Nw.refl _).drew) (r2.1.2.2.2.2.2.1 r1.2)
    have hn := (((nw1.trans hb).r2 r1.1 (by omega)).r2 r2.1 (by omega)).drew
    generalize World.drew _ = w9 at *
    obtain ⟨m1, D1, l1, c1, p0, p1, i1⟩ := b1
    obtain ⟨m2, D2, l2, c2, p2, p3, i2⟩ := b2
    go_wp2
    exact bodyPost_ret (v := .tuple #[.agg #[.bool m1, .slice D1 l1 c1], .agg #[.bool m2, .slice D2 l2 c2], .int .i64 0]) (by simp [results, Try.results29, go_sem, p0, p1, p2, p3]) rfl ⟨_, rfl, ⟨_, _, _, rfl, ⟨_, _, _, _, rfl, i1.eq (by rw [HQ.out])⟩, ⟨_, _, _, _, rfl, i2.eq (by rw [HR.out])⟩, rfl⟩, hn⟩
  · have hge : lv b32 ys ≤ lv b32 xs := by omega
    have hcm := Lib.hid (cmp_ge hge)
    have hl1 : ys.length = 1 := by omega
    obtain ⟨y0, hys⟩ := List.length_eq_one_iff.1 hl1
    subst hys
    have ely : lv b32 [y0] = y0 := by simp [lv]
    have hy1 := dy y0 (by simp)
    rw [b32_eq] at hy1
    obtain ⟨y1, y2⟩ := hy1
    have y3 : 0 < y0 := by rw [ely] at hyz; omega
    have HQ : (sg n (lv b32 xs)).tdiv (sg m (lv b32 [y0])) = sg (n != m) (lv b32 xs / y0) := by rw [HT.out, ely]
    have HR : (sg n (lv b32 xs)).tmod (sg m (lv b32 [y0])) = sg n (lv b32 xs % y0) := by rw [HM.out, ely]
    have HQ := Lib.hid HQ
    have HR := Lib.hid HR
    obtain ⟨bd, hB, hcellb⟩ := RB.out.2 0 (by simp)
    subst hB
    clear rA rB e1 e2 h1 hy0 hx0 hlt hge hyz hxn hyn hyl hl1
    go_enter Try.func29, Try.ntmps29
    go_wp2_with (go_at_call 83; refine (compared_c A _ c d xs [y0] _ RA.out RB.out dx dy tx ty).mono ?_; rintro e w1 ⟨_, rfl, hk, hb⟩; have hcm1 := hcm.out; generalize cmp (lv b32 xs) (lv b32 [y0]) = cm at hcm1 hk; subst hk; obtain ⟨⟨q1, q2, q3, q4, _⟩, B1, B2, _⟩ := SG.out.nw hb; obtain ⟨⟨u0, hu0, hm0⟩, hf0⟩ := B1 0 (by omega); obtain ⟨⟨u1, hu1, hm1⟩, hf1⟩ := B1 1 (by omega); obtain ⟨⟨t0, ht0, hk0⟩, hg0⟩ := B2 0 (by omega); obtain ⟨⟨t1, ht1, hk1⟩, hg1⟩ := B2 1 (by omega); have hcb := hb.kept _ _ _ hcellb; simp only [at0, List.getD_cons_zero] at hcb; have hcb0 := hcb; rw [bd_zero] at hcb0)
    have n1 : Nw w _ := nw1.trans hb
    refine region_nw [(6, K2 (KL .u32 (fun zs => dg b32 zs ∧ lv b32 zs = lv b32 xs / y0 ∧ top zs)) (KV (.int .u32 (lv b32 xs % y0))))] (by kernel_rfl) (by kernel_rfl) (by kernel_rfl) (by kernel_rfl) ⟨SN.st (K2.st (KL.st _ _) (KV.st _)), trivial⟩ ?_
    repeat
      apply Rg.wpK_quiet rfl rfl
      case hq => intro W hS; have q0 := hS.c q1; have q1 := hS.c q2; have q2 := hS.c q3; have q3 := hS.c q4; have q4 := hS.c hcb; have q5 := hS.c hcb0; go_simp; exact rfl
      case he => exact (by simp only [Act.put, List.setIfInBounds_toArray, List.set_cons_zero, List.set_cons_succ]; exact rfl)
    apply Rg.wpK_know rfl rfl
    case ha =>
      intro W hR hS hF
      have hn := n1.trans hS
      have q0 := hS.c q1
      have q1 := hS.c q2
      have q2 := hS.c q3
      have q3 := hS.c q4
      have q4 := hS.c hcb
      have q5 := hS.c hcb0
      unfold Rg.gives
      go_simp
      exact Rg.gives_enter (call_nw (divided_l A _ c xs y0 W rfl ((RA.out.kept hb.kept).kept hS.kept) dx (by omega) y3 y2))
    intro u hu
    obtain ⟨W0, hw1, hw2, hf⟩ := hu
    obtain ⟨_, _, rfl, ⟨zs, C6, c6, e0, hx⟩, rfl⟩ := Rg.upd_at rfl (hf 6)
    obtain ⟨l6, e1⟩ : ∃ n, n = zs.length := ⟨_, rfl⟩
    rw [← e1] at e0
    subst e0
    clear hx e1
    have hx := trivial
    refine ⟨_, (by simp only [Act.put, List.setIfInBounds_toArray, List.set_cons_zero, List.set_cons_succ]; exact rfl), ?_⟩
    clear hf hw1 hw2 hx W0
    repeat
      apply Rg.wpK_quiet rfl rfl
      case hq => intro W hS; have q0 := hS.c q1; have q1 := hS.c q2; have q2 := hS.c q3; have q3 := hS.c q4; have q4 := hS.c hcb; have q5 := hS.c hcb0; go_simp; exact rfl
      case he => exact (by simp only [Act.put, List.setIfInBounds_toArray, List.set_cons_zero, List.set_cons_succ]; exact rfl)
    refine Rg.wpK_end fun w9 hR hS hF => ?_
    have hn := n1.trans hS
    have h6 := Rg.upd_at rfl (hF 6)
    clear hF hR
    obtain ⟨_, us, e8, hc8, r8, p81, p82, _⟩ := K2L h6
    obtain ⟨qr, hqr⟩ : ∃ qr, qr = lv b32 xs % y0 := ⟨_, rfl⟩
    have hr0 : 0 ≤ qr := by rw [hqr]; exact Int.emod_nonneg _ (by omega)
    have hr1 : qr < b32 := by have := Int.emod_lt_of_pos (lv b32 xs) y3; rw [← hqr] at this; rw [b32_eq]; omega
    have dqr : dg b32 [qr] := by intro x hx; simp at hx; rw [hx]; exact ⟨hr0, hr1⟩
    rw [← hqr] at HR ⊢
    have S2 := Lib.hid ((SG.out.nw hb).nw hS)
    have HC8 := Lib.hid hc8
    have E8 := Lib.hid e8
    clear h6 hqr hc8 e8 q1 q2 q3 q4
    go_wp2
    have n1 : Nw w _ := (hn).drew
    have hw : w.heap.size ≤ w.heap.size + 1 + 1 := by omega
    refine region_two [(w.heap.size, 0, Value.bool n), (w.heap.size, 1, Value.slice A xs.length c), (w.heap.size + 1, 0, Value.bool m), (w.heap.size + 1, 1, Value.slice (some bd) [y0].length d)] (w.heap.size + 1 + 1) (w.heap.size + 1 + 1 + 1) 1000 (KB (w.heap.size + 1 + 1) (sg (!(n == m)) (lv b32 xs / y0)) undef) (KB (w.heap.size + 1 + 1 + 1) (sg n qr) undef) [(2, KI (sg (!(n == m)) (lv b32 xs / y0))), (6, KL .u32 (fun zs => zs = [qr])), (7, KI (sg n qr)), (8, fun _ W => (KB (w.heap.size + 1 + 1) (sg (!(n == m)) (lv b32 xs / y0)) undef) W), (9, fun _ W => (KB (w.heap.size + 1 + 1 + 1) (sg n qr) undef) W)] (by kernel_rfl) (by kernel_rfl) (by kernel_rfl) (by kernel_rfl) ?_ ⟨St2.st (KI.st _), St2.st (KL.st _ _), St2.st (KI.st _), St2.r, St2.s, trivial⟩ ((S2.out.nw (Nw.refl _).drew)) ?_
    · first | trivial | (simp only [Low, and_true]; omega)
    repeat
      apply Rg.wpK_quiet rfl rfl
      case hq => intro W hS; obtain ⟨⟨q1, q2, q3, q4, _⟩, _⟩ := hS; go_simp; exact rfl
      case he => exact (by simp only [Act.put, List.setIfInBounds_toArray, List.set_cons_zero, List.set_cons_succ]; exact rfl)
    apply Rg.wpK_know rfl rfl
    case ha =>
      intro W hR hS hF
      have hn := n1.r2 hR hw
      obtain ⟨⟨q1, q2, q3, q4, _⟩, hB1, hB2, hr⟩ := hS
      unfold Rg.gives
      go_simp
      exact Rg.gives_enter (call_r2 (KB.nwst _ _) (KB.nwst _ _) (ret_eq (made_l E8.out (!(n == m)) ((r8.kept (Nw.refl _).drew.kept).kept hR.2.1) (by rw [← E8.out]; exact HC8.out) p81) (by rw [p82])) hr)
    intro u hu
    obtain ⟨W0, hw1, hw2, hf⟩ := hu
    obtain ⟨m2, D2, l2, c2, rfl, hx⟩ := Rg.upd_at rfl (hf 2)
    refine ⟨_, (by simp only [Act.put, List.setIfInBounds_toArray, List.set_cons_zero, List.set_cons_succ]; exact rfl), ?_⟩
    clear hf hw1 hw2 hx W0
    repeat
      apply Rg.wpK_quiet rfl rfl
      case hq => intro W hS; obtain ⟨⟨q1, q2, q3, q4, _⟩, _⟩ := hS; go_simp; exact rfl
      case he => exact (by simp only [Act.put, List.setIfInBounds_toArray, List.set_cons_zero, List.set_cons_succ]; exact rfl)
    apply Rg.wpK_know rfl rfl
    case ha =>
      intro W hR hS hF
      have hn := n1.r2 hR hw
      obtain ⟨⟨q1, q2, q3, q4, _⟩, hB1, hB2, hr⟩ := hS
      unfold Rg.gives
      go_simp
      exact Rg.gives_value ⟨R2.nw hr (KB.nwst _ _) (KB.nwst _ _) ((Nw.refl W).alloc _), [qr], _, _, rfl, by simp, Rd.new1 _ _ _ _, rfl⟩
    intro u hu
    obtain ⟨W0, hw1, hw2, hf⟩ := hu
    obtain ⟨zs, C6, c6, e0, hx⟩ := Rg.upd_at rfl (hf 6)
    obtain ⟨l6, e1⟩ : ∃ n, n = zs.length := ⟨_, rfl⟩
    rw [← e1] at e0
    subst e0
    clear hx e1
    have hx := trivial
    refine ⟨_, (by simp only [Act.put, List.setIfInBounds_toArray, List.set_cons_zero, List.set_cons_succ]; exact rfl), ?_⟩
    clear hf hw1 hw2 hx W0
    repeat
      apply Rg.wpK_quiet rfl rfl
      case hq => intro W hS; obtain ⟨⟨q1, q2, q3, q4, _⟩, _⟩ := hS; go_simp; exact rfl
      case he => exact (by simp only [Act.put, List.setIfInBounds_toArray, List.set_cons_zero, List.set_cons_succ]; exact rfl)
    apply Rg.wpK_know rfl rfl
    case ha =>
      intro W hR hS hF
      have hn := n1.r2 hR hw
      obtain ⟨⟨q1, q2, q3, q4, _⟩, hB1, hB2, hr⟩ := hS
      have h6 := KL.slice (Rg.upd_at rfl (hF 6 (by kernel_rfl)))
      obtain ⟨z6, e6, hc6, r6, p6⟩ := h6
      subst e6
      unfold Rg.gives
      go_simp
      exact Rg.gives_enter (call_r2 (KB.nwst _ _) (KB.nwst _ _) (ret_eq (made_l (show 1 = z6.length by rw [p6]; rfl) n r6 hc6 (dg_of_one p6 dqr)) (congrArg (fun t => KI (sg n t)) (lv_of_one p6))) hr)
    intro u hu
    obtain ⟨W0, hw1, hw2, hf⟩ := hu
    obtain ⟨m7, D7, l7, c7, rfl, hx⟩ := Rg.upd_at rfl (hf 7)
    refine ⟨_, (by simp only [Act.put, List.setIfInBounds_toArray, List.set_cons_zero, List.set_cons_succ]; exact rfl), ?_⟩
    clear hf hw1 hw2 hx W0
    repeat
      apply Rg.wpK_quiet rfl rfl
      case hq => intro W hS; obtain ⟨⟨q1, q2, q3, q4, _⟩, _⟩ := hS; go_simp; exact rfl
      case he => exact (by simp only [Act.put, List.setIfInBounds_toArray, List.set_cons_zero, List.set_cons_succ]; exact rfl)
    apply Rg.wpK_know rfl rfl
    case ha =>
      intro W hR hS hF
      have hn := n1.r2 hR hw
      obtain ⟨⟨q1, q2, q3, q4, _⟩, hB1, hB2, hr⟩ := hS
      have i2 := KI.agg (Rg.upd_at rfl (Rg.upd_off rfl (Rg.upd_off rfl (hF 2 (by kernel_rfl)))))
      obtain ⟨⟨v0, hv0, hn0⟩, hf0⟩ := hB1 0 (by omega)
      obtain ⟨⟨v1, hv1, hn1⟩, hf1⟩ := hB1 1 (by omega)
      unfold Rg.gives
      go_simp
      exact Rg.gives_skip (store_I1 (by omega) hB1 i2)
    intro u hu
    obtain ⟨W0, hw1, hw2, hf⟩ := hu
    have hx := trivial
    refine ⟨_, (by simp only [Act.put, List.setIfInBounds_toArray, List.set_cons_zero, List.set_cons_succ]; exact rfl), ?_⟩
    clear hf hw1 hw2 hx W0
    repeat
      apply Rg.wpK_quiet rfl rfl
      case hq => intro W hS; obtain ⟨⟨q1, q2, q3, q4, _⟩, _⟩ := hS; go_simp; exact rfl
      case he => exact (by simp only [Act.put, List.setIfInBounds_toArray, List.set_cons_zero, List.set_cons_succ]; exact rfl)
    apply Rg.wpK_know rfl rfl
    case ha =>
      intro W hR hS hF
      have hn := n1.r2 hR hw
      obtain ⟨⟨q1, q2, q3, q4, _⟩, hB1, hB2, hr⟩ := hS
      have i7 := KI.agg (Rg.upd_at rfl (Rg.upd_off rfl (hF 7 (by kernel_rfl))))
      obtain ⟨⟨v0, hv0, hn0⟩, hf0⟩ := hB2 0 (by omega)
      obtain ⟨⟨v1, hv1, hn1⟩, hf1⟩ := hB2 1 (by omega)
      unfold Rg.gives
      go_simp
      exact Rg.gives_skip (store_I2 (by omega) hB2 i7)
    intro u hu
    obtain ⟨W0, hw1, hw2, hf⟩ := hu
    have hx := trivial
    refine ⟨_, (by simp only [Act.put, List.setIfInBounds_toArray, List.set_cons_zero, List.set_cons_succ]; exact rfl), ?_⟩
    clear hf hw1 hw2 hx W0
    repeat
      apply Rg.wpK_quiet rfl rfl
      case hq => intro W hS; obtain ⟨⟨q1, q2, q3, q4, _⟩, _⟩ := hS; go_simp; exact rfl
      case he => exact (by simp only [Act.put, List.setIfInBounds_toArray, List.set_cons_zero, List.set_cons_succ]; exact rfl)
    refine Rg.wpK_end fun w9 hR hS hF => ?_
    have hn := n1.r2 hR hw
    have b1 := Rg.upd_at rfl (Rg.upd_off rfl (hF 8))
    have b2 := Rg.upd_at rfl (hF 9)
    obtain ⟨m1, D1, l1, c1, p0, p1, i1⟩ := b1
    obtain ⟨m2, D2, l2, c2, p2, p3, i2⟩ := b2
    go_wp2
    exact bodyPost_ret (v := .tuple #[.agg #[.bool m1, .slice D1 l1 c1], .agg #[.bool m2, .slice D2 l2 c2], .int .i64 0]) (by simp [results, Try.results29, go_sem, p0, p1, p2, p3]) rfl ⟨_, rfl, ⟨_, _, _, rfl, ⟨_, _, _, _, rfl, i1.eq HQ.out.symm⟩, ⟨_, _, _, _, rfl, i2.eq HR.out.symm⟩, rfl⟩, hn⟩
end Go.Proofs.Ytcgkgcciogibkaa
/- Contracts of library functions (bits, strings, slices.Grow) at this program, laid by the kit's own tool in plain words. -/
namespace Go.Proofs
open Go.Shelf
def Try.growU_ren : Go.Shelf.Ren := ⟨fun | 4 => 113 | n => n, fun | 22 => 22 | 25 => 92 | 3 => 3 | 4 => 4 | 9 => 9 | 20 => 20 | 0 => 0 | n => n, fun | n => n⟩
theorem Try.growU : Go.Proofs.Lays8.n4 Try.prog Try.growU_ren := {
  mixed := by kernel_rfl
  f4 := ⟨Try.f113.name, by decide, Try.func113.trans (congrArg some (by kernel_rfl))⟩
  t0 := Try.underlying0
  a0 := Try.isAgg0
  z0 := Try.sizeOf0
  v0 := Try.zeroValue0
  t3 := Try.underlying3
  a3 := Try.isAgg3
  z3 := Try.sizeOf3
  v3 := Try.zeroValue3
  t4 := Try.underlying4
  a4 := Try.isAgg4
  z4 := Try.sizeOf4
  v4 := Try.zeroValue4
  t9 := Try.underlying9
  a9 := Try.isAgg9
  z9 := Try.sizeOf9
  v9 := Try.zeroValue9
  t20 := Try.underlying20
  a20 := Try.isAgg20
  z20 := Try.sizeOf20
  v20 := Try.zeroValue20
  t22 := Try.underlying22
  a22 := Try.isAgg22
  z22 := Try.sizeOf22
  v22 := Try.zeroValue22 }
def Try.lays128_ren : Go.Shelf.Ren := ⟨fun | 128 => 124 | n => n, fun | 51 => 92 | 3 => 3 | 4 => 4 | 46 => 108 | 5 => 5 | 9 => 9 | n => n, fun | n => n⟩
theorem Try.lays128 : Go.Proofs.Lays.n128 Try.prog Try.lays128_ren := {
  mixed := by kernel_rfl
  f128 := Try.func124.trans (congrArg some (by kernel_rfl))
  t3 := Try.underlying3
  a3 := Try.isAgg3
  z3 := Try.sizeOf3
  v3 := Try.zeroValue3
  t4 := Try.underlying4
  a4 := Try.isAgg4
  z4 := Try.sizeOf4
  v4 := Try.zeroValue4
  t5 := Try.underlying5
  a5 := Try.isAgg5
  z5 := Try.sizeOf5
  v5 := Try.zeroValue5
  t9 := Try.underlying9
  a9 := Try.isAgg9
  z9 := Try.sizeOf9
  v9 := Try.zeroValue9
  t46 := Try.underlying108
  a46 := Try.isAgg108
  z46 := Try.sizeOf108
  v46 := Try.zeroValue108
  t51 := Try.underlying92
  a51 := Try.isAgg92
  z51 := Try.sizeOf92
  v51 := Try.zeroValue92 }
theorem Try.bits_Len32 (x : Int) (w : World) (h0 : 0 ≤ x) (h1 : x ≤ 4294967295) :
    Calls Try.prog 124 #[.int .u32 x] w fun e w' => e = .returned (.int .i64 (Lib.bitLen x.toNat)) ∧ w' = w := Any.bits_Len32 Try.lays128 x w h0 h1
def Try.lays133_ren : Go.Shelf.Ren := ⟨fun | 133 => 118 | 128 => 124 | n => n, fun | 51 => 92 | 3 => 3 | 4 => 4 | 46 => 108 | 5 => 5 | 9 => 9 | n => n, fun | n => n⟩
theorem Try.lays133 : Go.Proofs.Lays.n133 Try.prog Try.lays133_ren := {
  mixed := by kernel_rfl
  f128 := Try.func124.trans (congrArg some (by kernel_rfl))
  f133 := Try.func118.trans (congrArg some (by kernel_rfl))
  t3 := Try.underlying3
  a3 := Try.isAgg3
  z3 := Try.sizeOf3
  v3 := Try.zeroValue3
  t4 := Try.underlying4
  a4 := Try.isAgg4
  z4 := Try.sizeOf4
  v4 := Try.zeroValue4
  t5 := Try.underlying5
  a5 := Try.isAgg5
  z5 := Try.sizeOf5
  v5 := Try.zeroValue5
  t9 := Try.underlying9
  a9 := Try.isAgg9
  z9 := Try.sizeOf9
  v9 := Try.zeroValue9
  t46 := Try.underlying108
  a46 := Try.isAgg108
  z46 := Try.sizeOf108
  v46 := Try.zeroValue108
  t51 := Try.underlying92
  a51 := Try.isAgg92
  z51 := Try.sizeOf92
  v51 := Try.zeroValue92 }
theorem Try.bits_LeadingZeros32 (x : Int) (w : World) (h0 : 0 ≤ x) (h1 : x ≤ 4294967295) :
    Calls Try.prog 118 #[.int .u32 x] w fun e w' => e = .returned (.int .i64 (32 - (Lib.bitLen x.toNat : Int))) ∧ w' = w := Any.bits_LeadingZeros32 Try.lays133 x w h0 h1
def Try.lays137_ren : Go.Shelf.Ren := ⟨fun | 137 => 121 | 217 => 125 | 266 => 126 | n => n, fun | 9 => 9 | 5 => 5 | 3 => 3 | n => n, fun | n => n⟩
theorem Try.lays137 : Go.Proofs.Lays.n137 Try.prog Try.lays137_ren := {
  mixed := by kernel_rfl
  f137 := Try.func121.trans (congrArg some (by kernel_rfl))
  f217 := Try.func125.trans (congrArg some (by kernel_rfl))
  f266 := Try.func126.trans (congrArg some (by kernel_rfl))
  t3 := Try.underlying3
  a3 := Try.isAgg3
  z3 := Try.sizeOf3
  v3 := Try.zeroValue3
  t5 := Try.underlying5
  a5 := Try.isAgg5
  z5 := Try.sizeOf5
  v5 := Try.zeroValue5
  t9 := Try.underlying9
  a9 := Try.isAgg9
  z9 := Try.sizeOf9
  v9 := Try.zeroValue9 }
open Go.RowKit in
theorem Try.strings_IndexByte (s : ByteArray) (c : Int) (w : World) :
    Calls Try.prog 121 #[.string s, .int .u8 c] w fun e w' => e = .returned (.int .i64 (Lib.indexByte s.data.toList c.toNat.toUInt8)) ∧ w' = w := Any.strings_IndexByte Try.lays137 s c w
def Try.lays217_ren : Go.Shelf.Ren := ⟨fun | 217 => 125 | 266 => 126 | n => n, fun | 9 => 9 | 5 => 5 | 3 => 3 | n => n, fun | n => n⟩
theorem Try.lays217 : Go.Proofs.Lays.n217 Try.prog Try.lays217_ren := {
  mixed := by kernel_rfl
  f217 := Try.func125.trans (congrArg some (by kernel_rfl))
  f266 := Try.func126.trans (congrArg some (by kernel_rfl))
  t3 := Try.underlying3
  a3 := Try.isAgg3
  z3 := Try.sizeOf3
  v3 := Try.zeroValue3
  t5 := Try.underlying5
  a5 := Try.isAgg5
  z5 := Try.sizeOf5
  v5 := Try.zeroValue5
  t9 := Try.underlying9
  a9 := Try.isAgg9
  z9 := Try.sizeOf9
  v9 := Try.zeroValue9 }
open Go.RowKit Go.Lib in
theorem Try.stringslite_IndexByte (s : ByteArray) (c : Int) (w : World) :
    Calls Try.prog 125 #[.string s, .int .u8 c] w fun e w' => e = .returned (.int .i64 (Lib.indexByte s.data.toList c.toNat.toUInt8)) ∧ w' = w := Any.stringslite_IndexByte Try.lays217 s c w
def Try.lays206_ren : Go.Shelf.Ren := ⟨fun | 206 => 120 | n => n, fun | 9 => 9 | 4 => 4 | 3 => 3 | n => n, fun | n => n⟩
theorem Try.lays206 : Go.Proofs.Lays.n206 Try.prog Try.lays206_ren := {
  mixed := by kernel_rfl
  f206 := Try.func120.trans (congrArg some (by kernel_rfl))
  t3 := Try.underlying3
  a3 := Try.isAgg3
  z3 := Try.sizeOf3
  v3 := Try.zeroValue3
  t4 := Try.underlying4
  a4 := Try.isAgg4
  z4 := Try.sizeOf4
  v4 := Try.zeroValue4
  t9 := Try.underlying9
  a9 := Try.isAgg9
  z9 := Try.sizeOf9
  v9 := Try.zeroValue9 }
open Go.RowKit Go.Lib in
theorem Try.stringslite_HasPrefix (s p : ByteArray) (w : World) :
    Calls Try.prog 120 #[.string s, .string p] w fun e w' => e = .returned (.bool (Lib.hasPrefix s.data.toList p.data.toList)) ∧ w' = w := Any.stringslite_HasPrefix Try.lays206 s p w
def Try.lays99_ren : Go.Shelf.Ren := ⟨fun | 99 => 100 | 206 => 120 | n => n, fun | 9 => 9 | 4 => 4 | 3 => 3 | n => n, fun | n => n⟩
theorem Try.lays99 : Go.Proofs.Lays.n99 Try.prog Try.lays99_ren := {
  mixed := by kernel_rfl
  f99 := Try.func100.trans (congrArg some (by kernel_rfl))
  f206 := Try.func120.trans (congrArg some (by kernel_rfl))
  t3 := Try.underlying3
  a3 := Try.isAgg3
  z3 := Try.sizeOf3
  v3 := Try.zeroValue3
  t4 := Try.underlying4
  a4 := Try.isAgg4
  z4 := Try.sizeOf4
  v4 := Try.zeroValue4
  t9 := Try.underlying9
  a9 := Try.isAgg9
  z9 := Try.sizeOf9
  v9 := Try.zeroValue9 }
open Go.RowKit Go.Lib in
theorem Try.strings_HasPrefix (s p : ByteArray) (w : World) :
    Calls Try.prog 100 #[.string s, .string p] w fun e w' => e = .returned (.bool (Lib.hasPrefix s.data.toList p.data.toList)) ∧ w' = w := Any.strings_HasPrefix Try.lays99 s p w
end Go.Proofs
/- The contract of the program's twos. -/
set_option linter.unusedVariables false
set_option linter.unusedSimpArgs false
namespace Go.Proofs.Ytcgkgcciogibkaa
open Go.RowKit Ma

theorem own_drewn {w : World} {base n G : Nat} {cur : Array Value} (hb : base ≤ w.heap.size) (hG : G ≤ maxLen) (hs : cur.size = G) (hn : n ≤ G) :
    (w.drew.alloc (.cells cur 92)).ownsRow base 92 1 (.slice (some ⟨w.heap.size, 0, none⟩) n G) n (cur.toList.take n) := by
  refine ⟨by simp; omega, .inr ⟨w.heap.size, G, cur, rfl, hb, ?_, hn, hG, by omega, by simp⟩⟩
  show (w.drew.heap.push (Obj.cells cur 92))[w.heap.size]? = _
  exact Array.getElem?_push_size
theorem size_zeroes (v : Value) (n : Nat) : (Builtin.zeroCells #[v] n).size = n := by
  simp [Builtin.zeroCells]
set_option maxHeartbeats 1600000 in
/-- slices.Grow on a slice of the call's own: behind it there are n cells. -/
theorem grow_c {w : World} {base : Nat} {v : Value} {xs : List Int} {n : Nat} (ho : Own w base 92 .u32 v xs) (hb : base ≤ w.heap.size) (hn0 : 0 < n) (hn : n ≤ 1000000) (hl : xs.length ≤ 1000000) (hxn : xs.length ≤ n) :
    Calls Try.prog 113 #[v, .int .i64 n] w fun e w' => ∃ g c vs, e = .returned (.slice (some ⟨g, 0, none⟩) xs.length c) ∧ n ≤ c ∧ c ≤ 9223372036854775807 ∧ w'.ownsRow base 92 1 (.slice (some ⟨g, 0, none⟩) n c) n vs ∧ vs.take xs.length = xs.map (Value.int .u32) ∧ Nw w w' := by
  obtain ⟨i0, hi, hz0, hz1, hz2⟩ := info_parts info_u32
  obtain ⟨hlen, ⟨hv, h0⟩ | ⟨g, cap, cur, hv, hbg, hg, hc, hm, hs, ht⟩⟩ := ho
  · subst hv
    have hx : xs = [] := List.eq_nil_of_length_eq_zero h0
    subst hx
    have := Any8.slices_Grow_grow Try.growU i0 (.int .u32 0) hi hz0 (by omega) none 0 0 n [] w (by omega) (by omega) (by rw [hz2]; omega) (by omega) (by simp) (fun _ => rfl) (fun a ha => by cases ha)
    rw [show Try.growU_ren.t 25 = 92 from rfl] at this
    obtain ⟨G, hG⟩ : ∃ G, G = grownCap w (0 + n) 0 92 := ⟨_, rfl⟩
    have g1 := grownCap_ge w (0 + n) 0 92
    have g2 := grownCap_le_maxLen w (0 + n) 0 92 (by unfold maxLen; omega)
    refine this.mono fun e w' ⟨e1, e2⟩ => ?_
    rw [← hG] at e1 e2 g1 g2
    subst e2
    refine ⟨w.heap.size, G, _, e1, by omega, by unfold maxLen at g2; omega, own_drewn hb g2 ?_ (by omega), by simp, (Nw.refl w).drew.alloc _⟩
    have z1 := size_zeroes (.int .u32 0) (0 + n - 0)
    have z2 := size_zeroes (.int .u32 0) (G - (0 + n))
    have zc : (Value.int .u32 0).cells = #[.int .u32 0] := rfl
    rw [zc, Array.size_append, Array.size_append, z1, z2]
    simp; omega
  · subst hv
    have hlx : xs.length ≤ cap := hc
    by_cases hroom : xs.length + n ≤ cap
    · have := Any8.slices_Grow_room Try.growU (some ⟨g, 0, none⟩) xs.length cap n w hlx (by unfold maxLen at hm; omega) (by omega) hroom
      refine this.mono fun e w' ⟨e1, e2⟩ => ?_
      subst e2
      refine ⟨g, cap, cur.toList.take n, e1, by omega, by unfold maxLen at hm; omega, ⟨by simp; omega, .inr ⟨g, cap, cur, rfl, hbg, hg, by omega, hm, hs, by simp⟩⟩, ?_, Nw.refl _⟩
      rw [List.take_take, Nat.min_eq_left hxn, ← ht]; simp
    · have := Any8.slices_Grow_grow Try.growU i0 (.int .u32 0) hi hz0 (by omega) (some ⟨g, 0, none⟩) xs.length cap n cur.toList w hlx (by omega) (by rw [hz2]; omega) (by omega) (by rw [hz1]; simpa using hs) (fun h => by cases h) (fun a ha j v hj => ?_)
      · rw [show Try.growU_ren.t 25 = 92 from rfl] at this
        obtain ⟨G, hG⟩ : ∃ G, G = grownCap w (xs.length + n) cap 92 := ⟨_, rfl⟩
        have g1 := grownCap_ge w (xs.length + n) cap 92
        have g2 := grownCap_le_maxLen w (xs.length + n) cap 92 (by unfold maxLen; omega)
        refine this.mono fun e w' ⟨e1, e2⟩ => ?_
        rw [← hG] at e1 e2 g1 g2
        subst e2
        refine ⟨w.heap.size, G, _, e1, by omega, by unfold maxLen at g2; omega, own_drewn hb g2 ?_ (by omega), ?_, (Nw.refl w).drew.alloc _⟩
        · have z1 := size_zeroes (.int .u32 0) (xs.length + n - cap)
          have z2 := size_zeroes (.int .u32 0) (G - (xs.length + n))
          have zc : (Value.int .u32 0).cells = #[.int .u32 0] := rfl
          rw [zc, Array.size_append, Array.size_append, z1, z2]
          simp; omega
        · rw [List.take_take, Nat.min_eq_left hxn]
          rw [← ht]
          simp only [Array.toList_append, List.append_assoc, Nat.mul_one]
          rw [List.take_append_of_le_length (by simp; omega)]
      · clear hz0 hz1 hz2 hi
        obtain rfl : a = ⟨g, 0, none⟩ := by simpa using ha.symm
        rw [add_at]
        obtain ⟨hj1, hj2⟩ := List.getElem?_eq_some_iff.1 hj
        have hrow : w.ownsRow base 92 1 (.slice (some ⟨g, 0, none⟩) cap cap) cap cur.toList := ⟨by simpa using hs, .inr ⟨g, cap, cur, rfl, hbg, hg, Nat.le_refl _, hm, hs, by rw [← hs, List.take_of_length_le (by simp)]⟩⟩
        rw [World.ownsRow.cellAt hrow j (by simp at hj1; omega)]
        exact hj
end Go.Proofs.Ytcgkgcciogibkaa
/- Bits of words: turning all bits of a word. No program in sight. -/
set_option linter.unusedVariables false
set_option linter.unusedSimpArgs false
namespace Go.Proofs.Ytcgkgcciogibkaa.Ma
open Go

theorem xor_ones (n : Nat) (h : n < 4294967296) : n ^^^ 4294967295 = 4294967295 - n := by
  apply Nat.eq_of_testBit_eq
  intro i
  have p32 : (2 : Nat) ^ 32 = 4294967296 := by decide
  have h1 := Nat.testBit_two_pow_sub_succ (x := n) (n := 32) (by omega) i
  have h2 := Nat.testBit_two_pow_sub_one 32 i
  rw [p32] at h1 h2
  rw [show 4294967295 - n = 4294967296 - (n + 1) by omega, h1, Nat.testBit_xor, show (4294967295 : Nat) = 4294967296 - 1 by decide, h2]
  by_cases hi : i < 32
  · simp [hi]
  · have : n.testBit i = false := Nat.testBit_lt_two_pow (Nat.lt_of_lt_of_le h (by rw [← p32]; exact Nat.pow_le_pow_right (by omega) (by omega)))
    simp [hi, this]
theorem flip0 (a : Int) (h : 0 ≤ a ∧ a < 4294967296) : bits .xor .u32 a 0 = a := by
  obtain ⟨A, rfl⟩ := Int.eq_ofNat_of_zero_le h.1
  have := u32_xor_nat A 0 (by omega) (by omega)
  simpa using this
theorem flip1 (a : Int) (h : 0 ≤ a ∧ a < 4294967296) : bits .xor .u32 a 4294967295 = 4294967295 - a := by
  obtain ⟨A, rfl⟩ := Int.eq_ofNat_of_zero_le h.1
  have := u32_xor_nat A 4294967295 (by omega) (by omega)
  rw [xor_ones A (by omega)] at this
  rw [show ((4294967295 : Nat) : Int) = 4294967295 from rfl] at this
  rw [this]; omega
theorem flip2 (a : Int) (h : 0 ≤ a ∧ a < 4294967296) : bits .xor .u32 IntKind.u32.max a = 4294967295 - a := by
  obtain ⟨A, rfl⟩ := Int.eq_ofNat_of_zero_le h.1
  have hm : IntKind.u32.max = ((4294967295 : Nat) : Int) := by simp [IntKind.max, IntKind.bits, IntKind.signed]
  rw [hm, u32_xor_nat 4294967295 A (by omega) (by omega), Nat.xor_comm, xor_ones A (by omega)]
  omega
end Go.Proofs.Ytcgkgcciogibkaa.Ma
/- The contract of the program's twos. -/
set_option linter.unusedVariables false
set_option linter.unusedSimpArgs false
namespace Go.Proofs.Ytcgkgcciogibkaa
open Go.RowKit Ma

/-- What a round of twos leaves: the first i cells are those of ys, flipped or not. -/
structure TwAt (ys : List Int) (m i : Nat) (f : Int → Int) (vs : List Value) : Prop where
  le : i ≤ m
  len : vs.length = m
  done : ∀ j, j < i → vs[j]? = some (.int .u32 (f (at0 ys j)))
  rest : ∀ j, i ≤ j → j < ys.length → vs[j]? = some (.int .u32 (at0 ys j))
theorem TwAt.start {ys : List Int} {m : Nat} {f : Int → Int} {vs : List Value} (hl : vs.length = m) (ht : vs.take ys.length = ys.map (Value.int .u32)) : TwAt ys m 0 f vs :=
  ⟨by omega, hl, fun j hj => by omega, fun j _ hj => by
    have : (vs.take ys.length)[j]? = vs[j]? := by rw [List.getElem?_take, if_pos hj]
    rw [← this, ht, List.getElem?_map, List.getElem?_eq_getElem hj, at0_of_lt hj]; rfl⟩
theorem TwAt.step {ys : List Int} {m i : Nat} {f : Int → Int} {vs : List Value} (h : TwAt ys m i f vs) (hi : i < m) : TwAt ys m (i + 1) f (vs.set i (.int .u32 (f (at0 ys i)))) := by
  obtain ⟨h1, h2, h3, h4⟩ := h
  refine ⟨by omega, by simp [h2], fun j hj => ?_, fun j hj hj2 => ?_⟩
  · by_cases e : j = i
    · subst e; rw [List.getElem?_set_self (by omega)]
    · rw [List.getElem?_set_ne (by omega)]; exact h3 j (by omega)
  · rw [List.getElem?_set_ne (by omega)]; exact h4 j (by omega) hj2
theorem TwAt.step2 {ys : List Int} {m i : Nat} {f : Int → Int} {vs : List Value} (h : TwAt ys m i f vs) (hi : i < m) (u : Value) : TwAt ys m (i + 1) f ((vs.set i u).set i (.int .u32 (f (at0 ys i)))) := by
  rw [List.set_set]; exact h.step hi
theorem TwAt.all {ys : List Int} {m : Nat} {f : Int → Int} {vs : List Value} (h : TwAt ys m m f vs) : vs = ((List.range m).map fun j => f (at0 ys j)).map (Value.int .u32) := by
  apply List.ext_getElem?
  intro j
  by_cases hj : j < m
  · rw [h.done j hj]; simp [hj]
  · rw [List.getElem?_eq_none (by rw [h.len]; omega), List.getElem?_eq_none (by simp; omega)]
theorem lv_range_id (b : Int) (m : Nat) : ∀ ys : List Int, ys.length ≤ m → lv b ((List.range m).map fun j => at0 ys j) = lv b ys := by
  intro ys hl
  have key : ∀ k, k ≤ m → lv b ((List.range k).map fun j => at0 ys j) = lv b (ys.take k) := by
    intro k hk
    induction k with
    | zero => simp [lv]
    | succ k ih =>
      rw [List.range_succ, List.map_append, List.map_singleton, lv_snoc, ih (by omega)]
      simp only [List.length_map, List.length_range]
      by_cases h : k < ys.length
      · rw [lv_take_succ _ _ _ h]
      · rw [at0_ge (by omega), List.take_of_length_le (by omega), List.take_of_length_le (by omega)]; omega
  rw [key m (Nat.le_refl _), List.take_of_length_le hl]
theorem lv_flip (b : Int) (m : Nat) (ys : List Int) : lv b ((List.range m).map fun j => (b - 1) - at0 ys j) = b ^ m - 1 - lv b ((List.range m).map fun j => at0 ys j) := by
  induction m with
  | zero => simp [lv]
  | succ m ih =>
    rw [List.range_succ, List.map_append, List.map_singleton, lv_snoc, List.map_append, List.map_singleton, lv_snoc, ih, Int.pow_succ]
    simp only [List.length_map, List.length_range]
    grind

theorem twos_id {m : Nat} {ys : List Int} (dy : Ma.dg b32 ys) (hl : ys.length ≤ m) :
    Ma.dg b32 ((List.range m).map fun j => bits .xor .u32 (at0 ys j) 0) ∧ ((List.range m).map fun j => bits .xor .u32 (at0 ys j) 0).length = m ∧ lv b32 ((List.range m).map fun j => bits .xor .u32 (at0 ys j) 0) = lv b32 ys % b32 ^ m := by
  have e : ((List.range m).map fun j => bits .xor .u32 (at0 ys j) 0) = (List.range m).map fun j => at0 ys j := by
    apply List.map_congr_left
    intro j _
    exact flip0 _ (by have := dg_at dy (by decide) j; rw [b32_eq] at this; exact this)
  rw [e]
  refine ⟨fun x hx => ?_, by simp, ?_⟩
  · obtain ⟨j, _, rfl⟩ := List.mem_map.1 hx
    exact dg_at dy (by decide) j
  · rw [lv_range_id _ _ _ hl, Int.emod_eq_of_lt (lv_nonneg (by decide) dy) (Int.lt_of_lt_of_le (lv_lt (by decide) dy) (pow_le (by decide) hl))]
theorem twos_flip {m : Nat} {ys : List Int} {x : Int} (dy : Ma.dg b32 ys) (hl : ys.length ≤ m) (hx : lv b32 ys = -1 - x) :
    Ma.dg b32 ((List.range m).map fun j => bits .xor .u32 (at0 ys j) 4294967295) ∧ ((List.range m).map fun j => bits .xor .u32 (at0 ys j) 4294967295).length = m ∧ lv b32 ((List.range m).map fun j => bits .xor .u32 (at0 ys j) 4294967295) = x % b32 ^ m := by
  have e : ((List.range m).map fun j => bits .xor .u32 (at0 ys j) 4294967295) = (List.range m).map fun j => (b32 - 1) - at0 ys j := by
    apply List.map_congr_left
    intro j _
    rw [flip1 _ (by have := dg_at dy (by decide) j; rw [b32_eq] at this; exact this), b32_eq]
    omega
  rw [e]
  refine ⟨fun x hx => ?_, by simp, ?_⟩
  · obtain ⟨j, _, rfl⟩ := List.mem_map.1 hx
    have := dg_at dy (by decide) j
    omega
  · rw [lv_flip, lv_range_id _ _ _ hl, hx]
    have h1 := lv_nonneg (show (0 : Int) < b32 by decide) dy
    have h2 := lv_lt (show (0 : Int) < b32 by decide) dy
    have h3 := pow_le (b := b32) (by decide) hl
    have e2 : x % b32 ^ m = (x + b32 ^ m) % b32 ^ m := by rw [Int.add_emod_right]
    rw [e2, Int.emod_eq_of_lt (by omega) (by omega)]
    omega
theorem row_base {w : World} {b b' : Nat} {e : TypeId} {z : Nat} {v : Value} {n : Nat} {vs : List Value} (h : w.ownsRow b e z v n vs) (hb : b' ≤ b) : w.ownsRow b' e z v n vs := by
  obtain ⟨h1, h2 | ⟨g, cap, cur, hv, hbg, hr⟩⟩ := h
  · exact ⟨h1, .inl h2⟩
  · exact ⟨h1, .inr ⟨g, cap, cur, hv, by omega, hr⟩⟩
theorem row_ge {w : World} {b : Nat} {e : TypeId} {z n cap g : Nat} {vs : List Value} (h : w.ownsRow b e z (.slice (some ⟨g, 0, none⟩) n cap) n vs) : b ≤ g := (World.ownsRow.lt h g rfl).1
set_option maxHeartbeats 1600000 in
set_option maxRecDepth 100000 in
theorem twos_pos {x : Int} {A : Option Addr} {l c : Nat} {w : World} (m : Nat) (hx : RI w false A l c x) (hl : l ≤ 400000) (h0 : 0 < m) (hm : m ≤ 1000000) (hlm : l ≤ m) :
    Calls Try.prog 71 #[.agg #[.bool false, .slice A l c], .int .i64 m] w (Ret w (KO w.heap.size 92 .u32 fun ts => dg b32 ts ∧ ts.length = m ∧ lv b32 ts = x % b32 ^ m)) := by
  obtain ⟨xs, rfl, hc, rA, dx, tx, nx, rfl⟩ := hx
  have nw1 : Nw w ((w.alloc (.cells #[.bool false, .slice A xs.length c] 28)).alloc (.cells #[.bool false, .slice A xs.length c] 28)) := ((Nw.refl w).alloc _).alloc _
  have q0 : Has [(w.heap.size + 1, 1, Value.slice A xs.length c)] ((w.alloc (.cells #[.bool false, .slice A xs.length c] 28)).alloc (.cells #[.bool false, .slice A xs.length c] 28)) := ⟨by go_simp, trivial⟩
  have Q0 := Lib.hid q0
  have RA := Lib.hid (rA.kept nw1.kept)
  clear rA q0
  go_enter Try.func71, Try.ntmps71
  go_wp2_with (first
    | (go_at_call 112; refine (clone_o A c xs _ RA.out (by omega)).mono ?_; rintro e w1 ⟨v1, rfl, o1, hb1⟩)
    | (go_at_call 113; refine (grow_c (n := m) o1 hb1.size h0 hm (by omega) hlm).mono ?_; rintro e w2 ⟨g, cap, vs, rfl, hmc, hc63, ho, ht, hb2⟩; obtain ⟨q1, _⟩ := (Q0.out.nw hb1).nw hb2))
  have ho' := row_base (b' := w.heap.size + 1 + 1) ho (by first | omega | (simp; done))
  have hg := row_ge ho'
  have hts : TwAt xs m 0 (fun a => bits .xor .u32 a 0) vs := TwAt.start (by have := ho.1; simpa using this) ht
  have hn0 : Nw w w2 := (nw1.trans hb1).trans hb2
  clear ho ht
  go_loopw [23] (fun ci wr => ∃ (i : Nat) (us : List Value), ci = .int .i64 i ∧ wr.ownsRow (w.heap.size + 1 + 1) 92 1 (.slice (some ⟨g, 0, none⟩) m cap) m us ∧ TwAt xs m i (fun a => bits .xor .u32 a 0) us ∧ Nw w wr ∧ wr.cell? ⟨w.heap.size + 1, 1, none⟩ = w2.cell? ⟨w.heap.size + 1, 1, none⟩)
    (fun ci _ => m - (intOf ci).toNat)
  case atStart => exact ⟨0, vs, rfl, ho', hts, hn0, rfl⟩
  case round =>
    obtain ⟨i, us, rfl, hu, ht, hn, hq⟩ := hrel
    have hi := ht.le
    have hul := ht.len
    rw [q1] at hq
    clear ho' hts hn0
    by_cases him : i < m
    · have fz := World.ownsRow.frozenAt hu i
      have ce := World.ownsRow.cellAt hu i (by omega)
      have hgne : w.heap.size + 1 ≠ g := by omega
      have HU := Lib.hid hu
      have HST := Lib.hid (ht.step him)
      have HST2 := Lib.hid (ht.step2 him (.int .u32 0))
      by_cases hy : i < xs.length
      · have hrest := ht.rest i (Nat.le_refl _) hy
        rw [hrest] at ce
        clear hrest ht hu
        go_wp2
        exact ⟨⟨i + 1, _, by go_num, (World.ownsRow.stored HU.out i _).1, HST.out, hn.set (by simp; omega) _, by rw [World.cell?_setCell_other (h := by simp <;> omega), hq, q1]⟩, by simp [intOf]; omega⟩
      · have hex : ∃ u0, us[i]? = some u0 := ⟨us[i]'(by omega), List.getElem?_eq_getElem _⟩
        obtain ⟨u0, hu0⟩ := hex
        rw [hu0] at ce
        have hy0 : at0 xs i = 0 := at0_ge (by omega)
        rw [hy0] at HST2
        clear hu0 ht hu hy0
        go_wp2
        exact ⟨⟨i + 1, _, by go_num, (World.ownsRow.stored (World.ownsRow.stored HU.out i _).1 i _).1, HST2.out, (hn.set (by simp; omega) _).set (by simp; omega) _, by rw [World.cell?_setCell_other (h := by simp <;> omega), World.cell?_setCell_other (h := by simp <;> omega), hq, q1]⟩, by simp [intOf]; omega⟩
    · have hie : i = m := by omega
      have hall := (hie ▸ ht : TwAt xs m m (fun a => bits .xor .u32 a 0) us).all
      have HA := Lib.hid hall
      have HU := Lib.hid hu
      clear hall ht hu hie
      go_wp2
      go_ret
      exact ⟨_, rfl, ⟨(List.range m).map fun j => (fun a => bits .xor .u32 a 0) (at0 xs j), g, cap, by simp, row_base (by have := HU.out; rw [HA.out] at this; simpa [Own] using this) (by omega), (by simpa [sg] using twos_id dx hlm)⟩, hn⟩
set_option maxHeartbeats 1600000 in
set_option maxRecDepth 100000 in
theorem twos_neg {x : Int} {A : Option Addr} {l c : Nat} {w : World} (m : Nat) (hx : RI w true A l c x) (hl : l ≤ 400000) (h0 : 0 < m) (hm : m ≤ 1000000) (hlm : l ≤ m) :
    Calls Try.prog 71 #[.agg #[.bool true, .slice A l c], .int .i64 m] w (Ret w (KO w.heap.size 92 .u32 fun ts => dg b32 ts ∧ ts.length = m ∧ lv b32 ts = x % b32 ^ m)) := by
  have hxa := hx.abs_lt
  have hx0 : x < 0 := by
    obtain ⟨xs, _, _, _, d, t, nz, rfl⟩ := hx
    have := top_le (show (0 : Int) < b32 by decide) d t (nz rfl)
    have := pos_pow (show (0 : Int) < b32 by decide) (xs.length - 1)
    simp [sg]; omega
  have nw1 : Nw w ((w.alloc (.cells #[.bool true, .slice A l c] 28)).alloc (.cells #[.bool true, .slice A l c] 28)) := ((Nw.refl w).alloc _).alloc _
  have sg0 : Sg [] (w.heap.size + 1) 2 ((w.alloc (.cells #[.bool true, .slice A l c] 28)).alloc (.cells #[.bool true, .slice A l c] 28)) := by
    refine ⟨trivial, ?_, by go_simp⟩
    have := box_two (w.alloc (.cells #[.bool true, .slice A l c] 28)) 28 true A l c
    simpa using this
  have SG := Lib.hid sg0
  have HX := Lib.hid (hx.kept nw1.kept)
  clear hx sg0
  go_enter Try.func71, Try.ntmps71
  go_wp2_with (go_at_call 110; refine (complement_c HX.out hl).mono ?_; rintro e w0 ⟨_, rfl, ⟨m1, D1, l1, c1, rfl, hi⟩, hb⟩; have b2 := (SG.out.nw hb).2.1; obtain ⟨⟨v0, hv0, hn0⟩, hf0⟩ := b2 0 (by omega); obtain ⟨⟨v1, hv1, hn1⟩, hf1⟩ := b2 1 (by omega))
  have hl1 : l1 ≤ l := hi.len_le l (by omega) (by omega)
  obtain ⟨ys, rfl, hyc, rY, dy, ty, ny, ey⟩ := hi
  have hyn := lv_nonneg (show (0 : Int) < b32 by decide) dy
  have hey : lv b32 ys = -1 - x := by
    cases m1
    · simpa [sg] using ey.symm
    · simp [sg] at ey; omega
  have HEY := Lib.hid hey
  clear hey ey hyn
  obtain ⟨W3, eW3, hR, k0, k1⟩ := store_two (m := m1) (D := D1) (l := ys.length) (c := c1) b2
  rw [eW3]
  have RY := Lib.hid (rY.kept hR.2.1)
  have Q0 := Lib.hid k1
  have nw3 : Nw w W3 := (nw1.trans hb).rr hR (by omega)
  have hsz3 := hR.2.2.1
  have hsz0 := hb.size
  have hszz : w.heap.size + 1 + 1 ≤ W3.heap.size := by simp at hsz0; omega
  clear hv0 hf0 hv1 hf1 hn0 hn1 b2 eW3 rY k0 k1
  go_wp2_with (first
    | (go_at_call 112; refine (clone_o D1 c1 ys _ RY.out (by omega)).mono ?_; rintro e w1 ⟨v1, rfl, o1, hb1⟩)
    | (go_at_call 113; refine (grow_c (n := m) o1 hb1.size h0 hm (by omega) (by omega)).mono ?_; rintro e w2 ⟨g, cap, vs, rfl, hmc, hc63, ho, ht, hb2⟩; have q1 := hb2.c (hb1.c Q0.out)))
  have hly : ys.length ≤ m := by omega
  have ho' := row_base (b' := w.heap.size + 1 + 1) ho (by first | omega | (simp; done))
  have hg := row_ge ho'
  have hts : TwAt ys m 0 (fun a => bits .xor .u32 a 4294967295) vs := TwAt.start (by have := ho.1; simpa using this) ht
  have hn0 : Nw w w2 := (nw3.trans hb1).trans hb2
  clear ho ht
  go_loopw [23] (fun ci wr => ∃ (i : Nat) (us : List Value), ci = .int .i64 i ∧ wr.ownsRow (w.heap.size + 1 + 1) 92 1 (.slice (some ⟨g, 0, none⟩) m cap) m us ∧ TwAt ys m i (fun a => bits .xor .u32 a 4294967295) us ∧ Nw w wr ∧ wr.cell? ⟨w.heap.size + 1, 1, none⟩ = w2.cell? ⟨w.heap.size + 1, 1, none⟩)
    (fun ci _ => m - (intOf ci).toNat)
  case atStart => exact ⟨0, vs, rfl, ho', hts, hn0, rfl⟩
  case round =>
    obtain ⟨i, us, rfl, hu, ht, hn, hq⟩ := hrel
    have hi := ht.le
    have hul := ht.len
    rw [q1] at hq
    clear ho' hts hn0
    by_cases him : i < m
    · have fz := World.ownsRow.frozenAt hu i
      have ce := World.ownsRow.cellAt hu i (by omega)
      have hgne : w.heap.size + 1 ≠ g := by omega
      have HU := Lib.hid hu
      have HST := Lib.hid (ht.step him)
      have HST2 := Lib.hid (ht.step2 him (.int .u32 0))
      by_cases hy : i < ys.length
      · have hrest := ht.rest i (Nat.le_refl _) hy
        rw [hrest] at ce
        clear hrest ht hu
        go_wp2
        exact ⟨⟨i + 1, _, by go_num, (World.ownsRow.stored HU.out i _).1, HST.out, hn.set (by simp; omega) _, by rw [World.cell?_setCell_other (h := by simp <;> omega), hq, q1]⟩, by simp [intOf]; omega⟩
      · have hex : ∃ u0, us[i]? = some u0 := ⟨us[i]'(by omega), List.getElem?_eq_getElem _⟩
        obtain ⟨u0, hu0⟩ := hex
        rw [hu0] at ce
        have hy0 : at0 ys i = 0 := at0_ge (by omega)
        rw [hy0] at HST2
        clear hu0 ht hu hy0
        go_wp2
        exact ⟨⟨i + 1, _, by go_num, (World.ownsRow.stored (World.ownsRow.stored HU.out i _).1 i _).1, HST2.out, (hn.set (by simp; omega) _).set (by simp; omega) _, by rw [World.cell?_setCell_other (h := by simp <;> omega), World.cell?_setCell_other (h := by simp <;> omega), hq, q1]⟩, by simp [intOf]; omega⟩
    · have hie : i = m := by omega
      have hall := (hie ▸ ht : TwAt ys m m (fun a => bits .xor .u32 a 4294967295) us).all
      have HA := Lib.hid hall
      have HU := Lib.hid hu
      clear hall ht hu hie
      go_wp2
      go_ret
      exact ⟨_, rfl, ⟨(List.range m).map fun j => (fun a => bits .xor .u32 a 4294967295) (at0 ys j), g, cap, by simp, row_base (by have := HU.out; rw [HA.out] at this; simpa [Own] using this) (by omega), (twos_flip dy hly HEY.out)⟩, hn⟩
theorem twos_c {x : Int} {n : Bool} {A : Option Addr} {l c : Nat} {w : World} (m : Nat) (hx : RI w n A l c x) (hl : l ≤ 400000) (h0 : 0 < m) (hm : m ≤ 1000000) (hlm : l ≤ m) :
    Calls Try.prog 71 #[.agg #[.bool n, .slice A l c], .int .i64 m] w (Ret w (KO w.heap.size 92 .u32 fun ts => dg b32 ts ∧ ts.length = m ∧ lv b32 ts = x % b32 ^ m)) := by
  cases n
  · exact twos_pos m hx hl h0 hm hlm
  · exact twos_neg m hx hl h0 hm hlm
end Go.Proofs.Ytcgkgcciogibkaa
/- The contract of the program's untwos. -/
set_option linter.unusedVariables false
set_option linter.unusedSimpArgs false
namespace Go.Proofs.Ytcgkgcciogibkaa
open Go.RowKit Ma

/-- The number of which the two's complement, to m limbs, has the value v. -/
def sx (m : Nat) (v : Int) : Int := if 2 * v < b32 ^ m then v else v - b32 ^ m
theorem half_top {ts : List Int} (d : Ma.dg b32 ts) (h : 0 < ts.length) : (2 * lv b32 ts < b32 ^ ts.length ↔ at0 ts (ts.length - 1) < 2147483648) := by
  have e := lv_take_succ b32 ts (ts.length - 1) (by omega)
  rw [Nat.sub_add_cancel h, List.take_length] at e
  have d2 := dg_take d (ts.length - 1)
  have h1 := lv_nonneg (show (0 : Int) < b32 by decide) d2
  have h2 := lv_lt (show (0 : Int) < b32 by decide) d2
  have hl : (ts.take (ts.length - 1)).length = ts.length - 1 := by simp
  rw [hl] at h2
  have e2 : b32 ^ ts.length = b32 ^ (ts.length - 1) * b32 := by rw [← Int.pow_succ]; congr 1; omega
  have hp := pos_pow (show (0 : Int) < b32 by decide) (ts.length - 1)
  rw [e, e2, b32_eq]
  generalize at0 ts (ts.length - 1) = t at *
  rw [b32_eq] at *
  generalize (4294967296 : Int) ^ (ts.length - 1) = p at *
  generalize lv 4294967296 (ts.take (ts.length - 1)) = u at *
  constructor
  · intro h3
    apply Classical.byContradiction
    intro h4
    have : p * 2147483648 ≤ p * t := Int.mul_le_mul_of_nonneg_left (by omega) (by omega)
    omega
  · intro h3
    have : p * t ≤ p * 2147483647 := Int.mul_le_mul_of_nonneg_left (by omega) (by omega)
    omega
theorem flip_all (m : Nat) {ts : List Int} (d : Ma.dg b32 ts) (hl : ts.length = m) : Ma.dg b32 ((List.range m).map fun j => bits .xor .u32 IntKind.u32.max (at0 ts j)) ∧ ((List.range m).map fun j => bits .xor .u32 IntKind.u32.max (at0 ts j)).length = m ∧ lv b32 ((List.range m).map fun j => bits .xor .u32 IntKind.u32.max (at0 ts j)) = b32 ^ m - 1 - lv b32 ts := by
  have e : ((List.range m).map fun j => bits .xor .u32 IntKind.u32.max (at0 ts j)) = (List.range m).map fun j => (b32 - 1) - at0 ts j := by
    apply List.map_congr_left
    intro j _
    rw [flip2 _ (by have := dg_at d (by decide) j; rw [b32_eq] at this; exact this), b32_eq]
    omega
  rw [e]
  refine ⟨fun x hx => ?_, by simp, ?_⟩
  · obtain ⟨j, _, rfl⟩ := List.mem_map.1 hx
    have := dg_at d (by decide) j
    omega
  · rw [lv_flip, lv_range_id _ _ _ (by omega)]

theorem Box.cellset {r n g i : Nat} {W : World} (hb : Box r n W) (h : r < g) (v : Value) : Box r n (W.setCell ⟨g, i, none⟩ v) := fun o ho => by
  obtain ⟨⟨x, hx, hn⟩, hf⟩ := hb o ho
  exact ⟨⟨x, by rw [World.cell?_setCell_other (h := by simp <;> omega)]; exact hx, hn⟩, by simp [World.frozen?_setCell]; exact hf⟩
set_option maxHeartbeats 1600000 in
set_option maxRecDepth 100000 in
theorem untwos_c {A : Option Addr} {c : Nat} {ts : List Int} {w : World} (rA : Rd w .u32 A ts) (hc : ts.length ≤ c) (d : dg b32 ts) (hl : ts.length ≤ 400000) (h0 : 0 < ts.length) :
    Calls Try.prog 72 #[.slice A ts.length c] w (Ret w (KI (sx ts.length (lv b32 ts)))) := by
  have hh := half_top d h0
  have nw1 : Nw w (w.alloc (.cells #[.bool false, .slice none 0 0] 28)) := (Nw.refl w).alloc _
  have sg0 : Sg [] w.heap.size 2 (w.alloc (.cells #[.bool false, .slice none 0 0] 28)) := ⟨trivial, box_two w 28 false none 0 0, by go_simp⟩
  obtain ⟨ad, hA, hcell⟩ := (rA.kept nw1.kept).2 (ts.length - 1) (by omega)
  subst hA
  obtain ⟨t0, t1⟩ := dg_at d (by decide) (ts.length - 1)
  have RA := Lib.hid (rA.kept nw1.kept)
  have SG := Lib.hid sg0
  clear rA sg0
  obtain ⟨t, ht⟩ : ∃ t, at0 ts (ts.length - 1) = t := ⟨_, rfl⟩
  rw [ht] at hh t0 t1 hcell
  rw [b32_eq] at t1
  have HH := Lib.hid hh
  clear ht hh
  have hzb : ((ts.length : Int) == 0) = false := by rw [beq_eq_false_iff_ne]; omega
  by_cases hs : t < 2147483648
  · have hv : sx ts.length (lv b32 ts) = lv b32 ts := by unfold sx; rw [if_pos (HH.out.2 hs)]
    have HV := Lib.hid hv
    have hq : t / 2147483648 = 0 := by omega
    clear hv HH
    go_enter Try.func72, Try.ntmps72
    go_wp2_with (go_at_call 68; refine (make_c (n := false) RA.out d (by omega)).mono ?_; rintro e w2 ⟨_, rfl, ⟨m, D, l2, c2, rfl, hi⟩, hb2⟩; have b2 := (SG.out.nw hb2).2.1; obtain ⟨⟨v0, hv0, hn0⟩, hf0⟩ := b2 0 (by omega); obtain ⟨⟨v1, hv1, hn1⟩, hf1⟩ := b2 1 (by omega))
    have hi' := hi.eq (z' := sx ts.length (lv b32 ts)) (by rw [HV.out]; rfl)
    exact bodyPost_ret (v := .agg #[.bool m, .slice D l2 c2]) (by simp [results, Try.results72, go_sem, hv0, hv1]) rfl (Ret.I (hi'.kept (store_I b2 hi').1.2.1) ((nw1.trans hb2).rr (store_I b2 hi').1 (by omega)))
  · have hv : sx ts.length (lv b32 ts) = lv b32 ts - b32 ^ ts.length := by unfold sx; rw [if_neg (fun h => hs (HH.out.1 h))]
    have HV := Lib.hid hv
    have hq : t / 2147483648 = 1 := by omega
    clear hv HH
    go_enter Try.func72, Try.ntmps72
    go_wp2_with (go_at_call 112; refine (clone_o (some ad) c ts _ RA.out (by omega)).mono ?_; rintro e w1 ⟨v1, rfl, o1, hb1⟩; obtain ⟨g, cap, rfl⟩ := o1.some' (by intro e; subst e; simp at h0))
    have ho' : w1.ownsRow (w.heap.size + 1) 92 1 (.slice (some ⟨g, 0, none⟩) ts.length cap) ts.length (ts.map (Value.int .u32)) := row_base (b' := w.heap.size + 1) o1 (by simp)
    have hg := row_ge ho'
    have hts : TwAt ts ts.length 0 (fun a => bits .xor .u32 IntKind.u32.max a) (ts.map (Value.int .u32)) := TwAt.start (by simp) (by rw [List.take_of_length_le (by simp)])
    have hn0 : Nw w w1 := nw1.trans hb1
    clear o1 hcell
    have SG1 := Lib.hid (SG.out.nw hb1)
    go_loopw [24] (fun ci wr => ∃ (i : Nat) (us : List Value), ci = .int .i64 i ∧ wr.ownsRow (w.heap.size + 1) 92 1 (.slice (some ⟨g, 0, none⟩) ts.length cap) ts.length us ∧ TwAt ts ts.length i (fun a => bits .xor .u32 IntKind.u32.max a) us ∧ Nw w wr ∧ Sg [] w.heap.size 2 wr)
      (fun ci _ => ts.length - (intOf ci).toNat)
    case atStart => exact ⟨0, _, rfl, ho', hts, hn0, SG1.out⟩
    case round =>
      obtain ⟨i, us, rfl, hu, ht, hn, hsg⟩ := hrel
      have hi := ht.le
      have hul := ht.len
      clear ho' hts hn0
      by_cases him : i < ts.length
      · have fz := World.ownsRow.frozenAt hu i
        have ce := World.ownsRow.cellAt hu i (by omega)
        have HU := Lib.hid hu
        have HST := Lib.hid (ht.step him)
        have HSG := Lib.hid hsg
        have hrest := ht.rest i (Nat.le_refl _) him
        rw [hrest] at ce
        clear hrest ht hu hsg
        go_wp2
        exact ⟨⟨i + 1, _, by go_num, (World.ownsRow.stored HU.out i _).1, HST.out, hn.set (by simp; omega) _, ⟨trivial, HSG.out.2.1.cellset (by omega) _, by have := HSG.out.2.2; simp; omega⟩⟩, by simp [intOf]; omega⟩
      · have hie : i = ts.length := by omega
        have hall := (hie ▸ ht : TwAt ts ts.length ts.length _ us).all
        have hw2 : Own wr (w.heap.size + 1) 92 .u32 (.slice (some ⟨g, 0, none⟩) ts.length cap) ((List.range ts.length).map fun j => bits .xor .u32 IntKind.u32.max (at0 ts j)) := by rw [hall] at hu; simpa [Own] using hu
        obtain ⟨hlen2, hc2, rd2⟩ := hw2.rdg
        obtain ⟨d2, l2', lv2⟩ := flip_all ts.length d rfl
        obtain ⟨Z, hZ⟩ : ∃ Z, Z = (List.range ts.length).map fun j => bits .xor .u32 IntKind.u32.max (at0 ts j) := ⟨_, rfl⟩
        rw [← hZ] at rd2 d2 lv2 hlen2
        have LV2 := Lib.hid lv2
        have HL2 := Lib.hid hlen2
        have HSG := Lib.hid hsg
        have hln := lv_nonneg (show (0 : Int) < b32 by decide) d2
        have hlt := lv_lt (show (0 : Int) < b32 by decide) d2
        have HLN := Lib.hid hln
        have HLT := Lib.hid hlt
        clear hall ht hu hie hsg hw2 hlen2 lv2 l2' hZ hln hlt
        go_wp2_with (first
          | (go_at_call 81; refine (made_l HL2.out false rd2 (by rw [← HL2.out]; exact hc2) d2).mono ?_; rintro e w5 ⟨_, rfl, ⟨m5, D5, l5, c5, rfl, hi5⟩, hb5⟩)
          | (go_at_call 110; refine (complement_c hi5 (Nat.le_trans (hi5.len_le ts.length (by have := HLN.out; have := pos_pow (show (0 : Int) < b32 by decide) ts.length; simp [sg]; omega) (by have := HLT.out; rw [← HL2.out] at this; simpa [sg] using this)) hl)).mono ?_; rintro e w6 ⟨_, rfl, ⟨m6, D6, l6, c6, rfl, hi6⟩, hb6⟩; have b2 := ((HSG.out.nw hb5).nw hb6).2.1; obtain ⟨⟨v0, hv0, hn0⟩, hf0⟩ := b2 0 (by omega); obtain ⟨⟨v1, hv1, hn1⟩, hf1⟩ := b2 1 (by omega)))
        have hi' := hi6.eq (z' := sx ts.length (lv b32 ts)) (by rw [HV.out, LV2.out]; simp [sg]; omega)
        exact bodyPost_ret (v := .agg #[.bool m6, .slice D6 l6 c6]) (by simp [results, Try.results72, go_sem, hv0, hv1]) rfl (Ret.I (hi'.kept (store_I b2 hi').1.2.1) (((hn.trans hb5).trans hb6).rr (store_I b2 hi').1 (by omega)))
end Go.Proofs.Ytcgkgcciogibkaa
