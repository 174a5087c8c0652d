/- Parts Ma, Wd, Rg, W2, A1, Mc, A2, A3, A4, A5, in one file. -/
import Derived.WalkKit
import Derived.WalkSpells
import Derived.WalkLawsBesides
import Derived.Still
import Derived.Deep.Draws
import Derived.Deep.Quiet
import Derived.Test.YthpjmhhfcechmaaGreatRows
import Derived.Deep.QuietTactic
import Derived.BigQuiet
import Derived.Deep.LoopGhost
import Derived.Deep.RegionHeld3
import Derived.Lib.Hide
import Derived.Laws.BitsAllLaws
/- The plain arithmetic of lists of digits: no program in sight. -/
set_option linter.unusedVariables false
set_option linter.unusedSimpArgs false
namespace Go.Proofs.YthpjmhhfcechmaaGreat.Ma

def lv (b : Int) : List Int → Int
 | [] => 0
 | x :: xs => x + b * lv b xs
def dg (b : Int) (xs : List Int) : Prop := ∀ x ∈ xs, 0 ≤ x ∧ x < b
def top (xs : List Int) : Prop := xs.getLast? ≠ some 0
def at0 (xs : List Int) (i : Nat) : Int := xs.getD i 0
theorem dg_nil (b : Int) : dg b [] := by intro x h; simp at h
theorem dg_cons {b x : Int} {xs : List Int} : dg b (x :: xs) ↔ (0 ≤ x ∧ x < b) ∧ dg b xs := by
 unfold dg; simp
theorem dg_append {b : Int} {xs ys : List Int} : dg b (xs ++ ys) ↔ dg b xs ∧ dg b ys := by
 unfold dg
 constructor
 ·intro h
  exact ⟨fun x hx => h x (by simp [hx]), fun x hx => h x (by simp [hx])⟩
 ·rintro ⟨h1, h2⟩ x hx
  rcases List.mem_append.1 hx with h | h
  ·exact h1 x h
  ·exact h2 x h
theorem dg_take {b : Int} {xs : List Int} (h : dg b xs) (n : Nat) : dg b (xs.take n) := fun x hx => h x (List.mem_of_mem_take hx)
theorem dg_drop {b : Int} {xs : List Int} (h : dg b xs) (n : Nat) : dg b (xs.drop n) := fun x hx => h x (List.mem_of_mem_drop hx)
theorem dg_set {b x : Int} {xs : List Int} (h : dg b xs) (n : Nat) (h0 : 0 ≤ x) (h1 : x < b) : dg b (xs.set n x) := fun y hy => by
 rcases List.mem_or_eq_of_mem_set hy with h' | h'
 ·exact h y h'
 ·subst h'; exact ⟨h0, h1⟩
theorem dg_replicate {b x : Int} (n : Nat) (h0 : 0 ≤ x) (h1 : x < b) : dg b (List.replicate n x) := fun y hy => by
 rw [(List.mem_replicate.1 hy).2]; exact ⟨h0, h1⟩
theorem dg_at {b : Int} {xs : List Int} (h : dg b xs) (hb : 0 < b) (i : Nat) : 0 ≤ at0 xs i ∧ at0 xs i < b := by
 unfold at0
 by_cases hi : i < xs.length
 ·rw [List.getD_eq_getElem?_getD, List.getElem?_eq_getElem hi]; exact h _ (List.getElem_mem hi)
 ·rw [List.getD_eq_getElem?_getD, List.getElem?_eq_none (by omega)]; simp; exact hb
theorem pos_pow {b : Int} (hb : 0 < b) (n : Nat) : 0 < b ^ n := Int.pow_pos hb
theorem lv_nonneg {b : Int} (hb : 0 < b) : ∀ {xs : List Int}, dg b xs → 0 ≤ lv b xs
 | [], _ => by simp [lv]
 | x :: xs, h => by
  have h' := dg_cons.1 h
  have := lv_nonneg hb h'.2
  have := Int.mul_nonneg (Int.le_of_lt hb) this
  simp only [lv]; omega
theorem lv_lt {b : Int} (hb : 0 < b) : ∀ {xs : List Int}, dg b xs → lv b xs < b ^ xs.length
 | [], _ => by simp [lv]
 | x :: xs, h => by
  have h' := dg_cons.1 h
  have h1 := lv_lt hb h'.2
  have h2 : b * (lv b xs + 1) ≤ b * b ^ xs.length := Int.mul_le_mul_of_nonneg_left (by omega) (Int.le_of_lt hb)
  simp only [lv, List.length_cons, Int.pow_succ]
  grind
theorem lv_append (b : Int) : ∀ xs ys : List Int, lv b (xs ++ ys) = lv b xs + b ^ xs.length * lv b ys
 | [], ys => by simp [lv]
 | x :: xs, ys => by
  simp only [List.cons_append, lv, List.length_cons, Int.pow_succ, lv_append b xs ys]
  grind
theorem lv_snoc (b : Int) (xs : List Int) (x : Int) : lv b (xs ++ [x]) = lv b xs + b ^ xs.length * x := by
 rw [lv_append]; simp [lv]
theorem lv_zeros (b : Int) (n : Nat) : lv b (List.replicate n 0) = 0 := by
 induction n with
 | zero => simp [lv]
 | succ n ih => simp [List.replicate_succ, lv, ih]
theorem lv_set (b : Int) : ∀ (xs : List Int) (i : Nat) (x : Int), i < xs.length → lv b (xs.set i x) = lv b xs + (x - at0 xs i) * b ^ i
 | [], i, x, h => by simp at h
 | y :: ys, 0, x, h => by simp [lv, at0]; omega
 | y :: ys, i + 1, x, h => by
  have := lv_set b ys i x (by simpa using h)
  simp only [List.set_cons_succ, lv, this, at0, List.getD_cons_succ, Int.pow_succ]
  grind
theorem lv_take_succ (b : Int) (xs : List Int) (j : Nat) (h : j < xs.length) : lv b (xs.take (j + 1)) = lv b (xs.take j) + b ^ j * at0 xs j := by
 rw [List.take_succ_eq_append_getElem h, lv_snoc, List.length_take, Nat.min_eq_left (Nat.le_of_lt h)]
 simp [at0, h]
theorem lv_split (b : Int) (xs : List Int) (j : Nat) (h : j ≤ xs.length) : lv b xs = lv b (xs.take j) + b ^ j * lv b (xs.drop j) := by
 have h0 := lv_append b (xs.take j) (xs.drop j)
 rw [List.take_append_drop, List.length_take, Nat.min_eq_left h] at h0
 exact h0
theorem lv_drop (b : Int) (xs : List Int) (j : Nat) (h : j < xs.length) : lv b (xs.drop j) = at0 xs j + b * lv b (xs.drop (j + 1)) := by
 rw [List.drop_eq_getElem_cons h]
 simp [lv, at0, h]
theorem at0_of_lt {xs : List Int} {i : Nat} (h : i < xs.length) : at0 xs i = xs[i] := by simp [at0, h]
theorem at0_ge {xs : List Int} {i : Nat} (h : xs.length ≤ i) : at0 xs i = 0 := by simp [at0, h]
theorem top_nil : top [] := by simp [top]
theorem top_at {xs : List Int} (h : xs ≠ []) : top xs ↔ at0 xs (xs.length - 1) ≠ 0 := by
 have hl : 0 < xs.length := List.length_pos_iff.2 h
 unfold top
 rw [List.getLast?_eq_getElem?, List.getElem?_eq_getElem (by omega), at0_of_lt (by omega)]
 simp
theorem top_le {b : Int} (hb : 0 < b) {xs : List Int} (hd : dg b xs) (ht : top xs) (hne : xs ≠ []) : b ^ (xs.length - 1) ≤ lv b xs := by
 have hl : 0 < xs.length := List.length_pos_iff.2 hne
 have h1 := (top_at hne).1 ht
 have h2 := (dg_at hd hb (xs.length - 1)).1
 have h3 := lv_split b xs (xs.length - 1) (by omega)
 rw [lv_drop b xs _ (by omega), show xs.length - 1 + 1 = xs.length by omega, List.drop_length] at h3
 have h4 := lv_nonneg hb (dg_take hd (xs.length - 1))
 have h5 : b ^ (xs.length - 1) * 1 ≤ b ^ (xs.length - 1) * at0 xs (xs.length - 1) := Int.mul_le_mul_of_nonneg_left (by omega) (Int.le_of_lt (pos_pow hb _))
 simp only [lv, Int.mul_zero, Int.add_zero] at h3
 omega
theorem pow_le {b : Int} (hb : 1 ≤ b) {m n : Nat} (h : m ≤ n) : b ^ m ≤ b ^ n := by
 induction h with
 | refl => exact Int.le_refl _
 | @step n h ih =>
  rw [Int.pow_succ]
  have : b ^ n * 1 ≤ b ^ n * b := Int.mul_le_mul_of_nonneg_left hb (Int.le_of_lt (pos_pow (by omega) n))
  omega
theorem length_le {b : Int} (hb : 1 < b) {xs ys : List Int} (hx : dg b xs) (hy : dg b ys) (tx : top xs) (h : lv b xs ≤ lv b ys) : xs.length ≤ ys.length := by
 by_cases hne : xs = []
 ·subst hne; simp
 ·have h1 := top_le (by omega) hx tx hne
  have h2 := lv_lt (by omega) hy
  by_cases hle : xs.length ≤ ys.length
  ·exact hle
  ·have := pow_le (b := b) (by omega) (show ys.length ≤ xs.length - 1 by omega)
   omega
theorem top_tail {x : Int} {xs : List Int} (h : top (x :: xs)) : top xs := by
 cases xs with
 | nil => exact top_nil
 | cons y ys => unfold top at *; simpa using h
theorem lv_inj {b : Int} (hb : 1 < b) : ∀ {xs ys : List Int}, dg b xs → dg b ys → top xs → top ys → lv b xs = lv b ys → xs = ys := by
 intro xs
 induction xs with
 | nil =>
  intro ys _ hy _ ty h
  cases ys with
  | nil => rfl
  | cons y ys =>
   have := length_le hb hy (dg_nil b) ty (by omega)
   simp at this
 | cons x xs ih =>
  intro ys hx hy tx ty h
  cases ys with
  | nil =>
   have := length_le hb hx (dg_nil b) tx (by omega)
   simp at this
  | cons y ys =>
   have h1 := dg_cons.1 hx
   have h2 := dg_cons.1 hy
   simp only [lv] at h
   have e : x = y := by
    have e1 : (x + b * lv b xs) % b = x := by rw [Int.add_mul_emod_self_left]; exact Int.emod_eq_of_lt h1.1.1 h1.1.2
    have e2 : (y + b * lv b ys) % b = y := by rw [Int.add_mul_emod_self_left]; exact Int.emod_eq_of_lt h2.1.1 h2.1.2
    rw [← e1, h, e2]
   subst e
   have e3 : lv b xs = lv b ys := Int.eq_of_mul_eq_mul_left (a := b) (by omega) (by omega)
   rw [ih h1.2 h2.2 (top_tail tx) (top_tail ty) e3]
def trim : List Int → List Int
 | [] => []
 | x :: xs => match trim xs with
  | [] => if x = 0 then [] else [x]
  | y :: ys => x :: y :: ys
theorem trim_lv (b : Int) : ∀ xs : List Int, lv b (trim xs) = lv b xs
 | [] => rfl
 | x :: xs => by
  have ih := trim_lv b xs
  unfold trim
  split
  ·rename_i h
   rw [h] at ih
   split
   ·rename_i h0; subst h0; simp [lv, ← ih]
   ·simp [lv, ← ih]
  ·rename_i y ys h
   rw [h] at ih
   simp only [lv] at ih ⊢
   rw [ih]
theorem trim_top : ∀ xs : List Int, top (trim xs)
 | [] => top_nil
 | x :: xs => by
  have ih := trim_top xs
  unfold trim
  split
  ·split
   ·exact top_nil
   ·rename_i h0; unfold top; simpa using h0
  ·rename_i y ys h
   rw [h] at ih
   unfold top at *
   simpa using ih
theorem trim_mem {x : Int} : ∀ {xs : List Int}, x ∈ trim xs → x ∈ xs
 | [], h => by simp [trim] at h
 | y :: ys, h => by
  unfold trim at h
  split at h
  ·split at h
   ·simp at h
   ·simp at h; simp [h]
  ·rename_i z zs e
   rcases List.mem_cons.1 h with h | h
   ·simp [h]
   ·exact List.mem_cons_of_mem _ (trim_mem (by rw [e]; exact h))
theorem trim_dg {b : Int} {xs : List Int} (h : dg b xs) : dg b (trim xs) := fun x hx => h x (trim_mem hx)
theorem trim_of_top : ∀ {xs : List Int}, top xs → trim xs = xs
 | [], _ => rfl
 | x :: xs, h => by
  have ih := trim_of_top (top_tail h)
  unfold trim
  rw [ih]
  cases xs with
  | nil => simp [top] at h; simp [h]
  | cons y ys => rfl
theorem trim_snoc0 : ∀ xs : List Int, trim (xs ++ [0]) = trim xs
 | [] => by simp [trim]
 | x :: xs => by
  simp only [List.cons_append, trim, trim_snoc0 xs]
theorem trim_take : ∀ xs : List Int, trim xs = xs.take (trim xs).length
 | [] => rfl
 | x :: xs => by
  have ih := trim_take xs
  unfold trim
  split
  ·split
   ·rfl
   ·simp
  ·rename_i y ys h
   rw [h] at ih
   simp only [List.length_cons, List.take_succ_cons]
   rw [List.length_cons] at ih
   rw [← ih]
theorem trim_len (xs : List Int) : (trim xs).length ≤ xs.length := by
 induction xs with
 | nil => simp [trim]
 | cons x xs ih =>
  unfold trim
  split
  ·split <;> simp
  ·rename_i y ys h; rw [h] at ih; simpa using ih
end Go.Proofs.YthpjmhhfcechmaaGreat.Ma
/- Words for what a call leaves in memory: slices of whole numbers that are read, integers of the program and of the reference. -/
namespace Go.Proofs.YthpjmhhfcechmaaGreat
open Go.RowKit Ma

theorem ret_val {a b : Value} (h : a = b) : Ending.returned a = .returned b := by rw [h]
def IntK (w w' : World) : Prop := ∀ a k x, w.cell? a = some (.int k x) → w'.cell? a = some (.int k x)
theorem IntK.refl (w : World) : IntK w w := fun _ _ _ h => h
theorem IntK.trans {a b c : World} (h : IntK a b) (k : IntK b c) : IntK a c := fun p _ _ hp => k p _ _ (h p _ _ hp)
theorem IntK.of_below {w w' : World} (h : Below w.heap.size w w') : IntK w w' := fun a k x hc => (h.cell (World.block_lt_of_cell? w a hc)).trans hc
def Rd (w : World) (k : IntKind) (A : Option Addr) (xs : List Int) : Prop :=
 xs.length ≤ 9223372036854775807 ∧ ∀ i, i < xs.length → ∃ ad, A = some ad ∧ w.cell? (ad.add i) = some (.int k (at0 xs i))
theorem Rd.kept {w w' : World} {k : IntKind} {A : Option Addr} {xs : List Int} (h : Rd w k A xs) (hk : IntK w w') : Rd w' k A xs :=
 ⟨h.1, fun i hi => let ⟨ad, e, hc⟩ := h.2 i hi; ⟨ad, e, hk _ _ _ hc⟩⟩
theorem Rd.below {w w' : World} {k : IntKind} {A : Option Addr} {xs : List Int} (h : Rd w k A xs) (hk : Below w.heap.size w w') : Rd w' k A xs := h.kept (IntK.of_below hk)
theorem Rd.nil (w : World) (k : IntKind) (A : Option Addr) : Rd w k A [] := ⟨by simp, fun i hi => by simp at hi⟩
theorem Rd.take {w : World} {k : IntKind} {A : Option Addr} {xs : List Int} (h : Rd w k A xs) (n : Nat) : Rd w k A (xs.take n) := by
 refine ⟨by have := h.1; simp only [List.length_take]; omega, fun i hi => ?_⟩
 simp only [List.length_take] at hi
 obtain ⟨ad, e, hc⟩ := h.2 i (by omega)
 refine ⟨ad, e, ?_⟩
 rw [hc]
 simp only [at0, List.getD_eq_getElem?_getD, List.getElem?_take, show i < n by omega, if_true]
theorem Rd.trim {w : World} {k : IntKind} {A : Option Addr} {xs : List Int} (h : Rd w k A xs) : Rd w k A (trim xs) := by
 rw [trim_take]; exact h.take _
theorem IntK.alloc (w : World) (o : Obj) : IntK w (w.alloc o) := IntK.of_below ((Below.refl _ _).alloc (Nat.le_refl _) _)
theorem IntK.set {w0 w : World} (h : IntK w0 w) {a : Addr} {u v : Value} (hc : w.cell? a = some u) (hu : ∀ k x, u ≠ .int k x) : IntK w0 (w.setCell a v) := by
 intro p k x hp
 have h1 := h p k x hp
 by_cases e : p = a
 ·subst e; rw [hc] at h1; injection h1 with h1; exact absurd h1 (hu k x)
 ·rw [World.cell?_setCell_other (h := fun h => e h.symm)]; exact h1
def b32 : Int := 4294967296
def b16 : Int := 65536
theorem b32_eq : b32 = 4294967296 := rfl
theorem b16_eq : b16 = 65536 := rfl
def sg (n : Bool) (z : Int) : Int := if n then -z else z
def Num (b : Int) (n : Bool) (xs : List Int) (z : Int) : Prop := dg b xs ∧ top xs ∧ (n = true → xs ≠ []) ∧ z = sg n (lv b xs)
def RI (w : World) (n : Bool) (A : Option Addr) (l c : Nat) (z : Int) : Prop := ∃ xs, l = xs.length ∧ l ≤ c ∧ Rd w .u32 A xs ∧ Num b32 n xs z
def RJ (w : World) (n : Bool) (A : Option Addr) (l c : Nat) (z : Int) : Prop := ∃ xs, l = xs.length ∧ l ≤ c ∧ Rd w .i64 A xs ∧ Num b16 n xs z
theorem RI.kept {w w' : World} {n : Bool} {A : Option Addr} {l c : Nat} {z : Int} (h : RI w n A l c z) (hk : IntK w w') : RI w' n A l c z :=
 let ⟨xs, h1, h2, h3, h4⟩ := h; ⟨xs, h1, h2, h3.kept hk, h4⟩
theorem RJ.kept {w w' : World} {n : Bool} {A : Option Addr} {l c : Nat} {z : Int} (h : RJ w n A l c z) (hk : IntK w w') : RJ w' n A l c z :=
 let ⟨xs, h1, h2, h3, h4⟩ := h; ⟨xs, h1, h2, h3.kept hk, h4⟩
def Box (r n : Nat) (w : World) : Prop := ∀ o, o < n → (∃ v, w.cell? ⟨r, o, none⟩ = some v ∧ ∀ k x, v ≠ .int k x) ∧ w.frozen? ⟨r, o, none⟩ = false
def Rr (r n : Nat) (W W' : World) : Prop := Below r W W' ∧ IntK W W' ∧ W.heap.size ≤ W'.heap.size ∧ (Box r n W → Box r n W')
theorem Rr.refl (r n : Nat) (W : World) : Rr r n W W := ⟨Below.refl _ _, IntK.refl _, Nat.le_refl _, id⟩
theorem Rr.trans {r n : Nat} {a b c : World} (h : Rr r n a b) (k : Rr r n b c) : Rr r n a c := ⟨h.1.trans k.1, h.2.1.trans k.2.1, Nat.le_trans h.2.2.1 k.2.2.1, fun x => k.2.2.2 (h.2.2.2 x)⟩
theorem Box.below {r n : Nat} {W W' : World} (h : Box r n W) (hb : Below W.heap.size W W') : Box r n W' := by
 intro o ho
 obtain ⟨⟨v, hv, hi⟩, hf⟩ := h o ho
 have hlt := World.block_lt_of_cell? W ⟨r, o, none⟩ hv
 exact ⟨⟨v, by rw [hb.cell (p := ⟨r, o, none⟩) hlt]; exact hv, hi⟩, by rw [hb.frozen (p := ⟨r, o, none⟩) hlt]; exact hf⟩
theorem Rr.call {r n : Nat} {W W' : World} (hr : r ≤ W.heap.size) (hb : Below W.heap.size W W') : Rr r n W W' := ⟨hb.mono hr, IntK.of_below hb, hb.size, fun h => h.below hb⟩
end Go.Proofs.YthpjmhhfcechmaaGreat
/- A region that draws its order, walked once in the order of the text: what is known of an operation's value is said by a predicate, not by the value itself, so that calls that make memory are let in. -/
namespace Go.Proofs.YthpjmhhfcechmaaGreat.Rg
open Go

abbrev Know := Value → World → Prop
abbrev Facts := Nat → World → Prop
def noFacts : Facts := fun _ _ => True
def upd (F : Facts) (i : Nat) (p : World → Prop) : Facts := fun k w => if k = i then p w else F k w
theorem upd_self (F : Facts) (i : Nat) (p : World → Prop) (w : World) : upd F i p i w = p w := by simp [upd]
theorem upd_at {F : Facts} {i k : Nat} {p : World → Prop} {w : World} (h : k = i) (hf : upd F i p k w) : p w := by subst h; rwa [upd_self] at hf
theorem upd_off {F : Facts} {i k : Nat} {p : World → Prop} {w : World} (h : (k == i) = false) (hf : upd F i p k w) : F k w := by unfold upd at hf; rwa [if_neg (by simpa using h)] at hf
theorem upd_ne (F : Facts) {i k : Nat} (p : World → Prop) (w : World) (h : k ≠ i) : upd F i p k w = F k w := by simp [upd, h]
theorem upd_comm (F : Facts) {i j : Nat} (p q : World → Prop) (h : i ≠ j) : upd (upd F i p) j q = upd (upd F j q) i p := by
 funext k w
 unfold upd
 by_cases h1 : k = j
 ·have h2 : k ≠ i := fun e => h (e.symm.trans h1)
  simp [h1, h, Ne.symm h]
 ·simp [h1]
section
variable (P : Program)

def givesUpon (K : Value → World → Prop) : Result Next → Prop
 | .ok (.value v) w' => K v w'
 | .ok .skip w' => K undef w'
 | .ok (.enter f args) w' => Calls P f args w' (fun e w'' => ∃ v, e = .returned v ∧ K v w'')
 | _ => False
def gives (o : Oper) (a : Act) (w : World) (K : Value → World → Prop) : Prop := givesUpon P K ((execOp a.eval o).run P w)
variable {P}
theorem gives_value {K : Value → World → Prop} {v : Value} {w : World} (h : K v w) : givesUpon P K (.ok (.value v) w) := h
theorem gives_skip {K : Value → World → Prop} {w : World} (h : K undef w) : givesUpon P K (.ok .skip w) := h
theorem gives_enter {K : Value → World → Prop} {f : FuncId} {args : Array Value} {w : World} (h : Calls P f args w (fun e w'' => ∃ v, e = .returned v ∧ K v w'')) : givesUpon P K (.ok (.enter f args) w) := h
theorem gives_wp {o : Oper} {a : Act} {w : World} {K : Value → World → Prop} {K' : Act → World → Prop} {Q : Exit → Act → World → Prop}
  (h : ∀ v w', K v w' → K' (a.put o.dst v) w') (hh : gives P o a w K) : o.wp P a w K' Q := by
 unfold gives at hh
 unfold Oper.wp
 generalize (execOp a.eval o).run P w = r at *
 cases r with
 | ok n w' =>
  cases n <;> simp only [givesUpon] at hh <;> simp only [Oper.upon]
  case value u => exact h _ _ hh
  case skip => exact h _ _ hh
  case enter f args => exact hh.mono fun e w'' ⟨v, he, hk⟩ => by subst he; exact h _ _ hk
 | halt x w' => simp only [givesUpon] at hh
theorem gives_some {o : Oper} {a : Act} {w : World} {K : Value → World → Prop} (hh : gives P o a w K) : ∃ v w', K v w' := by
 unfold gives at hh
 generalize (execOp a.eval o).run P w = r at *
 cases r with
 | ok n w' =>
  cases n <;> simp only [givesUpon] at hh
  case value u => exact ⟨_, _, hh⟩
  case skip => exact ⟨_, _, hh⟩
  case enter f args =>
   obtain ⟨e, w'', fr, ⟨v, he, hk⟩, _⟩ := hh []
   exact ⟨v, w'', hk⟩
 | halt x w' => simp only [givesUpon] at hh
end

section
variable {P : Program} {ops : Array Oper} {md : Region.Mode} {R : World → World → Prop} {S : World → Prop} {w0 : World} {J : Nat → Nat → Bool} {Ks : Nat → Option Know} {tl : Nat}

def Wit (R : World → World → Prop) (S : World → Prop) (w0 : World) (F : Facts) : Prop := ∃ w, R w0 w ∧ S w ∧ ∀ k, F k w
def Quietly (P : Program) (S : World → Prop) (o : Oper) (a : Act) (v : Value) : Prop := ∀ w, S w → (execOp a.eval o).run P w = .ok (.value v) w
def Actively (P : Program) (R : World → World → Prop) (S : World → Prop) (w0 : World) (J : Nat → Nat → Bool) (i : Nat) (o : Oper) (a : Act) (F : Facts) (K : Know) : Prop :=
 ∀ w, R w0 w → S w → (∀ k, J i k = true → F k w) → gives P o a w (fun v w' => R w w' ∧ K v w')
def kOp (P : Program) (ops : Array Oper) (R : World → World → Prop) (S : World → Prop) (w0 : World) (J : Nat → Nat → Bool) (Ks : Nat → Option Know) (i : Nat) (K : Act → Facts → Prop) (a : Act) (F : Facts) : Prop :=
 match ops[i]? with
 | none => K a F
 | some o => if Region.wanted o (yielded ops a.tmps) = true then
   match Ks i with
   | none => ∃ v, Quietly P S o a v ∧ K (a.put o.dst v) F
   | some k => Actively P R S w0 J i o a F k ∧ ∀ u, Wit R S w0 (upd F i (k u)) → K (a.put o.dst u) (upd F i (k u))
  else K (a.put o.dst undef) F
theorem kOp_mono {i : Nat} {K K' : Act → Facts → Prop} {a : Act} {F : Facts} (h : ∀ a F, K a F → K' a F) (hh : kOp P ops R S w0 J Ks i K a F) : kOp P ops R S w0 J Ks i K' a F := by
 unfold kOp at *
 split
 ·rename_i ho; simp only [ho] at hh; exact h _ _ hh
 ·rename_i o ho
  simp only [ho] at hh
  split
  ·rename_i hw
   simp only [hw, if_true] at hh
   split
   ·rename_i hk; simp only [hk] at hh; obtain ⟨v, h1, h2⟩ := hh; exact ⟨v, h1, h _ _ h2⟩
   ·rename_i k hk; simp only [hk] at hh; exact ⟨hh.1, fun u hu => h _ _ (hh.2 u hu)⟩
  ·rename_i hw; simp only [hw] at hh; exact h _ _ hh
def wpAnyK (P : Program) (md : Region.Mode) (ops : Array Oper) (R : World → World → Prop) (S : World → Prop) (w0 : World) (J : Nat → Nat → Bool) (Ks : Nat → Option Know) (Q : Act → Facts → Prop) : Nat → Array Bool → Act → Facts → Prop
 | 0, listed, a, F => Region.ready md ops listed = [] ∧ Q a F
 | fuel + 1, listed, a, F =>
  (Region.ready md ops listed = [] → Q a F) ∧
  ∀ i ∈ Region.ready md ops listed, kOp P ops R S w0 J Ks i (wpAnyK P md ops R S w0 J Ks Q fuel (listed.setIfInBounds i true)) a F
structure Fits (R : World → World → Prop) (S : World → Prop) (Ks : Nat → Option Know) (tl : Nat) : Prop where
 refl : ∀ w, R w w
 trans : ∀ x y z, R x y → R y z → R x z
 kept : ∀ w w', R w w' → S w → S w'
 know : ∀ i k, Ks i = some k → i ≠ tl → ∀ v w w', R w w' → k v w → k v w'
def FKept (R : World → World → Prop) (F : Facts) : Prop := ∀ k w w', R w w' → F k w → F k w'
theorem FKept.upd {F : Facts} (hF : FKept R F) {i : Nat} {k : Know} (hk : ∀ v w w', R w w' → k v w → k v w') (u : Value) : FKept R (upd F i (k u)) := by
 intro j w w' hr hf
 unfold Rg.upd at *
 split
 ·rename_i e; simp only [e, if_true] at hf; exact hk _ _ _ hr hf
 ·rename_i e; simp only [e, if_false] at hf; exact hF _ _ _ hr hf
def Direct (md : Region.Mode) (ops : Array Oper) (j k : Nat) : Prop := ∃ oj, ops[j]? = some oj ∧ ∃ e ∈ oj.after, Region.binds md e = true ∧ e.on = k
theorem listed_not {listed : Array Bool} {i : Nat} (h : listed.getD i true = false) : listed.getD i false = false := by
 rcases Nat.lt_or_ge i listed.size with h' | h'
 ·simp [h'] at h ⊢; exact h
 ·simp [Array.getElem?_eq_none h']
def TlOk (md : Region.Mode) (ops : Array Oper) (tl : Nat) : Prop := ∀ j oj ot, ops[j]? = some oj → ops[tl]? = some ot → j ≠ tl → Direct md ops tl j
theorem tl_alone (ht : TlOk md ops tl) {listed : Array Bool} (h : tl ∈ Region.ready md ops listed) {j : Nat} {oj : Oper} (hj : ops[j]? = some oj) (hne : j ≠ tl) : listed.getD j false = true := by
 obtain ⟨hun, o, ho, hall⟩ := mem_ready.1 h
 obtain ⟨o', ho', e, he, hb, rfl⟩ := ht j oj o hj ho hne
 rw [ho] at ho'
 injection ho' with ho'
 subst ho'
 exact hall e he hb
theorem not_both {listed : Array Bool} {j : Nat} (h : listed.getD j true = false) (h' : listed.getD j false = true) : False := by
 rw [listed_not h] at h'; cases h'
theorem tl_done (ht : TlOk md ops tl) {listed : Array Bool} (h : tl ∈ Region.ready md ops listed) : Region.ready md ops (listed.setIfInBounds tl true) = [] := by
 cases hr : Region.ready md ops (listed.setIfInBounds tl true) with
 | nil => rfl
 | cons j l =>
  exfalso
  have hj : j ∈ Region.ready md ops (listed.setIfInBounds tl true) := by rw [hr]; exact List.mem_cons_self
  obtain ⟨hun, o, ho, _⟩ := mem_ready.1 hj
  by_cases hjt : j = tl
  ·subst hjt
   have h0 := (mem_ready.1 h).1
   rcases Nat.lt_or_ge j listed.size with h' | h'
   ·simp [h'] at hun
   ·simp [Array.getElem?_eq_none, h'] at h0
  ·exact not_both hun (getD_set_true (tl_alone ht h ho hjt))
theorem two_ne (ht : TlOk md ops tl) {listed : Array Bool} {i j : Nat} (hi : i ∈ Region.ready md ops listed) (hj : j ∈ Region.ready md ops listed) (hne : i ≠ j) : i ≠ tl := by
 intro e
 subst e
 obtain ⟨hun, o, ho, _⟩ := mem_ready.1 hj
 exact not_both hun (tl_alone ht hi ho (Ne.symm hne))
theorem wpOp_of_kOp (hf : Fits R S Ks tl) {i : Nat} {K : Act → Facts → Prop} {K' : Act → World → Prop} {Q' : Exit → Act → World → Prop} {a : Act} {F : Facts} {w : World}
  (hF : FKept R F) (hr : R w0 w) (hS : S w) (hFw : ∀ k, F k w)
  (h : ∀ a F w, (i ≠ tl → FKept R F) → R w0 w → S w → (∀ k, F k w) → K a F → K' a w) (hh : kOp P ops R S w0 J Ks i K a F) : wpOp P ops Q' i K' a w := by
 unfold kOp at hh
 unfold wpOp
 split
 ·rename_i ho; simp only [ho] at hh; exact h _ _ _ (fun _ => hF) hr hS hFw hh
 ·rename_i o ho
  simp only [ho] at hh
  split
  ·rename_i hw
   simp only [hw, if_true] at hh
   refine .inl ?_
   split at hh
   ·rename_i hk
    obtain ⟨v, h1, h2⟩ := hh
    unfold Oper.wp
    rw [h1 w hS]
    exact h _ _ _ (fun _ => hF) hr hS hFw h2
   ·rename_i k hk
    refine gives_wp (fun v w' hv => ?_) (hh.1 w hr hS (fun k _ => hFw k))
    have hn : ∀ k_1, upd F i (k v) k_1 w' := by
     intro j
     unfold upd
     split
     ·exact hv.2
     ·exact hF _ _ _ hv.1 (hFw j)
    have hS' := hf.kept _ _ hv.1 hS
    have hr' := hf.trans _ _ _ hr hv.1
    exact h _ _ _ (fun hi => hF.upd (hf.know i k hk hi) v) hr' hS' hn (hh.2 v ⟨w', hr', hS', hn⟩)
  ·rename_i hw; simp only [hw] at hh; exact h _ _ _ (fun _ => hF) hr hS hFw hh
theorem wpAny_of_know (hf : Fits R S Ks tl) (ht : TlOk md ops tl) {Q : Act → Facts → Prop} {Q' : Exit → Act → World → Prop} (hQ : ∀ a F w, R w0 w → S w → (∀ k, F k w) → Q a F → Q' .normal a w) :
  ∀ (fuel : Nat) (listed : Array Bool) (a : Act) (F : Facts) (w : World), (Region.ready md ops listed ≠ [] → FKept R F) → R w0 w → S w → (∀ k, F k w) →
   wpAnyK P md ops R S w0 J Ks Q fuel listed a F → wpAny P md ops Q' fuel listed a w
 | 0, _, _, _, _, _, hr, hS, hw, h => ⟨h.1, hQ _ _ _ hr hS hw h.2⟩
 | fuel + 1, _, _, _, _, hF, hr, hS, hw, h => ⟨fun h0 => hQ _ _ _ hr hS hw (h.1 h0), fun i hi => wpOp_of_kOp hf (hF (fun e => by rw [e] at hi; cases hi)) hr hS hw (fun a' F' w' hF' hr' hS' hw' => wpAny_of_know hf ht hQ fuel _ a' F' w' (fun hne => hF' (fun e => hne (by subst e; exact tl_done ht hi))) hr' hS' hw') (h.2 i hi)⟩
def Pre (P : Program) (ops : Array Oper) (R : World → World → Prop) (S : World → Prop) (w0 : World) (J : Nat → Nat → Bool) (Ks : Nat → Option Know) (i : Nat) (o : Oper) (a : Act) (F : Facts) : Prop :=
 Region.wanted o (yielded ops a.tmps) = true → match Ks i with
  | none => ∃ v, Quietly P S o a v
  | some k => Actively P R S w0 J i o a F k
def Out (P : Program) (ops : Array Oper) (R : World → World → Prop) (S : World → Prop) (w0 : World) (Ks : Nat → Option Know) (i : Nat) (o : Oper) (a : Act) (F : Facts) (u : Value) : Prop :=
 if Region.wanted o (yielded ops a.tmps) = true then
  match Ks i with
  | none => Quietly P S o a u
  | some k => Wit R S w0 (upd F i (k u))
 else u = undef
def aft (ops : Array Oper) (Ks : Nat → Option Know) (i : Nat) (o : Oper) (a : Act) (F : Facts) (u : Value) : Facts :=
 if Region.wanted o (yielded ops a.tmps) = true then
  match Ks i with
  | none => F
  | some k => upd F i (k u)
 else F
theorem aft_ne {i m : Nat} {o : Oper} {a : Act} {F : Facts} {u : Value} {w : World} (h : m ≠ i) : aft ops Ks i o a F u m w = F m w := by
 unfold aft
 by_cases hw : Region.wanted o (yielded ops a.tmps) = true
 ·cases hk : Ks i with
  | none => simp only [hw, if_true]
  | some k => simp only [hw, if_true]; exact upd_ne _ _ _ h
 ·simp [hw]
theorem aft_some {i : Nat} {o : Oper} {a : Act} {F : Facts} {u : Value} {k : Know} (hw : Region.wanted o (yielded ops a.tmps) = true) (hk : Ks i = some k) : aft ops Ks i o a F u = upd F i (k u) := by
 unfold aft
 simp only [hw, if_true, hk]
theorem quietly_one {o : Oper} {a : Act} {u v : Value} {w : World} (hw : S w) (hu : Quietly P S o a u) (hv : Quietly P S o a v) : u = v := by
 have h1 := hu w hw
 rw [hv w hw] at h1
 injection h1 with h1
 injection h1 with h1
 exact h1.symm
theorem kOp_iff {i : Nat} {o : Oper} (ho : ops[i]? = some o) {K : Act → Facts → Prop} {a : Act} {F : Facts} (hW : Wit R S w0 F) :
  kOp P ops R S w0 J Ks i K a F ↔ Pre P ops R S w0 J Ks i o a F ∧ ∀ u, Out P ops R S w0 Ks i o a F u → K (a.put o.dst u) (aft ops Ks i o a F u) := by
 obtain ⟨w, hr, hS, hFw⟩ := hW
 unfold kOp Pre Out aft
 simp only [ho]
 by_cases hw : Region.wanted o (yielded ops a.tmps) = true
 ·simp only [hw, if_true, true_implies]
  cases hk : Ks i with
  | none =>
   simp only []
   constructor
   ·rintro ⟨v, h1, h2⟩
    exact ⟨⟨v, h1⟩, fun u hu => by rw [quietly_one hS hu h1]; exact h2⟩
   ·rintro ⟨⟨v, h1⟩, h2⟩
    exact ⟨v, h1, h2 v h1⟩
  | some k => simp only []
 ·simp only [hw, if_false, false_implies, true_and, Bool.false_eq_true]
  exact ⟨fun h u hu => by rw [hu]; exact h, fun h => h undef rfl⟩
theorem out_some (hf : Fits R S Ks tl) {i : Nat} {o : Oper} {a : Act} {F : Facts} (hF : FKept R F) (hW : Wit R S w0 F) (hp : Pre P ops R S w0 J Ks i o a F) : ∃ u, Out P ops R S w0 Ks i o a F u := by
 obtain ⟨w, hr, hS, hFw⟩ := hW
 unfold Out
 unfold Pre at hp
 by_cases hw : Region.wanted o (yielded ops a.tmps) = true
 ·have hp := hp hw
  simp only [hw, if_true]
  cases hk : Ks i with
  | none => rw [hk] at hp; exact hp
  | some k =>
   rw [hk] at hp
   simp only [] at hp ⊢
   obtain ⟨v, w', hrw, hv⟩ := gives_some (hp w hr hS (fun k _ => hFw k))
   refine ⟨v, w', hf.trans _ _ _ hr hrw, hf.kept _ _ hrw hS, fun j => ?_⟩
   unfold upd
   split
   ·exact hv
   ·exact hF _ _ _ hrw (hFw j)
 ·simp only [hw]
  exact ⟨undef, rfl⟩
theorem out_wit (hf : Fits R S Ks tl) {i : Nat} (hit : i ≠ tl) {o : Oper} {a : Act} {F : Facts} {u : Value} (hF : FKept R F) (hW : Wit R S w0 F) (hu : Out P ops R S w0 Ks i o a F u) : FKept R (aft ops Ks i o a F u) ∧ Wit R S w0 (aft ops Ks i o a F u) := by
 unfold Out at hu
 unfold aft
 by_cases hw : Region.wanted o (yielded ops a.tmps) = true
 ·simp only [hw, if_true] at hu ⊢
  cases hk : Ks i with
  | none => exact ⟨hF, hW⟩
  | some k => rw [hk] at hu; exact ⟨hF.upd (hf.know i k hk hit) u, hu⟩
 ·simp only [hw] at hu ⊢
  exact ⟨hF, hW⟩
theorem out_wit' {i : Nat} {o : Oper} {a : Act} {F : Facts} {u : Value} (hW : Wit R S w0 F) (hu : Out P ops R S w0 Ks i o a F u) : Wit R S w0 (aft ops Ks i o a F u) := by
 unfold Out at hu
 unfold aft
 by_cases hw : Region.wanted o (yielded ops a.tmps) = true
 ·simp only [hw, if_true] at hu ⊢
  cases hk : Ks i with
  | none => exact hW
  | some k => rw [hk] at hu; exact hu
 ·simp only [hw] at hu ⊢
  exact hW
theorem kOp_swap (hf : Fits R S Ks tl) {i j : Nat} {oi oj : Oper} (hi : ops[i]? = some oi) (hj : ops[j]? = some oj) (hap : oi.apart ops oj = true) (hne : i ≠ j) (hit : i ≠ tl) (hjt : j ≠ tl)
  (hsi : ∀ cs b, oi.op ≠ .select cs b) (hsj : ∀ cs b, oj.op ≠ .select cs b) (hji : J j i = false) (hij : J i j = false) {K : Act → Facts → Prop} {a : Act} {F : Facts} (hF : FKept R F) (hW : Wit R S w0 F) (hFj : ∀ w, F j w)
  (h : kOp P ops R S w0 J Ks i (fun a F => kOp P ops R S w0 J Ks j K a F) a F) : kOp P ops R S w0 J Ks j (fun a F => kOp P ops R S w0 J Ks i K a F) a F := by
 obtain ⟨h1, h2, h3⟩ := Oper.apart_spec hap
 have h2' : ∀ d, oj.dst = some d → oi.dst ≠ some d := fun d hd hd' => h2 d hd' hd
 have ei : ∀ u, execOp (a.put oj.dst u).eval oi = execOp a.eval oi := fun u => execOp_put oi hsi a oj.dst u h3
 have ej : ∀ u, execOp (a.put oi.dst u).eval oj = execOp a.eval oj := fun u => execOp_put oj hsj a oi.dst u h1
 have wi : ∀ u, Region.wanted oi (yielded ops (a.put oj.dst u).tmps) = Region.wanted oi (yielded ops a.tmps) := fun u => wanted_put oi a oj.dst u h3
 have wj : ∀ u, Region.wanted oj (yielded ops (a.put oi.dst u).tmps) = Region.wanted oj (yielded ops a.tmps) := fun u => wanted_put oj a oi.dst u h1
 rw [kOp_iff hi hW] at h
 obtain ⟨hp, hall⟩ := h
 obtain ⟨u0, hu0⟩ := out_some hf hF hW hp
 have hw0 := out_wit hf hit hF hW hu0
 have h0 := (kOp_iff hj hw0.2).1 (hall u0 hu0)
 rw [kOp_iff hj hW]
 -- what is asked of j now
 have hpj : Pre P ops R S w0 J Ks j oj a F := by
  intro hwj
  have hq := h0.1 (by rw [wj]; exact hwj)
  cases hk : Ks j with
  | none => rw [hk] at hq; simp only [Quietly, ej] at hq ⊢; exact hq
  | some k =>
   rw [hk] at hq
   simp only [Actively, gives, ej] at hq ⊢
   intro w hr hS hJ
   refine hq w hr hS (fun m hm => ?_)
   have hmi : m ≠ i := fun e => by rw [e, hji] at hm; cases hm
   rw [aft_ne hmi]
   exact hJ m hm
 refine ⟨hpj, fun v hv => ?_⟩
 have hwv := out_wit hf hjt hF hW hv
 rw [kOp_iff hi hwv.2]
 refine ⟨fun hwi => ?_, fun u hu => ?_⟩
 ·rw [wi] at hwi
  have hq := hp hwi
  cases hk : Ks i with
  | none => rw [hk] at hq; simp only [Quietly, ei] at hq ⊢; exact hq
  | some k =>
   rw [hk] at hq
   simp only [Actively, gives, ei] at hq ⊢
   intro w hr hS hJ
   refine hq w hr hS (fun m hm => ?_)
   have hmj : m ≠ j := fun e => by rw [e, hij] at hm; cases hm
   have := hJ m hm
   rwa [aft_ne hmj] at this
 ·-- u is an outcome of i at first, v one of j behind it
  have hcomm : aft ops Ks i oi (a.put oj.dst v) (aft ops Ks j oj a F v) u = aft ops Ks j oj (a.put oi.dst u) (aft ops Ks i oi a F u) v := by
   unfold aft
   rw [wi, wj]
   by_cases hwi : Region.wanted oi (yielded ops a.tmps) = true <;> by_cases hwj : Region.wanted oj (yielded ops a.tmps) = true <;> cases Ks i <;> cases Ks j <;> simp only [hwi, hwj, if_true, if_false, Bool.false_eq_true] <;> exact upd_comm _ _ _ (Ne.symm hne)
  have hui : Out P ops R S w0 Ks i oi a F u := by
   unfold Out at hu ⊢
   rw [wi] at hu
   split
   ·rename_i hwi
    simp only [hwi, if_true] at hu
    cases hk : Ks i with
    | none => rw [hk] at hu; simp only [Quietly, ei] at hu ⊢; exact hu
    | some k =>
     rw [hk] at hu
     simp only [] at hu ⊢
     obtain ⟨w, hr, hS, hFw⟩ := hu
     refine ⟨w, hr, hS, fun m => ?_⟩
     have hm := hFw m
     unfold upd at hm ⊢
     split
     ·rename_i e; simp only [e, if_true] at hm; exact hm
     ·rename_i e
      simp only [e, if_false] at hm
      by_cases hmj : m = j
      ·rw [hmj]; exact hFj w
      ·rwa [aft_ne hmj] at hm
   ·rename_i hwi
    simp only [hwi] at hu
    exact hu
  have hwu := out_wit hf hit hF hW hui
  have hvj : Out P ops R S w0 Ks j oj (a.put oi.dst u) (aft ops Ks i oi a F u) v := by
   have hwit := (out_wit hf hit hwv.1 hwv.2 hu).2
   rw [hcomm] at hwit
   unfold Out at hv ⊢
   rw [wj]
   split
   ·rename_i hwj
    simp only [hwj, if_true] at hv
    cases hk : Ks j with
    | none => rw [hk] at hv; simp only [Quietly, ej] at hv ⊢; exact hv
    | some k =>
     simp only []
     have e : aft ops Ks j oj (a.put oi.dst u) (aft ops Ks i oi a F u) v = upd (aft ops Ks i oi a F u) j (k v) := aft_some (by rw [wj]; exact hwj) hk
     rw [← e]; exact hwit
   ·rename_i hwj
    simp only [hwj] at hv
    exact hv
  have hfin := ((kOp_iff hj hwu.2).1 (hall u hui)).2 v hvj
  rw [hcomm, Act.put_comm a v u h2']
  exact hfin
def NoF (listed : Array Bool) (F : Facts) : Prop := ∀ k, listed.getD k true = false → ∀ w, F k w
def DownJ (J : Nat → Nat → Bool) (listed : Array Bool) : Prop := ∀ d k, listed.getD d false = true → J d k = true → listed.getD k false = true
def JOk (md : Region.Mode) (ops : Array Oper) (J : Nat → Nat → Bool) : Prop := ∀ j k, J j k = true → Direct md ops j k ∨ ∃ d, Direct md ops j d ∧ J d k = true
theorem ready_J (hJ : JOk md ops J) {listed : Array Bool} (hd : DownJ J listed) {j k : Nat} (hr : j ∈ Region.ready md ops listed) (hk : J j k = true) : listed.getD k false = true := by
 obtain ⟨hun, o, ho, hall⟩ := mem_ready.1 hr
 have dir : ∀ d, Direct md ops j d → listed.getD d false = true := by
  rintro d ⟨oj, hoj, e, he, hb, rfl⟩
  rw [ho] at hoj
  injection hoj with hoj
  subst hoj
  exact hall e he hb
 rcases hJ j k hk with h | ⟨d, h, h2⟩
 ·exact dir _ h
 ·exact hd _ _ (dir _ h) h2
theorem DownJ.set (hJ : JOk md ops J) {listed : Array Bool} (hd : DownJ J listed) {j : Nat} (hr : j ∈ Region.ready md ops listed) : DownJ J (listed.setIfInBounds j true) := by
 intro d k h1 h2
 by_cases hdj : j = d
 ·subst hdj; exact getD_set_true (ready_J hJ hd hr h2)
 ·rw [getD_set_ne false hdj] at h1
  exact getD_set_true (hd d k h1 h2)
theorem NoF.set {listed : Array Bool} {F : Facts} (h : NoF listed F) {j : Nat} {o : Oper} {a : Act} {u : Value} : NoF (listed.setIfInBounds j true) (aft ops Ks j o a F u) := by
 intro k hk w
 by_cases hkj : j = k
 ·subst hkj
  rcases Nat.lt_or_ge j listed.size with h' | h'
  ·simp [h'] at hk
  ·simp [Array.getElem?_eq_none, h'] at hk
 ·rw [getD_set_ne true hkj] at hk
  rw [aft_ne (Ne.symm hkj)]
  exact h k hk w
theorem wpAnyK_first (hf : Fits R S Ks tl) (ht : TlOk md ops tl) (hJ : JOk md ops J) {Q : Act → Facts → Prop} {i : Nat} {oi : Oper} (hi : ops[i]? = some oi) (hsel : ∀ (j : Nat) (o : Oper) cs b, ops[j]? = some o → o.op ≠ .select cs b) :
  ∀ (fuel : Nat) (listed : Array Bool) (a : Act) (F : Facts), FKept R F → Wit R S w0 F → NoF listed F → DownJ J listed →
   (∀ j oj, ops[j]? = some oj → j ≠ i → listed.getD j true = false → (∀ e ∈ oj.after, Region.binds md e = true → e.on ≠ i) → oi.apart ops oj = true) →
   i ∈ Region.ready md ops listed → kOp P ops R S w0 J Ks i (wpAnyK P md ops R S w0 J Ks Q fuel (listed.setIfInBounds i true)) a F → wpAnyK P md ops R S w0 J Ks Q (fuel + 1) listed a F := by
 intro fuel
 induction fuel with
 | zero =>
  intro listed a F hF hW hN hD _ hr H
  refine ⟨fun h => (by rw [h] at hr; cases hr), fun j hj => ?_⟩
  by_cases hji : j = i
  ·subst hji; exact H
  ·have h0 := (kOp_iff hi hW).1 H
   obtain ⟨u, hu⟩ := out_some hf hF hW h0.1
   have h1 := (h0.2 u hu).1
   have h2 := ready_mono hj hji
   rw [h1] at h2
   cases h2
 | succ fuel ih =>
  intro listed a F hF hW hN hD hfree hr H
  refine ⟨fun h => (by rw [h] at hr; cases hr), fun j hj => ?_⟩
  by_cases hji : j = i
  ·subst hji; exact H
  ·obtain ⟨hjun, oj, hoj, hall⟩ := mem_ready.1 hj
   have hiun := (mem_ready.1 hr).1
   have hnot : ∀ e ∈ oj.after, Region.binds md e = true → e.on ≠ i := fun e he hb heq => by
    have h1 := hall e he hb
    rw [heq, listed_not hiun] at h1
    cases h1
   have hJji : J j i = false := by
    cases hk : J j i with
    | false => rfl
    | true => have := ready_J hJ hD hj hk; rw [listed_not hiun] at this; cases this
   have hJij : J i j = false := by
    cases hk : J i j with
    | false => rfl
    | true => have := ready_J hJ hD hr hk; rw [listed_not hjun] at this; cases this
   have hap := hfree j oj hoj hji hjun hnot
   have h1 : kOp P ops R S w0 J Ks i (fun a F => kOp P ops R S w0 J Ks j (wpAnyK P md ops R S w0 J Ks Q fuel ((listed.setIfInBounds i true).setIfInBounds j true)) a F) a F :=
    kOp_mono (fun a F h => h.2 j (ready_mono hj hji)) H
   have h2 := kOp_swap hf hi hoj hap (Ne.symm hji) (two_ne ht hr hj (Ne.symm hji)) (two_ne ht hj hr hji) (fun cs b => hsel i oi cs b hi) (fun cs b => hsel j oj cs b hoj) hJji hJij hF hW (hN j hjun) h1
   have hfree' : ∀ k ok, ops[k]? = some ok → k ≠ i → (listed.setIfInBounds j true).getD k true = false →
     (∀ e ∈ ok.after, Region.binds md e = true → e.on ≠ i) → oi.apart ops ok = true := fun k ok hk hki hun hno => by
    refine hfree k ok hk hki ?_ hno
    by_cases hjk : j = k
    ·subst hjk; exact hjun
    ·rw [getD_set_ne true hjk] at hun; exact hun
   rw [kOp_iff hoj hW] at h2 ⊢
   refine ⟨h2.1, fun u hu => ?_⟩
   have hw := out_wit hf (two_ne ht hj hr hji) hF hW hu
   refine ih (listed.setIfInBounds j true) _ _ hw.1 hw.2 hN.set (hD.set hJ hj) hfree' (ready_mono hr (Ne.symm hji)) ?_
   rw [Array.setIfInBounds_comm _ _ hji]
   exact h2.2 u hu
def wpK (P : Program) (ops : Array Oper) (R : World → World → Prop) (S : World → Prop) (w0 : World) (J : Nat → Nat → Bool) (Ks : Nat → Option Know) (Q : Act → Facts → Prop) : Nat → List Oper → Act → Facts → Prop
 | _, [], a, F => Q a F
 | i, o :: rest, a, F => if Region.wanted o (yielded ops a.tmps) = true then
   match Ks i with
   | none => ∃ v, Quietly P S o a v ∧ wpK P ops R S w0 J Ks Q (i + 1) rest (a.put o.dst v) F
   | some k => Actively P R S w0 J i o a F k ∧ ∀ u, Wit R S w0 (upd F i (k u)) → wpK P ops R S w0 J Ks Q (i + 1) rest (a.put o.dst u) (upd F i (k u))
  else wpK P ops R S w0 J Ks Q (i + 1) rest (a.put o.dst undef) F
theorem wpAnyK_lex (hf : Fits R S Ks tl) (ht : TlOk md ops tl) (hJ : JOk md ops J) {Q : Act → Facts → Prop} (hs : Region.noSelect ops = true) : ∀ (l : List Oper) (k : Nat) (listed : Array Bool) (a : Act) (F : Facts), (∀ j, l[j]? = ops[k + j]?) →
  Region.lexFrom md ops l.length k listed = true → (l ≠ [] → FKept R F) → Wit R S w0 F → NoF listed F → DownJ J listed → wpK P ops R S w0 J Ks Q k l a F → wpAnyK P md ops R S w0 J Ks Q l.length listed a F
 | [], _, _, _, _, _, hB, _, _, _, _, h => ⟨by simpa [Region.lexFrom] using hB, h⟩
 | o :: l, k, listed, a, F, hl, hB, hF, hW, hN, hD, h => by
  have h0 : ops[k]? = some o := by simpa using (hl 0).symm
  simp only [List.length_cons, Region.lexFrom, Bool.and_eq_true] at hB
  obtain ⟨⟨hr, hfr⟩, hB'⟩ := hB
  have hr' : k ∈ Region.ready md ops listed := by simpa using hr
  have hst : kOp P ops R S w0 J Ks k (wpK P ops R S w0 J Ks Q (k + 1) l) a F := by unfold kOp; simp only [h0]; exact h
  refine wpAnyK_first hf ht hJ h0 (Region.noSelect_spec hs) l.length listed a F (hF (by simp)) hW hN hD (Region.free_spec h0 hfr) hr' ?_
  rw [kOp_iff h0 hW] at hst ⊢
  refine ⟨hst.1, fun u hu => ?_⟩
  have hw := out_wit' hW hu
  refine wpAnyK_lex hf ht hJ hs l (k + 1) _ _ _ (fun j => by have := hl (j + 1); simpa [Nat.add_assoc, Nat.add_comm 1 j] using this) hB' (fun hne => ?_) hw hN.set (hD.set hJ hr') (hst.2 u hu)
  refine (out_wit hf (fun e => ?_) (hF (by simp)) hW hu).1
  subst e
  cases l with
  | nil => exact hne rfl
  | cons o2 l2 =>
   have h1 : ops[k + 1]? = some o2 := by simpa using (hl 1).symm
   simp only [List.length_cons, Region.lexFrom, Bool.and_eq_true] at hB'
   have h2 : k + 1 ∈ Region.ready md ops (listed.setIfInBounds k true) := by simpa using hB'.1.1
   have h3 := (mem_ready.1 h2).1
   rw [tl_done ht hr'] at h2
   cases h2
def jOkB (ops : Array Oper) (jss : List (List Nat)) : Bool :=
 (List.range jss.length).all fun j => ((jss.getD j []).all fun k => match ops[j]? with
  | none => false
  | some o => o.after.any fun e => Region.binds .any e && (e.on == k || (jss.getD e.on []).contains k))
def jOf (jss : List (List Nat)) (j k : Nat) : Bool := (jss.getD j []).contains k
theorem jOkB_spec {jss : List (List Nat)} (h : jOkB ops jss = true) : JOk .any ops (jOf jss) := by
 intro j k hjk
 unfold jOf at hjk
 unfold jOkB at h
 rw [List.all_eq_true] at h
 have hj : j < jss.length := by
  rcases Nat.lt_or_ge j jss.length with h' | h'
  ·exact h'
  ·simp [List.getD_eq_getElem?_getD, List.getElem?_eq_none h'] at hjk
 have h1 := h j (List.mem_range.2 hj)
 rw [List.all_eq_true] at h1
 have h2 := h1 k (by simpa using hjk)
 split at h2
 ·cases h2
 ·rename_i o ho
  rw [Array.any_eq_true'] at h2
  obtain ⟨e, he, hb⟩ := h2
  simp only [Bool.and_eq_true, Bool.or_eq_true, beq_iff_eq] at hb
  rcases hb.2 with hk | hk
  ·exact .inl ⟨o, ho, e, he, hb.1, hk⟩
  ·exact .inr ⟨e.on, ⟨o, ho, e, he, hb.1, rfl⟩, hk⟩
def ancs (ops : Array Oper) : List (List Nat) :=
 ops.toList.foldl (fun acc o => acc ++ [(List.range acc.length).filter fun k => o.after.any fun e => Region.binds .any e && (e.on == k || (acc.getD e.on []).contains k)]) []
def tlB (ops : Array Oper) (tl : Nat) : Bool := match ops[tl]? with
 | none => true
 | some o => (List.range ops.size).all fun j => j == tl || o.after.any fun e => Region.binds .any e && e.on == j
theorem tlB_spec (h : tlB ops tl = true) : TlOk .any ops tl := by
 intro j oj ot hj ho hne
 unfold tlB at h
 rw [ho] at h
 simp only [List.all_eq_true, List.mem_range, Bool.or_eq_true, beq_iff_eq] at h
 rcases h j (Array.getElem?_eq_some_iff.1 hj).1 with h | h
 ·exact absurd h hne
 ·rw [Array.any_eq_true'] at h
  obtain ⟨e, he, hb⟩ := h
  simp only [Bool.and_eq_true, beq_iff_eq] at hb
  exact ⟨ot, ho, e, he, hb.1, hb.2⟩
theorem wp_region_know {id : Nat} {Q : Exit → Act → World → Prop} {a : Act} {w : World} {l : List Oper} (S : World → Prop) (R : World → World → Prop) (jss : List (List Nat)) (tl : Nat) (Ks : Nat → Option Know)
  (hm : P.follows .mixedOrders = true) (hB : Region.lexB .any l.toArray = true) (hJ : jOkB l.toArray jss = true) (ht : tlB l.toArray tl = true) (hf : Fits R S Ks tl) (hS : S w.drew)
  (h : wpK P l.toArray R S w.drew (jOf jss) Ks (fun a' F => ∀ w', R w.drew w' → S w' → (∀ k, F k w') → Q .normal a' w') 0 l a noFacts) : (Code.region id l.toArray true).wp P Q a w := by
 simp only [Region.lexB, Bool.and_eq_true] at hB
 refine wp_region_any hm (wpAny_of_know (R := R) (S := S) (w0 := w.drew) (J := jOf jss) (Ks := Ks) (Q := fun a' F => ∀ w', R w.drew w' → S w' → (∀ k, F k w') → Q .normal a' w') hf (tlB_spec ht) (fun a' F w' hr hS' hF' hq => hq w' hr hS' hF') _ _ a noFacts _ (fun _ _ _ _ _ h => h) (hf.refl _) hS (fun _ => trivial) ?_)
 have := wpAnyK_lex (P := P) (w0 := w.drew) hf (tlB_spec ht) (jOkB_spec hJ) hB.1 l 0 (Array.replicate l.toArray.size false) a noFacts (by simp) (by simpa using hB.2) (fun _ _ _ _ _ h => h) ⟨w.drew, hf.refl _, hS, fun _ => trivial⟩ (fun _ _ _ => trivial)
  (fun d k h1 h2 => by
   rcases Nat.lt_or_ge d l.length with h' | h'
   ·simp [h'] at h1
   ·simp [Array.getElem?_eq_none, h'] at h1) h
 simpa using this
/-! ### The steps of a walk -/
section
variable {Q : Act → Facts → Prop} {i : Nat} {o : Oper} {rest : List Oper} {a : Act} {F : Facts}
theorem wpK_step (h : ∀ K : Act → Facts → Prop, (∀ a F, wpK P ops R S w0 J Ks Q (i + 1) rest a F → K a F) →
  if Region.wanted o (yielded ops a.tmps) = true then
   match Ks i with
   | none => ∃ v, Quietly P S o a v ∧ K (a.put o.dst v) F
   | some k => Actively P R S w0 J i o a F k ∧ ∀ u, Wit R S w0 (upd F i (k u)) → K (a.put o.dst u) (upd F i (k u))
  else K (a.put o.dst undef) F) : wpK P ops R S w0 J Ks Q i (o :: rest) a F := h _ (fun _ _ h => h)
theorem wpK_quiet (hk : Ks i = none) (hw : Region.wanted o (yielded ops a.tmps) = true) {v : Value} (hq : Quietly P S o a v) {a' : Act} (he : a' = a.put o.dst v) (h : wpK P ops R S w0 J Ks Q (i + 1) rest a' F) : wpK P ops R S w0 J Ks Q i (o :: rest) a F := by
 subst he
 refine wpK_step fun K hK => ?_
 rw [if_pos hw, hk]
 exact ⟨v, hq, hK _ _ h⟩
theorem wpK_know {k : Know} (hk : Ks i = some k) (hw : Region.wanted o (yielded ops a.tmps) = true) (ha : Actively P R S w0 J i o a F k) (h : ∀ u, Wit R S w0 (upd F i (k u)) → ∃ a', a' = a.put o.dst u ∧ wpK P ops R S w0 J Ks Q (i + 1) rest a' (upd F i (k u))) : wpK P ops R S w0 J Ks Q i (o :: rest) a F := by
 refine wpK_step fun K hK => ?_
 rw [if_pos hw, hk]
 refine ⟨ha, fun u hu => ?_⟩
 obtain ⟨a', rfl, h⟩ := h u hu
 exact hK _ _ h
theorem wpK_end (h : Q a F) : wpK P ops R S w0 J Ks Q i [] a F := h
end
end
attribute [irreducible] gives wpK
end Go.Proofs.YthpjmhhfcechmaaGreat.Rg
/- What is known of the values of a statement with calls; what a call hands back. -/
namespace Go.Proofs.YthpjmhhfcechmaaGreat
open Go.RowKit Ma

def KI (z : Int) : Rg.Know := fun v W => ∃ m A l c, v = .agg #[.bool m, .slice A l c] ∧ RI W m A l c z
def KJ (z : Int) : Rg.Know := fun v W => ∃ m A l c, v = .agg #[.bool m, .slice A l c] ∧ RJ W m A l c z
def KV (x : Value) : Rg.Know := fun v _ => v = x
def KL (k : IntKind) (p : List Int → Prop) : Rg.Know := fun v W => ∃ zs A c, v = .slice A zs.length c ∧ zs.length ≤ c ∧ Rd W k A zs ∧ p zs
def K2 (k1 k2 : Rg.Know) : Rg.Know := fun v W => ∃ v1 v2, v = .tuple #[v1, v2] ∧ k1 v1 W ∧ k2 v2 W
def K3 (k1 k2 k3 : Rg.Know) : Rg.Know := fun v W => ∃ v1 v2 v3, v = .tuple #[v1, v2, v3] ∧ k1 v1 W ∧ k2 v2 W ∧ k3 v3 W
def KB (r : Nat) (z : Int) : Rg.Know := fun _ W => ∃ m A l c, W.cell? ⟨r, 0, none⟩ = some (.bool m) ∧ W.cell? ⟨r, 1, none⟩ = some (.slice A l c) ∧ RI W m A l c z
def KBJ (r : Nat) (z : Int) : Rg.Know := fun _ W => ∃ m A l c, W.cell? ⟨r, 0, none⟩ = some (.bool m) ∧ W.cell? ⟨r, 1, none⟩ = some (.slice A l c) ∧ RJ W m A l c z
theorem RI.eq {w : World} {n : Bool} {A : Option Addr} {l c : Nat} {z z' : Int} (h : RI w n A l c z) (e : z = z') : RI w n A l c z' := e ▸ h
theorem RJ.eq {w : World} {n : Bool} {A : Option Addr} {l c : Nat} {z z' : Int} (h : RJ w n A l c z) (e : z = z') : RJ w n A l c z' := e ▸ h
def St (k : Rg.Know) : Prop := ∀ v w w', IntK w w' → k v w → k v w'
theorem KI.st (z : Int) : St (KI z) := fun v w w' hk ⟨m, A, l, c, e, h⟩ => ⟨m, A, l, c, e, h.kept hk⟩
theorem KJ.st (z : Int) : St (KJ z) := fun v w w' hk ⟨m, A, l, c, e, h⟩ => ⟨m, A, l, c, e, h.kept hk⟩
theorem KV.st (x : Value) : St (KV x) := fun _ _ _ _ h => h
theorem KL.st (k : IntKind) (p : List Int → Prop) : St (KL k p) := fun v w w' hk ⟨zs, A, c, e, h1, h2, h3⟩ => ⟨zs, A, c, e, h1, h2.kept hk, h3⟩
theorem K2.st {k1 k2 : Rg.Know} (h1 : St k1) (h2 : St k2) : St (K2 k1 k2) := fun v w w' hk ⟨v1, v2, e, a, b⟩ => ⟨v1, v2, e, h1 _ _ _ hk a, h2 _ _ _ hk b⟩
theorem K3.st {k1 k2 k3 : Rg.Know} (h1 : St k1) (h2 : St k2) (h3 : St k3) : St (K3 k1 k2 k3) := fun v w w' hk ⟨v1, v2, v3, e, a, b, c⟩ => ⟨v1, v2, v3, e, h1 _ _ _ hk a, h2 _ _ _ hk b, h3 _ _ _ hk c⟩
theorem KI.agg {z : Int} {m : Bool} {A : Option Addr} {l c : Nat} {w : World} (h : KI z (.agg #[.bool m, .slice A l c]) w) : RI w m A l c z := by
 obtain ⟨m', A', l', c', e, h⟩ := h
 simp only [Value.agg.injEq, Array.mk.injEq, List.cons.injEq, Value.bool.injEq, Value.slice.injEq, and_true] at e
 obtain ⟨rfl, rfl, rfl, rfl⟩ := e
 exact h
theorem KL.slice {k : IntKind} {p : List Int → Prop} {A : Option Addr} {l c : Nat} {w : World} (h : KL k p (.slice A l c) w) : ∃ zs, l = zs.length ∧ l ≤ c ∧ Rd w k A zs ∧ p zs := by
 obtain ⟨zs, A', c', e, h1, h2, h3⟩ := h
 simp only [Value.slice.injEq] at e
 obtain ⟨rfl, rfl, rfl⟩ := e
 exact ⟨zs, rfl, h1, h2, h3⟩
def Nw (w W : World) : Prop := Below w.heap.size w W
theorem Nw.refl (w : World) : Nw w w := Below.refl _ _
theorem Nw.size {w W : World} (h : Nw w W) : w.heap.size ≤ W.heap.size := Below.size h
theorem Nw.alloc {w W : World} (h : Nw w W) (o : Obj) : Nw w (W.alloc o) := Below.alloc h h.size o
theorem Nw.drew {w W : World} (h : Nw w W) : Nw w W.drew := Below.drew h
theorem Nw.drewN {w W : World} (h : Nw w W) (n : Nat) : Nw w (W.drewN n) := ⟨h.os, h.tape, h.output, show w.heap.size ≤ W.heap.size from Below.size h, h.block⟩
theorem Nw.set {w W : World} (h : Nw w W) {a : Addr} (ha : w.heap.size ≤ a.block) (v : Value) : Nw w (W.setCell a v) := Below.setCell h ha v
theorem Nw.trans {w W W' : World} (h : Nw w W) (k : Nw W W') : Nw w W' := Below.trans h (Below.mono k h.size)
theorem Nw.kept {w W : World} (h : Nw w W) : IntK w W := IntK.of_below h
theorem Nw.rr {w W W' : World} {r n : Nat} (h : Nw w W) (k : Rr r n W W') (hr : w.heap.size ≤ r) : Nw w W' := Below.trans h (Below.mono k.1 hr)
def Ret (w : World) (k : Rg.Know) (e : Ending) (w' : World) : Prop := ∃ v, e = .returned v ∧ k v w' ∧ Nw w w'
theorem Ret.I {w w' : World} {z : Int} {m : Bool} {A : Option Addr} {l c : Nat} (h : RI w' m A l c z) (hb : Nw w w') : Ret w (KI z) (.returned (.agg #[.bool m, .slice A l c])) w' := ⟨_, rfl, ⟨m, A, l, c, rfl, h⟩, hb⟩
theorem Ret.J {w w' : World} {z : Int} {m : Bool} {A : Option Addr} {l c : Nat} (h : RJ w' m A l c z) (hb : Nw w w') : Ret w (KJ z) (.returned (.agg #[.bool m, .slice A l c])) w' := ⟨_, rfl, ⟨m, A, l, c, rfl, h⟩, hb⟩
theorem Ret.V {w w' : World} {x : Value} (hb : Nw w w') : Ret w (KV x) (.returned x) w' := ⟨_, rfl, rfl, hb⟩
theorem Ret.Veq {w w' : World} {x y : Value} (h : y = x) (hb : Nw w w') : Ret w (KV x) (.returned y) w' := ⟨_, rfl, h, hb⟩
theorem Ret.L {w w' : World} {k : IntKind} {p : List Int → Prop} {zs : List Int} {A : Option Addr} {c : Nat} (h : Rd w' k A zs) (hc : zs.length ≤ c) (hp : p zs) (hb : Nw w w') : Ret w (KL k p) (.returned (.slice A zs.length c)) w' := ⟨_, rfl, ⟨zs, A, c, rfl, hc, h, hp⟩, hb⟩
theorem ret_eq {P : Program} {f : FuncId} {args : Array Value} {w : World} {k k' : Rg.Know} (h : Calls P f args w (Ret w k)) (e : k = k') : Calls P f args w (Ret w k') := e ▸ h
theorem call_inr {P : Program} {f : FuncId} {args : Array Value} {W : World} {k : Rg.Know} {r n : Nat} (h : Calls P f args W (Ret W k)) (hr : r ≤ W.heap.size) : Calls P f args W (fun e w'' => ∃ v, e = .returned v ∧ Rr r n W w'' ∧ k v w'') :=
 h.mono fun e w'' ⟨v, he, hk, hb⟩ => ⟨v, he, Rr.call hr hb, hk⟩
theorem Rr.cell {r n : Nat} {W W' : World} (h : Rr r n W W') {b o : Nat} {v : Value} (hb : b < r) (hc : W.cell? ⟨b, o, none⟩ = some v) : W'.cell? ⟨b, o, none⟩ = some v := by
 rw [h.1.cell (p := ⟨b, o, none⟩) hb]; exact hc
theorem store_two {r : Nat} {W : World} {m : Bool} {D : Option Addr} {l c : Nat} (hb : Box r 2 W) :
  ∃ W', (W.setCell ⟨r, 0, none⟩ (.bool m)).setCell ⟨r, 1, none⟩ (.slice D l c) = W' ∧ Rr r 2 W W' ∧ W'.cell? ⟨r, 0, none⟩ = some (.bool m) ∧ W'.cell? ⟨r, 1, none⟩ = some (.slice D l c) := by
 obtain ⟨⟨v0, hv0, hn0⟩, hf0⟩ := hb 0 (by omega)
 obtain ⟨⟨v1, hv1, hn1⟩, hf1⟩ := hb 1 (by omega)
 have h1 : (W.setCell ⟨r, 0, none⟩ (.bool m)).cell? ⟨r, 1, none⟩ = some v1 := by rw [World.cell?_setCell_other (h := by simp)]; exact hv1
 have k1 : IntK W (W.setCell ⟨r, 0, none⟩ (.bool m)) := (IntK.refl W).set hv0 hn0
 have k2 := k1.set (v := .slice D l c) h1 hn1
 have c0 : ((W.setCell ⟨r, 0, none⟩ (.bool m)).setCell ⟨r, 1, none⟩ (.slice D l c)).cell? ⟨r, 0, none⟩ = some (.bool m) := by
  rw [World.cell?_setCell_other (h := by simp)]; exact World.cell?_setCell_same _ _ _ hv0
 have c1 : ((W.setCell ⟨r, 0, none⟩ (.bool m)).setCell ⟨r, 1, none⟩ (.slice D l c)).cell? ⟨r, 1, none⟩ = some (.slice D l c) := World.cell?_setCell_same _ _ _ h1
 refine ⟨_, rfl, ⟨((Below.refl r W).setCell (p := ⟨r, 0, none⟩) (Nat.le_refl _) _).setCell (p := ⟨r, 1, none⟩) (Nat.le_refl _) _, k2, by simp [World.setCell], fun _ o ho => ?_⟩, c0, c1⟩
 match o, ho with
 | 0, _ => exact ⟨⟨_, c0, by simp⟩, by simpa [World.frozen?_setCell] using hf0⟩
 | 1, _ => exact ⟨⟨_, c1, by simp⟩, by simpa [World.frozen?_setCell] using hf1⟩
theorem store_I {r : Nat} {W : World} {m : Bool} {D : Option Addr} {l c : Nat} {z : Int} (hb : Box r 2 W) (hi : RI W m D l c z) :
  Rr r 2 W ((W.setCell ⟨r, 0, none⟩ (.bool m)).setCell ⟨r, 1, none⟩ (.slice D l c)) ∧ KB r z undef ((W.setCell ⟨r, 0, none⟩ (.bool m)).setCell ⟨r, 1, none⟩ (.slice D l c)) := by
 obtain ⟨W', e, h1, h2, h3⟩ := store_two (m := m) (D := D) (l := l) (c := c) hb
 rw [e]
 exact ⟨h1, m, D, l, c, h2, h3, hi.kept h1.2.1⟩
theorem store_J {r : Nat} {W : World} {m : Bool} {D : Option Addr} {l c : Nat} {z : Int} (hb : Box r 2 W) (hi : RJ W m D l c z) :
  Rr r 2 W ((W.setCell ⟨r, 0, none⟩ (.bool m)).setCell ⟨r, 1, none⟩ (.slice D l c)) ∧ KBJ r z undef ((W.setCell ⟨r, 0, none⟩ (.bool m)).setCell ⟨r, 1, none⟩ (.slice D l c)) := by
 obtain ⟨W', e, h1, h2, h3⟩ := store_two (m := m) (D := D) (l := l) (c := c) hb
 rw [e]
 exact ⟨h1, m, D, l, c, h2, h3, hi.kept h1.2.1⟩
/-! ### A statement with calls: the cells that it reads lie below the block r, where its result goes -/
def Has : List (Nat × Nat × Value) → World → Prop
 | [], _ => True
 | (b, o, v) :: cs, W => W.cell? ⟨b, o, none⟩ = some v ∧ Has cs W
def Low (r : Nat) : List (Nat × Nat × Value) → Prop
 | [] => True
 | (b, _, _) :: cs => b < r ∧ Low r cs
theorem Has.kept {r n : Nat} {W W' : World} (h : Rr r n W W') : ∀ {cs : List (Nat × Nat × Value)}, Low r cs → Has cs W → Has cs W'
 | [], _, _ => trivial
 | (b, o, v) :: cs, hl, hc => ⟨h.cell hl.1 hc.1, Has.kept h hl.2 hc.2⟩
theorem Has.nw {W W' : World} (h : Nw W W') : ∀ {cs : List (Nat × Nat × Value)}, Has cs W → Has cs W'
 | [], _ => trivial
 | (b, o, v) :: cs, hc => ⟨by rw [Below.cell (p := ⟨b, o, none⟩) h (World.block_lt_of_cell? W ⟨b, o, none⟩ hc.1)]; exact hc.1, Has.nw h hc.2⟩
def Sg (cs : List (Nat × Nat × Value)) (r n : Nat) (W : World) : Prop := Has cs W ∧ Box r n W ∧ r ≤ W.heap.size
theorem Sg.nw {cs : List (Nat × Nat × Value)} {r n : Nat} {W W' : World} (h : Sg cs r n W) (k : Nw W W') : Sg cs r n W' := ⟨h.1.nw k, h.2.1.below k, Nat.le_trans h.2.2 k.size⟩
theorem box_two (w : World) (t : TypeId) (b : Bool) (A : Option Addr) (l c : Nat) : Box w.heap.size 2 (w.alloc (.cells #[.bool b, .slice A l c] t)) := by
 intro o ho
 match o, ho with
 | 0, _ => exact ⟨⟨.bool b, by rw [World.cell?_alloc_at _ _ _ _ rfl]; rfl, by simp⟩, World.frozen?_alloc_at _ _ _ _ rfl⟩
 | 1, _ => exact ⟨⟨.slice A l c, by rw [World.cell?_alloc_at _ _ _ _ rfl]; rfl, by simp⟩, World.frozen?_alloc_at _ _ _ _ rfl⟩
def kn : List (Nat × Rg.Know) → Nat → Option Rg.Know
 | [], _ => none
 | (j, k) :: L, i => match Nat.beq i j with
  | true => some k
  | false => kn L i
def StL (tl : Nat) : List (Nat × Rg.Know) → Prop
 | [] => True
 | (j, k) :: L => (j = tl ∨ St k) ∧ StL tl L
theorem StL.spec {tl : Nat} : ∀ {L : List (Nat × Rg.Know)}, StL tl L → ∀ i k, kn L i = some k → i ≠ tl → St k
 | [], _, i, k, h, _ => by cases h
 | (j, k') :: L, hs, i, k, h, hne => by
  unfold kn at h
  split at h
  ·rename_i e
   injection h with h
   subst h
   rcases hs.1 with h1 | h1
   ·exact absurd ((Nat.eq_of_beq_eq_true e).trans h1) hne
   ·exact h1
  ·exact StL.spec hs.2 i k h hne
theorem box_zero (r : Nat) (W : World) : Box r 0 W := fun o ho => absurd ho (by omega)
theorem region_std {P : Program} {id : Nat} {Q : Exit → Act → World → Prop} {a : Act} {w : World} {l : List Oper} (cs : List (Nat × Nat × Value)) (r n tl : Nat) (L : List (Nat × Rg.Know))
  (hm : P.follows .mixedOrders = true) (hB : Region.lexB .any l.toArray = true) (hJ : Rg.jOkB l.toArray (Rg.ancs l.toArray) = true) (ht : Rg.tlB l.toArray tl = true) (hlow : Low r cs) (hst : StL tl L) (h0 : Sg cs r n w.drew)
  (h : Rg.wpK P l.toArray (Rr r n) (Sg cs r n) w.drew (Rg.jOf (Rg.ancs l.toArray)) (kn L) (fun a' F => ∀ w', Rr r n w.drew w' → Sg cs r n w' → (∀ k, F k w') → Q .normal a' w') 0 l a Rg.noFacts) : (Code.region id l.toArray true).wp P Q a w :=
 Rg.wp_region_know (Sg cs r n) (Rr r n) (Rg.ancs l.toArray) tl (kn L) hm hB hJ ht
  ⟨Rr.refl r n, fun _ _ _ => Rr.trans, fun W W' hR hS => ⟨hS.1.kept hR hlow, hR.2.2.2 hS.2.1, by have := hR.2.2.1; have := hS.2.2; omega⟩, fun i k hk hne v W W' hR hv => StL.spec hst i k hk hne v W W' hR.2.1 hv⟩ h0 h
theorem add_at (g j : Nat) : (⟨g, 0, none⟩ : Addr).add j = ⟨g, j, none⟩ := by unfold Addr.add; split <;> simp_all
theorem Rd.new1 (w : World) (k : IntKind) (e : TypeId) (a : Int) : Rd (w.alloc (.cells #[.int k a] e)) k (some ⟨w.heap.size, 0, none⟩) [a] := by
 refine ⟨by simp, fun i hi => ⟨_, rfl, ?_⟩⟩
 match i, hi with
 | 0, _ => rw [add_at, World.cell?_alloc_at _ _ _ _ rfl]; rfl
theorem Rd.new2 (w : World) (k : IntKind) (e : TypeId) (a b : Int) : Rd (w.alloc (.cells #[.int k a, .int k b] e)) k (some ⟨w.heap.size, 0, none⟩) [a, b] := by
 refine ⟨by simp, fun i hi => ⟨_, rfl, ?_⟩⟩
 match i, hi with
 | 0, _ => rw [add_at, World.cell?_alloc_at _ _ _ _ rfl]; rfl
 | 1, _ => rw [add_at, World.cell?_alloc_at _ _ _ _ rfl]; rfl
/-! ### Slices of numbers of the call's own -/
def Own (w : World) (base : Nat) (e : TypeId) (k : IntKind) (v : Value) (xs : List Int) : Prop := w.ownsRow base e 1 v xs.length (xs.map (Value.int k))
theorem Own.nil (w : World) (base : Nat) (e : TypeId) (k : IntKind) : Own w base e k (.slice none 0 0) [] := World.ownsRow_nil w base e 1
theorem Own.rd {w : World} {base : Nat} {e : TypeId} {k : IntKind} {v : Value} {xs : List Int} (h : Own w base e k v xs) : ∃ A c, v = .slice A xs.length c ∧ xs.length ≤ c ∧ Rd w k A xs := by
 rcases h.2 with ⟨hv, h0⟩ | ⟨g, cap, cur, hv, hb, hg, hc, hm, _, _⟩
 ·have : xs = [] := List.eq_nil_of_length_eq_zero h0
  subst this
  exact ⟨none, 0, hv, by simp, Rd.nil _ _ _⟩
 ·refine ⟨some ⟨g, 0, none⟩, cap, hv, hc, by unfold maxLen at hm; omega, fun i hi => ⟨⟨g, 0, none⟩, rfl, ?_⟩⟩
  refine h.cells (by rw [hv]; rfl) i _ ?_
  rw [List.getElem?_map, List.getElem?_eq_getElem hi, at0_of_lt hi]
  rfl
theorem Own.kept {w w' : World} {base : Nat} {e : TypeId} {k : IntKind} {v : Value} {xs : List Int} (h : Own w base e k v xs) (hb : Below w.heap.size w w') : Own w' base e k v xs :=
 World.ownsRow.kept h (row := none) ⟨hb.os, hb.tape, hb.output, hb.size, fun i hi _ => hb.block i hi⟩ (by cases v.ownBlock <;> simp)
theorem Own.base {w : World} {base : Nat} {e : TypeId} {k : IntKind} {v : Value} {xs : List Int} (h : Own w base e k v xs) : ∀ g, v.ownBlock = some g → base ≤ g := fun g hg => (World.ownsRow.lt h g hg).1
theorem Nw.grown {w W w1 : World} {e : TypeId} {k : IntKind} {v : Value} {xs : List Int} (h : Nw w W) (o : Obj) (ho : Own W w.heap.size e k v xs) (hg : (W.alloc o).grownBy w1 v.ownBlock) : Nw w w1 :=
 Below.grown (h.alloc o) hg (h.alloc o).size ho.base
theorem Ret.own {w w' : World} {base : Nat} {e : TypeId} {k : IntKind} {v : Value} {zs : List Int} {p : List Int → Prop} (h : Own w' base e k v zs) (hp : p zs) (hb : Nw w w') : Ret w (KL k p) (.returned v) w' := by
 obtain ⟨A, c, rfl, h1, h2⟩ := h.rd
 exact Ret.L h2 h1 hp hb
theorem Own.cast {w : World} {base : Nat} {e : TypeId} {k : IntKind} {v : Value} {n : Nat} {vs : List Value} {xs : List Int} (h : w.ownsRow base e 1 v n vs) (h1 : n = xs.length) (h2 : vs = xs.map (Value.int k)) : Own w base e k v xs := by
 subst h1 h2; exact h
end Go.Proofs.YthpjmhhfcechmaaGreat
/- The contracts of the program's small functions on limbs: trimmed, made. -/
namespace Go.Proofs.YthpjmhhfcechmaaGreat
open Go.RowKit Ma

theorem trim_take_succ {xs : List Int} {n : Nat} (hn : n < xs.length) (h : at0 xs n = 0) : trim (xs.take (n + 1)) = trim (xs.take n) := by
 rw [List.take_succ_eq_append_getElem hn]
 rw [at0_of_lt hn] at h
 rw [h, trim_snoc0]
theorem trim_stop {xs : List Int} {n : Nat} (hn : n < xs.length) (h : at0 xs n ≠ 0) : trim (xs.take (n + 1)) = xs.take (n + 1) := by
 apply trim_of_top
 have hl : (xs.take (n + 1)).length = n + 1 := by simp only [List.length_take]; omega
 have hne : xs.take (n + 1) ≠ [] := by intro e; rw [e] at hl; simp at hl
 rw [top_at hne, hl]
 simp only [at0, List.getD_eq_getElem?_getD, List.getElem?_take, Nat.add_sub_cancel, show n < n + 1 by omega, if_true] at h ⊢
 exact h
set_option maxHeartbeats 400000 in
theorem trimmed_c (A : Option Addr) (c : Nat) (xs : List Int) (w : World) (h : Rd w .u32 A xs) (hc : xs.length ≤ c) :
  Calls Tryz.prog 134 #[.slice A xs.length c] w fun e w' => e = .returned (.slice A (trim xs).length c) ∧ w = w' := by
 have hl := h.1
 have key : ∀ n, n ≤ xs.length → trim (xs.take n) = trim xs → trim (xs.take n) = xs.take n → (.slice A n c : Value) = .slice A (trim xs).length c := by
  intro n hn h1 h2
  rw [← h1, h2]
  rw [List.length_take, Nat.min_eq_left hn]
 go_enter Tryz.func134, Tryz.ntmps134
 go_wp2
 go_loop [0] (fun l => ∃ n : Nat, n ≤ xs.length ∧ trim (xs.take n) = trim xs ∧ l = .slice A n c) (fun l => match l with | .slice _ n _ => n | _ => 0)
 case atStart => exact ⟨_, Nat.le_refl _, by rw [List.take_length], rfl⟩
 case round =>
  obtain ⟨n, hn, ht, rfl⟩ := hrel
  have HT := Lib.hid ht
  have KEY := Lib.hid key
  clear ht key
  by_cases h0 : 0 < n
  ·obtain ⟨ad, hA, hcell⟩ := h.2 (n - 1) (by omega)
   subst hA
   by_cases hz : at0 xs (n - 1) = 0
   ·have hzb : (at0 xs (n - 1) == 0) = true := by simpa using hz
    have HZ := Lib.hid hz
    clear hz
    go_wp2
    refine ⟨⟨n - 1, by omega, ?_, rfl⟩, by simp; omega⟩
    rw [← HT.out, ← trim_take_succ (by omega) HZ.out, Nat.sub_add_cancel h0]
   ·have hzb : (at0 xs (n - 1) == 0) = false := by simpa using hz
    have HZ := Lib.hid hz
    clear hz
    go_wp2
    go_ret
    have h1 := KEY.out n hn HT.out (by have := trim_stop (n := n - 1) (by omega) HZ.out; rwa [Nat.sub_add_cancel h0] at this)
    exact ⟨ret_val h1, rfl⟩
  ·obtain rfl : n = 0 := by omega
   go_wp2
   go_ret
   have h1 := KEY.out 0 hn HT.out (by simp [trim])
   exact ⟨ret_val h1, rfl⟩
theorem num_made {b : Int} {n : Bool} {xs : List Int} (hd : dg b xs) : Num b (n && decide (0 < (trim xs).length)) (trim xs) (sg n (lv b xs)) := by
 refine ⟨trim_dg hd, trim_top xs, fun h => ?_, ?_⟩
 ·simp at h; exact List.length_pos_iff.1 h.2
 ·cases n with
  | false => simp [trim_lv, sg]
  | true =>
   by_cases h0 : 0 < (trim xs).length
   ·simp [h0, trim_lv, sg]
   ·have : trim xs = [] := List.eq_nil_of_length_eq_zero (by omega)
    have h1 := trim_lv b xs
    rw [this] at h1
    simp [this, lv, sg] at h1 ⊢
    omega
set_option maxHeartbeats 400000 in
theorem made_c (n : Bool) (A : Option Addr) (c : Nat) (xs : List Int) (w : World) (rA : Rd w .u32 A xs) (hc : xs.length ≤ c) (hd : dg b32 xs) :
  Calls Tryz.prog 95 #[.bool n, .slice A xs.length c] w (Ret w (KI (sg n (lv b32 xs)))) := by
 have hn := num_made (n := n) hd
 have hlen := trim_len xs
 have HN := Lib.hid hn
 clear hn
 cases n
 ·go_enter Tryz.func95, Tryz.ntmps95
  go_wp2_with (go_at_call 134; refine (trimmed_c A c xs _ (rA.kept (IntK.alloc _ _)) hc).mono ?_; rintro e w' ⟨rfl, rfl⟩)
  refine bodyPost_ret (v := .agg #[.bool false, .slice A (trim xs).length c]) (by simp [results, Tryz.results95, go_sem]) rfl (Ret.I ⟨trim xs, rfl, by omega, ?_, by simpa using HN.out⟩ ?_)
  ·exact rA.trim.kept (IntK.alloc _ _)
  ·exact (Below.refl _ _).alloc (Nat.le_refl _) _
 ·go_enter Tryz.func95, Tryz.ntmps95
  go_wp2_with (go_at_call 134; refine (trimmed_c A c xs _ (rA.kept (IntK.alloc _ _)) hc).mono ?_; rintro e w' ⟨rfl, rfl⟩)
  refine bodyPost_ret (v := .agg #[.bool (decide (0 < (trim xs).length)), .slice A (trim xs).length c]) (by simp [results, Tryz.results95, go_sem]) rfl (Ret.I ⟨trim xs, rfl, by omega, ?_, by simpa using HN.out⟩ ?_)
  ·exact rA.trim.kept (IntK.alloc _ _)
  ·exact (Below.refl _ _).alloc (Nat.le_refl _) _
end Go.Proofs.YthpjmhhfcechmaaGreat
/- Bits of words: no program in sight. -/
namespace Go.Proofs.YthpjmhhfcechmaaGreat.Ma
open Go

theorem tb31 (n : Nat) (h : n < 4294967296) : n.testBit 31 = decide (2147483648 ≤ n) := by
 rw [Nat.testBit_eq_decide_div_mod_eq, decide_eq_decide]
 have : (2 : Nat) ^ 31 = 2147483648 := by decide
 rw [this]
 omega
theorem div31 (n : Nat) (h : n < 4294967296) : n / 2147483648 = if n.testBit 31 then 1 else 0 := by
 rw [tb31 n h]
 by_cases h1 : 2147483648 ≤ n
 ·simp [h1]; omega
 ·simp [h1]; omega
theorem borrow_bit (x y d : Int) (hx : 0 ≤ x ∧ x < 4294967296) (hy : 0 ≤ y ∧ y < 4294967296) (hd : 0 ≤ d ∧ d < 4294967296) (c : Int) (hc : 0 ≤ c ∧ c ≤ 1) (e : d = (x - y - c) % 4294967296) :
  bits .or .u32 (bits .and .u32 (bits .xor .u32 IntKind.u32.max x) y) (bits .and .u32 (bits .xor .u32 IntKind.u32.max (bits .xor .u32 x y)) d) / 2147483648 = if x < y + c then 1 else 0 := by
 obtain ⟨X, rfl⟩ := Int.eq_ofNat_of_zero_le hx.1
 obtain ⟨Y, rfl⟩ := Int.eq_ofNat_of_zero_le hy.1
 obtain ⟨D, rfl⟩ := Int.eq_ofNat_of_zero_le hd.1
 have hX : X < 4294967296 := by omega
 have hY : Y < 4294967296 := by omega
 have hD : D < 4294967296 := by omega
 have hm : IntKind.u32.max = ((4294967295 : Nat) : Int) := by simp [IntKind.max, IntKind.bits, IntKind.signed]
 have p32 : (2 : Nat) ^ 32 = 4294967296 := by decide
 have l1 : 4294967295 ^^^ X < 4294967296 := by rw [← p32]; exact Nat.xor_lt_two_pow (by omega) (by omega)
 have l2 : X ^^^ Y < 4294967296 := by rw [← p32]; exact Nat.xor_lt_two_pow (by omega) (by omega)
 have l3 : 4294967295 ^^^ (X ^^^ Y) < 4294967296 := by rw [← p32]; exact Nat.xor_lt_two_pow (by omega) (by omega)
 have l4 : (4294967295 ^^^ X) &&& Y < 4294967296 := Nat.lt_of_le_of_lt Nat.and_le_right hY
 have l5 : (4294967295 ^^^ (X ^^^ Y)) &&& D < 4294967296 := Nat.lt_of_le_of_lt Nat.and_le_right hD
 have l6 : ((4294967295 ^^^ X) &&& Y) ||| ((4294967295 ^^^ (X ^^^ Y)) &&& D) < 4294967296 := by rw [← p32]; exact Nat.or_lt_two_pow (by omega) (by omega)
 rw [hm, u32_xor_nat _ _ (by omega) hX, u32_xor_nat _ _ hX hY, u32_xor_nat _ _ (by omega) l2, u32_and_nat _ _ l1 hY, u32_and_nat _ _ l3 hD, u32_or_nat _ _ l4 l5]
 have e1 := div31 _ l6
 have e2 : (((((4294967295 ^^^ X) &&& Y) ||| ((4294967295 ^^^ (X ^^^ Y)) &&& D) : Nat) : Int) / 2147483648) = (((((4294967295 ^^^ X) &&& Y) ||| ((4294967295 ^^^ (X ^^^ Y)) &&& D)) / 2147483648 : Nat) : Int) := by
  rw [Int.natCast_ediv]; rfl
 rw [e2, e1]
 simp only [Nat.testBit_or, Nat.testBit_and, Nat.testBit_xor, tb31 X hX, tb31 Y hY, tb31 D hD, show Nat.testBit 4294967295 31 = true by decide]
 by_cases h1 : 2147483648 ≤ X <;> by_cases h2 : 2147483648 ≤ Y <;> by_cases h3 : 2147483648 ≤ D <;> simp only [h1, h2, h3, decide_true, decide_false] <;> simp <;> first | omega | (split <;> omega)
def bor (x y c : Int) : Int := if x < y + c then 1 else 0
theorem bor_le (x y c : Int) : 0 ≤ bor x y c ∧ bor x y c ≤ 1 := by unfold bor; split <;> omega
theorem bor_eq (x y c : Int) (hx : 0 ≤ x ∧ x < 4294967296) (hy : 0 ≤ y ∧ y < 4294967296) (hc : 0 ≤ c ∧ c ≤ 1) : (x - y - c) % 4294967296 = x - y - c + 4294967296 * bor x y c := by unfold bor; split <;> omega
theorem join32 (h l : Int) (hh : 0 ≤ h ∧ h < 4294967296) (hl : 0 ≤ l ∧ l < 4294967296) : bits .or .u64 (h * 4294967296) l = h * 4294967296 + l := by
 obtain ⟨H, rfl⟩ := Int.eq_ofNat_of_zero_le hh.1
 obtain ⟨L, rfl⟩ := Int.eq_ofNat_of_zero_le hl.1
 have e : ((H : Int) * 4294967296) = ((H * 4294967296 : Nat) : Int) := by omega
 rw [e, u64_or_nat _ _ (by omega) (by omega)]
 have p32 : (2 : Nat) ^ 32 = 4294967296 := by decide
 have h1 := Nat.two_pow_add_eq_or_of_lt (i := 32) (b := L) (by omega) H
 rw [p32] at h1
 rw [Nat.mul_comm H, ← h1]
 omega
end Go.Proofs.YthpjmhhfcechmaaGreat.Ma
/- The contracts of math/bits: Add32, Sub32, Div32, Len32, LeadingZeros32, OnesCount32. -/
namespace Go.Proofs.YthpjmhhfcechmaaGreat
open Go.RowKit Ma

set_option maxHeartbeats 400000 in
theorem add32_c (x y c : Int) (w : World) (hx : 0 ≤ x ∧ x < 4294967296) (hy : 0 ≤ y ∧ y < 4294967296) (hc : 0 ≤ c ∧ c ≤ 1) :
  Calls Tryz.prog 154 #[.int .u32 x, .int .u32 y, .int .u32 c] w fun e w' => e = .returned (.tuple #[.int .u32 ((x + y + c) % 4294967296), .int .u32 ((x + y + c) / 4294967296)]) ∧ w = w' := by
 obtain ⟨hx0, hx1⟩ := hx
 obtain ⟨hy0, hy1⟩ := hy
 obtain ⟨hc0, hc1⟩ := hc
 go_enter Tryz.func154, Tryz.ntmps154
 go_wp2
 go_ret2
 refine ⟨ret_val ?_, rfl⟩
 simp
set_option maxHeartbeats 400000 in
theorem sub32_c (x y c : Int) (w : World) (hx : 0 ≤ x ∧ x < 4294967296) (hy : 0 ≤ y ∧ y < 4294967296) (hc : 0 ≤ c ∧ c ≤ 1) :
  Calls Tryz.prog 155 #[.int .u32 x, .int .u32 y, .int .u32 c] w fun e w' => e = .returned (.tuple #[.int .u32 ((x - y - c) % 4294967296), .int .u32 (bor x y c)]) ∧ w = w' := by
 obtain ⟨hx0, hx1⟩ := hx
 obtain ⟨hy0, hy1⟩ := hy
 obtain ⟨hc0, hc1⟩ := hc
 go_enter Tryz.func155, Tryz.ntmps155
 go_wp2
 go_ret2
 refine ⟨ret_val ?_, rfl⟩
 have hb := borrow_bit x y _ ⟨hx0, hx1⟩ ⟨hy0, hy1⟩ ⟨Int.emod_nonneg _ (by decide), Int.emod_lt_of_pos _ (by decide)⟩ c ⟨hc0, hc1⟩ rfl
 show Value.tuple #[.int .u32 _, .int .u32 _] = _
 rw [hb]
 rfl
set_option maxHeartbeats 400000 in
theorem div32_c (h l y : Int) (w : World) (hh : 0 ≤ h ∧ h < y) (hl : 0 ≤ l ∧ l < 4294967296) (hy : y < 4294967296) :
  Calls Tryz.prog 150 #[.int .u32 h, .int .u32 l, .int .u32 y] w fun e w' => e = .returned (.tuple #[.int .u32 ((h * 4294967296 + l) / y), .int .u32 ((h * 4294967296 + l) % y)]) ∧ Nw w w' := by
 obtain ⟨hh0, hh1⟩ := hh
 obtain ⟨hl0, hl1⟩ := hl
 have hj := join32 h l ⟨hh0, by omega⟩ ⟨hl0, hl1⟩
 have hyb : (y != 0) = true := by simp; omega
 have hyd : decide (y ≤ h) = false := by simp; omega
 have hjr : 0 ≤ h * 4294967296 + l := by omega
 have hjt : h * 4294967296 + l < 18446744073709551616 := by omega
 go_enter Tryz.func150, Tryz.ntmps150
 go_wp2
 go_quiet (fail)
 go_wp2
 go_ret2
 refine ⟨ret_val ?_, (Nw.refl w).drewN _⟩
 have q0 : 0 ≤ (h * 4294967296 + l) / y := Int.ediv_nonneg hjr (by omega)
 have q1 : (h * 4294967296 + l) / y < 4294967296 := by
  apply Int.ediv_lt_of_lt_mul (by omega)
  have : h * 4294967296 + 4294967296 ≤ 4294967296 * y := by omega
  omega
 have r0 : 0 ≤ (h * 4294967296 + l) % y := Int.emod_nonneg _ (by omega)
 have r1 : (h * 4294967296 + l) % y < y := Int.emod_lt_of_pos _ (by omega)
 simp
 omega
end Go.Proofs.YthpjmhhfcechmaaGreat
/- The contracts of the program's loops on limbs: sum. -/
namespace Go.Proofs.YthpjmhhfcechmaaGreat
open Go.RowKit Ma

theorem info_u32 : (Tryz.prog.info? 140).map (fun i => (i.zero, i.size, i.bytes)) = some (some (.int .u32 0), 1, 4) := by kernel_rfl
structure SumAt (xs ys : List Int) (k : Nat) (zs : List Int) (c : Int) : Prop where
 le : k ≤ xs.length
 len : zs.length = k
 dg : dg b32 zs
 c0 : 0 ≤ c
 c1 : c ≤ 1
 eq : lv b32 zs + b32 ^ k * c = lv b32 (xs.take k) + lv b32 (ys.take k)
theorem SumAt.start (xs ys : List Int) : SumAt xs ys 0 [] 0 := ⟨by omega, rfl, dg_nil _, by omega, by omega, by simp [lv]⟩
theorem at0_zero {ys : List Int} {k : Nat} (h : ys.length ≤ k) : lv b32 (ys.take (k + 1)) = lv b32 (ys.take k) := by
 rw [List.take_of_length_le (by omega), List.take_of_length_le h]
theorem SumAt.step {xs ys : List Int} {k : Nat} {zs : List Int} {c : Int} (h : SumAt xs ys k zs c) (dx : Ma.dg b32 xs) (dy : Ma.dg b32 ys) (hk : k < xs.length) :
  SumAt xs ys (k + 1) (zs ++ [(at0 xs k + at0 ys k + c) % 4294967296]) ((at0 xs k + at0 ys k + c) / 4294967296) := by
 obtain ⟨h1, h2, h3, h4, h5, h6⟩ := h
 obtain ⟨x0, x1⟩ := dg_at dx (by decide) k
 obtain ⟨y0, y1⟩ := dg_at dy (by decide) k
 rw [b32_eq] at x1 y1
 refine ⟨by omega, by simp [h2], dg_append.2 ⟨h3, fun x hx => ?_⟩, by omega, by omega, ?_⟩
 ·rw [List.mem_singleton] at hx; rw [hx, b32_eq]; omega
 ·have ey : lv b32 (ys.take (k + 1)) = lv b32 (ys.take k) + b32 ^ k * at0 ys k := by
   by_cases hy : k < ys.length
   ·exact lv_take_succ _ _ _ hy
   ·rw [at0_zero (by omega), at0_ge (by omega)]; omega
  rw [lv_snoc, h2, lv_take_succ _ _ _ hk, ey, Int.pow_succ]
  have e := Int.mul_ediv_add_emod (at0 xs k + at0 ys k + c) 4294967296
  generalize (at0 xs k + at0 ys k + c) / 4294967296 = q at *
  generalize (at0 xs k + at0 ys k + c) % 4294967296 = r at *
  rw [b32_eq] at *
  grind
theorem SumAt.done {xs ys : List Int} {k : Nat} {zs : List Int} {c : Int} (h : SumAt xs ys k zs c) (hk : k = xs.length) (hl : ys.length ≤ xs.length) :
  Ma.dg b32 (zs ++ [c]) ∧ lv b32 (zs ++ [c]) = lv b32 xs + lv b32 ys ∧ (zs ++ [c]).length = xs.length + 1 := by
 obtain ⟨h1, h2, h3, h4, h5, h6⟩ := h
 subst hk
 refine ⟨dg_append.2 ⟨h3, fun x hx => ?_⟩, ?_, by simp [h2]⟩
 ·rw [List.mem_singleton] at hx; rw [hx, b32_eq]; omega
 ·rw [lv_snoc, h2, h6, List.take_length, List.take_of_length_le hl]
set_option maxHeartbeats 800000 in
theorem sum_c (A B : Option Addr) (c d : Nat) (xs ys : List Int) (w : World) (rA : Rd w .u32 A xs) (rB : Rd w .u32 B ys) (hc : xs.length ≤ c) (hd : ys.length ≤ d) (dx : dg b32 xs) (dy : dg b32 ys) (hl : xs.length ≤ 1000000) (hl2 : ys.length ≤ 1000000) :
  Calls Tryz.prog 138 #[.slice A xs.length c, .slice B ys.length d] w (Ret w (KL .u32 fun zs => dg b32 zs ∧ lv b32 zs = lv b32 xs + lv b32 ys ∧ zs.length ≤ xs.length + ys.length + 1)) := by
 by_cases hle : ys.length ≤ xs.length
 ·have hlt : decide (xs.length < ys.length) = false := by simp; omega
  obtain ⟨i0, hi, hz0, hz1, hz2⟩ := info_parts info_u32
  go_enter Tryz.func138, Tryz.ntmps138
  go_wp2_with (at_make; refine wpList_make_own _ rfl _ _ 22 rfl w.heap.size 140 i0 (.int .u32 0) 1 Tryz.underlying22 hi hz0 hz1 _ _ _ (xs.length + 1) rfl rfl (by omega) ?b2 ?b3 (Nat.le_refl _) ?_)
  case b2 => rw [hz2]; omega
  case b3 => unfold maxLen; omega
  intro w0 hown0 hgrow0
  go_wp2
  have n0 : Nw w w0 := (Below.refl _ _).grown hgrow0 (Nat.le_refl _) (fun k h => by cases h)
  go_loopw [5, 6, 25] (fun out cy ci wr => ∃ (k : Nat) (zs : List Int) (cc : Int), ci = .int .i64 k ∧ cy = .int .u32 cc ∧ Own wr w.heap.size 140 .u32 out zs ∧ SumAt xs ys k zs cc ∧ Nw w wr)
   (fun _ _ ci _ => xs.length - (intOf ci).toNat)
  case atStart => exact ⟨0, [], 0, rfl, rfl, hown0, SumAt.start _ _, n0⟩
  case round =>
   obtain ⟨k, zs, cc, rfl, rfl, ho, hs, hn⟩ := hrel
   have hkle := hs.le
   have hc0 := hs.c0
   have hc1 := hs.c1
   have hzl := hs.len
   have hs1 := hs.step dx dy
   by_cases hk : k < xs.length
   ·obtain ⟨ad, hA, hcell⟩ := rA.2 k hk
    subst hA
    have hcell := hn.kept _ _ _ hcell
    have hxk := dg_at dx (by decide) k
    have hyk := dg_at dy (by decide) k
    rw [b32_eq] at hxk hyk
    obtain ⟨hx0, hx1⟩ := hxk
    obtain ⟨hy0, hy1⟩ := hyk
    have HS := Lib.hid (hs1 hk)
    have HZ := Lib.hid hzl
    clear hs1 hs hzl
    by_cases hky : k < ys.length
    ·obtain ⟨bd, hB, hcellb⟩ := rB.2 k hky
     subst hB
     have hcellb := hn.kept _ _ _ hcellb
     go_wp2_with (first
      | (go_at_call 154; refine (add32_c _ _ _ _ ⟨hx0, hx1⟩ ⟨hy0, hy1⟩ ⟨hc0, hc1⟩).mono ?_; rintro e w' ⟨rfl, rfl⟩)
      | (at_builtin; refine wpList_append_own _ rfl (.tmp 45) (.tmp 47) 22 rfl w.heap.size 140 i0 (.int .u32 0) 1 4 Tryz.underlying22 hi hz0 hz1 hz2 rfl (by decide) _ _ _ rfl (ho.alloc _) ⟨wr.heap.size, 0, none⟩ 1 1 [.int .u32 ((at0 xs k + at0 ys k + cc) % 4294967296)] rfl rfl ?c1 ?c2 ?c3 ?c4 ?c5 ?_))
     case c1 => intro j u hu; exact cell_one_new _ _ _ j u hu
     case c2 => simp [Value.oneCell']
     case c3 => unfold maxLen; have := HZ.out; omega
     case c4 => have := HZ.out; omega
     case c5 => have := hn.size; simp; omega
     intro v1 w1 hown1 hgrow1 _
     go_wp2
     go_roundw
     case rel =>
      exact ⟨k + 1, _, _, by go_num, rfl, Own.cast hown1 (by simp) (by simp), HS.out, hn.grown _ ho hgrow1⟩
     case measure => simp [intOf]; omega
    ·have hyz : ys.length ≤ k := by omega
     have hyk0 : at0 ys k = 0 := at0_ge (by omega)
     rw [hyk0, Int.add_zero] at HS
     clear hyk0
     go_wp2_with (first
      | (go_at_call 154; refine (add32_c _ _ _ _ ⟨hx0, hx1⟩ ⟨Int.le_refl _, by decide⟩ ⟨hc0, hc1⟩).mono ?_; rintro e w' ⟨rfl, rfl⟩)
      | (at_builtin; refine wpList_append_own _ rfl (.tmp 45) (.tmp 47) 22 rfl w.heap.size 140 i0 (.int .u32 0) 1 4 Tryz.underlying22 hi hz0 hz1 hz2 rfl (by decide) _ _ _ rfl (ho.alloc _) ⟨wr.heap.size, 0, none⟩ 1 1 [.int .u32 ((at0 xs k + cc) % 4294967296)] rfl rfl ?c1 ?c2 ?c3 ?c4 ?c5 ?_))
     case c1 => intro j u hu; exact cell_one_new _ _ _ j u hu
     case c2 => simp [Value.oneCell']
     case c3 => unfold maxLen; have := HZ.out; omega
     case c4 => have := HZ.out; omega
     case c5 => have := hn.size; simp; omega
     intro v1 w1 hown1 hgrow1 _
     go_wp2
     go_roundw
     case rel =>
      exact ⟨k + 1, _, _, by go_num, rfl, Own.cast hown1 (by simp) (by simp), HS.out, hn.grown _ ho hgrow1⟩
     case measure => simp [intOf]; omega
   ·have hke : k = xs.length := by omega
    have HD := Lib.hid (hs.done hke hle)
    have HK := Lib.hid hke
    have HZ := Lib.hid hzl
    clear hs hs1 hke hzl
    go_wp2_with (at_builtin; refine wpList_append_own _ rfl (.tmp 51) (.tmp 53) 22 rfl w.heap.size 140 i0 (.int .u32 0) 1 4 Tryz.underlying22 hi hz0 hz1 hz2 rfl (by decide) _ _ _ rfl (ho.alloc _) ⟨wr.heap.size, 0, none⟩ 1 1 [.int .u32 cc] rfl rfl ?c1 ?c2 ?c3 ?c4 ?c5 ?_)
    case c1 => intro j u hu; exact cell_one_new _ _ _ j u hu
    case c2 => simp [Value.oneCell']
    case c3 => unfold maxLen; have := HZ.out; omega
    case c4 => have := HZ.out; omega
    case c5 => have := hn.size; simp; omega
    intro v1 w1 hown1 hgrow1 _
    go_wp2
    go_ret
    exact Ret.own (Own.cast (xs := zs ++ [cc]) hown1 (by simp) (by simp)) (by have := HD.out; exact ⟨this.1, this.2.1, by omega⟩) (hn.grown _ ho hgrow1)
 ·have hlt : decide (xs.length < ys.length) = true := by simp; omega
  have hle' : xs.length ≤ ys.length := by omega
  clear hle
  obtain ⟨i0, hi, hz0, hz1, hz2⟩ := info_parts info_u32
  go_enter Tryz.func138, Tryz.ntmps138
  go_wp2_with (at_make; refine wpList_make_own _ rfl _ _ 22 rfl w.heap.size 140 i0 (.int .u32 0) 1 Tryz.underlying22 hi hz0 hz1 _ _ _ (ys.length + 1) rfl rfl (by omega) ?b2 ?b3 (Nat.le_refl _) ?_)
  case b2 => rw [hz2]; omega
  case b3 => unfold maxLen; omega
  intro w0 hown0 hgrow0
  go_wp2
  have n0 : Nw w w0 := (Below.refl _ _).grown hgrow0 (Nat.le_refl _) (fun k h => by cases h)
  go_loopw [5, 6, 25] (fun out cy ci wr => ∃ (k : Nat) (zs : List Int) (cc : Int), ci = .int .i64 k ∧ cy = .int .u32 cc ∧ Own wr w.heap.size 140 .u32 out zs ∧ SumAt ys xs k zs cc ∧ Nw w wr)
   (fun _ _ ci _ => ys.length - (intOf ci).toNat)
  case atStart => exact ⟨0, [], 0, rfl, rfl, hown0, SumAt.start _ _, n0⟩
  case round =>
   obtain ⟨k, zs, cc, rfl, rfl, ho, hs, hn⟩ := hrel
   have hkle := hs.le
   have hc0 := hs.c0
   have hc1 := hs.c1
   have hzl := hs.len
   have hs1 := hs.step dy dx
   by_cases hk : k < ys.length
   ·obtain ⟨ad, hA, hcell⟩ := rB.2 k hk
    subst hA
    have hcell := hn.kept _ _ _ hcell
    have hxk := dg_at dy (by decide) k
    have hyk := dg_at dx (by decide) k
    rw [b32_eq] at hxk hyk
    obtain ⟨hx0, hx1⟩ := hxk
    obtain ⟨hy0, hy1⟩ := hyk
    have HS := Lib.hid (hs1 hk)
    have HZ := Lib.hid hzl
    clear hs1 hs hzl
    by_cases hky : k < xs.length
    ·obtain ⟨bd, hB, hcellb⟩ := rA.2 k hky
     subst hB
     have hcellb := hn.kept _ _ _ hcellb
     go_wp2_with (first
      | (go_at_call 154; refine (add32_c _ _ _ _ ⟨hx0, hx1⟩ ⟨hy0, hy1⟩ ⟨hc0, hc1⟩).mono ?_; rintro e w' ⟨rfl, rfl⟩)
      | (at_builtin; refine wpList_append_own _ rfl (.tmp 45) (.tmp 47) 22 rfl w.heap.size 140 i0 (.int .u32 0) 1 4 Tryz.underlying22 hi hz0 hz1 hz2 rfl (by decide) _ _ _ rfl (ho.alloc _) ⟨wr.heap.size, 0, none⟩ 1 1 [.int .u32 ((at0 ys k + at0 xs k + cc) % 4294967296)] rfl rfl ?c1 ?c2 ?c3 ?c4 ?c5 ?_))
     case c1 => intro j u hu; exact cell_one_new _ _ _ j u hu
     case c2 => simp [Value.oneCell']
     case c3 => unfold maxLen; have := HZ.out; omega
     case c4 => have := HZ.out; omega
     case c5 => have := hn.size; simp; omega
     intro v1 w1 hown1 hgrow1 _
     go_wp2
     go_roundw
     case rel =>
      exact ⟨k + 1, _, _, by go_num, rfl, Own.cast hown1 (by simp) (by simp), HS.out, hn.grown _ ho hgrow1⟩
     case measure => simp [intOf]; omega
    ·have hyz : xs.length ≤ k := by omega
     have hyk0 : at0 xs k = 0 := at0_ge (by omega)
     rw [hyk0, Int.add_zero] at HS
     clear hyk0
     go_wp2_with (first
      | (go_at_call 154; refine (add32_c _ _ _ _ ⟨hx0, hx1⟩ ⟨Int.le_refl _, by decide⟩ ⟨hc0, hc1⟩).mono ?_; rintro e w' ⟨rfl, rfl⟩)
      | (at_builtin; refine wpList_append_own _ rfl (.tmp 45) (.tmp 47) 22 rfl w.heap.size 140 i0 (.int .u32 0) 1 4 Tryz.underlying22 hi hz0 hz1 hz2 rfl (by decide) _ _ _ rfl (ho.alloc _) ⟨wr.heap.size, 0, none⟩ 1 1 [.int .u32 ((at0 ys k + cc) % 4294967296)] rfl rfl ?c1 ?c2 ?c3 ?c4 ?c5 ?_))
     case c1 => intro j u hu; exact cell_one_new _ _ _ j u hu
     case c2 => simp [Value.oneCell']
     case c3 => unfold maxLen; have := HZ.out; omega
     case c4 => have := HZ.out; omega
     case c5 => have := hn.size; simp; omega
     intro v1 w1 hown1 hgrow1 _
     go_wp2
     go_roundw
     case rel =>
      exact ⟨k + 1, _, _, by go_num, rfl, Own.cast hown1 (by simp) (by simp), HS.out, hn.grown _ ho hgrow1⟩
     case measure => simp [intOf]; omega
   ·have hke : k = ys.length := by omega
    have HD := Lib.hid (hs.done hke hle')
    have HK := Lib.hid hke
    have HZ := Lib.hid hzl
    clear hs hs1 hke hzl
    go_wp2_with (at_builtin; refine wpList_append_own _ rfl (.tmp 51) (.tmp 53) 22 rfl w.heap.size 140 i0 (.int .u32 0) 1 4 Tryz.underlying22 hi hz0 hz1 hz2 rfl (by decide) _ _ _ rfl (ho.alloc _) ⟨wr.heap.size, 0, none⟩ 1 1 [.int .u32 cc] rfl rfl ?c1 ?c2 ?c3 ?c4 ?c5 ?_)
    case c1 => intro j u hu; exact cell_one_new _ _ _ j u hu
    case c2 => simp [Value.oneCell']
    case c3 => unfold maxLen; have := HZ.out; omega
    case c4 => have := HZ.out; omega
    case c5 => have := hn.size; simp; omega
    intro v1 w1 hown1 hgrow1 _
    go_wp2
    go_ret
    exact Ret.own (Own.cast (xs := zs ++ [cc]) hown1 (by simp) (by simp)) (by have := HD.out; exact ⟨this.1, by rw [this.2.1, Int.add_comm], by omega⟩) (hn.grown _ ho hgrow1)
end Go.Proofs.YthpjmhhfcechmaaGreat
/- The contracts of the program's loops on limbs: less, compared, and those of slices.Equal and slices.Clone. -/
namespace Go.Proofs.YthpjmhhfcechmaaGreat
open Go.RowKit Ma

structure LessAt (xs ys : List Int) (k : Nat) (zs : List Int) (c : Int) : Prop where
 le : k ≤ xs.length
 len : zs.length = k
 dg : dg b32 zs
 c0 : 0 ≤ c
 c1 : c ≤ 1
 eq : lv b32 zs = lv b32 (xs.take k) - lv b32 (ys.take k) + b32 ^ k * c
theorem LessAt.start (xs ys : List Int) : LessAt xs ys 0 [] 0 := ⟨by omega, rfl, dg_nil _, by omega, by omega, by simp [lv]⟩
theorem LessAt.step {xs ys : List Int} {k : Nat} {zs : List Int} {c : Int} (h : LessAt xs ys k zs c) (dx : Ma.dg b32 xs) (dy : Ma.dg b32 ys) (hk : k < xs.length) :
  LessAt xs ys (k + 1) (zs ++ [(at0 xs k - at0 ys k - c) % 4294967296]) (bor (at0 xs k) (at0 ys k) c) := by
 obtain ⟨h1, h2, h3, h4, h5, h6⟩ := h
 obtain ⟨x0, x1⟩ := dg_at dx (by decide) k
 obtain ⟨y0, y1⟩ := dg_at dy (by decide) k
 rw [b32_eq] at x1 y1
 refine ⟨by omega, by simp [h2], dg_append.2 ⟨h3, fun x hx => ?_⟩, (bor_le _ _ _).1, (bor_le _ _ _).2, ?_⟩
 ·rw [List.mem_singleton] at hx; rw [hx, b32_eq]; omega
 ·have ey : lv b32 (ys.take (k + 1)) = lv b32 (ys.take k) + b32 ^ k * at0 ys k := by
   by_cases hy : k < ys.length
   ·exact lv_take_succ _ _ _ hy
   ·rw [at0_zero (by omega), at0_ge (by omega)]; omega
  rw [lv_snoc, h2, lv_take_succ _ _ _ hk, ey, Int.pow_succ, bor_eq _ _ _ ⟨x0, x1⟩ ⟨y0, y1⟩ ⟨h4, h5⟩, h6]
  generalize bor (at0 xs k) (at0 ys k) c = q at *
  rw [b32_eq] at *
  grind
theorem LessAt.done {xs ys : List Int} {k : Nat} {zs : List Int} {c : Int} (h : LessAt xs ys k zs c) (hk : k = xs.length) (hl : ys.length ≤ xs.length) (hv : lv b32 ys ≤ lv b32 xs) :
  Ma.dg b32 zs ∧ lv b32 zs = lv b32 xs - lv b32 ys ∧ zs.length = xs.length := by
 obtain ⟨h1, h2, h3, h4, h5, h6⟩ := h
 subst hk
 rw [List.take_length, List.take_of_length_le hl] at h6
 have h7 := lv_lt (b := b32) (by decide) h3
 rw [h2] at h7
 have h8 := pos_pow (b := b32) (by decide) xs.length
 have : c = 0 := by
  by_cases hc : c = 1
  ·subst hc; omega
  ·omega
 subst this
 exact ⟨h3, by omega, h2⟩
set_option maxHeartbeats 800000 in
theorem less_c (A B : Option Addr) (c d : Nat) (xs ys : List Int) (w : World) (rA : Rd w .u32 A xs) (rB : Rd w .u32 B ys) (hc : xs.length ≤ c) (hd : ys.length ≤ d) (dx : dg b32 xs) (dy : dg b32 ys) (hl : xs.length ≤ 1000000) (hle : ys.length ≤ xs.length) (hv : lv b32 ys ≤ lv b32 xs) :
  Calls Tryz.prog 139 #[.slice A xs.length c, .slice B ys.length d] w (Ret w (KL .u32 fun zs => dg b32 zs ∧ lv b32 zs = lv b32 xs - lv b32 ys ∧ zs.length = xs.length)) := by
 obtain ⟨i0, hi, hz0, hz1, hz2⟩ := info_parts info_u32
 go_enter Tryz.func139, Tryz.ntmps139
 go_wp2_with (at_make; refine wpList_make_own _ rfl _ _ 22 rfl w.heap.size 140 i0 (.int .u32 0) 1 Tryz.underlying22 hi hz0 hz1 _ _ _ xs.length rfl rfl (by omega) ?b2 ?b3 (Nat.le_refl _) ?_)
 case b2 => rw [hz2]; omega
 case b3 => unfold maxLen; omega
 intro w0 hown0 hgrow0
 have n0 : Nw w w0 := (Below.refl _ _).grown hgrow0 (Nat.le_refl _) (fun k h => by cases h)
 go_wp2
 go_loopw [5, 6, 17] (fun out cy ci wr => ∃ (k : Nat) (zs : List Int) (cc : Int), ci = .int .i64 k ∧ cy = .int .u32 cc ∧ Own wr w.heap.size 140 .u32 out zs ∧ LessAt xs ys k zs cc ∧ Nw w wr)
  (fun _ _ ci _ => xs.length - (intOf ci).toNat)
 case atStart => exact ⟨0, [], 0, rfl, rfl, hown0, LessAt.start _ _, n0⟩
 case round =>
  obtain ⟨k, zs, cc, rfl, rfl, ho, hs, hn⟩ := hrel
  have hkle := hs.le
  have hc0 := hs.c0
  have hc1 := hs.c1
  have hzl := hs.len
  have hs1 := hs.step dx dy
  by_cases hk : k < xs.length
  ·obtain ⟨ad, hA, hcell⟩ := rA.2 k hk
   subst hA
   have hcell := hn.kept _ _ _ hcell
   have hxk := dg_at dx (by decide) k
   have hyk := dg_at dy (by decide) k
   rw [b32_eq] at hxk hyk
   obtain ⟨hx0, hx1⟩ := hxk
   obtain ⟨hy0, hy1⟩ := hyk
   have HS := Lib.hid (hs1 hk)
   have HZ := Lib.hid hzl
   clear hs1 hs hzl
   by_cases hky : k < ys.length
   ·obtain ⟨bd, hB, hcellb⟩ := rB.2 k hky
    subst hB
    have hcellb := hn.kept _ _ _ hcellb
    go_wp2_with (first
     | (go_at_call 155; refine (sub32_c _ _ _ _ ⟨hx0, hx1⟩ ⟨hy0, hy1⟩ ⟨hc0, hc1⟩).mono ?_; rintro e w' ⟨rfl, rfl⟩)
     | (at_builtin; refine wpList_append_own _ rfl (.tmp 37) (.tmp 39) 22 rfl w.heap.size 140 i0 (.int .u32 0) 1 4 Tryz.underlying22 hi hz0 hz1 hz2 rfl (by decide) _ _ _ rfl (ho.alloc _) ⟨wr.heap.size, 0, none⟩ 1 1 [.int .u32 ((at0 xs k - at0 ys k - cc) % 4294967296)] rfl rfl ?c1 ?c2 ?c3 ?c4 ?c5 ?_))
    case c1 => intro j u hu; exact cell_one_new _ _ _ j u hu
    case c2 => simp [Value.oneCell']
    case c3 => unfold maxLen; have := HZ.out; omega
    case c4 => have := HZ.out; omega
    case c5 => have := hn.size; simp; omega
    intro v1 w1 hown1 hgrow1 _
    go_wp2
    go_roundw
    case rel =>
     exact ⟨k + 1, _, _, by go_num, rfl, Own.cast hown1 (by simp) (by simp), HS.out, hn.grown _ ho hgrow1⟩
    case measure => simp [intOf]; omega
   ·have hyz : ys.length ≤ k := by omega
    have hyk0 : at0 ys k = 0 := at0_ge (by omega)
    rw [hyk0, Int.sub_zero] at HS
    clear hyk0
    go_wp2_with (first
     | (go_at_call 155; refine (sub32_c _ _ _ _ ⟨hx0, hx1⟩ ⟨Int.le_refl _, by decide⟩ ⟨hc0, hc1⟩).mono ?_; rintro e w' ⟨rfl, rfl⟩)
     | (at_builtin; refine wpList_append_own _ rfl (.tmp 37) (.tmp 39) 22 rfl w.heap.size 140 i0 (.int .u32 0) 1 4 Tryz.underlying22 hi hz0 hz1 hz2 rfl (by decide) _ _ _ rfl (ho.alloc _) ⟨wr.heap.size, 0, none⟩ 1 1 [.int .u32 ((at0 xs k  - cc) % 4294967296)] rfl rfl ?c1 ?c2 ?c3 ?c4 ?c5 ?_))
    case c1 => intro j u hu; exact cell_one_new _ _ _ j u hu
    case c2 => simp [Value.oneCell']
    case c3 => unfold maxLen; have := HZ.out; omega
    case c4 => have := HZ.out; omega
    case c5 => have := hn.size; simp; omega
    intro v1 w1 hown1 hgrow1 _
    go_wp2
    go_roundw
    case rel =>
     exact ⟨k + 1, _, _, by go_num, rfl, Own.cast hown1 (by simp) (by simp), HS.out, hn.grown _ ho hgrow1⟩
    case measure => simp [intOf]; omega
  ·have hke : k = xs.length := by omega
   have HD := Lib.hid (hs.done hke hle hv)
   have HK := Lib.hid hke
   have HZ := Lib.hid hzl
   clear hs hs1 hke hzl
   go_wp2
   go_ret
   exact Ret.own ho HD.out hn
def cmp (x y : Int) : Int := if x < y then -1 else if x = y then 0 else 1
theorem lv_lt_of_len {b : Int} (hb : 1 < b) {xs ys : List Int} (dx : dg b xs) (dy : dg b ys) (ty : top ys) (h : xs.length < ys.length) : lv b xs < lv b ys := by
 have h1 := lv_lt (by omega) dx
 have h2 := top_le (by omega) dy ty (by intro e; subst e; simp at h)
 have h3 := pow_le (b := b) (by omega) (show xs.length ≤ ys.length - 1 by omega)
 omega
theorem lv_cmp_step {b : Int} (hb : 0 < b) {xs ys : List Int} (dx : dg b xs) (dy : dg b ys) {k : Nat} (hx : k < xs.length) (hy : k < ys.length) (h : lv b (xs.drop (k + 1)) = lv b (ys.drop (k + 1))) (hlt : at0 xs k < at0 ys k) (hl : xs.length = ys.length) : lv b xs < lv b ys := by
 have e1 := lv_split b xs k (by omega)
 have e2 := lv_split b ys k (by omega)
 rw [lv_drop b xs k hx] at e1
 rw [lv_drop b ys k hy] at e2
 have h1 := lv_lt hb (dg_take dx k)
 have h2 := lv_nonneg hb (dg_take dy k)
 rw [List.length_take, Nat.min_eq_left (by omega)] at h1
 have h3 : b ^ k * (at0 xs k + 1) ≤ b ^ k * at0 ys k := Int.mul_le_mul_of_nonneg_left (by omega) (Int.le_of_lt (pos_pow hb k))
 rw [e1, e2, h, Int.mul_add, Int.mul_add]
 rw [Int.mul_add] at h3
 omega
set_option maxHeartbeats 800000 in
theorem compared_c (A B : Option Addr) (c d : Nat) (xs ys : List Int) (w : World) (rA : Rd w .u32 A xs) (rB : Rd w .u32 B ys) (dx : dg b32 xs) (dy : dg b32 ys) (tx : top xs) (ty : top ys) :
  Calls Tryz.prog 94 #[.slice A xs.length c, .slice B ys.length d] w (Ret w (KV (.int .i64 (cmp (lv b32 xs) (lv b32 ys))))) := by
 have hlx := rA.1
 by_cases hl : xs.length = ys.length
 ·have hlb : (xs.length == ys.length) = true := by simpa using hl
  have hlb' : (xs.length != ys.length) = false := by simpa using hl
  have HL := Lib.hid hl
  have hly : ys.length ≤ xs.length := by omega
  clear hl
  have hz : lv b32 (xs.drop xs.length) = lv b32 (ys.drop xs.length) := by rw [List.drop_length, List.drop_eq_nil_of_le hly]
  go_enter Tryz.func94, Tryz.ntmps94
  go_wp2
  go_loopw [5] (fun ci wr => ((∃ k : Nat, ci = .int .i64 k ∧ k < xs.length ∧ lv b32 (xs.drop (k + 1)) = lv b32 (ys.drop (k + 1))) ∨ (ci = .int .i64 (-1) ∧ lv b32 (xs.drop 0) = lv b32 (ys.drop 0))) ∧ Nw w wr)
   (fun ci _ => (intOf ci + 1).toNat)
  case atStart =>
   refine ⟨?_, Nw.refl w⟩
   by_cases h0 : xs.length = 0
   ·refine .inr ⟨by rw [h0]; rfl, ?_⟩
    rw [← h0]; exact hz
   ·refine .inl ⟨xs.length - 1, ?_, by omega, ?_⟩
    ·rw [show ((xs.length : Int) - 1) = ((xs.length - 1 : Nat) : Int) by omega]
    ·rw [Nat.sub_add_cancel (by omega)]; exact hz
  case round =>
   obtain ⟨hc | hc, hn⟩ := hrel
   ·obtain ⟨k, rfl, hk, he⟩ := hc
    have hky : k < ys.length := by have := HL.out; omega
    obtain ⟨ad, hA, hcell⟩ := rA.2 k hk
    obtain ⟨bd, hB, hcellb⟩ := rB.2 k hky
    subst hA hB
    have hcell := hn.kept _ _ _ hcell
    have hcellb := hn.kept _ _ _ hcellb
    have HE := Lib.hid he
    have hk0 : (0 : Int) ≤ (k : Int) := by omega
    have hki : (k : Int) < (xs.length : Int) := by omega
    have hkyi : (k : Int) < (ys.length : Int) := by omega
    clear he hz
    by_cases heq : at0 xs k = at0 ys k
    ·have hb1 : (at0 xs k != at0 ys k) = false := by simpa using heq
     have HQ := Lib.hid heq
     clear heq
     go_wp2
     go_quiet (fail)
     go_wp2
     go_roundw
     case rel =>
      refine ⟨?_, hn.drewN _⟩
      have e2 : lv b32 (xs.drop k) = lv b32 (ys.drop k) := by rw [lv_drop _ _ _ hk, lv_drop _ _ _ hky, HQ.out, HE.out]
      by_cases h0 : k = 0
      ·subst h0; exact .inr ⟨rfl, e2⟩
      ·refine .inl ⟨k - 1, ?_, by omega, by rw [Nat.sub_add_cancel (by omega)]; exact e2⟩
       show Value.int .i64 ((k : Int) - 1) = .int .i64 ((k - 1 : Nat) : Int)
       rw [show ((k : Int) - 1) = ((k - 1 : Nat) : Int) by omega]
     case measure => simp [intOf]
    ·have hb1 : (at0 xs k != at0 ys k) = true := by simpa using heq
     by_cases hlt : at0 xs k < at0 ys k
     ·have hres : cmp (lv b32 xs) (lv b32 ys) = -1 := by
       unfold cmp; rw [if_pos (lv_cmp_step (by decide) dx dy hk hky HE.out hlt HL.out)]
      have HR := Lib.hid hres
      clear hres heq
      go_wp2
      go_quiet (fail)
      go_wp2
      go_quiet (fail)
      go_wp2
      go_ret
      exact Ret.Veq (by rw [HR.out]; rfl) ((hn.drewN _).drewN _)
     ·have hres : cmp (lv b32 xs) (lv b32 ys) = 1 := by
       have := lv_cmp_step (by decide) dy dx hky hk HE.out.symm (by omega) HL.out.symm
       unfold cmp; rw [if_neg (by omega), if_neg (by omega)]
      have HR := Lib.hid hres
      clear hres heq
      go_wp2
      go_quiet (fail)
      go_wp2
      go_quiet (fail)
      go_wp2
      go_ret
      exact Ret.Veq (by rw [HR.out]; rfl) ((hn.drewN _).drewN _)
   ·obtain ⟨rfl, he⟩ := hc
    have hres : cmp (lv b32 xs) (lv b32 ys) = 0 := by
     rw [List.drop_zero, List.drop_zero] at he
     unfold cmp; rw [if_neg (by omega), if_pos he]
    have HR := Lib.hid hres
    clear hres he hz
    go_wp2
    go_ret
    exact Ret.Veq (by rw [HR.out]; rfl) hn
 ·have hlb : ((xs.length : Int) != (ys.length : Int)) = true := by simp; omega
  by_cases hlt : xs.length < ys.length
  ·have hres : cmp (lv b32 xs) (lv b32 ys) = -1 := by
    unfold cmp; rw [if_pos (lv_lt_of_len (by decide) dx dy ty hlt)]
   have HR := Lib.hid hres
   clear hres hl
   go_enter Tryz.func94, Tryz.ntmps94
   go_wp2
   go_ret
   exact Ret.Veq (by rw [HR.out]; rfl) (Nw.refl w)
  ·have hres : cmp (lv b32 xs) (lv b32 ys) = 1 := by
    have := lv_lt_of_len (by decide) dy dx tx (show ys.length < xs.length by omega)
    unfold cmp; rw [if_neg (by omega), if_neg (by omega)]
   have HR := Lib.hid hres
   clear hres hl
   go_enter Tryz.func94, Tryz.ntmps94
   go_wp2
   go_ret
   exact Ret.Veq (by rw [HR.out]; rfl) (Nw.refl w)
set_option maxHeartbeats 800000 in
theorem equal_c (A B : Option Addr) (c d : Nat) (xs ys : List Int) (w : World) (rA : Rd w .u32 A xs) (rB : Rd w .u32 B ys) :
  Calls Tryz.prog 101 #[.slice A xs.length c, .slice B ys.length d] w (Ret w (KV (.bool (decide (xs = ys))))) := by
 have hlx := rA.1
 by_cases hl : xs.length = ys.length
 ·have hlb : ((xs.length : Int) != (ys.length : Int)) = false := by simp; omega
  have HL := Lib.hid hl
  have hly : ys.length ≤ xs.length := by omega
  clear hl
  go_enter Tryz.func101, Tryz.ntmps101
  go_wp2
  go_loopw [5, 13] (fun _ ci wr => (∃ k : Nat, ci = .int .i64 k ∧ k ≤ xs.length ∧ xs.take k = ys.take k) ∧ Nw w wr)
   (fun _ ci _ => xs.length - (intOf ci).toNat)
  case atStart => exact ⟨⟨0, rfl, by omega, by simp⟩, Nw.refl w⟩
  case round =>
   obtain ⟨⟨k, rfl, hk, he⟩, hn⟩ := hrel
   have HE := Lib.hid he
   clear he
   by_cases hlt : k < xs.length
   ·have hky : k < ys.length := by have := HL.out; omega
    obtain ⟨ad, hA, hcell⟩ := rA.2 k hlt
    obtain ⟨bd, hB, hcellb⟩ := rB.2 k hky
    subst hA hB
    have hcell := hn.kept _ _ _ hcell
    have hcellb := hn.kept _ _ _ hcellb
    have hk0 : (0 : Int) ≤ (k : Int) := by omega
    have hki : (k : Int) < (xs.length : Int) := by omega
    have hkyi : (k : Int) < (ys.length : Int) := by omega
    by_cases heq : at0 xs k = at0 ys k
    ·have hb1 : (at0 xs k != at0 ys k) = false := by simpa using heq
     have HQ := Lib.hid heq
     clear heq
     go_wp2
     go_quiet (fail)
     go_wp2
     go_roundw
     case rel =>
      refine ⟨⟨k + 1, by go_num, by omega, ?_⟩, hn.drewN _⟩
      rw [List.take_succ_eq_append_getElem hlt, List.take_succ_eq_append_getElem hky, HE.out]
      have := HQ.out
      rw [at0_of_lt hlt, at0_of_lt hky] at this
      rw [this]
     case measure => simp [intOf]; omega
    ·have hb1 : (at0 xs k != at0 ys k) = true := by simpa using heq
     have hres : decide (xs = ys) = false := by simp; intro e; subst e; exact heq rfl
     have HR := Lib.hid hres
     clear hres heq
     go_wp2
     go_quiet (fail)
     go_wp2
     go_ret
     exact Ret.Veq (by rw [HR.out]; rfl) (hn.drewN _)
   ·have hres : decide (xs = ys) = true := by
     simp
     have := HE.out
     rwa [List.take_of_length_le (by omega), List.take_of_length_le (by omega)] at this
    have HR := Lib.hid hres
    clear hres
    go_wp2
    go_ret
    exact Ret.Veq (by rw [HR.out]; rfl) hn
 ·have hlb : ((xs.length : Int) != (ys.length : Int)) = true := by simp; omega
  have hres : decide (xs = ys) = false := by simp; intro e; subst e; exact hl rfl
  have HR := Lib.hid hres
  clear hres hl
  go_enter Tryz.func101, Tryz.ntmps101
  go_wp2
  go_ret
  exact Ret.Veq (by rw [HR.out]; rfl) (Nw.refl w)
set_option maxHeartbeats 800000 in
set_option maxRecDepth 100000 in
theorem clone_o (A : Option Addr) (c : Nat) (xs : List Int) (w : World) (rA : Rd w .u32 A xs) (hl : xs.length ≤ 1000000) :
  Calls Tryz.prog 116 #[.slice A xs.length c] w (Ret w (fun v W => Own W w.heap.size 140 .u32 v xs)) := by
 obtain ⟨i0, hi, hz0, hz1, hz2⟩ := info_parts info_u32
 cases A with
 | none =>
  have h0 : xs = [] := by
   cases xs with
   | nil => rfl
   | cons x xs => obtain ⟨ad, e, _⟩ := rA.2 0 (by simp); cases e
  subst h0
  have hnn := fun (w : World) (n c : Nat) => Lib.run_eql_slice_nil (P := Tryz.prog) w 22 140 none n c 0 0 Tryz.underlying22
  go_enter Tryz.func116, Tryz.ntmps116
  go_wp2
  go_ret
  exact ⟨_, rfl, Own.nil w _ _ .u32, Nw.refl w⟩
 | some ad =>
  have hnn := fun (w : World) (n c : Nat) => Lib.run_eql_slice_nil (P := Tryz.prog) w 22 140 (some ad) n c 0 0 Tryz.underlying22
  go_enter Tryz.func116, Tryz.ntmps116
  have RA := Lib.hid rA
  clear rA
  go_wp2_with (at_builtin; refine wpList_append_own _ rfl _ _ 22 rfl w.heap.size 140 i0 (.int .u32 0) 1 4 Tryz.underlying22 hi hz0 hz1 hz2 rfl (by decide) _ _ _ rfl (World.ownsRow_made w #[] 0 (Nat.le_refl _) (Nat.zero_le _) rfl) ad xs.length c (xs.map (Value.int .u32)) rfl ?c0 ?c1 ?c2 ?c3 ?c4 ?c5 ?_)
  case c0 => simp
  case c1 =>
   intro j u hu
   have hj : j < xs.length := by have := (List.getElem?_eq_some_iff.1 hu).1; simpa using this
   obtain ⟨ad', e, hcell⟩ := RA.out.2 j hj
   injection e with e
   subst e
   rw [List.getElem?_map, List.getElem?_eq_getElem hj] at hu
   injection hu with hu
   subst hu
   rw [at0_of_lt hj] at hcell
   exact Lib.cell?_alloc_some _ hcell
  case c2 => intro u hu; obtain ⟨x, _, rfl⟩ := List.mem_map.1 hu; rfl
  case c3 => unfold maxLen; omega
  case c4 => omega
  case c5 => simp
  intro v' w1 hown hgrow _
  go_wp2
  go_ret
  exact ⟨_, rfl, Own.cast (xs := xs) hown (by simp) (by simp), (Below.grown ((Nw.refl w).alloc _) hgrow (by simp) (by intro k hk; simp [Value.ownBlock] at hk; omega))⟩
theorem clone_c (A : Option Addr) (c : Nat) (xs : List Int) (w : World) (rA : Rd w .u32 A xs) (hl : xs.length ≤ 1000000) :
  Calls Tryz.prog 116 #[.slice A xs.length c] w (Ret w (KL .u32 fun zs => xs = zs)) :=
 (clone_o A c xs w rA hl).mono fun e w' ⟨v, e1, ho, hb⟩ => by obtain ⟨A', c', rfl, h1, h2⟩ := ho.rd; exact ⟨_, e1, ⟨xs, A', c', rfl, h1, h2, rfl⟩, hb⟩
end Go.Proofs.YthpjmhhfcechmaaGreat
/- The contracts of the program's Add, Neg, Sub, Cmp, Abs, Sign, Odd, Make, Limbs, small and New. -/
namespace Go.Proofs.YthpjmhhfcechmaaGreat
open Go.RowKit Ma

theorem RI.len_le {w : World} {n : Bool} {A : Option Addr} {l c : Nat} {z : Int} (h : RI w n A l c z) (k : Nat) (h1 : -(b32 ^ k) < z) (h2 : z < b32 ^ k) : l ≤ k := by
 obtain ⟨xs, rfl, _, _, d, t, nz, rfl⟩ := h
 by_cases hne : xs = []
 ·subst hne; simp
 ·have h3 := top_le (b := b32) (by decide) d t hne
  have h4 : lv b32 xs < b32 ^ k := by cases n <;> simp [sg] at h1 h2 <;> omega
  by_cases hk : xs.length ≤ k
  ·exact hk
  ·have := pow_le (b := b32) (by decide) (show k ≤ xs.length - 1 by omega)
   omega
theorem RI.abs_lt {w : World} {n : Bool} {A : Option Addr} {l c : Nat} {z : Int} (h : RI w n A l c z) : -(b32 ^ l) < z ∧ z < b32 ^ l := by
 obtain ⟨xs, rfl, _, _, d, t, nz, rfl⟩ := h
 have h1 := lv_lt (b := b32) (by decide) d
 have h2 := lv_nonneg (b := b32) (by decide) d
 have h3 := pos_pow (b := b32) (by decide) xs.length
 unfold sg
 split <;> omega
theorem ret_L {P : Program} {f : FuncId} {args : Array Value} {w : World} {k : IntKind} {p q : List Int → Prop} (h : Calls P f args w (Ret w (KL k p))) (hpq : ∀ zs, p zs → q zs) : Calls P f args w (Ret w (KL k q)) :=
 h.mono fun _ _ ⟨v, e, ⟨zs, A, c, e2, h1, h2, h3⟩, hb⟩ => ⟨v, e, ⟨zs, A, c, e2, h1, h2, hpq zs h3⟩, hb⟩
set_option maxHeartbeats 1600000 in
theorem add_c {x y : Int} {n m : Bool} {A B : Option Addr} {l l' c d : Nat} {w : World} (hx : RI w n A l c x) (hy : RI w m B l' d y) (hl : l ≤ 500000) (hl' : l' ≤ 500000) :
  Calls Tryz.prog 98 #[.agg #[.bool n, .slice A l c], .agg #[.bool m, .slice B l' d]] w (Ret w (KI (x + y))) := by
 obtain ⟨xs, rfl, hc, rA, dx, tx, nx, rfl⟩ := hx
 obtain ⟨ys, rfl, hd, rB, dy, ty, ny, rfl⟩ := hy
 have nw1 : Nw w (((w.alloc (.cells #[.bool n, .slice A xs.length c] 31)).alloc (.cells #[.bool m, .slice B ys.length d] 31)).alloc (.cells #[.bool false, .slice none 0 0] 31)) := (((Nw.refl w).alloc _).alloc _).alloc _
 have sg0 : Sg [(w.heap.size, 0, Value.bool n), (w.heap.size, 1, Value.slice A xs.length c), (w.heap.size + 1, 0, Value.bool m), (w.heap.size + 1, 1, Value.slice B ys.length d)] (w.heap.size + 1 + 1) 2 (((w.alloc (.cells #[.bool n, .slice A xs.length c] 31)).alloc (.cells #[.bool m, .slice B ys.length d] 31)).alloc (.cells #[.bool false, .slice none 0 0] 31)) := by
  refine ⟨⟨by go_simp, by go_simp, by go_simp, by go_simp, trivial⟩, ?_, by go_simp⟩
  have := box_two ((w.alloc (.cells #[.bool n, .slice A xs.length c] 31)).alloc (.cells #[.bool m, .slice B ys.length d] 31)) 31 false none 0 0
  simpa using this
 have RA := Lib.hid rA
 have RB := Lib.hid rB
 clear rA rB
 by_cases hnm : n = m
 ·subst hnm
  have hnn : (n == n) = true := by simp
  have nw0 := nw1
  have sgn : Nw _ _ := Nw.refl (((w.alloc (.cells #[.bool n, .slice A xs.length c] 31)).alloc (.cells #[.bool n, .slice B ys.length d] 31)).alloc (.cells #[.bool false, .slice none 0 0] 31))
  have hres : sg n (lv b32 xs + lv b32 ys) = sg n (lv b32 xs) + sg n (lv b32 ys) := by cases n <;> simp [sg] <;> omega
  have HRES := Lib.hid hres
  clear hres
  go_enter Tryz.func98, Tryz.ntmps98
  go_wp2
  have n1 : Nw w _ := (nw0).drew
  have hw : w.heap.size ≤ w.heap.size + 1 + 1 := by omega
  refine region_std [(w.heap.size, 0, Value.bool n), (w.heap.size, 1, Value.slice A xs.length c), (w.heap.size + 1, 0, Value.bool n), (w.heap.size + 1, 1, Value.slice B ys.length d)] (w.heap.size + 1 + 1) 2 8 [(6, KL .u32 (fun zs => dg b32 zs ∧ lv b32 zs = lv b32 xs + lv b32 ys)), (7, KI (sg n (lv b32 xs + lv b32 ys))), (8, KB (w.heap.size + 1 + 1) (sg n (lv b32 xs + lv b32 ys)))] (by kernel_rfl) (by kernel_rfl) (by kernel_rfl) (by kernel_rfl) ?_ ⟨.inr (KL.st _ _), .inr (KI.st _), .inl rfl, trivial⟩ (sg0.nw sgn.drew) ?_
  ·first | trivial | (simp only [Low, and_true]; omega)
  repeat
   apply Rg.wpK_quiet rfl rfl
   case hq => intro W hS; obtain ⟨⟨q1, q2, q3, q4, _⟩, _⟩ := hS; go_simp; exact rfl
   case he => exact (by simp only [Act.put, List.setIfInBounds_toArray, List.set_cons_zero, List.set_cons_succ]; exact rfl)
  apply Rg.wpK_know rfl rfl
  case ha =>
   intro W hR hS hF
   have hn := n1.rr hR hw
   obtain ⟨⟨q1, q2, q3, q4, _⟩, hB, hr⟩ := hS
   unfold Rg.gives
   go_simp
   exact Rg.gives_enter (call_inr (ret_L (sum_c A B c d xs ys _ (RA.out.kept hn.kept) (RB.out.kept hn.kept) hc hd dx dy (by omega) (by omega)) (fun zs h => ⟨h.1, h.2.1⟩)) hr)
  intro u hu
  obtain ⟨W0, hw1, hw2, hf⟩ := hu
  obtain ⟨zs, C6, c6, e0, hx⟩ := Rg.upd_at rfl (hf 6)
  obtain ⟨l6, e1⟩ : ∃ n, n = zs.length := ⟨_, rfl⟩
  rw [← e1] at e0
  subst e0
  clear hx e1
  have hx := trivial
  refine ⟨_, (by simp only [Act.put, List.setIfInBounds_toArray, List.set_cons_zero, List.set_cons_succ]; exact rfl), ?_⟩
  clear hf hw1 hw2 hx W0
  repeat
   apply Rg.wpK_quiet rfl rfl
   case hq => intro W hS; obtain ⟨⟨q1, q2, q3, q4, _⟩, _⟩ := hS; go_simp; exact rfl
   case he => exact (by simp only [Act.put, List.setIfInBounds_toArray, List.set_cons_zero, List.set_cons_succ]; exact rfl)
  apply Rg.wpK_know rfl rfl
  case ha =>
   intro W hR hS hF
   have hn := n1.rr hR hw
   obtain ⟨⟨q1, q2, q3, q4, _⟩, hB, hr⟩ := hS
   have h6 := KL.slice (Rg.upd_at rfl (hF 6 (by kernel_rfl)))
   obtain ⟨z6, e6, hc6, r6, p6⟩ := h6
   subst e6
   unfold Rg.gives
   go_simp
   exact Rg.gives_enter (call_inr (ret_eq (made_c n _ _ z6 _ r6 hc6 p6.1) (by rw [p6.2])) hr)
  intro u hu
  obtain ⟨W0, hw1, hw2, hf⟩ := hu
  obtain ⟨m7, D7, l7, c7, rfl, hx⟩ := Rg.upd_at rfl (hf 7)
  refine ⟨_, (by simp only [Act.put, List.setIfInBounds_toArray, List.set_cons_zero, List.set_cons_succ]; exact rfl), ?_⟩
  clear hf hw1 hw2 hx W0
  repeat
   apply Rg.wpK_quiet rfl rfl
   case hq => intro W hS; obtain ⟨⟨q1, q2, q3, q4, _⟩, _⟩ := hS; go_simp; exact rfl
   case he => exact (by simp only [Act.put, List.setIfInBounds_toArray, List.set_cons_zero, List.set_cons_succ]; exact rfl)
  apply Rg.wpK_know rfl rfl
  case ha =>
   intro W hR hS hF
   have hn := n1.rr hR hw
   obtain ⟨⟨q1, q2, q3, q4, _⟩, hB, hr⟩ := hS
   have i7 := KI.agg (Rg.upd_at rfl (hF 7 (by kernel_rfl)))
   obtain ⟨⟨v0, hv0, hn0⟩, hf0⟩ := hB 0 (by omega)
   obtain ⟨⟨v1, hv1, hn1⟩, hf1⟩ := hB 1 (by omega)
   unfold Rg.gives
   go_simp
   exact Rg.gives_skip (store_I hB i7)
  intro u hu
  obtain ⟨W0, hw1, hw2, hf⟩ := hu
  have hx := trivial
  refine ⟨_, (by simp only [Act.put, List.setIfInBounds_toArray, List.set_cons_zero, List.set_cons_succ]; exact rfl), ?_⟩
  clear hf hw1 hw2 hx W0
  repeat
   apply Rg.wpK_quiet rfl rfl
   case hq => intro W hS; obtain ⟨⟨q1, q2, q3, q4, _⟩, _⟩ := hS; go_simp; exact rfl
   case he => exact (by simp only [Act.put, List.setIfInBounds_toArray, List.set_cons_zero, List.set_cons_succ]; exact rfl)
  refine Rg.wpK_end fun w9 hR hS hF => ?_
  have hn := n1.rr hR hw
  obtain ⟨m', D', l', c', hc0, hc1, hi⟩ := Rg.upd_at rfl (hF 8)
  go_wp2
  exact bodyPost_ret (v := .agg #[.bool m', .slice D' l' c']) (by simp [results, Tryz.results98, go_sem, hc0, hc1]) rfl (Ret.I (RI.eq hi (HRES.out)) hn)
 ·have hnn : (n == m) = false := by simpa using hnm
  by_cases hge : lv b32 ys ≤ lv b32 xs
  ·have hcm : decide (0 ≤ cmp (lv b32 xs) (lv b32 ys)) = true := by unfold cmp; simp; split <;> (try split) <;> omega
   have hlen : ys.length ≤ xs.length := length_le (b := b32) (by decide) dy dx ty hge
   have hres : sg n (lv b32 xs - lv b32 ys) = sg n (lv b32 xs) + sg m (lv b32 ys) := by cases n <;> cases m <;> simp [sg] at hnm ⊢ <;> omega
   have HRES := Lib.hid hres
   clear hres hnm
   go_enter Tryz.func98, Tryz.ntmps98
   go_wp2_with (go_at_call 94; refine (compared_c A B c d xs ys _ (RA.out.kept nw1.kept) (RB.out.kept nw1.kept) dx dy tx ty).mono ?_; rintro e w1 ⟨_, rfl, rfl, hb⟩)
   have nw0 : Nw w w1 := nw1.trans hb
   have sgn := hb
   have n1 : Nw w _ := (nw0).drew
   have hw : w.heap.size ≤ w.heap.size + 1 + 1 := by omega
   refine region_std [(w.heap.size, 0, Value.bool n), (w.heap.size, 1, Value.slice A xs.length c), (w.heap.size + 1, 0, Value.bool m), (w.heap.size + 1, 1, Value.slice B ys.length d)] (w.heap.size + 1 + 1) 2 8 [(6, KL .u32 (fun zs => dg b32 zs ∧ lv b32 zs = lv b32 xs - lv b32 ys)), (7, KI (sg n (lv b32 xs - lv b32 ys))), (8, KB (w.heap.size + 1 + 1) (sg n (lv b32 xs - lv b32 ys)))] (by kernel_rfl) (by kernel_rfl) (by kernel_rfl) (by kernel_rfl) ?_ ⟨.inr (KL.st _ _), .inr (KI.st _), .inl rfl, trivial⟩ (sg0.nw sgn.drew) ?_
   ·first | trivial | (simp only [Low, and_true]; omega)
   repeat
    apply Rg.wpK_quiet rfl rfl
    case hq => intro W hS; obtain ⟨⟨q1, q2, q3, q4, _⟩, _⟩ := hS; go_simp; exact rfl
    case he => exact (by simp only [Act.put, List.setIfInBounds_toArray, List.set_cons_zero, List.set_cons_succ]; exact rfl)
   apply Rg.wpK_know rfl rfl
   case ha =>
    intro W hR hS hF
    have hn := n1.rr hR hw
    obtain ⟨⟨q1, q2, q3, q4, _⟩, hB, hr⟩ := hS
    unfold Rg.gives
    go_simp
    exact Rg.gives_enter (call_inr (ret_L (less_c A B c d xs ys _ (RA.out.kept hn.kept) (RB.out.kept hn.kept) hc hd dx dy (by omega) hlen hge) (fun zs h => ⟨h.1, h.2.1⟩)) hr)
   intro u hu
   obtain ⟨W0, hw1, hw2, hf⟩ := hu
   obtain ⟨zs, C6, c6, e0, hx⟩ := Rg.upd_at rfl (hf 6)
   obtain ⟨l6, e1⟩ : ∃ n, n = zs.length := ⟨_, rfl⟩
   rw [← e1] at e0
   subst e0
   clear hx e1
   have hx := trivial
   refine ⟨_, (by simp only [Act.put, List.setIfInBounds_toArray, List.set_cons_zero, List.set_cons_succ]; exact rfl), ?_⟩
   clear hf hw1 hw2 hx W0
   repeat
    apply Rg.wpK_quiet rfl rfl
    case hq => intro W hS; obtain ⟨⟨q1, q2, q3, q4, _⟩, _⟩ := hS; go_simp; exact rfl
    case he => exact (by simp only [Act.put, List.setIfInBounds_toArray, List.set_cons_zero, List.set_cons_succ]; exact rfl)
   apply Rg.wpK_know rfl rfl
   case ha =>
    intro W hR hS hF
    have hn := n1.rr hR hw
    obtain ⟨⟨q1, q2, q3, q4, _⟩, hB, hr⟩ := hS
    have h6 := KL.slice (Rg.upd_at rfl (hF 6 (by kernel_rfl)))
    obtain ⟨z6, e6, hc6, r6, p6⟩ := h6
    subst e6
    unfold Rg.gives
    go_simp
    exact Rg.gives_enter (call_inr (ret_eq (made_c n _ _ z6 _ r6 hc6 p6.1) (by rw [p6.2])) hr)
   intro u hu
   obtain ⟨W0, hw1, hw2, hf⟩ := hu
   obtain ⟨m7, D7, l7, c7, rfl, hx⟩ := Rg.upd_at rfl (hf 7)
   refine ⟨_, (by simp only [Act.put, List.setIfInBounds_toArray, List.set_cons_zero, List.set_cons_succ]; exact rfl), ?_⟩
   clear hf hw1 hw2 hx W0
   repeat
    apply Rg.wpK_quiet rfl rfl
    case hq => intro W hS; obtain ⟨⟨q1, q2, q3, q4, _⟩, _⟩ := hS; go_simp; exact rfl
    case he => exact (by simp only [Act.put, List.setIfInBounds_toArray, List.set_cons_zero, List.set_cons_succ]; exact rfl)
   apply Rg.wpK_know rfl rfl
   case ha =>
    intro W hR hS hF
    have hn := n1.rr hR hw
    obtain ⟨⟨q1, q2, q3, q4, _⟩, hB, hr⟩ := hS
    have i7 := KI.agg (Rg.upd_at rfl (hF 7 (by kernel_rfl)))
    obtain ⟨⟨v0, hv0, hn0⟩, hf0⟩ := hB 0 (by omega)
    obtain ⟨⟨v1, hv1, hn1⟩, hf1⟩ := hB 1 (by omega)
    unfold Rg.gives
    go_simp
    exact Rg.gives_skip (store_I hB i7)
   intro u hu
   obtain ⟨W0, hw1, hw2, hf⟩ := hu
   have hx := trivial
   refine ⟨_, (by simp only [Act.put, List.setIfInBounds_toArray, List.set_cons_zero, List.set_cons_succ]; exact rfl), ?_⟩
   clear hf hw1 hw2 hx W0
   repeat
    apply Rg.wpK_quiet rfl rfl
    case hq => intro W hS; obtain ⟨⟨q1, q2, q3, q4, _⟩, _⟩ := hS; go_simp; exact rfl
    case he => exact (by simp only [Act.put, List.setIfInBounds_toArray, List.set_cons_zero, List.set_cons_succ]; exact rfl)
   refine Rg.wpK_end fun w9 hR hS hF => ?_
   have hn := n1.rr hR hw
   obtain ⟨m', D', l', c', hc0, hc1, hi⟩ := Rg.upd_at rfl (hF 8)
   go_wp2
   exact bodyPost_ret (v := .agg #[.bool m', .slice D' l' c']) (by simp [results, Tryz.results98, go_sem, hc0, hc1]) rfl (Ret.I (RI.eq hi (HRES.out)) hn)
  ·have hcm : decide (0 ≤ cmp (lv b32 xs) (lv b32 ys)) = false := by unfold cmp; rw [if_pos (by omega)]; decide
   have hge' : lv b32 xs ≤ lv b32 ys := by omega
   have hlen : xs.length ≤ ys.length := length_le (b := b32) (by decide) dx dy tx hge'
   have hres : sg m (lv b32 ys - lv b32 xs) = sg n (lv b32 xs) + sg m (lv b32 ys) := by cases n <;> cases m <;> simp [sg] at hnm ⊢ <;> omega
   have HRES := Lib.hid hres
   clear hres hnm
   go_enter Tryz.func98, Tryz.ntmps98
   go_wp2_with (go_at_call 94; refine (compared_c A B c d xs ys _ (RA.out.kept nw1.kept) (RB.out.kept nw1.kept) dx dy tx ty).mono ?_; rintro e w1 ⟨_, rfl, rfl, hb⟩)
   have nw0 : Nw w w1 := nw1.trans hb
   have sgn := hb
   have n1 : Nw w _ := (nw0).drew
   have hw : w.heap.size ≤ w.heap.size + 1 + 1 := by omega
   refine region_std [(w.heap.size, 0, Value.bool n), (w.heap.size, 1, Value.slice A xs.length c), (w.heap.size + 1, 0, Value.bool m), (w.heap.size + 1, 1, Value.slice B ys.length d)] (w.heap.size + 1 + 1) 2 8 [(6, KL .u32 (fun zs => dg b32 zs ∧ lv b32 zs = lv b32 ys - lv b32 xs)), (7, KI (sg m (lv b32 ys - lv b32 xs))), (8, KB (w.heap.size + 1 + 1) (sg m (lv b32 ys - lv b32 xs)))] (by kernel_rfl) (by kernel_rfl) (by kernel_rfl) (by kernel_rfl) ?_ ⟨.inr (KL.st _ _), .inr (KI.st _), .inl rfl, trivial⟩ (sg0.nw sgn.drew) ?_
   ·first | trivial | (simp only [Low, and_true]; omega)
   repeat
    apply Rg.wpK_quiet rfl rfl
    case hq => intro W hS; obtain ⟨⟨q1, q2, q3, q4, _⟩, _⟩ := hS; go_simp; exact rfl
    case he => exact (by simp only [Act.put, List.setIfInBounds_toArray, List.set_cons_zero, List.set_cons_succ]; exact rfl)
   apply Rg.wpK_know rfl rfl
   case ha =>
    intro W hR hS hF
    have hn := n1.rr hR hw
    obtain ⟨⟨q1, q2, q3, q4, _⟩, hB, hr⟩ := hS
    unfold Rg.gives
    go_simp
    exact Rg.gives_enter (call_inr (ret_L (less_c B A d c ys xs _ (RB.out.kept hn.kept) (RA.out.kept hn.kept) hd hc dy dx (by omega) hlen hge') (fun zs h => ⟨h.1, h.2.1⟩)) hr)
   intro u hu
   obtain ⟨W0, hw1, hw2, hf⟩ := hu
   obtain ⟨zs, C6, c6, e0, hx⟩ := Rg.upd_at rfl (hf 6)
   obtain ⟨l6, e1⟩ : ∃ n, n = zs.length := ⟨_, rfl⟩
   rw [← e1] at e0
   subst e0
   clear hx e1
   have hx := trivial
   refine ⟨_, (by simp only [Act.put, List.setIfInBounds_toArray, List.set_cons_zero, List.set_cons_succ]; exact rfl), ?_⟩
   clear hf hw1 hw2 hx W0
   repeat
    apply Rg.wpK_quiet rfl rfl
    case hq => intro W hS; obtain ⟨⟨q1, q2, q3, q4, _⟩, _⟩ := hS; go_simp; exact rfl
    case he => exact (by simp only [Act.put, List.setIfInBounds_toArray, List.set_cons_zero, List.set_cons_succ]; exact rfl)
   apply Rg.wpK_know rfl rfl
   case ha =>
    intro W hR hS hF
    have hn := n1.rr hR hw
    obtain ⟨⟨q1, q2, q3, q4, _⟩, hB, hr⟩ := hS
    have h6 := KL.slice (Rg.upd_at rfl (hF 6 (by kernel_rfl)))
    obtain ⟨z6, e6, hc6, r6, p6⟩ := h6
    subst e6
    unfold Rg.gives
    go_simp
    exact Rg.gives_enter (call_inr (ret_eq (made_c m _ _ z6 _ r6 hc6 p6.1) (by rw [p6.2])) hr)
   intro u hu
   obtain ⟨W0, hw1, hw2, hf⟩ := hu
   obtain ⟨m7, D7, l7, c7, rfl, hx⟩ := Rg.upd_at rfl (hf 7)
   refine ⟨_, (by simp only [Act.put, List.setIfInBounds_toArray, List.set_cons_zero, List.set_cons_succ]; exact rfl), ?_⟩
   clear hf hw1 hw2 hx W0
   repeat
    apply Rg.wpK_quiet rfl rfl
    case hq => intro W hS; obtain ⟨⟨q1, q2, q3, q4, _⟩, _⟩ := hS; go_simp; exact rfl
    case he => exact (by simp only [Act.put, List.setIfInBounds_toArray, List.set_cons_zero, List.set_cons_succ]; exact rfl)
   apply Rg.wpK_know rfl rfl
   case ha =>
    intro W hR hS hF
    have hn := n1.rr hR hw
    obtain ⟨⟨q1, q2, q3, q4, _⟩, hB, hr⟩ := hS
    have i7 := KI.agg (Rg.upd_at rfl (hF 7 (by kernel_rfl)))
    obtain ⟨⟨v0, hv0, hn0⟩, hf0⟩ := hB 0 (by omega)
    obtain ⟨⟨v1, hv1, hn1⟩, hf1⟩ := hB 1 (by omega)
    unfold Rg.gives
    go_simp
    exact Rg.gives_skip (store_I hB i7)
   intro u hu
   obtain ⟨W0, hw1, hw2, hf⟩ := hu
   have hx := trivial
   refine ⟨_, (by simp only [Act.put, List.setIfInBounds_toArray, List.set_cons_zero, List.set_cons_succ]; exact rfl), ?_⟩
   clear hf hw1 hw2 hx W0
   repeat
    apply Rg.wpK_quiet rfl rfl
    case hq => intro W hS; obtain ⟨⟨q1, q2, q3, q4, _⟩, _⟩ := hS; go_simp; exact rfl
    case he => exact (by simp only [Act.put, List.setIfInBounds_toArray, List.set_cons_zero, List.set_cons_succ]; exact rfl)
   refine Rg.wpK_end fun w9 hR hS hF => ?_
   have hn := n1.rr hR hw
   obtain ⟨m', D', l', c', hc0, hc1, hi⟩ := Rg.upd_at rfl (hF 8)
   go_wp2
   exact bodyPost_ret (v := .agg #[.bool m', .slice D' l' c']) (by simp [results, Tryz.results98, go_sem, hc0, hc1]) rfl (Ret.I (RI.eq hi (HRES.out)) hn)
end Go.Proofs.YthpjmhhfcechmaaGreat
