/- A region that draws its order, walked once in the order of the text: what is known of an operation's value is said by a predicate, not by the value itself, so that calls that make memory are let in. -/
import Derived.Still
import Derived.Deep.Draws
import Derived.Deep.Quiet
set_option linter.unusedVariables false
set_option linter.unusedSimpArgs false
namespace Go.Proofs.Ytcgkgcciogibkaa.Rg
open Go

/-- What is known of an operation's value in a world. -/
abbrev Know := Value → World → Prop
/-- The facts at hand, by the operations' numbers. -/
abbrev Facts := Nat → World → Prop
def noFacts : Facts := fun _ _ => True
def upd (F : Facts) (i : Nat) (p : World → Prop) : Facts := fun k w => if k = i then p w else F k w
theorem upd_self (F : Facts) (i : Nat) (p : World → Prop) (w : World) : upd F i p i w = p w := by simp [upd]
theorem upd_at {F : Facts} {i k : Nat} {p : World → Prop} {w : World} (h : k = i) (hf : upd F i p k w) : p w := by subst h; rwa [upd_self] at hf
theorem upd_off {F : Facts} {i k : Nat} {p : World → Prop} {w : World} (h : (k == i) = false) (hf : upd F i p k w) : F k w := by unfold upd at hf; rwa [if_neg (by simpa using h)] at hf
theorem upd_ne (F : Facts) {i k : Nat} (p : World → Prop) (w : World) (h : k ≠ i) : upd F i p k w = F k w := by simp [upd, h]
theorem upd_comm (F : Facts) {i j : Nat} (p q : World → Prop) (h : i ≠ j) : upd (upd F i p) j q = upd (upd F j q) i p := by
  funext k w
  unfold upd
  by_cases h1 : k = j
  · have h2 : k ≠ i := fun e => h (e.symm.trans h1)
    simp [h1, h, Ne.symm h]
  · simp [h1]

section
variable (P : Program)

/-- What an operation gives: a value, and the world behind it. -/
def givesUpon (K : Value → World → Prop) : Result Next → Prop
  | .ok (.value v) w' => K v w'
  | .ok .skip w' => K undef w'
  | .ok (.enter f args) w' => Calls P f args w' (fun e w'' => ∃ v, e = .returned v ∧ K v w'')
  | _ => False
def gives (o : Oper) (a : Act) (w : World) (K : Value → World → Prop) : Prop := givesUpon P K ((execOp a.eval o).run P w)

variable {P}
theorem gives_value {K : Value → World → Prop} {v : Value} {w : World} (h : K v w) : givesUpon P K (.ok (.value v) w) := h
theorem gives_skip {K : Value → World → Prop} {w : World} (h : K undef w) : givesUpon P K (.ok .skip w) := h
theorem gives_enter {K : Value → World → Prop} {f : FuncId} {args : Array Value} {w : World} (h : Calls P f args w (fun e w'' => ∃ v, e = .returned v ∧ K v w'')) : givesUpon P K (.ok (.enter f args) w) := h

theorem gives_wp {o : Oper} {a : Act} {w : World} {K : Value → World → Prop} {K' : Act → World → Prop} {Q : Exit → Act → World → Prop}
    (h : ∀ v w', K v w' → K' (a.put o.dst v) w') (hh : gives P o a w K) : o.wp P a w K' Q := by
  unfold gives at hh
  unfold Oper.wp
  generalize (execOp a.eval o).run P w = r at *
  cases r with
  | ok n w' =>
    cases n <;> simp only [givesUpon] at hh <;> simp only [Oper.upon]
    case value u => exact h _ _ hh
    case skip => exact h _ _ hh
    case enter f args => exact hh.mono fun e w'' ⟨v, he, hk⟩ => by subst he; exact h _ _ hk
  | halt x w' => simp only [givesUpon] at hh

/-- There is an outcome. -/
theorem gives_some {o : Oper} {a : Act} {w : World} {K : Value → World → Prop} (hh : gives P o a w K) : ∃ v w', K v w' := by
  unfold gives at hh
  generalize (execOp a.eval o).run P w = r at *
  cases r with
  | ok n w' =>
    cases n <;> simp only [givesUpon] at hh
    case value u => exact ⟨_, _, hh⟩
    case skip => exact ⟨_, _, hh⟩
    case enter f args =>
      obtain ⟨e, w'', fr, ⟨v, he, hk⟩, _⟩ := hh []
      exact ⟨v, w'', hk⟩
  | halt x w' => simp only [givesUpon] at hh

end

section
variable {P : Program} {ops : Array Oper} {md : Region.Mode} {R : World → World → Prop} {S : World → Prop} {w0 : World} {J : Nat → Nat → Bool} {Ks : Nat → Option Know} {tl : Nat}

/-- There is a world in which all that is known holds. -/
def Wit (R : World → World → Prop) (S : World → Prop) (w0 : World) (F : Facts) : Prop := ∃ w, R w0 w ∧ S w ∧ ∀ k, F k w

/-- What is asked of an operation whose value is fixed. -/
def Quietly (P : Program) (S : World → Prop) (o : Oper) (a : Act) (v : Value) : Prop := ∀ w, S w → (execOp a.eval o).run P w = .ok (.value v) w
/-- What is asked of an operation of whose value a predicate is known. -/
def Actively (P : Program) (R : World → World → Prop) (S : World → Prop) (w0 : World) (J : Nat → Nat → Bool) (i : Nat) (o : Oper) (a : Act) (F : Facts) (K : Know) : Prop :=
  ∀ w, R w0 w → S w → (∀ k, J i k = true → F k w) → gives P o a w (fun v w' => R w w' ∧ K v w')

/-- Operation number i comes up. -/
def kOp (P : Program) (ops : Array Oper) (R : World → World → Prop) (S : World → Prop) (w0 : World) (J : Nat → Nat → Bool) (Ks : Nat → Option Know) (i : Nat) (K : Act → Facts → Prop) (a : Act) (F : Facts) : Prop :=
  match ops[i]? with
  | none => K a F
  | some o => if Region.wanted o (yielded ops a.tmps) = true then
      match Ks i with
      | none => ∃ v, Quietly P S o a v ∧ K (a.put o.dst v) F
      | some k => Actively P R S w0 J i o a F k ∧ ∀ u, Wit R S w0 (upd F i (k u)) → K (a.put o.dst u) (upd F i (k u))
    else K (a.put o.dst undef) F

theorem kOp_mono {i : Nat} {K K' : Act → Facts → Prop} {a : Act} {F : Facts} (h : ∀ a F, K a F → K' a F) (hh : kOp P ops R S w0 J Ks i K a F) : kOp P ops R S w0 J Ks i K' a F := by
  unfold kOp at *
  split
  · rename_i ho; simp only [ho] at hh; exact h _ _ hh
  · rename_i o ho
    simp only [ho] at hh
    split
    · rename_i hw
      simp only [hw, if_true] at hh
      split
      · rename_i hk; simp only [hk] at hh; obtain ⟨v, h1, h2⟩ := hh; exact ⟨v, h1, h _ _ h2⟩
      · rename_i k hk; simp only [hk] at hh; exact ⟨hh.1, fun u hu => h _ _ (hh.2 u hu)⟩
    · rename_i hw; simp only [hw] at hh; exact h _ _ hh

/-- Whatever order is picked from here on. -/
def wpAnyK (P : Program) (md : Region.Mode) (ops : Array Oper) (R : World → World → Prop) (S : World → Prop) (w0 : World) (J : Nat → Nat → Bool) (Ks : Nat → Option Know) (Q : Act → Facts → Prop) : Nat → Array Bool → Act → Facts → Prop
  | 0, listed, a, F => Region.ready md ops listed = [] ∧ Q a F
  | fuel + 1, listed, a, F =>
    (Region.ready md ops listed = [] → Q a F) ∧
    ∀ i ∈ Region.ready md ops listed, kOp P ops R S w0 J Ks i (wpAnyK P md ops R S w0 J Ks Q fuel (listed.setIfInBounds i true)) a F

/-- 'tl': the number of an operation that waits for all others (or of none): what is known of it need not hold on. -/
structure Fits (R : World → World → Prop) (S : World → Prop) (Ks : Nat → Option Know) (tl : Nat) : Prop where
  refl : ∀ w, R w w
  trans : ∀ x y z, R x y → R y z → R x z
  kept : ∀ w w', R w w' → S w → S w'
  know : ∀ i k, Ks i = some k → i ≠ tl → ∀ v w w', R w w' → k v w → k v w'

/-- The facts hold on. -/
def FKept (R : World → World → Prop) (F : Facts) : Prop := ∀ k w w', R w w' → F k w → F k w'
theorem FKept.upd {F : Facts} (hF : FKept R F) {i : Nat} {k : Know} (hk : ∀ v w w', R w w' → k v w → k v w') (u : Value) : FKept R (upd F i (k u)) := by
  intro j w w' hr hf
  unfold Rg.upd at *
  split
  · rename_i e; simp only [e, if_true] at hf; exact hk _ _ _ hr hf
  · rename_i e; simp only [e, if_false] at hf; exact hF _ _ _ hr hf

/-- One waits for the other by an edge of its own. -/
def Direct (md : Region.Mode) (ops : Array Oper) (j k : Nat) : Prop := ∃ oj, ops[j]? = some oj ∧ ∃ e ∈ oj.after, Region.binds md e = true ∧ e.on = k
theorem listed_not {listed : Array Bool} {i : Nat} (h : listed.getD i true = false) : listed.getD i false = false := by
  rcases Nat.lt_or_ge i listed.size with h' | h'
  · simp [h'] at h ⊢; exact h
  · simp [Array.getElem?_eq_none h']
/-- The tail waits for all others. -/
def TlOk (md : Region.Mode) (ops : Array Oper) (tl : Nat) : Prop := ∀ j oj ot, ops[j]? = some oj → ops[tl]? = some ot → j ≠ tl → Direct md ops tl j
theorem tl_alone (ht : TlOk md ops tl) {listed : Array Bool} (h : tl ∈ Region.ready md ops listed) {j : Nat} {oj : Oper} (hj : ops[j]? = some oj) (hne : j ≠ tl) : listed.getD j false = true := by
  obtain ⟨hun, o, ho, hall⟩ := mem_ready.1 h
  obtain ⟨o', ho', e, he, hb, rfl⟩ := ht j oj o hj ho hne
  rw [ho] at ho'
  injection ho' with ho'
  subst ho'
  exact hall e he hb
theorem not_both {listed : Array Bool} {j : Nat} (h : listed.getD j true = false) (h' : listed.getD j false = true) : False := by
  rw [listed_not h] at h'; cases h'
theorem tl_done (ht : TlOk md ops tl) {listed : Array Bool} (h : tl ∈ Region.ready md ops listed) : Region.ready md ops (listed.setIfInBounds tl true) = [] := by
  cases hr : Region.ready md ops (listed.setIfInBounds tl true) with
  | nil => rfl
  | cons j l =>
    exfalso
    have hj : j ∈ Region.ready md ops (listed.setIfInBounds tl true) := by rw [hr]; exact List.mem_cons_self
    obtain ⟨hun, o, ho, _⟩ := mem_ready.1 hj
    by_cases hjt : j = tl
    · subst hjt
      have h0 := (mem_ready.1 h).1
      rcases Nat.lt_or_ge j listed.size with h' | h'
      · simp [h'] at hun
      · simp [Array.getElem?_eq_none, h'] at h0
    · exact not_both hun (getD_set_true (tl_alone ht h ho hjt))
/-- Of two that may come up neither is the tail. -/
theorem two_ne (ht : TlOk md ops tl) {listed : Array Bool} {i j : Nat} (hi : i ∈ Region.ready md ops listed) (hj : j ∈ Region.ready md ops listed) (hne : i ≠ j) : i ≠ tl := by
  intro e
  subst e
  obtain ⟨hun, o, ho, _⟩ := mem_ready.1 hj
  exact not_both hun (tl_alone ht hi ho (Ne.symm hne))

theorem wpOp_of_kOp (hf : Fits R S Ks tl) {i : Nat} {K : Act → Facts → Prop} {K' : Act → World → Prop} {Q' : Exit → Act → World → Prop} {a : Act} {F : Facts} {w : World}
    (hF : FKept R F) (hr : R w0 w) (hS : S w) (hFw : ∀ k, F k w)
    (h : ∀ a F w, (i ≠ tl → FKept R F) → R w0 w → S w → (∀ k, F k w) → K a F → K' a w) (hh : kOp P ops R S w0 J Ks i K a F) : wpOp P ops Q' i K' a w := by
  unfold kOp at hh
  unfold wpOp
  split
  · rename_i ho; simp only [ho] at hh; exact h _ _ _ (fun _ => hF) hr hS hFw hh
  · rename_i o ho
    simp only [ho] at hh
    split
    · rename_i hw
      simp only [hw, if_true] at hh
      refine .inl ?_
      split at hh
      · rename_i hk
        obtain ⟨v, h1, h2⟩ := hh
        unfold Oper.wp
        rw [h1 w hS]
        exact h _ _ _ (fun _ => hF) hr hS hFw h2
      · rename_i k hk
        refine gives_wp (fun v w' hv => ?_) (hh.1 w hr hS (fun k _ => hFw k))
        have hn : ∀ k_1, upd F i (k v) k_1 w' := by
          intro j
          unfold upd
          split
          · exact hv.2
          · exact hF _ _ _ hv.1 (hFw j)
        have hS' := hf.kept _ _ hv.1 hS
        have hr' := hf.trans _ _ _ hr hv.1
        exact h _ _ _ (fun hi => hF.upd (hf.know i k hk hi) v) hr' hS' hn (hh.2 v ⟨w', hr', hS', hn⟩)
    · rename_i hw; simp only [hw] at hh; exact h _ _ _ (fun _ => hF) hr hS hFw hh

theorem wpAny_of_know (hf : Fits R S Ks tl) (ht : TlOk md ops tl) {Q : Act → Facts → Prop} {Q' : Exit → Act → World → Prop} (hQ : ∀ a F w, R w0 w → S w → (∀ k, F k w) → Q a F → Q' .normal a w) :
    ∀ (fuel : Nat) (listed : Array Bool) (a : Act) (F : Facts) (w : World), (Region.ready md ops listed ≠ [] → FKept R F) → R w0 w → S w → (∀ k, F k w) →
      wpAnyK P md ops R S w0 J Ks Q fuel listed a F → wpAny P md ops Q' fuel listed a w
  | 0, _, _, _, _, _, hr, hS, hw, h => ⟨h.1, hQ _ _ _ hr hS hw h.2⟩
  | fuel + 1, _, _, _, _, hF, hr, hS, hw, h => ⟨fun h0 => hQ _ _ _ hr hS hw (h.1 h0), fun i hi => wpOp_of_kOp hf (hF (fun e => by rw [e] at hi; cases hi)) hr hS hw (fun a' F' w' hF' hr' hS' hw' => wpAny_of_know hf ht hQ fuel _ a' F' w' (fun hne => hF' (fun e => hne (by subst e; exact tl_done ht hi))) hr' hS' hw') (h.2 i hi)⟩


/-- What is asked before an operation comes up; which values it may leave; what is known behind it. -/
def Pre (P : Program) (ops : Array Oper) (R : World → World → Prop) (S : World → Prop) (w0 : World) (J : Nat → Nat → Bool) (Ks : Nat → Option Know) (i : Nat) (o : Oper) (a : Act) (F : Facts) : Prop :=
  Region.wanted o (yielded ops a.tmps) = true → match Ks i with
    | none => ∃ v, Quietly P S o a v
    | some k => Actively P R S w0 J i o a F k
def Out (P : Program) (ops : Array Oper) (R : World → World → Prop) (S : World → Prop) (w0 : World) (Ks : Nat → Option Know) (i : Nat) (o : Oper) (a : Act) (F : Facts) (u : Value) : Prop :=
  if Region.wanted o (yielded ops a.tmps) = true then
    match Ks i with
    | none => Quietly P S o a u
    | some k => Wit R S w0 (upd F i (k u))
  else u = undef
def aft (ops : Array Oper) (Ks : Nat → Option Know) (i : Nat) (o : Oper) (a : Act) (F : Facts) (u : Value) : Facts :=
  if Region.wanted o (yielded ops a.tmps) = true then
    match Ks i with
    | none => F
    | some k => upd F i (k u)
  else F

theorem aft_ne {i m : Nat} {o : Oper} {a : Act} {F : Facts} {u : Value} {w : World} (h : m ≠ i) : aft ops Ks i o a F u m w = F m w := by
  unfold aft
  by_cases hw : Region.wanted o (yielded ops a.tmps) = true
  · cases hk : Ks i with
    | none => simp only [hw, if_true]
    | some k => simp only [hw, if_true]; exact upd_ne _ _ _ h
  · simp [hw]
theorem aft_some {i : Nat} {o : Oper} {a : Act} {F : Facts} {u : Value} {k : Know} (hw : Region.wanted o (yielded ops a.tmps) = true) (hk : Ks i = some k) : aft ops Ks i o a F u = upd F i (k u) := by
  unfold aft
  simp only [hw, if_true, hk]
theorem quietly_one {o : Oper} {a : Act} {u v : Value} {w : World} (hw : S w) (hu : Quietly P S o a u) (hv : Quietly P S o a v) : u = v := by
  have h1 := hu w hw
  rw [hv w hw] at h1
  injection h1 with h1
  injection h1 with h1
  exact h1.symm

theorem kOp_iff {i : Nat} {o : Oper} (ho : ops[i]? = some o) {K : Act → Facts → Prop} {a : Act} {F : Facts} (hW : Wit R S w0 F) :
    kOp P ops R S w0 J Ks i K a F ↔ Pre P ops R S w0 J Ks i o a F ∧ ∀ u, Out P ops R S w0 Ks i o a F u → K (a.put o.dst u) (aft ops Ks i o a F u) := by
  obtain ⟨w, hr, hS, hFw⟩ := hW
  unfold kOp Pre Out aft
  simp only [ho]
  by_cases hw : Region.wanted o (yielded ops a.tmps) = true
  · simp only [hw, if_true, true_implies]
    cases hk : Ks i with
    | none =>
      simp only []
      constructor
      · rintro ⟨v, h1, h2⟩
        exact ⟨⟨v, h1⟩, fun u hu => by rw [quietly_one hS hu h1]; exact h2⟩
      · rintro ⟨⟨v, h1⟩, h2⟩
        exact ⟨v, h1, h2 v h1⟩
    | some k => simp only []
  · simp only [hw, if_false, false_implies, true_and, Bool.false_eq_true]
    exact ⟨fun h u hu => by rw [hu]; exact h, fun h => h undef rfl⟩

/-- There is an outcome. -/
theorem out_some (hf : Fits R S Ks tl) {i : Nat} {o : Oper} {a : Act} {F : Facts} (hF : FKept R F) (hW : Wit R S w0 F) (hp : Pre P ops R S w0 J Ks i o a F) : ∃ u, Out P ops R S w0 Ks i o a F u := by
  obtain ⟨w, hr, hS, hFw⟩ := hW
  unfold Out
  unfold Pre at hp
  by_cases hw : Region.wanted o (yielded ops a.tmps) = true
  · have hp := hp hw
    simp only [hw, if_true]
    cases hk : Ks i with
    | none => rw [hk] at hp; exact hp
    | some k =>
      rw [hk] at hp
      simp only [] at hp ⊢
      obtain ⟨v, w', hrw, hv⟩ := gives_some (hp w hr hS (fun k _ => hFw k))
      refine ⟨v, w', hf.trans _ _ _ hr hrw, hf.kept _ _ hrw hS, fun j => ?_⟩
      unfold upd
      split
      · exact hv
      · exact hF _ _ _ hrw (hFw j)
  · simp only [hw]
    exact ⟨undef, rfl⟩

/-- What holds behind an outcome. -/
theorem out_wit (hf : Fits R S Ks tl) {i : Nat} (hit : i ≠ tl) {o : Oper} {a : Act} {F : Facts} {u : Value} (hF : FKept R F) (hW : Wit R S w0 F) (hu : Out P ops R S w0 Ks i o a F u) : FKept R (aft ops Ks i o a F u) ∧ Wit R S w0 (aft ops Ks i o a F u) := by
  unfold Out at hu
  unfold aft
  by_cases hw : Region.wanted o (yielded ops a.tmps) = true
  · simp only [hw, if_true] at hu ⊢
    cases hk : Ks i with
    | none => exact ⟨hF, hW⟩
    | some k => rw [hk] at hu; exact ⟨hF.upd (hf.know i k hk hit) u, hu⟩
  · simp only [hw] at hu ⊢
    exact ⟨hF, hW⟩

theorem out_wit' {i : Nat} {o : Oper} {a : Act} {F : Facts} {u : Value} (hW : Wit R S w0 F) (hu : Out P ops R S w0 Ks i o a F u) : Wit R S w0 (aft ops Ks i o a F u) := by
  unfold Out at hu
  unfold aft
  by_cases hw : Region.wanted o (yielded ops a.tmps) = true
  · simp only [hw, if_true] at hu ⊢
    cases hk : Ks i with
    | none => exact hW
    | some k => rw [hk] at hu; exact hu
  · simp only [hw] at hu ⊢
    exact hW

/-- Two operations of which neither looks at the other's value, nor asks for what is known of it, may come up in either order. -/
theorem kOp_swap (hf : Fits R S Ks tl) {i j : Nat} {oi oj : Oper} (hi : ops[i]? = some oi) (hj : ops[j]? = some oj) (hap : oi.apart ops oj = true) (hne : i ≠ j) (hit : i ≠ tl) (hjt : j ≠ tl)
    (hsi : ∀ cs b, oi.op ≠ .select cs b) (hsj : ∀ cs b, oj.op ≠ .select cs b) (hji : J j i = false) (hij : J i j = false) {K : Act → Facts → Prop} {a : Act} {F : Facts} (hF : FKept R F) (hW : Wit R S w0 F) (hFj : ∀ w, F j w)
    (h : kOp P ops R S w0 J Ks i (fun a F => kOp P ops R S w0 J Ks j K a F) a F) : kOp P ops R S w0 J Ks j (fun a F => kOp P ops R S w0 J Ks i K a F) a F := by
  obtain ⟨h1, h2, h3⟩ := Oper.apart_spec hap
  have h2' : ∀ d, oj.dst = some d → oi.dst ≠ some d := fun d hd hd' => h2 d hd' hd
  have ei : ∀ u, execOp (a.put oj.dst u).eval oi = execOp a.eval oi := fun u => execOp_put oi hsi a oj.dst u h3
  have ej : ∀ u, execOp (a.put oi.dst u).eval oj = execOp a.eval oj := fun u => execOp_put oj hsj a oi.dst u h1
  have wi : ∀ u, Region.wanted oi (yielded ops (a.put oj.dst u).tmps) = Region.wanted oi (yielded ops a.tmps) := fun u => wanted_put oi a oj.dst u h3
  have wj : ∀ u, Region.wanted oj (yielded ops (a.put oi.dst u).tmps) = Region.wanted oj (yielded ops a.tmps) := fun u => wanted_put oj a oi.dst u h1
  rw [kOp_iff hi hW] at h
  obtain ⟨hp, hall⟩ := h
  obtain ⟨u0, hu0⟩ := out_some hf hF hW hp
  have hw0 := out_wit hf hit hF hW hu0
  have h0 := (kOp_iff hj hw0.2).1 (hall u0 hu0)
  rw [kOp_iff hj hW]
  -- what is asked of j now
  have hpj : Pre P ops R S w0 J Ks j oj a F := by
    intro hwj
    have hq := h0.1 (by rw [wj]; exact hwj)
    cases hk : Ks j with
    | none => rw [hk] at hq; simp only [Quietly, ej] at hq ⊢; exact hq
    | some k =>
      rw [hk] at hq
      simp only [Actively, gives, ej] at hq ⊢
      intro w hr hS hJ
      refine hq w hr hS (fun m hm => ?_)
      have hmi : m ≠ i := fun e => by rw [e, hji] at hm; cases hm
      rw [aft_ne hmi]
      exact hJ m hm
  refine ⟨hpj, fun v hv => ?_⟩
  have hwv := out_wit hf hjt hF hW hv
  rw [kOp_iff hi hwv.2]
  refine ⟨fun hwi => ?_, fun u hu => ?_⟩
  · rw [wi] at hwi
    have hq := hp hwi
    cases hk : Ks i with
    | none => rw [hk] at hq; simp only [Quietly, ei] at hq ⊢; exact hq
    | some k =>
      rw [hk] at hq
      simp only [Actively, gives, ei] at hq ⊢
      intro w hr hS hJ
      refine hq w hr hS (fun m hm => ?_)
      have hmj : m ≠ j := fun e => by rw [e, hij] at hm; cases hm
      have := hJ m hm
      rwa [aft_ne hmj] at this
  · -- u is an outcome of i at first, v one of j behind it
    have hcomm : aft ops Ks i oi (a.put oj.dst v) (aft ops Ks j oj a F v) u = aft ops Ks j oj (a.put oi.dst u) (aft ops Ks i oi a F u) v := by
      unfold aft
      rw [wi, wj]
      by_cases hwi : Region.wanted oi (yielded ops a.tmps) = true <;> by_cases hwj : Region.wanted oj (yielded ops a.tmps) = true <;> cases Ks i <;> cases Ks j <;> simp only [hwi, hwj, if_true, if_false, Bool.false_eq_true] <;> exact upd_comm _ _ _ (Ne.symm hne)
    have hui : Out P ops R S w0 Ks i oi a F u := by
      unfold Out at hu ⊢
      rw [wi] at hu
      split
      · rename_i hwi
        simp only [hwi, if_true] at hu
        cases hk : Ks i with
        | none => rw [hk] at hu; simp only [Quietly, ei] at hu ⊢; exact hu
        | some k =>
          rw [hk] at hu
          simp only [] at hu ⊢
          obtain ⟨w, hr, hS, hFw⟩ := hu
          refine ⟨w, hr, hS, fun m => ?_⟩
          have hm := hFw m
          unfold upd at hm ⊢
          split
          · rename_i e; simp only [e, if_true] at hm; exact hm
          · rename_i e
            simp only [e, if_false] at hm
            by_cases hmj : m = j
            · rw [hmj]; exact hFj w
            · rwa [aft_ne hmj] at hm
      · rename_i hwi
        simp only [hwi] at hu
        exact hu
    have hwu := out_wit hf hit hF hW hui
    have hvj : Out P ops R S w0 Ks j oj (a.put oi.dst u) (aft ops Ks i oi a F u) v := by
      have hwit := (out_wit hf hit hwv.1 hwv.2 hu).2
      rw [hcomm] at hwit
      unfold Out at hv ⊢
      rw [wj]
      split
      · rename_i hwj
        simp only [hwj, if_true] at hv
        cases hk : Ks j with
        | none => rw [hk] at hv; simp only [Quietly, ej] at hv ⊢; exact hv
        | some k =>
          simp only []
          have e : aft ops Ks j oj (a.put oi.dst u) (aft ops Ks i oi a F u) v = upd (aft ops Ks i oi a F u) j (k v) := aft_some (by rw [wj]; exact hwj) hk
          rw [← e]; exact hwit
      · rename_i hwj
        simp only [hwj] at hv
        exact hv
    have hfin := ((kOp_iff hj hwu.2).1 (hall u hui)).2 v hvj
    rw [hcomm, Act.put_comm a v u h2']
    exact hfin


/-- What has not come up is not known. -/
def NoF (listed : Array Bool) (F : Facts) : Prop := ∀ k, listed.getD k true = false → ∀ w, F k w
/-- What is asked for has come up. -/
def DownJ (J : Nat → Nat → Bool) (listed : Array Bool) : Prop := ∀ d k, listed.getD d false = true → J d k = true → listed.getD k false = true
def JOk (md : Region.Mode) (ops : Array Oper) (J : Nat → Nat → Bool) : Prop := ∀ j k, J j k = true → Direct md ops j k ∨ ∃ d, Direct md ops j d ∧ J d k = true

theorem ready_J (hJ : JOk md ops J) {listed : Array Bool} (hd : DownJ J listed) {j k : Nat} (hr : j ∈ Region.ready md ops listed) (hk : J j k = true) : listed.getD k false = true := by
  obtain ⟨hun, o, ho, hall⟩ := mem_ready.1 hr
  have dir : ∀ d, Direct md ops j d → listed.getD d false = true := by
    rintro d ⟨oj, hoj, e, he, hb, rfl⟩
    rw [ho] at hoj
    injection hoj with hoj
    subst hoj
    exact hall e he hb
  rcases hJ j k hk with h | ⟨d, h, h2⟩
  · exact dir _ h
  · exact hd _ _ (dir _ h) h2
theorem DownJ.set (hJ : JOk md ops J) {listed : Array Bool} (hd : DownJ J listed) {j : Nat} (hr : j ∈ Region.ready md ops listed) : DownJ J (listed.setIfInBounds j true) := by
  intro d k h1 h2
  by_cases hdj : j = d
  · subst hdj; exact getD_set_true (ready_J hJ hd hr h2)
  · rw [getD_set_ne false hdj] at h1
    exact getD_set_true (hd d k h1 h2)
theorem NoF.set {listed : Array Bool} {F : Facts} (h : NoF listed F) {j : Nat} {o : Oper} {a : Act} {u : Value} : NoF (listed.setIfInBounds j true) (aft ops Ks j o a F u) := by
  intro k hk w
  by_cases hkj : j = k
  · subst hkj
    rcases Nat.lt_or_ge j listed.size with h' | h'
    · simp [h'] at hk
    · simp [Array.getElem?_eq_none, h'] at hk
  · rw [getD_set_ne true hkj] at hk
    rw [aft_ne (Ne.symm hkj)]
    exact h k hk w

/-- **An operation that may come up now may be taken first.** -/
theorem wpAnyK_first (hf : Fits R S Ks tl) (ht : TlOk md ops tl) (hJ : JOk md ops J) {Q : Act → Facts → Prop} {i : Nat} {oi : Oper} (hi : ops[i]? = some oi) (hsel : ∀ (j : Nat) (o : Oper) cs b, ops[j]? = some o → o.op ≠ .select cs b) :
    ∀ (fuel : Nat) (listed : Array Bool) (a : Act) (F : Facts), FKept R F → Wit R S w0 F → NoF listed F → DownJ J listed →
      (∀ j oj, ops[j]? = some oj → j ≠ i → listed.getD j true = false → (∀ e ∈ oj.after, Region.binds md e = true → e.on ≠ i) → oi.apart ops oj = true) →
      i ∈ Region.ready md ops listed → kOp P ops R S w0 J Ks i (wpAnyK P md ops R S w0 J Ks Q fuel (listed.setIfInBounds i true)) a F → wpAnyK P md ops R S w0 J Ks Q (fuel + 1) listed a F := by
  intro fuel
  induction fuel with
  | zero =>
    intro listed a F hF hW hN hD _ hr H
    refine ⟨fun h => (by rw [h] at hr; cases hr), fun j hj => ?_⟩
    by_cases hji : j = i
    · subst hji; exact H
    · have h0 := (kOp_iff hi hW).1 H
      obtain ⟨u, hu⟩ := out_some hf hF hW h0.1
      have h1 := (h0.2 u hu).1
      have h2 := ready_mono hj hji
      rw [h1] at h2
      cases h2
  | succ fuel ih =>
    intro listed a F hF hW hN hD hfree hr H
    refine ⟨fun h => (by rw [h] at hr; cases hr), fun j hj => ?_⟩
    by_cases hji : j = i
    · subst hji; exact H
    · obtain ⟨hjun, oj, hoj, hall⟩ := mem_ready.1 hj
      have hiun := (mem_ready.1 hr).1
      have hnot : ∀ e ∈ oj.after, Region.binds md e = true → e.on ≠ i := fun e he hb heq => by
        have h1 := hall e he hb
        rw [heq, listed_not hiun] at h1
        cases h1
      have hJji : J j i = false := by
        cases hk : J j i with
        | false => rfl
        | true => have := ready_J hJ hD hj hk; rw [listed_not hiun] at this; cases this
      have hJij : J i j = false := by
        cases hk : J i j with
        | false => rfl
        | true => have := ready_J hJ hD hr hk; rw [listed_not hjun] at this; cases this
      have hap := hfree j oj hoj hji hjun hnot
      have h1 : kOp P ops R S w0 J Ks i (fun a F => kOp P ops R S w0 J Ks j (wpAnyK P md ops R S w0 J Ks Q fuel ((listed.setIfInBounds i true).setIfInBounds j true)) a F) a F :=
        kOp_mono (fun a F h => h.2 j (ready_mono hj hji)) H
      have h2 := kOp_swap hf hi hoj hap (Ne.symm hji) (two_ne ht hr hj (Ne.symm hji)) (two_ne ht hj hr hji) (fun cs b => hsel i oi cs b hi) (fun cs b => hsel j oj cs b hoj) hJji hJij hF hW (hN j hjun) h1
      have hfree' : ∀ k ok, ops[k]? = some ok → k ≠ i → (listed.setIfInBounds j true).getD k true = false →
          (∀ e ∈ ok.after, Region.binds md e = true → e.on ≠ i) → oi.apart ops ok = true := fun k ok hk hki hun hno => by
        refine hfree k ok hk hki ?_ hno
        by_cases hjk : j = k
        · subst hjk; exact hjun
        · rw [getD_set_ne true hjk] at hun; exact hun
      rw [kOp_iff hoj hW] at h2 ⊢
      refine ⟨h2.1, fun u hu => ?_⟩
      have hw := out_wit hf (two_ne ht hj hr hji) hF hW hu
      refine ih (listed.setIfInBounds j true) _ _ hw.1 hw.2 hN.set (hD.set hJ hj) hfree' (ready_mono hr (Ne.symm hji)) ?_
      rw [Array.setIfInBounds_comm _ _ hji]
      exact h2.2 u hu

/-- The walk in the order of the text. -/
def wpK (P : Program) (ops : Array Oper) (R : World → World → Prop) (S : World → Prop) (w0 : World) (J : Nat → Nat → Bool) (Ks : Nat → Option Know) (Q : Act → Facts → Prop) : Nat → List Oper → Act → Facts → Prop
  | _, [], a, F => Q a F
  | i, o :: rest, a, F => if Region.wanted o (yielded ops a.tmps) = true then
      match Ks i with
      | none => ∃ v, Quietly P S o a v ∧ wpK P ops R S w0 J Ks Q (i + 1) rest (a.put o.dst v) F
      | some k => Actively P R S w0 J i o a F k ∧ ∀ u, Wit R S w0 (upd F i (k u)) → wpK P ops R S w0 J Ks Q (i + 1) rest (a.put o.dst u) (upd F i (k u))
    else wpK P ops R S w0 J Ks Q (i + 1) rest (a.put o.dst undef) F

theorem wpAnyK_lex (hf : Fits R S Ks tl) (ht : TlOk md ops tl) (hJ : JOk md ops J) {Q : Act → Facts → Prop} (hs : Region.noSelect ops = true) : ∀ (l : List Oper) (k : Nat) (listed : Array Bool) (a : Act) (F : Facts), (∀ j, l[j]? = ops[k + j]?) →
    Region.lexFrom md ops l.length k listed = true → (l ≠ [] → FKept R F) → Wit R S w0 F → NoF listed F → DownJ J listed → wpK P ops R S w0 J Ks Q k l a F → wpAnyK P md ops R S w0 J Ks Q l.length listed a F
  | [], _, _, _, _, _, hB, _, _, _, _, h => ⟨by simpa [Region.lexFrom] using hB, h⟩
  | o :: l, k, listed, a, F, hl, hB, hF, hW, hN, hD, h => by
    have h0 : ops[k]? = some o := by simpa using (hl 0).symm
    simp only [List.length_cons, Region.lexFrom, Bool.and_eq_true] at hB
    obtain ⟨⟨hr, hfr⟩, hB'⟩ := hB
    have hr' : k ∈ Region.ready md ops listed := by simpa using hr
    have hst : kOp P ops R S w0 J Ks k (wpK P ops R S w0 J Ks Q (k + 1) l) a F := by unfold kOp; simp only [h0]; exact h
    refine wpAnyK_first hf ht hJ h0 (Region.noSelect_spec hs) l.length listed a F (hF (by simp)) hW hN hD (Region.free_spec h0 hfr) hr' ?_
    rw [kOp_iff h0 hW] at hst ⊢
    refine ⟨hst.1, fun u hu => ?_⟩
    have hw := out_wit' hW hu
    refine wpAnyK_lex hf ht hJ hs l (k + 1) _ _ _ (fun j => by have := hl (j + 1); simpa [Nat.add_assoc, Nat.add_comm 1 j] using this) hB' (fun hne => ?_) hw hN.set (hD.set hJ hr') (hst.2 u hu)
    refine (out_wit hf (fun e => ?_) (hF (by simp)) hW hu).1
    subst e
    cases l with
    | nil => exact hne rfl
    | cons o2 l2 =>
      have h1 : ops[k + 1]? = some o2 := by simpa using (hl 1).symm
      simp only [List.length_cons, Region.lexFrom, Bool.and_eq_true] at hB'
      have h2 : k + 1 ∈ Region.ready md ops (listed.setIfInBounds k true) := by simpa using hB'.1.1
      have h3 := (mem_ready.1 h2).1
      rw [tl_done ht hr'] at h2
      cases h2

/-- The edges of a region, and theirs, by a Bool. -/
def jOkB (ops : Array Oper) (jss : List (List Nat)) : Bool :=
  (List.range jss.length).all fun j => ((jss.getD j []).all fun k => match ops[j]? with
    | none => false
    | some o => o.after.any fun e => Region.binds .any e && (e.on == k || (jss.getD e.on []).contains k))
def jOf (jss : List (List Nat)) (j k : Nat) : Bool := (jss.getD j []).contains k
theorem jOkB_spec {jss : List (List Nat)} (h : jOkB ops jss = true) : JOk .any ops (jOf jss) := by
  intro j k hjk
  unfold jOf at hjk
  unfold jOkB at h
  rw [List.all_eq_true] at h
  have hj : j < jss.length := by
    rcases Nat.lt_or_ge j jss.length with h' | h'
    · exact h'
    · simp [List.getD_eq_getElem?_getD, List.getElem?_eq_none h'] at hjk
  have h1 := h j (List.mem_range.2 hj)
  rw [List.all_eq_true] at h1
  have h2 := h1 k (by simpa using hjk)
  split at h2
  · cases h2
  · rename_i o ho
    rw [Array.any_eq_true'] at h2
    obtain ⟨e, he, hb⟩ := h2
    simp only [Bool.and_eq_true, Bool.or_eq_true, beq_iff_eq] at hb
    rcases hb.2 with hk | hk
    · exact .inl ⟨o, ho, e, he, hb.1, hk⟩
    · exact .inr ⟨e.on, ⟨o, ho, e, he, hb.1, rfl⟩, hk⟩

/-- Whom each operation waits for, through others too. -/
def ancs (ops : Array Oper) : List (List Nat) :=
  ops.toList.foldl (fun acc o => acc ++ [(List.range acc.length).filter fun k => o.after.any fun e => Region.binds .any e && (e.on == k || (acc.getD e.on []).contains k)]) []
def tlB (ops : Array Oper) (tl : Nat) : Bool := match ops[tl]? with
  | none => true
  | some o => (List.range ops.size).all fun j => j == tl || o.after.any fun e => Region.binds .any e && e.on == j
theorem tlB_spec (h : tlB ops tl = true) : TlOk .any ops tl := by
  intro j oj ot hj ho hne
  unfold tlB at h
  rw [ho] at h
  simp only [List.all_eq_true, List.mem_range, Bool.or_eq_true, beq_iff_eq] at h
  rcases h j (Array.getElem?_eq_some_iff.1 hj).1 with h | h
  · exact absurd h hne
  · rw [Array.any_eq_true'] at h
    obtain ⟨e, he, hb⟩ := h
    simp only [Bool.and_eq_true, beq_iff_eq] at hb
    exact ⟨ot, ho, e, he, hb.1, hb.2⟩
/-- **A region that draws its order, walked once.** -/
theorem wp_region_know {id : Nat} {Q : Exit → Act → World → Prop} {a : Act} {w : World} {l : List Oper} (S : World → Prop) (R : World → World → Prop) (jss : List (List Nat)) (tl : Nat) (Ks : Nat → Option Know)
    (hm : P.follows .mixedOrders = true) (hB : Region.lexB .any l.toArray = true) (hJ : jOkB l.toArray jss = true) (ht : tlB l.toArray tl = true) (hf : Fits R S Ks tl) (hS : S w.drew)
    (h : wpK P l.toArray R S w.drew (jOf jss) Ks (fun a' F => ∀ w', R w.drew w' → S w' → (∀ k, F k w') → Q .normal a' w') 0 l a noFacts) : (Code.region id l.toArray true).wp P Q a w := by
  simp only [Region.lexB, Bool.and_eq_true] at hB
  refine wp_region_any hm (wpAny_of_know (R := R) (S := S) (w0 := w.drew) (J := jOf jss) (Ks := Ks) (Q := fun a' F => ∀ w', R w.drew w' → S w' → (∀ k, F k w') → Q .normal a' w') hf (tlB_spec ht) (fun a' F w' hr hS' hF' hq => hq w' hr hS' hF') _ _ a noFacts _ (fun _ _ _ _ _ h => h) (hf.refl _) hS (fun _ => trivial) ?_)
  have := wpAnyK_lex (P := P) (w0 := w.drew) hf (tlB_spec ht) (jOkB_spec hJ) hB.1 l 0 (Array.replicate l.toArray.size false) a noFacts (by simp) (by simpa using hB.2) (fun _ _ _ _ _ h => h) ⟨w.drew, hf.refl _, hS, fun _ => trivial⟩ (fun _ _ _ => trivial)
    (fun d k h1 h2 => by
      rcases Nat.lt_or_ge d l.length with h' | h'
      · simp [h'] at h1
      · simp [Array.getElem?_eq_none, h'] at h1) h
  simpa using this


/-! ### The steps of a walk -/
section
variable {Q : Act → Facts → Prop} {i : Nat} {o : Oper} {rest : List Oper} {a : Act} {F : Facts}
theorem wpK_step (h : ∀ K : Act → Facts → Prop, (∀ a F, wpK P ops R S w0 J Ks Q (i + 1) rest a F → K a F) →
    if Region.wanted o (yielded ops a.tmps) = true then
      match Ks i with
      | none => ∃ v, Quietly P S o a v ∧ K (a.put o.dst v) F
      | some k => Actively P R S w0 J i o a F k ∧ ∀ u, Wit R S w0 (upd F i (k u)) → K (a.put o.dst u) (upd F i (k u))
    else K (a.put o.dst undef) F) : wpK P ops R S w0 J Ks Q i (o :: rest) a F := h _ (fun _ _ h => h)
theorem wpK_quiet (hk : Ks i = none) (hw : Region.wanted o (yielded ops a.tmps) = true) {v : Value} (hq : Quietly P S o a v) {a' : Act} (he : a' = a.put o.dst v) (h : wpK P ops R S w0 J Ks Q (i + 1) rest a' F) : wpK P ops R S w0 J Ks Q i (o :: rest) a F := by
  subst he
  refine wpK_step fun K hK => ?_
  rw [if_pos hw, hk]
  exact ⟨v, hq, hK _ _ h⟩
theorem wpK_know {k : Know} (hk : Ks i = some k) (hw : Region.wanted o (yielded ops a.tmps) = true) (ha : Actively P R S w0 J i o a F k) (h : ∀ u, Wit R S w0 (upd F i (k u)) → ∃ a', a' = a.put o.dst u ∧ wpK P ops R S w0 J Ks Q (i + 1) rest a' (upd F i (k u))) : wpK P ops R S w0 J Ks Q i (o :: rest) a F := by
  refine wpK_step fun K hK => ?_
  rw [if_pos hw, hk]
  refine ⟨ha, fun u hu => ?_⟩
  obtain ⟨a', rfl, h⟩ := h u hu
  exact hK _ _ h
theorem wpK_skip (hw : Region.wanted o (yielded ops a.tmps) = false) {a' : Act} (he : a' = a.put o.dst undef) (h : wpK P ops R S w0 J Ks Q (i + 1) rest a' F) : wpK P ops R S w0 J Ks Q i (o :: rest) a F := by
  subst he
  refine wpK_step fun K hK => ?_
  rw [if_neg (by rw [hw]; exact Bool.false_ne_true)]
  exact hK _ _ h
theorem wpK_end (h : Q a F) : wpK P ops R S w0 J Ks Q i [] a F := h
/-- What is known of operation number i, in a world in which all that is known holds. -/
theorem Wit.fact {G : Facts} (h : Wit R S w0 G) : ∃ w, R w0 w ∧ S w ∧ ∀ k, G k w := h
end
end
attribute [irreducible] gives wpK
end Go.Proofs.Ytcgkgcciogibkaa.Rg
