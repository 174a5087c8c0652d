/- The plain arithmetic of lists of digits: no program in sight. -/
set_option linter.unusedVariables false
set_option linter.unusedSimpArgs false
namespace Go.Proofs.Ytcgkgcciogibkaa.Ma

/-- The value of digits to the base b, the least significant one first. -/
def lv (b : Int) : List Int → Int
  | [] => 0
  | x :: xs => x + b * lv b xs

/-- All are digits to the base b. -/
def dg (b : Int) (xs : List Int) : Prop := ∀ x ∈ xs, 0 ≤ x ∧ x < b

/-- No zero at the top. -/
def top (xs : List Int) : Prop := xs.getLast? ≠ some 0

/-- A digit, 0 beyond the end. -/
def at0 (xs : List Int) (i : Nat) : Int := xs.getD i 0

theorem dg_nil (b : Int) : dg b [] := by intro x h; simp at h
theorem dg_cons {b x : Int} {xs : List Int} : dg b (x :: xs) ↔ (0 ≤ x ∧ x < b) ∧ dg b xs := by
  unfold dg; simp
theorem dg_append {b : Int} {xs ys : List Int} : dg b (xs ++ ys) ↔ dg b xs ∧ dg b ys := by
  unfold dg
  constructor
  · intro h
    exact ⟨fun x hx => h x (by simp [hx]), fun x hx => h x (by simp [hx])⟩
  · rintro ⟨h1, h2⟩ x hx
    rcases List.mem_append.1 hx with h | h
    · exact h1 x h
    · exact h2 x h
theorem dg_take {b : Int} {xs : List Int} (h : dg b xs) (n : Nat) : dg b (xs.take n) := fun x hx => h x (List.mem_of_mem_take hx)
theorem dg_drop {b : Int} {xs : List Int} (h : dg b xs) (n : Nat) : dg b (xs.drop n) := fun x hx => h x (List.mem_of_mem_drop hx)
theorem dg_set {b x : Int} {xs : List Int} (h : dg b xs) (n : Nat) (h0 : 0 ≤ x) (h1 : x < b) : dg b (xs.set n x) := fun y hy => by
  rcases List.mem_or_eq_of_mem_set hy with h' | h'
  · exact h y h'
  · subst h'; exact ⟨h0, h1⟩
theorem dg_replicate {b x : Int} (n : Nat) (h0 : 0 ≤ x) (h1 : x < b) : dg b (List.replicate n x) := fun y hy => by
  rw [(List.mem_replicate.1 hy).2]; exact ⟨h0, h1⟩
theorem dg_at {b : Int} {xs : List Int} (h : dg b xs) (hb : 0 < b) (i : Nat) : 0 ≤ at0 xs i ∧ at0 xs i < b := by
  unfold at0
  by_cases hi : i < xs.length
  · rw [List.getD_eq_getElem?_getD, List.getElem?_eq_getElem hi]; exact h _ (List.getElem_mem hi)
  · rw [List.getD_eq_getElem?_getD, List.getElem?_eq_none (by omega)]; simp; exact hb

theorem pos_pow {b : Int} (hb : 0 < b) (n : Nat) : 0 < b ^ n := Int.pow_pos hb

theorem lv_nonneg {b : Int} (hb : 0 < b) : ∀ {xs : List Int}, dg b xs → 0 ≤ lv b xs
  | [], _ => by simp [lv]
  | x :: xs, h => by
    have h' := dg_cons.1 h
    have := lv_nonneg hb h'.2
    have := Int.mul_nonneg (Int.le_of_lt hb) this
    simp only [lv]; omega
theorem lv_lt {b : Int} (hb : 0 < b) : ∀ {xs : List Int}, dg b xs → lv b xs < b ^ xs.length
  | [], _ => by simp [lv]
  | x :: xs, h => by
    have h' := dg_cons.1 h
    have h1 := lv_lt hb h'.2
    have h2 : b * (lv b xs + 1) ≤ b * b ^ xs.length := Int.mul_le_mul_of_nonneg_left (by omega) (Int.le_of_lt hb)
    simp only [lv, List.length_cons, Int.pow_succ]
    grind
theorem lv_append (b : Int) : ∀ xs ys : List Int, lv b (xs ++ ys) = lv b xs + b ^ xs.length * lv b ys
  | [], ys => by simp [lv]
  | x :: xs, ys => by
    simp only [List.cons_append, lv, List.length_cons, Int.pow_succ, lv_append b xs ys]
    grind
theorem lv_snoc (b : Int) (xs : List Int) (x : Int) : lv b (xs ++ [x]) = lv b xs + b ^ xs.length * x := by
  rw [lv_append]; simp [lv]
theorem lv_zeros (b : Int) (n : Nat) : lv b (List.replicate n 0) = 0 := by
  induction n with
  | zero => simp [lv]
  | succ n ih => simp [List.replicate_succ, lv, ih]
theorem lv_set (b : Int) : ∀ (xs : List Int) (i : Nat) (x : Int), i < xs.length → lv b (xs.set i x) = lv b xs + (x - at0 xs i) * b ^ i
  | [], i, x, h => by simp at h
  | y :: ys, 0, x, h => by simp [lv, at0]; omega
  | y :: ys, i + 1, x, h => by
    have := lv_set b ys i x (by simpa using h)
    simp only [List.set_cons_succ, lv, this, at0, List.getD_cons_succ, Int.pow_succ]
    grind
theorem lv_take_succ (b : Int) (xs : List Int) (j : Nat) (h : j < xs.length) : lv b (xs.take (j + 1)) = lv b (xs.take j) + b ^ j * at0 xs j := by
  rw [List.take_succ_eq_append_getElem h, lv_snoc, List.length_take, Nat.min_eq_left (Nat.le_of_lt h)]
  simp [at0, h]
theorem lv_split (b : Int) (xs : List Int) (j : Nat) (h : j ≤ xs.length) : lv b xs = lv b (xs.take j) + b ^ j * lv b (xs.drop j) := by
  have h0 := lv_append b (xs.take j) (xs.drop j)
  rw [List.take_append_drop, List.length_take, Nat.min_eq_left h] at h0
  exact h0
theorem lv_drop (b : Int) (xs : List Int) (j : Nat) (h : j < xs.length) : lv b (xs.drop j) = at0 xs j + b * lv b (xs.drop (j + 1)) := by
  rw [List.drop_eq_getElem_cons h]
  simp [lv, at0, h]
theorem at0_of_lt {xs : List Int} {i : Nat} (h : i < xs.length) : at0 xs i = xs[i] := by simp [at0, h]
theorem at0_ge {xs : List Int} {i : Nat} (h : xs.length ≤ i) : at0 xs i = 0 := by simp [at0, h]

theorem top_nil : top [] := by simp [top]
theorem top_at {xs : List Int} (h : xs ≠ []) : top xs ↔ at0 xs (xs.length - 1) ≠ 0 := by
  have hl : 0 < xs.length := List.length_pos_iff.2 h
  unfold top
  rw [List.getLast?_eq_getElem?, List.getElem?_eq_getElem (by omega), at0_of_lt (by omega)]
  simp

/-- What has no zero at the top is at least the power of its places but one. -/
theorem top_le {b : Int} (hb : 0 < b) {xs : List Int} (hd : dg b xs) (ht : top xs) (hne : xs ≠ []) : b ^ (xs.length - 1) ≤ lv b xs := by
  have hl : 0 < xs.length := List.length_pos_iff.2 hne
  have h1 := (top_at hne).1 ht
  have h2 := (dg_at hd hb (xs.length - 1)).1
  have h3 := lv_split b xs (xs.length - 1) (by omega)
  rw [lv_drop b xs _ (by omega), show xs.length - 1 + 1 = xs.length by omega, List.drop_length] at h3
  have h4 := lv_nonneg hb (dg_take hd (xs.length - 1))
  have h5 : b ^ (xs.length - 1) * 1 ≤ b ^ (xs.length - 1) * at0 xs (xs.length - 1) := Int.mul_le_mul_of_nonneg_left (by omega) (Int.le_of_lt (pos_pow hb _))
  simp only [lv, Int.mul_zero, Int.add_zero] at h3
  omega
theorem pow_le {b : Int} (hb : 1 ≤ b) {m n : Nat} (h : m ≤ n) : b ^ m ≤ b ^ n := by
  induction h with
  | refl => exact Int.le_refl _
  | @step n h ih =>
    rw [Int.pow_succ]
    have : b ^ n * 1 ≤ b ^ n * b := Int.mul_le_mul_of_nonneg_left hb (Int.le_of_lt (pos_pow (by omega) n))
    omega
theorem length_le {b : Int} (hb : 1 < b) {xs ys : List Int} (hx : dg b xs) (hy : dg b ys) (tx : top xs) (h : lv b xs ≤ lv b ys) : xs.length ≤ ys.length := by
  by_cases hne : xs = []
  · subst hne; simp
  · have h1 := top_le (by omega) hx tx hne
    have h2 := lv_lt (by omega) hy
    by_cases hle : xs.length ≤ ys.length
    · exact hle
    · have := pow_le (b := b) (by omega) (show ys.length ≤ xs.length - 1 by omega)
      omega
theorem top_tail {x : Int} {xs : List Int} (h : top (x :: xs)) : top xs := by
  cases xs with
  | nil => exact top_nil
  | cons y ys => unfold top at *; simpa using h
/-- Digits without a zero at the top are told by their value. -/
theorem lv_inj {b : Int} (hb : 1 < b) : ∀ {xs ys : List Int}, dg b xs → dg b ys → top xs → top ys → lv b xs = lv b ys → xs = ys := by
  intro xs
  induction xs with
  | nil =>
    intro ys _ hy _ ty h
    cases ys with
    | nil => rfl
    | cons y ys =>
      have := length_le hb hy (dg_nil b) ty (by omega)
      simp at this
  | cons x xs ih =>
    intro ys hx hy tx ty h
    cases ys with
    | nil =>
      have := length_le hb hx (dg_nil b) tx (by omega)
      simp at this
    | cons y ys =>
      have h1 := dg_cons.1 hx
      have h2 := dg_cons.1 hy
      simp only [lv] at h
      have e : x = y := by
        have e1 : (x + b * lv b xs) % b = x := by rw [Int.add_mul_emod_self_left]; exact Int.emod_eq_of_lt h1.1.1 h1.1.2
        have e2 : (y + b * lv b ys) % b = y := by rw [Int.add_mul_emod_self_left]; exact Int.emod_eq_of_lt h2.1.1 h2.1.2
        rw [← e1, h, e2]
      subst e
      have e3 : lv b xs = lv b ys := Int.eq_of_mul_eq_mul_left (a := b) (by omega) (by omega)
      rw [ih h1.2 h2.2 (top_tail tx) (top_tail ty) e3]

/-- The digits without the zeros at the top. -/
def trim : List Int → List Int
  | [] => []
  | x :: xs => match trim xs with
    | [] => if x = 0 then [] else [x]
    | y :: ys => x :: y :: ys
theorem trim_lv (b : Int) : ∀ xs : List Int, lv b (trim xs) = lv b xs
  | [] => rfl
  | x :: xs => by
    have ih := trim_lv b xs
    unfold trim
    split
    · rename_i h
      rw [h] at ih
      split
      · rename_i h0; subst h0; simp [lv, ← ih]
      · simp [lv, ← ih]
    · rename_i y ys h
      rw [h] at ih
      simp only [lv] at ih ⊢
      rw [ih]
theorem trim_top : ∀ xs : List Int, top (trim xs)
  | [] => top_nil
  | x :: xs => by
    have ih := trim_top xs
    unfold trim
    split
    · split
      · exact top_nil
      · rename_i h0; unfold top; simpa using h0
    · rename_i y ys h
      rw [h] at ih
      unfold top at *
      simpa using ih
theorem trim_mem {x : Int} : ∀ {xs : List Int}, x ∈ trim xs → x ∈ xs
  | [], h => by simp [trim] at h
  | y :: ys, h => by
    unfold trim at h
    split at h
    · split at h
      · simp at h
      · simp at h; simp [h]
    · rename_i z zs e
      rcases List.mem_cons.1 h with h | h
      · simp [h]
      · exact List.mem_cons_of_mem _ (trim_mem (by rw [e]; exact h))
theorem trim_dg {b : Int} {xs : List Int} (h : dg b xs) : dg b (trim xs) := fun x hx => h x (trim_mem hx)
theorem trim_of_top : ∀ {xs : List Int}, top xs → trim xs = xs
  | [], _ => rfl
  | x :: xs, h => by
    have ih := trim_of_top (top_tail h)
    unfold trim
    rw [ih]
    cases xs with
    | nil => simp [top] at h; simp [h]
    | cons y ys => rfl
theorem trim_snoc0 : ∀ xs : List Int, trim (xs ++ [0]) = trim xs
  | [] => by simp [trim]
  | x :: xs => by
    simp only [List.cons_append, trim, trim_snoc0 xs]
theorem trim_take : ∀ xs : List Int, trim xs = xs.take (trim xs).length
  | [] => rfl
  | x :: xs => by
    have ih := trim_take xs
    unfold trim
    split
    · split
      · rfl
      · simp
    · rename_i y ys h
      rw [h] at ih
      simp only [List.length_cons, List.take_succ_cons]
      rw [List.length_cons] at ih
      rw [← ih]
theorem trim_len (xs : List Int) : (trim xs).length ≤ xs.length := by
  induction xs with
  | nil => simp [trim]
  | cons x xs ih =>
    unfold trim
    split
    · split <;> simp
    · rename_i y ys h; rw [h] at ih; simpa using ih

end Go.Proofs.Ytcgkgcciogibkaa.Ma
