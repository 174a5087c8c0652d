/- Parts Lm, Lr, Syj, Ja, Pwm, Jf, in one file. -/
import Derived.Test.YthpjmhhfcechmaaGreatLRActs3
import Derived.Test.YthpjmhhfcechmaaGreatLRActs4
/- Long division of limbs: what its loops keep. No program in sight. -/
set_option linter.unusedVariables false
set_option linter.unusedSimpArgs false
namespace Go.Proofs.YthpjmhhfcechmaaGreat.Ma
theorem BB_pos : (0 : Int) < (4294967296 : Int) := by decide
theorem at0_set {xs : List Int} {i m : Nat} (x : Int) (h : i < xs.length) : at0 (xs.set i x) m = if i = m then x else at0 xs m := by
 unfold at0
 simp only [List.getD_eq_getElem?_getD, List.getElem?_set]
 by_cases e : i = m
 ·subst e; simp [h]
 ·simp [e]
theorem lt_of_zeros {b : Int} (hb : 0 < b) {zs : List Int} (d : dg b zs) {t : Nat} (h : ∀ m, t ≤ m → at0 zs m = 0) : lv b zs < b ^ t := by
 by_cases hl : zs.length ≤ t
 ·exact Int.lt_of_lt_of_le (lv_lt hb d) (pow_le (by omega) hl)
 ·have e := lv_split b zs t (by omega)
  have z : lv b (zs.drop t) = 0 := by
   have : zs.drop t = List.replicate (zs.drop t).length 0 := by
    apply List.eq_replicate_iff.2
    refine ⟨rfl, fun x hx => ?_⟩
    obtain ⟨m, hm, rfl⟩ := List.mem_iff_getElem.1 hx
    have := h (t + m) (by omega)
    simp only [at0, List.getD_eq_getElem?_getD] at this
    rw [List.getElem_drop]
    rw [List.length_drop] at hm
    rw [List.getElem?_eq_getElem (by omega)] at this
    simpa using this
   rw [this, lv_zeros]
  rw [e, z, Int.mul_zero, Int.add_zero]
  have := lv_lt hb (dg_take d t)
  rw [List.length_take, Nat.min_eq_left (by omega)] at this
  exact this
theorem zeros_of_lt {b : Int} (hb : 0 < b) {zs : List Int} (d : dg b zs) {t : Nat} (h : lv b zs < b ^ t) (m : Nat) (hm : t ≤ m) : at0 zs m = 0 := by
 by_cases hl : m < zs.length
 ·obtain ⟨a0, a1⟩ := dg_at d hb m
  have e := lv_split b zs m (by omega)
  have e2 := lv_drop b zs m hl
  have n1 := lv_nonneg hb (dg_take d m)
  have n2 := lv_nonneg hb (dg_drop d (m + 1))
  have hp := pos_pow hb m
  have hq := pow_le (b := b) (by omega) hm
  apply Classical.byContradiction
  intro hne
  have h1 : 1 ≤ lv b (zs.drop m) := by rw [e2]; have := Int.mul_nonneg (Int.le_of_lt hb) n2; omega
  have h2 : b ^ m * 1 ≤ b ^ m * lv b (zs.drop m) := Int.mul_le_mul_of_nonneg_left h1 (Int.le_of_lt hp)
  omega
 ·exact at0_ge (by omega)
theorem three {b : Int} (hb : 0 < b) {zs : List Int} (d : dg b zs) {k : Nat} (hk : 2 ≤ k) (h : ∀ m, k < m → at0 zs m = 0) : lv b zs = ((at0 zs k * b + at0 zs (k - 1)) * b + at0 zs (k - 2)) * b ^ (k - 2) + lv b (zs.take (k - 2)) := by
 obtain ⟨j, rfl⟩ : ∃ j, k = j + 2 := ⟨k - 2, by omega⟩
 simp only [Nat.add_sub_cancel, show j + 2 - 1 = j + 1 by omega]
 have key : ∀ m, lv b (zs.drop m) = at0 zs m + b * lv b (zs.drop (m + 1)) := fun m => by
  by_cases hm : m < zs.length
  ·exact lv_drop b zs m hm
  ·rw [at0_ge (by omega), List.drop_eq_nil_of_le (by omega), List.drop_eq_nil_of_le (by omega)]; simp [lv]
 have z : lv b (zs.drop (j + 3)) = 0 := by
  have h1 : lv b (zs.drop (j + 3)) < b ^ 0 := lt_of_zeros hb (dg_drop d _) fun m _ => by
   have := h (j + 3 + m) (by omega)
   simp only [at0, List.getD_eq_getElem?_getD, List.getElem?_drop] at this ⊢
   exact this
  have := lv_nonneg hb (dg_drop d (j + 3))
  rw [Int.pow_zero] at h1
  omega
 have e : lv b zs = lv b (zs.take j) + b ^ j * lv b (zs.drop j) := by
  by_cases hj : j ≤ zs.length
  ·exact lv_split b zs j hj
  ·rw [List.take_of_length_le (by omega), List.drop_eq_nil_of_le (by omega)]; simp [lv]
 rw [e, key j, key (j + 1), key (j + 2), z]
 grind
/-! ### Multiply and subtract -/
def MS (us0 vs : List Int) (i : Nat) (D : Int) (j : Nat) (us : List Int) (cc bb : Int) : Prop :=
 us.length = us0.length ∧ dg 4294967296 us ∧ lv 4294967296 us = lv 4294967296 us0 - 4294967296 ^ i * (D * lv 4294967296 (vs.take j)) + 4294967296 ^ (i + j) * (cc + bb) ∧ (∀ m, i + j ≤ m → at0 us m = at0 us0 m) ∧ 0 ≤ cc ∧ cc < 4294967296 ∧ 0 ≤ bb ∧ bb ≤ 1 ∧ j ≤ vs.length
theorem MS.start {us0 vs : List Int} {i : Nat} {D : Int} (d : dg 4294967296 us0) : MS us0 vs i D 0 us0 0 0 := ⟨rfl, d, by simp [lv], fun _ _ => rfl, by omega, by decide, by omega, by omega, by omega⟩
theorem borrow64 {x : Int} (h0 : -4294967296 ≤ x) (h1 : x < 4294967296) : x % 18446744073709551616 % 4294967296 = x + 4294967296 * (x % 18446744073709551616 / 9223372036854775808) ∧ (x % 18446744073709551616 / 9223372036854775808 = if x < 0 then 1 else 0) := by
 by_cases h : x < 0
 ·have : x % 18446744073709551616 = x + 18446744073709551616 := by omega
  rw [this, if_pos h]
  constructor <;> omega
 ·have : x % 18446744073709551616 = x := by omega
  rw [this, if_neg h]
  constructor <;> omega
theorem MS.bound {us0 vs : List Int} {i : Nat} {D : Int} {j : Nat} {us : List Int} {cc bb : Int} (h : MS us0 vs i D j us cc bb) (dv : dg 4294967296 vs) (hD0 : 0 ≤ D) (hD : D < 4294967296) : 0 ≤ D * at0 vs j + cc ∧ D * at0 vs j + cc < 18446744073709551616 ∧ 0 ≤ (D * at0 vs j + cc) / 4294967296 ∧ (D * at0 vs j + cc) / 4294967296 < 4294967296 := by
 obtain ⟨_, _, _, _, c0, c1, _, _, _⟩ := h
 obtain ⟨v0, v1⟩ := dg_at dv BB_pos j
 have p0 := Int.mul_nonneg hD0 v0
 have p1 : D * at0 vs j ≤ 4294967295 * 4294967295 := by
  have a : D * at0 vs j ≤ D * 4294967295 := Int.mul_le_mul_of_nonneg_left (by omega) hD0
  have c : D * 4294967295 ≤ 4294967295 * 4294967295 := Int.mul_le_mul_of_nonneg_right (by omega) (by decide)
  omega
 omega
theorem MS.step {us0 vs : List Int} {i : Nat} {D : Int} {j : Nat} {us : List Int} {cc bb : Int} (h : MS us0 vs i D j us cc bb) (dv : dg 4294967296 vs) (hD0 : 0 ≤ D) (hD : D < 4294967296) (hj : j < vs.length) (hi : i + vs.length < us0.length) :
  MS us0 vs i D (j + 1) (us.set (i + j) ((at0 us (i + j) - (D * at0 vs j + cc) % 4294967296 - bb) % 18446744073709551616 % 4294967296)) ((D * at0 vs j + cc) / 4294967296) ((at0 us (i + j) - (D * at0 vs j + cc) % 4294967296 - bb) % 18446744073709551616 / 9223372036854775808) := by
 have hb := h.bound dv hD0 hD
 obtain ⟨hl, du, hv, ha, c0, c1, b0, b1, _⟩ := h
 obtain ⟨u0, u1⟩ := dg_at du BB_pos (i + j)
 generalize hp : D * at0 vs j + cc = p at *
 have hm0 := Int.emod_nonneg p (show 4294967296 ≠ 0 by decide)
 have hm1 := Int.emod_lt_of_pos p BB_pos
 obtain ⟨e1, e2⟩ := borrow64 (x := at0 us (i + j) - p % 4294967296 - bb) (by omega) (by omega)
 have hlt : i + j < us.length := by omega
 refine ⟨by rw [List.length_set, hl], dg_set du _ (Int.emod_nonneg _ (by decide)) (Int.emod_lt_of_pos _ BB_pos), ?_, fun m hm => ?_, hb.2.2.1, hb.2.2.2, ?_, ?_, by omega⟩
 ·rw [lv_set 4294967296 us (i + j) _ hlt, e1, hv, lv_take_succ 4294967296 vs j hj, show i + (j + 1) = (i + j) + 1 by omega, Int.pow_succ, Int.pow_add]
  have hpp := Int.mul_ediv_add_emod p 4294967296
  generalize at0 us (i + j) = u at *
  generalize (u - p % 4294967296 - bb) % 18446744073709551616 / 9223372036854775808 = bb' at *
  generalize lv 4294967296 (vs.take j) = T at *
  generalize at0 vs j = w at *
  generalize lv 4294967296 us0 = X at *
  generalize (4294967296 : Int) ^ i = A at *
  generalize (4294967296 : Int) ^ j = C at *
  generalize p / 4294967296 = q at *
  generalize p % 4294967296 = r at *
  have : r = D * w + cc - 4294967296 * q := by omega
  rw [this]
  grind
 ·rw [at0_set _ hlt, if_neg (by omega)]
  exact ha m (by omega)
 ·rw [e2]; split <;> omega
 ·rw [e2]; split <;> omega
theorem MS.fin {us0 vs : List Int} {i : Nat} {D : Int} {us : List Int} {cc bb : Int} (h : MS us0 vs i D vs.length us cc bb) (hi : i + vs.length < us0.length) {us2 : List Int} {ng : Int}
  (e2 : us2 = us.set (i + vs.length) ((at0 us (i + vs.length) - cc - bb) % 18446744073709551616 % 4294967296)) (en : ng = (at0 us (i + vs.length) - cc - bb) % 18446744073709551616 / 9223372036854775808) :
  us2.length = us0.length ∧ dg 4294967296 us2 ∧ lv 4294967296 us2 = lv 4294967296 us0 - 4294967296 ^ i * (D * lv 4294967296 vs) + 4294967296 ^ (i + vs.length + 1) * ng ∧ (∀ m, i + vs.length < m → at0 us2 m = at0 us0 m) ∧ (ng = 0 ∨ ng = 1) := by
 obtain ⟨hl, du, hv, ha, c0, c1, b0, b1, _⟩ := h
 obtain ⟨u0, u1⟩ := dg_at du BB_pos (i + vs.length)
 obtain ⟨x1, x2⟩ := borrow64 (x := at0 us (i + vs.length) - cc - bb) (by omega) (by omega)
 have hlt : i + vs.length < us.length := by omega
 rw [List.take_length] at hv
 subst e2 en
 refine ⟨by rw [List.length_set, hl], dg_set du _ (Int.emod_nonneg _ (by decide)) (Int.emod_lt_of_pos _ BB_pos), ?_, fun m hm => ?_, ?_⟩
 ·rw [lv_set 4294967296 us _ _ hlt, x1, hv, Int.pow_succ]
  generalize (at0 us (i + vs.length) - cc - bb) % 18446744073709551616 / 9223372036854775808 = ng at *
  generalize at0 us (i + vs.length) = u at *
  generalize (4294967296 : Int) ^ (i + vs.length) = C at *
  generalize (4294967296 : Int) ^ i = A at *
  grind
 ·rw [at0_set _ hlt, if_neg (by omega)]; exact ha m (by omega)
 ·rw [x2]; split
  ·exact .inr rfl
  ·exact .inl rfl
/-! ### Add back -/
def AB (us2 vs : List Int) (i j : Nat) (us : List Int) (c : Int) : Prop :=
 us.length = us2.length ∧ dg 4294967296 us ∧ lv 4294967296 us = lv 4294967296 us2 + 4294967296 ^ i * lv 4294967296 (vs.take j) - 4294967296 ^ (i + j) * c ∧ (∀ m, i + j ≤ m → at0 us m = at0 us2 m) ∧ 0 ≤ c ∧ c ≤ 1 ∧ j ≤ vs.length
theorem AB.start {us2 vs : List Int} {i : Nat} (d : dg 4294967296 us2) : AB us2 vs i 0 us2 0 := ⟨rfl, d, by simp [lv], fun _ _ => rfl, by omega, by omega, by omega⟩
theorem AB.step {us2 vs : List Int} {i j : Nat} {us : List Int} {c : Int} (h : AB us2 vs i j us c) (dv : dg 4294967296 vs) (hj : j < vs.length) (hi : i + vs.length < us2.length) :
  AB us2 vs i (j + 1) (us.set (i + j) ((at0 us (i + j) + at0 vs j + c) % 4294967296)) ((at0 us (i + j) + at0 vs j + c) / 4294967296) := by
 obtain ⟨hl, du, hv, ha, c0, c1, _⟩ := h
 obtain ⟨u0, u1⟩ := dg_at du BB_pos (i + j)
 obtain ⟨v0, v1⟩ := dg_at dv BB_pos j
 have hlt : i + j < us.length := by omega
 refine ⟨by rw [List.length_set, hl], dg_set du _ (Int.emod_nonneg _ (by decide)) (Int.emod_lt_of_pos _ BB_pos), ?_, fun m hm => ?_, by omega, by omega, by omega⟩
 ·rw [lv_set 4294967296 us _ _ hlt, hv, lv_take_succ 4294967296 vs j hj, show i + (j + 1) = (i + j) + 1 by omega, Int.pow_succ, Int.pow_add]
  have hs := Int.mul_ediv_add_emod (at0 us (i + j) + at0 vs j + c) 4294967296
  generalize (at0 us (i + j) + at0 vs j + c) / 4294967296 = q at *
  generalize (at0 us (i + j) + at0 vs j + c) % 4294967296 = r at *
  generalize at0 us (i + j) = u at *
  generalize at0 vs j = w at *
  generalize lv 4294967296 (vs.take j) = T at *
  generalize (4294967296 : Int) ^ i = A at *
  generalize (4294967296 : Int) ^ j = C at *
  have : r = u + w + c - 4294967296 * q := by omega
  rw [this]
  grind
 ·rw [at0_set _ hlt, if_neg (by omega)]; exact ha m (by omega)
theorem AB.fin {us2 vs : List Int} {i : Nat} {us : List Int} {c : Int} (h : AB us2 vs i vs.length us c) (hi : i + vs.length < us2.length) {us3 : List Int} (e3 : us3 = us.set (i + vs.length) ((at0 us (i + vs.length) + c) % 4294967296)) :
  us3.length = us2.length ∧ dg 4294967296 us3 ∧ (∃ c2, (c2 = 0 ∨ c2 = 1) ∧ lv 4294967296 us3 = lv 4294967296 us2 + 4294967296 ^ i * lv 4294967296 vs - 4294967296 ^ (i + vs.length + 1) * c2) ∧ (∀ m, i + vs.length < m → at0 us3 m = at0 us2 m) := by
 obtain ⟨hl, du, hv, ha, c0, c1, _⟩ := h
 obtain ⟨u0, u1⟩ := dg_at du BB_pos (i + vs.length)
 have hlt : i + vs.length < us.length := by omega
 rw [List.take_length] at hv
 subst e3
 refine ⟨by rw [List.length_set, hl], dg_set du _ (Int.emod_nonneg _ (by decide)) (Int.emod_lt_of_pos _ BB_pos), ⟨(at0 us (i + vs.length) + c) / 4294967296, by omega, ?_⟩, fun m hm => ?_⟩
 ·rw [lv_set 4294967296 us _ _ hlt, hv, Int.pow_succ]
  have hs := Int.mul_ediv_add_emod (at0 us (i + vs.length) + c) 4294967296
  generalize (at0 us (i + vs.length) + c) / 4294967296 = q at *
  generalize (at0 us (i + vs.length) + c) % 4294967296 = r at *
  generalize at0 us (i + vs.length) = u at *
  generalize (4294967296 : Int) ^ (i + vs.length) = C at *
  generalize (4294967296 : Int) ^ i = A at *
  have : r = u + c - 4294967296 * q := by omega
  rw [this]
  grind
 ·rw [at0_set _ hlt, if_neg (by omega)]; exact ha m (by omega)
/-! ### A round -/
def Lft (vs : List Int) (i : Nat) (us : List Int) : Prop := dg 4294967296 us ∧ lv 4294967296 us < 4294967296 ^ i * lv 4294967296 vs
theorem lft_zeros {vs us : List Int} {i : Nat} (h : Lft vs (i + 1) us) (dv : dg 4294967296 vs) (m : Nat) (hm : i + vs.length < m) : at0 us m = 0 := by
 refine zeros_of_lt BB_pos h.1 (t := i + vs.length + 1) ?_ m (by omega)
 have h1 := lv_lt BB_pos dv
 have h2 := h.2
 have h3 := pos_pow BB_pos (i + 1)
 have h4 : 4294967296 ^ (i + 1) * lv 4294967296 vs ≤ 4294967296 ^ (i + 1) * 4294967296 ^ vs.length := Int.mul_le_mul_of_nonneg_left (Int.le_of_lt h1) (Int.le_of_lt h3)
 rw [← Int.pow_add, show i + 1 + vs.length = i + vs.length + 1 by omega] at h4
 omega
theorem round_pos {us0 vs us2 : List Int} {i : Nat} {D ng : Int} (h : Lft vs (i + 1) us0) (hd2 : dg 4294967296 us2) (hW : lv 4294967296 us0 < 4294967296 ^ i * ((D + 1) * lv 4294967296 vs)) (e : lv 4294967296 us2 = lv 4294967296 us0 - 4294967296 ^ i * (D * lv 4294967296 vs) + 4294967296 ^ (i + vs.length + 1) * ng) (hn : ng = 0) : Lft vs i us2 ∧ lv 4294967296 us0 = lv 4294967296 us2 + 4294967296 ^ i * (D * lv 4294967296 vs) := by
 rw [hn, Int.mul_zero, Int.add_zero] at e
 rw [Int.add_mul, Int.one_mul, Int.mul_add] at hW
 exact ⟨⟨hd2, by omega⟩, by omega⟩
theorem round_neg {us0 vs us2 us3 : List Int} {i : Nat} {D ng c2 : Int} (h : Lft vs (i + 1) us0) (dv : dg 4294967296 vs) (hd2 : dg 4294967296 us2) (hd3 : dg 4294967296 us3) (hD : 4294967296 ^ i * ((D - 1) * lv 4294967296 vs) ≤ lv 4294967296 us0) (e : lv 4294967296 us2 = lv 4294967296 us0 - 4294967296 ^ i * (D * lv 4294967296 vs) + 4294967296 ^ (i + vs.length + 1) * ng) (hn : ng = 1)
  (z2 : ∀ m, i + vs.length < m → at0 us2 m = at0 us0 m) (z3 : ∀ m, i + vs.length < m → at0 us3 m = at0 us2 m) (e3 : lv 4294967296 us3 = lv 4294967296 us2 + 4294967296 ^ i * lv 4294967296 vs - 4294967296 ^ (i + vs.length + 1) * c2) (hc : c2 = 0 ∨ c2 = 1) :
  Lft vs i us3 ∧ lv 4294967296 us0 = lv 4294967296 us3 + 4294967296 ^ i * ((D - 1) * lv 4294967296 vs) := by
 have zz : ∀ m, i + vs.length + 1 ≤ m → at0 us3 m = 0 := fun m hm => by rw [z3 m (by omega), z2 m (by omega)]; exact lft_zeros h dv m (by omega)
 have zz2 : ∀ m, i + vs.length + 1 ≤ m → at0 us2 m = 0 := fun m hm => by rw [z2 m (by omega)]; exact lft_zeros h dv m (by omega)
 have l3 := lt_of_zeros BB_pos hd3 zz
 have l2 := lt_of_zeros BB_pos hd2 zz2
 have n3 := lv_nonneg BB_pos hd3
 subst hn
 rw [Int.mul_one] at e
 rw [Int.sub_mul, Int.one_mul, Int.mul_sub] at hD ⊢
 generalize (4294967296 : Int) ^ (i + vs.length + 1) = P at *
 generalize hAV : (4294967296 : Int) ^ i * lv 4294967296 vs = AV at *
 generalize (4294967296 : Int) ^ i * (D * lv 4294967296 vs) = DV at *
 rcases hc with rfl | rfl
 ·rw [Int.mul_zero] at e3; omega
 ·rw [Int.mul_one] at e3
  exact ⟨⟨hd3, by rw [hAV]; omega⟩, by omega⟩
/-! ### The estimate -/
structure Es (us vs : List Int) (i : Nat) (D r : Int) : Prop where
 d0 : 0 ≤ D
 r0 : 0 ≤ r
 eq : D * at0 vs (vs.length - 1) + r = at0 us (i + vs.length) * 4294967296 + at0 us (i + vs.length - 1)
 lt : lv 4294967296 us < 4294967296 ^ i * ((D + 1) * lv 4294967296 vs)
theorem dropAt (us : List Int) (i m : Nat) : at0 (us.drop i) m = at0 us (i + m) := by
 simp only [at0, List.getD_eq_getElem?_getD, List.getElem?_drop]
theorem window {us vs : List Int} {i : Nat} (h : Lft vs (i + 1) us) (dv : dg 4294967296 vs) (hk : 2 ≤ vs.length) (hi : i + vs.length < us.length) :
  ∃ W W' V' : Int, lv 4294967296 us / 4294967296 ^ i = W ∧ W = ((at0 us (i + vs.length) * 4294967296 + at0 us (i + vs.length - 1)) * 4294967296 + at0 us (i + vs.length - 2)) * 4294967296 ^ (vs.length - 2) + W' ∧ 0 ≤ W' ∧ W' < 4294967296 ^ (vs.length - 2) ∧
   lv 4294967296 vs = (at0 vs (vs.length - 1) * 4294967296 + at0 vs (vs.length - 2)) * 4294967296 ^ (vs.length - 2) + V' ∧ 0 ≤ V' ∧ V' < 4294967296 ^ (vs.length - 2) ∧ W < lv 4294967296 vs * 4294967296 := by
 have du := h.1
 have dd := dg_drop du i
 have e1 := lv_ediv BB_pos du i (by omega)
 have t1 := three BB_pos dd (k := vs.length) hk fun m hm => by rw [dropAt]; exact lft_zeros h dv _ (by omega)
 have t2 := three BB_pos dv (k := vs.length) hk fun m hm => at0_ge (by omega)
 rw [at0_ge (Nat.le_refl vs.length), Int.zero_mul, Int.zero_add] at t2
 rw [dropAt, dropAt, dropAt, show i + (vs.length - 1) = i + vs.length - 1 by omega, show i + (vs.length - 2) = i + vs.length - 2 by omega] at t1
 have w0 := lv_nonneg BB_pos (dg_take dd (vs.length - 2))
 have w1 := lv_lt BB_pos (dg_take dd (vs.length - 2))
 have v0 := lv_nonneg BB_pos (dg_take dv (vs.length - 2))
 have v1 := lv_lt BB_pos (dg_take dv (vs.length - 2))
 rw [List.length_take, List.length_drop, Nat.min_eq_left (by omega)] at w1
 rw [List.length_take, Nat.min_eq_left (by omega)] at v1
 refine ⟨_, _, _, e1, t1, w0, w1, t2, v0, v1, ?_⟩
 rw [← e1]
 have hp := pos_pow BB_pos i
 apply Int.ediv_lt_of_lt_mul hp
 have := h.2
 rw [Int.pow_succ, Int.mul_assoc] at this
 rw [Int.mul_comm (lv 4294967296 vs * 4294967296), Int.mul_comm (lv 4294967296 vs)]
 exact this
theorem lt_win {X A Y : Int} (hA : 0 < A) (h : X / A < Y) : X < A * Y := by
 have a := Int.mul_ediv_add_emod X A
 have b := Int.emod_lt_of_pos X hA
 have c : A * (X / A + 1) ≤ A * Y := Int.mul_le_mul_of_nonneg_left (by omega) (Int.le_of_lt hA)
 rw [Int.mul_add, Int.mul_one] at c
 omega
theorem le_win {X A Y : Int} (hA : 0 < A) (h : Y ≤ X / A) : A * Y ≤ X := by
 have a := Int.mul_ediv_add_emod X A
 have b := Int.emod_nonneg X (Int.ne_of_gt hA)
 have c : A * Y ≤ A * (X / A) := Int.mul_le_mul_of_nonneg_left h (Int.le_of_lt hA)
 omega
section
variable {us vs : List Int} {i : Nat}
theorem Es.start (h : Lft vs (i + 1) us) (dv : dg 4294967296 vs) (hk : 2 ≤ vs.length) (hi : i + vs.length < us.length) (ht : 1 ≤ at0 vs (vs.length - 1)) {H : Int} (hH : H = at0 us (i + vs.length) * 4294967296 + at0 us (i + vs.length - 1)) : Es us vs i (H / at0 vs (vs.length - 1)) (H % at0 vs (vs.length - 1)) := by
 obtain ⟨W, W', V', e, eW, w0, w1, eV, v0, v1, wb⟩ := window h dv hk hi
 have du := h.1
 obtain ⟨a0, a1⟩ := dg_at du BB_pos (i + vs.length)
 obtain ⟨c0, c1⟩ := dg_at du BB_pos (i + vs.length - 1)
 obtain ⟨x0, x1⟩ := dg_at du BB_pos (i + vs.length - 2)
 obtain ⟨y0, y1⟩ := dg_at dv BB_pos (vs.length - 2)
 have hH0 : 0 ≤ H := by rw [hH]; have := Int.mul_nonneg a0 (show (0 : Int) ≤ 4294967296 by decide); omega
 have q0 := Int.ediv_nonneg hH0 (show 0 ≤ at0 vs (vs.length - 1) by omega)
 have r0 := Int.emod_nonneg H (show at0 vs (vs.length - 1) ≠ 0 by omega)
 have r1 := Int.emod_lt_of_pos H (show 0 < at0 vs (vs.length - 1) by omega)
 have hs : H / at0 vs (vs.length - 1) * at0 vs (vs.length - 1) + H % at0 vs (vs.length - 1) = H := by rw [Int.mul_comm]; exact Int.mul_ediv_add_emod _ _
 refine ⟨q0, r0, by rw [hs, hH], ?_⟩
 have := est_start BB_pos (pos_pow BB_pos (vs.length - 2)) eV v0 y0 eW w1 x1 (by rw [hs, hH]) r1 q0
 exact lt_win (pos_pow BB_pos i) (by rw [e]; exact this)
theorem Es.down {D r : Int} (he : Es us vs i D r) (h : Lft vs (i + 1) us) (dv : dg 4294967296 vs) (hk : 2 ≤ vs.length) (hi : i + vs.length < us.length) (ht : 1 ≤ at0 vs (vs.length - 1)) (hc : 4294967296 ≤ D ∨ r * 4294967296 + at0 us (i + vs.length - 2) < D * at0 vs (vs.length - 2)) : Es us vs i (D - 1) (r + at0 vs (vs.length - 1)) ∧ 1 ≤ D := by
 obtain ⟨W, W', V', e, eW, w0, w1, eV, v0, v1, wb⟩ := window h dv hk hi
 have du := h.1
 obtain ⟨x0, x1⟩ := dg_at du BB_pos (i + vs.length - 2)
 obtain ⟨y0, y1⟩ := dg_at dv BB_pos (vs.length - 2)
 have hV0 := lv_nonneg BB_pos dv
 have hD1 : 1 ≤ D := by
  rcases hc with h1 | h1
  ·have : (1 : Int) ≤ 4294967296 := by decide
   omega
  ·have := Int.mul_nonneg he.r0 (show (0 : Int) ≤ 4294967296 by decide)
   apply Classical.byContradiction
   intro hn
   have hz : D = 0 := by have := he.d0; omega
   rw [hz, Int.zero_mul] at h1
   omega
 have hlt : W < D * lv 4294967296 vs := by
  rcases hc with h1 | h1
  ·exact est_base hV0 wb h1
  ·exact est_less BB_pos (pos_pow BB_pos (vs.length - 2)) eV v0 eW w1 he.eq he.d0 h1
 refine ⟨⟨by omega, by have := he.r0; omega, ?_, ?_⟩, hD1⟩
 ·rw [Int.sub_mul, Int.one_mul]; have := he.eq; omega
 ·rw [Int.sub_add_cancel]; exact lt_win (pos_pow BB_pos i) (by rw [e]; exact hlt)
theorem Es.near {D r : Int} (he : Es us vs i D r) (h : Lft vs (i + 1) us) (dv : dg 4294967296 vs) (hk : 2 ≤ vs.length) (hi : i + vs.length < us.length) (ht : 1 ≤ at0 vs (vs.length - 1)) (hD : D < 4294967296) (hc : D * at0 vs (vs.length - 2) ≤ r * 4294967296 + at0 us (i + vs.length - 2)) : 4294967296 ^ i * ((D - 1) * lv 4294967296 vs) ≤ lv 4294967296 us := by
 obtain ⟨W, W', V', e, eW, w0, w1, eV, v0, v1, wb⟩ := window h dv hk hi
 obtain ⟨y0, y1⟩ := dg_at dv BB_pos (vs.length - 2)
 have := est_end BB_pos (pos_pow BB_pos (vs.length - 2)) eV v0 v1 y0 ht eW w0 he.eq he.d0 (Int.le_of_lt hD) hc
 exact le_win (pos_pow BB_pos i) (by rw [e]; exact this)
theorem top_le' (h : Lft vs (i + 1) us) (dv : dg 4294967296 vs) (hk : 2 ≤ vs.length) (hi : i + vs.length < us.length) : at0 us (i + vs.length) ≤ at0 vs (vs.length - 1) := by
 obtain ⟨W, W', V', e, eW, w0, w1, eV, v0, v1, wb⟩ := window h dv hk hi
 have du := h.1
 obtain ⟨c0, c1⟩ := dg_at du BB_pos (i + vs.length - 1)
 obtain ⟨x0, x1⟩ := dg_at du BB_pos (i + vs.length - 2)
 obtain ⟨y0, y1⟩ := dg_at dv BB_pos (vs.length - 2)
 have hP := pos_pow BB_pos (vs.length - 2)
 apply Classical.byContradiction
 intro hn
 generalize (4294967296 : Int) ^ (vs.length - 2) = P at *
 generalize at0 us (i + vs.length) = a at *
 generalize at0 us (i + vs.length - 1) = c at *
 generalize at0 us (i + vs.length - 2) = x at *
 generalize at0 vs (vs.length - 1) = t at *
 generalize at0 vs (vs.length - 2) = y at *
 have e0 : (t * 4294967296 + y + 1) * P = (t * 4294967296 + y) * P + P := by grind
 have h1 : lv 4294967296 vs < (t * 4294967296 + y + 1) * P := by rw [e0]; omega
 have h2 : (t * 4294967296 + y + 1) * P ≤ (t + 1) * 4294967296 * P := Int.mul_le_mul_of_nonneg_right (by rw [Int.add_mul]; omega) (Int.le_of_lt hP)
 have h3 : ((a * 4294967296 + c) * 4294967296 + x) * P ≥ (a * 4294967296 * 4294967296) * P := Int.mul_le_mul_of_nonneg_right (by rw [Int.add_mul]; have := Int.mul_nonneg c0 (show (0 : Int) ≤ 4294967296 by decide); omega) (Int.le_of_lt hP)
 have h4 : (t + 1) * 4294967296 * P * 4294967296 ≤ a * 4294967296 * 4294967296 * P := by
  have h5 : (t + 1) * (4294967296 * 4294967296 * P) ≤ a * (4294967296 * 4294967296 * P) := Int.mul_le_mul_of_nonneg_right (by omega) (Int.mul_nonneg (by decide) (Int.le_of_lt hP))
  have e1 : (t + 1) * 4294967296 * P * 4294967296 = (t + 1) * (4294967296 * 4294967296 * P) := by grind
  have e2 : a * 4294967296 * 4294967296 * P = a * (4294967296 * 4294967296 * P) := by grind
  rw [e1, e2]; exact h5
 have h6 : lv 4294967296 vs * 4294967296 < (t + 1) * 4294967296 * P * 4294967296 := Int.mul_lt_mul_of_pos_right (by omega) (by decide)
 omega
theorem Es.brk {D r : Int} (he : Es us vs i D r) (h : Lft vs (i + 1) us) (dv : dg 4294967296 vs) (hk : 2 ≤ vs.length) (hi : i + vs.length < us.length) (ht : 1 ≤ at0 vs (vs.length - 1)) (hr : 4294967296 ≤ r) : D < 4294967296 ∧ D * at0 vs (vs.length - 2) ≤ r * 4294967296 + at0 us (i + vs.length - 2) := by
 have h1 := top_le' h dv hk hi
 have du := h.1
 obtain ⟨c0, c1⟩ := dg_at du BB_pos (i + vs.length - 1)
 obtain ⟨x0, x1⟩ := dg_at du BB_pos (i + vs.length - 2)
 obtain ⟨y0, y1⟩ := dg_at dv BB_pos (vs.length - 2)
 have e := he.eq
 have d0 := he.d0
 have hD : D < 4294967296 := by
  apply Classical.byContradiction
  intro hn
  have h2 : 4294967296 * at0 vs (vs.length - 1) ≤ D * at0 vs (vs.length - 1) := Int.mul_le_mul_of_nonneg_right (by omega) (by omega)
  have h3 : at0 us (i + vs.length) * 4294967296 ≤ at0 vs (vs.length - 1) * 4294967296 := Int.mul_le_mul_of_nonneg_right h1 (by decide)
  rw [Int.mul_comm 4294967296] at h2
  omega
 refine ⟨hD, ?_⟩
 have h4 : D * at0 vs (vs.length - 2) ≤ 4294967296 * 4294967296 := Int.le_trans (Int.mul_le_mul_of_nonneg_left (Int.le_of_lt y1) d0) (Int.mul_le_mul_of_nonneg_right (Int.le_of_lt hD) (by decide))
 have h5 : 4294967296 * 4294967296 ≤ r * 4294967296 := Int.mul_le_mul_of_nonneg_right hr (by decide)
 omega
end
end Go.Proofs.YthpjmhhfcechmaaGreat.Ma
/- Digits to the base 65536: sums, differences, products as the reference reckons them. No program in sight. -/
namespace Go.Proofs.YthpjmhhfcechmaaGreat.Ma
theorem BJ_pos : (0 : Int) < (65536 : Int) := by decide
theorem take_succ' (b : Int) (xs : List Int) (i : Nat) : lv b (xs.take (i + 1)) = lv b (xs.take i) + b ^ i * at0 xs i := by
 by_cases h : i < xs.length
 ·exact lv_take_succ b xs i h
 ·rw [List.take_of_length_le (by omega), List.take_of_length_le (by omega), at0_ge (by omega), Int.mul_zero, Int.add_zero]
theorem lv_app (b : Int) (xs : List Int) (x : Int) : lv b (xs ++ [x]) = lv b xs + b ^ xs.length * x := lv_snoc b xs x
theorem dg_app {b x : Int} {xs : List Int} (h : dg b xs) (h0 : 0 ≤ x) (h1 : x < b) : dg b (xs ++ [x]) := dg_append.2 ⟨h, fun y hy => by rw [List.mem_singleton] at hy; subst hy; exact ⟨h0, h1⟩⟩
structure Pl (xs ys : List Int) (i : Nat) (zs : List Int) (cc : Int) : Prop where
 len : zs.length = i
 d : dg 65536 zs
 c0 : 0 ≤ cc
 c1 : cc ≤ 1
 eq : lv 65536 zs + 65536 ^ i * cc = lv 65536 (xs.take i) + lv 65536 (ys.take i)
 le : i ≤ max xs.length ys.length ∨ (i = max xs.length ys.length + 1 ∧ cc = 0)
theorem Pl.start (xs ys : List Int) : Pl xs ys 0 [] 0 := ⟨rfl, dg_nil _, by omega, by omega, by simp [lv], .inl (by omega)⟩
theorem Pl.step {xs ys : List Int} {i : Nat} {zs : List Int} {cc n : Int} (h : Pl xs ys i zs cc) (dx : dg 65536 xs) (dy : dg 65536 ys) (hn : n = cc + at0 xs i + at0 ys i) (hi : i < xs.length ∨ i < ys.length ∨ 0 < cc) : Pl xs ys (i + 1) (zs ++ [n % 65536]) (n / 65536) ∧ 0 ≤ n ∧ n ≤ 131071 ∧ 2 * (max xs.length ys.length - (i + 1)) + (n / 65536).toNat < 2 * (max xs.length ys.length - i) + cc.toNat := by
 obtain ⟨h1, h2, h3, h4, h5, h6⟩ := h
 obtain ⟨x0, x1⟩ := dg_at dx BJ_pos i
 obtain ⟨y0, y1⟩ := dg_at dy BJ_pos i
 have hle : i ≤ max xs.length ys.length := by omega
 have hz : i = max xs.length ys.length → at0 xs i = 0 ∧ at0 ys i = 0 := fun e => ⟨at0_ge (by omega), at0_ge (by omega)⟩
 refine ⟨⟨by simp [h1], dg_app h2 (Int.emod_nonneg _ (by decide)) (Int.emod_lt_of_pos _ BJ_pos), by omega, by omega, ?_, ?_⟩, by omega, by omega, ?_⟩
 ·rw [lv_app, h1, take_succ', take_succ', Int.pow_succ]
  have e := Int.mul_ediv_add_emod n 65536
  generalize n / 65536 = q at *
  generalize n % 65536 = r at *
  generalize at0 xs i = u at *
  generalize at0 ys i = v at *
  generalize (65536 : Int) ^ i = A at *
  have : r = cc + u + v - 65536 * q := by omega
  rw [this]
  grind
 ·by_cases e : i < max xs.length ys.length
  ·exact .inl (by omega)
  ·obtain ⟨a, c⟩ := hz (by omega); exact .inr ⟨by omega, by omega⟩
 ·by_cases e : i < max xs.length ys.length
  ·omega
  ·obtain ⟨a, c⟩ := hz (by omega); omega
theorem Pl.fin {xs ys : List Int} {i : Nat} {zs : List Int} {cc : Int} (h : Pl xs ys i zs cc) (hx : xs.length ≤ i) (hy : ys.length ≤ i) (hc : ¬ 0 < cc) : dg 65536 zs ∧ lv 65536 zs = lv 65536 xs + lv 65536 ys ∧ zs.length ≤ max xs.length ys.length + 1 := by
 obtain ⟨h1, h2, h3, h4, h5, h6⟩ := h
 have e : cc = 0 := by omega
 rw [e, Int.mul_zero, Int.add_zero, List.take_of_length_le hx, List.take_of_length_le hy] at h5
 exact ⟨h2, h5, by omega⟩
structure Mn (xs ys : List Int) (i : Nat) (zs : List Int) (bb : Int) : Prop where
 len : zs.length = i
 d : dg 65536 zs
 c0 : 0 ≤ bb
 c1 : bb ≤ 1
 eq : lv 65536 zs = lv 65536 (xs.take i) - lv 65536 (ys.take i) + 65536 ^ i * bb
 le : i ≤ xs.length
theorem Mn.start (xs ys : List Int) : Mn xs ys 0 [] 0 := ⟨rfl, dg_nil _, by omega, by omega, by simp [lv], by omega⟩
theorem Mn.step {xs ys : List Int} {i : Nat} {zs : List Int} {bb n m b2 : Int} (h : Mn xs ys i zs bb) (dx : dg 65536 xs) (dy : dg 65536 ys) (hi : i < xs.length) (hn : n = at0 xs i - bb - at0 ys i) (hm : (n < 0 ∧ m = n + 65536 ∧ b2 = 1) ∨ (¬ n < 0 ∧ m = n ∧ b2 = 0)) : Mn xs ys (i + 1) (zs ++ [m]) b2 := by
 obtain ⟨h1, h2, h3, h4, h5, h6⟩ := h
 obtain ⟨x0, x1⟩ := dg_at dx BJ_pos i
 obtain ⟨y0, y1⟩ := dg_at dy BJ_pos i
 refine ⟨by simp [h1], dg_app h2 (by omega) (by omega), by omega, by omega, ?_, by omega⟩
 rw [lv_app, h1, take_succ', take_succ', Int.pow_succ, h5]
 generalize at0 xs i = u at *
 generalize at0 ys i = v at *
 generalize (65536 : Int) ^ i = A at *
 have : m = u - bb - v + 65536 * b2 := by omega
 rw [this]
 grind
theorem Mn.fin {xs ys zs : List Int} {bb : Int} (h : Mn xs ys xs.length zs bb) (hle : ys.length ≤ xs.length) (hv : lv 65536 ys ≤ lv 65536 xs) : dg 65536 zs ∧ lv 65536 zs = lv 65536 xs - lv 65536 ys := by
 obtain ⟨h1, h2, h3, h4, h5, h6⟩ := h
 rw [List.take_of_length_le (Nat.le_refl _), List.take_of_length_le hle] at h5
 have l1 := lv_lt BJ_pos h2
 rw [h1] at l1
 have hb : bb = 0 := by
  apply Classical.byContradiction
  intro hne
  have e : bb = 1 := by omega
  rw [e, Int.mul_one] at h5
  omega
 rw [hb, Int.mul_zero, Int.add_zero] at h5
 exact ⟨h2, h5⟩
structure Tm (xs ys : List Int) (k : Nat) (zs : List Int) : Prop where
 le : k ≤ xs.length
 len : zs.length = xs.length + ys.length + 1
 d : dg 65536 zs
 high : ∀ i, k + ys.length ≤ i → at0 zs i = 0
 eq : lv 65536 zs = lv 65536 (xs.take k) * lv 65536 ys
structure Ti (xs ys : List Int) (k j : Nat) (zs : List Int) (c : Int) : Prop where
 le : j ≤ ys.length
 len : zs.length = xs.length + ys.length + 1
 d : dg 65536 zs
 high : ∀ i, k + ys.length ≤ i → at0 zs i = 0
 c0 : 0 ≤ c
 c1 : c < 65536
 eq : lv 65536 zs + 65536 ^ (k + j) * c = lv 65536 (xs.take k) * lv 65536 ys + 65536 ^ k * (at0 xs k * lv 65536 (ys.take j))
theorem zeros_at (n i : Nat) : at0 (List.replicate n 0) i = 0 := by
 simp only [at0, List.getD_eq_getElem?_getD, List.getElem?_replicate]; split <;> rfl
theorem Tm.start (xs ys : List Int) : Tm xs ys 0 (List.replicate (xs.length + ys.length + 1) 0) :=
 ⟨by omega, by simp, dg_replicate _ (by decide) (by decide), fun i _ => zeros_at _ _, by rw [lv_zeros]; simp [lv]⟩
theorem Tm.inner {xs ys : List Int} {k : Nat} {zs : List Int} (h : Tm xs ys k zs) : Ti xs ys k 0 zs 0 :=
 ⟨by omega, h.len, h.d, h.high, by omega, by omega, by rw [h.eq]; simp [lv]⟩
theorem Ti.bound {xs ys : List Int} {k j : Nat} {zs : List Int} {c : Int} (h : Ti xs ys k j zs c) (dx : dg 65536 xs) (dy : dg 65536 ys) : 0 ≤ at0 xs k * at0 ys j ∧ at0 xs k * at0 ys j ≤ 4294836225 ∧ 0 ≤ at0 zs (k + j) ∧ at0 zs (k + j) ≤ 65535 := by
 obtain ⟨h1, h2, h3, h4, h5, h6, h7⟩ := h
 obtain ⟨x0, x1⟩ := dg_at dx BJ_pos k
 obtain ⟨y0, y1⟩ := dg_at dy BJ_pos j
 obtain ⟨z0, z1⟩ := dg_at h3 BJ_pos (k + j)
 have p0 : 0 ≤ at0 xs k * at0 ys j := Int.mul_nonneg x0 y0
 have e1 : at0 xs k * at0 ys j ≤ 65535 * at0 ys j := Int.mul_le_mul_of_nonneg_right (by omega) y0
 omega
theorem Ti.step {xs ys : List Int} {k j : Nat} {zs : List Int} {c n : Int} (h : Ti xs ys k j zs c) (dx : dg 65536 xs) (dy : dg 65536 ys) (hk : k < xs.length) (hj : j < ys.length) (hn : n = at0 zs (k + j) + at0 xs k * at0 ys j + c) : Ti xs ys k (j + 1) (zs.set (k + j) (n % 65536)) (n / 65536) := by
 have hb := h.bound dx dy
 obtain ⟨h1, h2, h3, h4, h5, h6, h7⟩ := h
 have hlt : k + j < zs.length := by omega
 refine ⟨by omega, by rw [List.length_set, h2], dg_set h3 _ (Int.emod_nonneg _ (by decide)) (Int.emod_lt_of_pos _ BJ_pos), fun i hi => ?_, by omega, by omega, ?_⟩
 ·rw [at0_set _ hlt, if_neg (by omega)]; exact h4 i hi
 ·rw [lv_set 65536 zs (k + j) _ hlt, take_succ', show k + (j + 1) = (k + j) + 1 by omega, Int.pow_succ]
  have e := Int.mul_ediv_add_emod n 65536
  have hp : (65536 : Int) ^ (k + j) = 65536 ^ k * 65536 ^ j := Int.pow_add _ _ _
  rw [hp] at h7 ⊢
  generalize n / 65536 = q at *
  generalize n % 65536 = r at *
  generalize at0 xs k = u at *
  generalize at0 ys j = v at *
  generalize at0 zs (k + j) = z at *
  generalize (65536 : Int) ^ k = A at *
  generalize (65536 : Int) ^ j = C at *
  generalize lv 65536 (ys.take j) = T at *
  have : r = z + u * v + c - 65536 * q := by omega
  rw [this]
  grind
theorem Ti.outer {xs ys : List Int} {k : Nat} {zs : List Int} {c : Int} (h : Ti xs ys k ys.length zs c) (hk : k < xs.length) : Tm xs ys (k + 1) (zs.set (k + ys.length) (at0 zs (k + ys.length) + c)) ∧ at0 zs (k + ys.length) = 0 := by
 obtain ⟨h1, h2, h3, h4, h5, h6, h7⟩ := h
 have hz : at0 zs (k + ys.length) = 0 := h4 _ (Nat.le_refl _)
 have hlt : k + ys.length < zs.length := by omega
 refine ⟨⟨by omega, by rw [List.length_set, h2], dg_set h3 _ (by omega) (by omega), fun i hi => ?_, ?_⟩, hz⟩
 ·rw [at0_set _ hlt, if_neg (by omega)]; exact h4 i (by omega)
 ·rw [lv_set 65536 zs _ _ hlt, take_succ', hz]
  rw [List.take_length] at h7
  generalize (65536 : Int) ^ (k + ys.length) = P at *
  generalize (65536 : Int) ^ k = A at *
  grind
theorem Tm.fin {xs ys zs : List Int} (h : Tm xs ys xs.length zs) : dg 65536 zs ∧ lv 65536 zs = lv 65536 xs * lv 65536 ys := by
 have := h.eq
 rw [List.take_length] at this
 exact ⟨h.d, this⟩
theorem len_le_of {xs ys : List Int} (dx : dg 65536 xs) (dy : dg 65536 ys) (tx : top xs) (h : lv 65536 xs ≤ lv 65536 ys) : xs.length ≤ ys.length := length_le (by decide) dx dy tx h
theorem cmp_top {xs ys : List Int} (dx : dg 65536 xs) (dy : dg 65536 ys) (hl : xs.length = ys.length) {i : Nat} (hi : i < xs.length) (e : xs.drop (i + 1) = ys.drop (i + 1)) (h : at0 xs i < at0 ys i) : lv 65536 xs < lv 65536 ys := by
 have s1 := lv_split 65536 xs i (by omega)
 have s2 := lv_split 65536 ys i (by omega)
 rw [lv_drop 65536 xs i hi] at s1
 rw [lv_drop 65536 ys i (by omega), ← e] at s2
 have l1 := lv_lt BJ_pos (dg_take dx i)
 have n2 := lv_nonneg BJ_pos (dg_take dy i)
 rw [List.length_take, Nat.min_eq_left (by omega)] at l1
 have hp := pos_pow BJ_pos i
 have h1 : (65536 : Int) ^ i * (at0 xs i + 1 + 65536 * lv 65536 (xs.drop (i + 1))) ≤ 65536 ^ i * (at0 ys i + 65536 * lv 65536 (xs.drop (i + 1))) := Int.mul_le_mul_of_nonneg_left (by omega) (Int.le_of_lt hp)
 have e1 : (65536 : Int) ^ i * (at0 xs i + 1 + 65536 * lv 65536 (xs.drop (i + 1))) = 65536 ^ i * (at0 xs i + 65536 * lv 65536 (xs.drop (i + 1))) + 65536 ^ i := by grind
 omega
theorem drop_at {xs ys : List Int} (hl : xs.length = ys.length) {i : Nat} (hi : i < xs.length) (e : xs.drop (i + 1) = ys.drop (i + 1)) (h : at0 xs i = at0 ys i) : xs.drop i = ys.drop i := by
 rw [List.drop_eq_getElem_cons hi, List.drop_eq_getElem_cons (show i < ys.length by omega), e]
 rw [at0_of_lt hi, at0_of_lt (by omega)] at h
 rw [h]
theorem lt_of_len {xs ys : List Int} (dx : dg 65536 xs) (dy : dg 65536 ys) (ty : top ys) (h : xs.length < ys.length) : lv 65536 xs < lv 65536 ys := by
 apply Classical.byContradiction
 intro hn
 have := length_le (show (1 : Int) < 65536 by decide) dy dx ty (by omega)
 omega
end Go.Proofs.YthpjmhhfcechmaaGreat.Ma
/- A walk by rules: slices that came in; digits of the reference. -/
namespace Go.Proofs.YthpjmhhfcechmaaGreat.Sy
open Go Go.RowKit Ma
def padd (A : Option Addr) (i : Nat) : Option Addr := A.map (·.add i)
section
variable {x y : Operand} {dst : Option Tmp} {ty : TypeId} {pos : String} {after : Array Edge} {guard : Option (Nat × Bool)} {ρ : Operand → Value} {W : World} {a b c : Int}
theorem r_idxR {w0 : World} {k : IntKind} {A : Option Addr} {xs : List Int} {cap i : Nat} (rA : Rd w0 k A xs) (h1 : ρ x = .slice A xs.length cap) (h2 : ρ y = .int .i64 (i : Int)) (hi : i < xs.length) : (execOp ρ ⟨dst, .indexAddr 22 x y, ty, pos, after, guard⟩).run Tryz.prog W = .ok (.value (.pointer (padd A i))) W := by
 obtain ⟨ad, rfl, _⟩ := rA.2 i hi
 unfold padd
 go_simp
theorem r_idxRI {w0 : World} {k : IntKind} {A : Option Addr} {xs : List Int} {cap i : Nat} (rA : Rd w0 k A xs) (h1 : ρ x = .slice A xs.length cap) (h2 : ρ y = .int .i64 (i : Int)) (hi : i < xs.length) : (execOp ρ ⟨dst, .indexAddr 32 x y, ty, pos, after, guard⟩).run Tryz.prog W = .ok (.value (.pointer (padd A i))) W := by
 obtain ⟨ad, rfl, _⟩ := rA.2 i hi
 unfold padd
 go_simp
theorem r_lenI {A : Option Addr} {n cap : Nat} (h1 : ρ x = .slice A n cap) : (execOp ρ ⟨dst, .call ⟨.builtin .len, #[x], #[32]⟩, ty, pos, after, guard⟩).run Tryz.prog W = .ok (.value (.int .i64 (n : Int))) W := by
 go_simp
 done
theorem r_idxI {g n cap i : Nat} (h1 : ρ x = .slice (some ⟨g, 0, none⟩) n cap) (h2 : ρ y = .int .i64 (i : Int)) (hi : i < n) : (execOp ρ ⟨dst, .indexAddr 32 x y, ty, pos, after, guard⟩).run Tryz.prog W = .ok (.value (.pointer (some ⟨g, i, none⟩))) W := by
 go_simp
theorem r_neT (h1 : ρ x = .int .i64 a) (h2 : ρ y = .int .i64 b) (e : a ≠ b) : (execOp ρ ⟨dst, .binOp .neq 3 x y 3, ty, pos, after, guard⟩).run Tryz.prog W = .ok (.value (.bool true)) W := by
 have e1 : (a == b) = false := by simpa using e
 have e2 : (a != b) = true := by simpa using e
 go_simp
theorem r_neF (h1 : ρ x = .int .i64 a) (h2 : ρ y = .int .i64 b) (e : a = b) : (execOp ρ ⟨dst, .binOp .neq 3 x y 3, ty, pos, after, guard⟩).run Tryz.prog W = .ok (.value (.bool false)) W := by
 subst e
 go_simp
theorem r_eqT (h1 : ρ x = .int .i64 a) (h2 : ρ y = .int .i64 b) (e : a = b) : (execOp ρ ⟨dst, .binOp .eql 3 x y 3, ty, pos, after, guard⟩).run Tryz.prog W = .ok (.value (.bool true)) W := by
 subst e
 go_simp
theorem r_eqF (h1 : ρ x = .int .i64 a) (h2 : ρ y = .int .i64 b) (e : a ≠ b) : (execOp ρ ⟨dst, .binOp .eql 3 x y 3, ty, pos, after, guard⟩).run Tryz.prog W = .ok (.value (.bool false)) W := by
 have e1 : (a == b) = false := by simpa using e
 go_simp
end
theorem r_l64 (W : World) (p : Addr) (x : Int) (h : W.cell? p = some (.int .i64 x)) : (Instr.loadAt 3 (.pointer (some p))).run Tryz.prog W = .ok (.int .i64 x) W := by
 go_simp
theorem r_s64 (W : World) (p : Addr) (x y : Int) (h : W.cell? p = some (.int .i64 x)) (hf : W.frozen? p = false) : (Instr.storeAt 3 (.pointer (some p)) (.int .i64 y)).run Tryz.prog W = .ok () (W.setCell p (.int .i64 y)) := by
 go_simp
theorem r_b1I {x : Operand} {dst : Option Tmp} {ty : TypeId} {pos : String} {after : Array Edge} {guard : Option (Nat × Bool)} {ρ : Operand → Value} {W : World} {a : Int} (h1 : ρ x = .int .i64 a) : (execOp ρ ⟨dst, .buildSlice 32 1 #[(0, x)], ty, pos, after, guard⟩).run Tryz.prog W = .ok (.value (.slice (some ⟨W.heap.size, 0, none⟩) [a].length [a].length)) (W.alloc (.cells ([a].map (Value.int .i64)).toArray 3)) := by
 go_simp
def tv (v : Value) (n : Nat) : Value := match v with
 | .slice A _ c => .slice A n c
 | v => v
theorem tv_blk {W : World} {b : Nat} {e : TypeId} {f : Int → Value} {v : Value} {zs : List Int} (h : OwF W b e f v zs) (n : Nat) : (tv v n).ownBlock = v.ownBlock := by
 rcases h.form with ⟨rfl, _⟩ | ⟨g, c, rfl, _⟩ <;> rfl
theorem tv_own {W : World} {b : Nat} {e : TypeId} {k : IntKind} {v : Value} {zs : List Int} (h : OwF W b e (.int k) v zs) : OwF W b e (.int k) (tv v (trim zs).length) (trim zs) := by
 rcases h.form with ⟨rfl, rfl⟩ | ⟨g, c, rfl, _⟩
 ·exact h
 ·exact Own.trims (k := k) h
theorem tv_calls {W : World} {b : Nat} {e : TypeId} {v : Value} {zs : List Int} (h : OwF W b e (.int .i64) v zs) : Calls Tryz.prog 126 #[v] W (Ret W (KV (tv v (trim zs).length))) := by
 rcases h.form with ⟨rfl, rfl⟩ | ⟨g, c, rfl, hc⟩
 ·exact (rtrimmed_c rfl (Rd.nil _ _ _) (by decide)).mono fun e W' ⟨e1, e2⟩ => ⟨_, e1, rfl, e2 ▸ Nw.refl _⟩
 ·have ho : Own W b e .i64 _ zs := h
  exact (rtrimmed_c rfl ho.rdg.2.2 hc).mono fun e W' ⟨e1, e2⟩ => ⟨_, e1, rfl, e2 ▸ Nw.refl _⟩
theorem Fr.trimv {B N : Nat} {w0 : World} {fr : List (Nat × AV)} {a : Act} {W : World} {K : Nat} {v : Value} {e : TypeId} {k : IntKind} {zs : List Int} (h : Fr B N w0 fr a W) (hK : look fr K = some (.ro v e (Value.int k) zs)) : Fr B N w0 ((K, .ro (tv v (trim zs).length) e (Value.int k) (trim zs)) :: fr) a W :=
 h.more' (tv_own (h.ho K _ hK)) fun j v' p e hj e1 e2 => h.di K j _ v' p e hK hj ((tv_blk (h.ho K _ hK) _).symm.trans e1) e2
theorem Fr.nilrow {B N : Nat} {w0 : World} {fr : List (Nat × AV)} {a : Act} {W : World} (K : Nat) (e : TypeId) (f : Int → Value) (h : Fr B N w0 fr a W) : Fr B N w0 ((K, .ro (.slice none 0 0) e f []) :: fr) a W :=
 h.more (World.ownsRow_nil W B e 1) fun j v' p hj e1 e2 => by cases e1
theorem info_i64 : (Tryz.prog.info? 3).map (fun i => (i.zero, i.size, i.bytes)) = some (some (.int .i64 0), 1, 8) := by kernel_rfl
section
variable {B N : Nat} {w0 : World} {ops : Array Oper} {o : Oper} {rest : List Oper} {fr : List (Nat × AV)} {Q : Exit → Act → World → Prop} {d : Nat}
theorem iget_run {T : TypeId} {s i : Nat} {A : Option Addr} {k : IntKind} {xs : List Int} {a : Act} {W : World} (hf : Fr B N w0 fr a W) (ho : o.op = .load T (.tmp s)) (hs : look fr s = some (.vl (.pointer (padd A i)))) (hB : B = w0.heap.size) (rA : Rd w0 k A xs) (hi : i < xs.length)
  (hl : ∀ (W : World) (p : Addr) (x : Int), W.cell? p = some (.int k x) → (Instr.loadAt T (.pointer (some p))).run Tryz.prog W = .ok (.int k x) W) : (execOp a.eval o).run Tryz.prog W = .ok (.value (.int k (at0 xs i))) W := by
 obtain ⟨ad, rfl, hc⟩ := rA.2 i hi
 have h1 : a.tmps.getD s undef = .pointer (some (ad.add i)) := hf.ho s _ hs
 have h2 : W.cell? (ad.add i) = some (.int k (at0 xs i)) := by
  rw [hf.be.cell (by rw [hB]; exact World.block_lt_of_cell? w0 _ hc)]; exact hc
 unfold execOp
 rw [ho]
 show (do pure (.value (← Instr.loadAt T (a.tmps.getD s undef))) : Sem Next).run Tryz.prog W = _
 rw [h1]
 exact run_val (hl W _ _ h2)
theorem PW.iget {T : TypeId} {s i : Nat} {A : Option Addr} {k : IntKind} {xs : List Int} (hw : wantB ops fr o = some true) (hd : o.dst = some d) (hN : Nat.blt d N = true) (ho : o.op = .load T (.tmp s)) (hs : look fr s = some (.vl (.pointer (padd A i)))) (hB : B = w0.heap.size) (rA : Rd w0 k A xs) (hi : i < xs.length)
  (hl : ∀ (W : World) (p : Addr) (x : Int), W.cell? p = some (.int k x) → (Instr.loadAt T (.pointer (some p))).run Tryz.prog W = .ok (.int k x) W) (hk : PW B N w0 ops rest ((d, .vl (.int k (at0 xs i))) :: fr) Q) : PW B N w0 ops (o :: rest) fr Q :=
 PW.val (r := .vl (.int k (at0 xs i))) hw hd hN rfl (fun a W hf => ⟨_, iget_run hf ho hs hB rA hi hl, rfl⟩) hk
theorem DX.iget {T : TypeId} {s i : Nat} {A : Option Addr} {k : IntKind} {xs : List Int} (hw : wantB ops fr o = some true) (hd : o.dst = some d) (hN : Nat.blt d N = true) (ho : o.op = .load T (.tmp s)) (hs : look fr s = some (.vl (.pointer (padd A i)))) (hB : B = w0.heap.size) (rA : Rd w0 k A xs) (hi : i < xs.length)
  (hl : ∀ (W : World) (p : Addr) (x : Int), W.cell? p = some (.int k x) → (Instr.loadAt T (.pointer (some p))).run Tryz.prog W = .ok (.int k x) W) : Eo B N w0 ops o fr (.val d (.vl (.int k (at0 xs i)))) :=
 DX.val hw hd hN rfl (fun a W hf => ⟨_, iget_run hf ho hs hB rA hi hl, rfl⟩)
def KR (base : Nat) (e : TypeId) (k : IntKind) (p : List Int → Prop) : Know := fun v W => ∃ zs, Own W base e k v zs ∧ p zs
theorem KR.l {base : Nat} {e : TypeId} {k : IntKind} {p : List Int → Prop} {v : Value} {W : World} (h : KR base e k p v W) : KL k p v W := by
 obtain ⟨zs, ho, hp⟩ := h
 obtain ⟨A, c, rfl, h1, h2⟩ := ho.rd
 exact ⟨zs, A, c, rfl, h1, h2, hp⟩
theorem SX.doneL {fn : Func} {e : Exit} {s K1 : Nat} {v1 : Value} {et : TypeId} {k : IntKind} {p1 : List Int → Prop} {z1 : List Int} (he : e = .ret ∨ e = .normal) (hr : fn.results = #[.tmp s]) (hs : look fr s = some (.vl v1)) (h1 : look fr K1 = some (.ro v1 et (Value.int k) z1)) (q1 : p1 z1) (hB : B = w0.heap.size) :
  SX B N w0 e fr (bodyPost Tryz.prog fn (Ret w0 (KL k p1))) := fun a W hf => by
 have a1 : a.tmps.getD s undef = _ := hf.ho s _ hs
 have o1 : Own W B et k v1 z1 := hf.ho K1 _ h1
 have hrun : (results fn a.tmps).run Tryz.prog W = .ok (a.tmps.getD s undef) W := by
  unfold results
  simp [hr, go_sem]
 rw [a1] at hrun
 have key : a.defers = [] ∧ ∃ v, (results fn a.tmps).run Tryz.prog W = .ok v W ∧ Ret w0 (KL k p1) (.returned v) W := by
  obtain ⟨A1, d1, e1, m1, r1⟩ := o1.rd
  exact ⟨hf.df, _, hrun, ⟨_, rfl, ⟨z1, A1, d1, e1, m1, r1, q1⟩, by have := hf.be; rw [hB] at this; exact this⟩⟩
 rcases he with rfl | rfl <;> exact key
end
/-! ### Boxes at a place that is known -/
section
variable {B N : Nat} {w0 : World} {ops : Array Oper} {o : Oper} {rest : List Oper} {fr : List (Nat × AV)} {Q : Exit → Act → World → Prop} {d : Nat}
theorem SC.fix {c : Code} {s : Nat} {b : BT} {k : Know} (hs : look fr s = some (.bx b k)) (h : ∀ p, SC B N w0 c ((s, .bp b p k) :: fr) Q) : SC B N w0 c fr Q := fun a W hf => by
 obtain ⟨p, v, e, hB, hh, hk, hst, ok⟩ := hf.ho s _ hs
 exact h p a W (hf.more' ⟨v, e, hB, hh, hk, hst, ok⟩ fun j v' q hj h1 h2 h3 => hf.di s j _ v' q hj hs h1 (by rw [← h2]; show blk0 (a.tmps.getD s undef) = some p; rw [e]; rfl) h3)
theorem Fr.unfix {a : Act} {W : World} {s p : Nat} {b : BT} {k : Know} (hf : Fr B N w0 fr a W) (hs : look fr s = some (.bp b p k)) : Fr B N w0 ((s, .bx b k) :: fr) a W := by
 obtain ⟨v, e, hB, hh, hk, hst, ok⟩ := hf.ho s _ hs
 exact hf.more' ⟨p, v, e, hB, hh, hk, hst, ok⟩ fun j v' q hj h1 h2 h3 => hf.di s j _ v' q hj hs h1 (by rw [← h2]; show some p = blk0 (a.tmps.getD s undef); rw [e]; rfl) h3
theorem SX.unfix {e : Exit} {s p : Nat} {b : BT} {k : Know} (hs : look fr s = some (.bp b p k)) (h : SX B N w0 e ((s, .bx b k) :: fr) Q) : SX B N w0 e fr Q := fun a W hf => h a W (hf.unfix hs)
theorem DX.fa {T : TypeId} {s j p : Nat} {b : BT} {k : Know} (q : Addr) (hw : wantB ops fr o = some true) (hd : o.dst = some d) (hN : Nat.blt d N = true) (ho : o.op = .fieldAddr T (.tmp s) j) (hs : look fr s = some (.bp b p k))
  (hx : ∀ v W, Holds b p v W → k v W → (Instr.fieldAt T (ptr p) j).run Tryz.prog W = .ok (.pointer (some q)) W) : Eo B N w0 ops o fr (.val d (.vl (.pointer (some q)))) :=
 DX.val hw hd hN rfl fun a W hf => by
  obtain ⟨v, e, hB, hh, hk, hst, ok⟩ := hf.ho s _ hs
  refine ⟨_, ?_, rfl⟩
  unfold execOp
  rw [ho]
  show (do pure (.value (← Instr.fieldAt T (a.tmps.getD s undef) j)) : Sem Next).run Tryz.prog W = _
  rw [e]
  exact run_val (hx v W hh hk)
theorem DX.fl {T : TypeId} {s t p : Nat} {b : BT} {k : Know} {r : AV} {q : Addr} (hw : wantB ops fr o = some true) (hd : o.dst = some d) (hN : Nat.blt d N = true) (ho : o.op = .load T (.tmp t)) (ht : look fr t = some (.vl (.pointer (some q)))) (hs : look fr s = some (.bp b p k)) (hr : r.isBx = false) (hst : St r.of)
  (hx : ∀ v W, Holds b p v W → k v W → ∃ u, (Instr.loadAt T (.pointer (some q))).run Tryz.prog W = .ok u W ∧ r.of u W) : Eo B N w0 ops o fr (.val d r) :=
 DX.val hw hd hN hr fun a W hf => by
  obtain ⟨v, e, hB, hh, hk, _, ok⟩ := hf.ho s _ hs
  have h1 := hf.vl ht
  obtain ⟨u, h2, h3⟩ := hx v W hh hk
  refine ⟨u, ?_, Ho.mk hr h3 hst⟩
  unfold execOp
  rw [ho]
  show (do pure (.value (← Instr.loadAt T (a.tmps.getD t undef))) : Sem Next).run Tryz.prog W = _
  rw [h1]
  exact run_val h2
theorem DX.loadp {T : TypeId} {s p : Nat} {b : BT} {k : Know} (hw : wantB ops fr o = some true) (hd : o.dst = some d) (hN : Nat.blt d N = true) (ho : o.op = .load T (.tmp s)) (hs : look fr s = some (.bp b p k)) (hT : b.T = T) : Eo B N w0 ops o fr (.val d (.kw k)) :=
 DX.val hw hd hN rfl fun a W hf => by
  obtain ⟨v, e, _, ⟨cs, hs1, hc⟩, hv, st, ok⟩ := hf.ho s _ hs
  refine ⟨v, ?_, hv, st⟩
  have := run_val (ok.load v cs W p hs1 fun i x hx => (hc i x hx).1)
  unfold execOp
  rw [ho]
  show (do pure (.value (← Instr.loadAt T (a.tmps.getD s undef))) : Sem Next).run Tryz.prog W = _
  rw [e, ← hT]
  exact this
end
/-! ### The reference's digits -/
def KDt (z : Int) : Know := KL .i64 fun zs => dg 65536 zs ∧ lv 65536 zs = z ∧ top zs
def KDn (m : Nat) (z : Int) : Know := KL .i64 fun zs => dg 65536 zs ∧ lv 65536 zs = z ∧ zs.length ≤ m
theorem KDt.st (z : Int) : St (KDt z) := KL.st _ _
theorem KDn.st (m : Nat) (z : Int) : St (KDn m z) := KL.st _ _
theorem pow65 (n : Nat) : b32 ^ n = (65536 : Int) ^ (2 * n) := by rw [Int.pow_mul]; rfl
theorem len_bd {zs : List Int} {z : Int} {n : Nat} (d : dg 65536 zs) (e : lv 65536 zs = z) (t : top zs) (Z : bd n z) : zs.length ≤ 2 * n := by
 apply Classical.byContradiction
 intro hn
 have hne : zs ≠ [] := fun h => by rw [h] at hn; simp at hn
 have h1 := top_le BJ_pos d t hne
 have h2 := pow_le (b := 65536) (by decide) (show 2 * n ≤ zs.length - 1 by omega)
 have h3 := Z.2
 rw [pow65] at h3
 omega
theorem ce_rtrimmed : CE 126 := fun args W => by go_simp
theorem ce_rmade : CE 117 := fun args W => by go_simp
theorem k_rmadeN {n : Bool} {z : Int} {m : Nat} : CallOk 117 [KV (.bool n), KDn m z] (KJ (sg n z)) :=
 call2 ce_rmade fun W u v e ⟨zs, A, c, e2, hc, rd, d, ez, _⟩ => by obtain rfl : u = _ := e; subst e2 ez; exact rmade_c rfl rd hc d
theorem k_rmadeT {n : Bool} {z : Int} : CallOk 117 [KV (.bool n), KDt z] (KJ (sg n z)) :=
 call2 ce_rmade fun W u v e ⟨zs, A, c, e2, hc, rd, d, ez, _⟩ => by obtain rfl : u = _ := e; subst e2 ez; exact rmade_c rfl rd hc d
end Go.Proofs.YthpjmhhfcechmaaGreat.Sy
/- The reference's compare, plus, minus, times, by rules. -/
namespace Go.Proofs.YthpjmhhfcechmaaGreat.Sy
open Go Go.RowKit Ma
theorem cmp_gt {a b : Int} (h : b < a) : cmp a b = 1 := by unfold cmp; rw [if_neg (by omega), if_neg (by omega)]
theorem cmp_eq {a b : Int} (h : a = b) : cmp a b = 0 := by unfold cmp; rw [if_neg (by omega), if_pos h]
set_option maxHeartbeats 3200000 in
set_option maxRecDepth 100000 in
theorem rcompare_c {A A2 : Option Addr} {c d : Nat} {xs ys : List Int} {w : World} (rA : Rd w .i64 A xs) (rB : Rd w .i64 A2 ys) (dx : dg 65536 xs) (dy : dg 65536 ys) (hx : xs.length ≤ 2000000) (hy : ys.length ≤ 2000000) (tx : top xs) (ty : top ys) :
  Calls Tryz.prog 145 #[.slice A xs.length c, .slice A2 ys.length d] w (Ret w (KV (.int .i64 (cmp (lv 65536 xs) (lv 65536 ys))))) := by
 refine calls_sc (l := [.vl (.slice A xs.length c), .vl (.slice A2 ys.length d)]) (us := [.slice A xs.length c, .slice A2 ys.length d]) 41 Tryz.func145 rfl Tryz.ntmps145 (by simp) ⟨rfl, rfl, rfl, rfl, trivial⟩ ?_
 refine SC.seq (SC.region (PW.assign rfl rfl rfl rfl rfl (PW.nil (SX.then (SC.seq (SC.seq ?_))))))
 by_cases hd : xs.length ≠ ys.length
 ·refine SC.region ?_
  refine PW.move rfl rfl rfl rfl rfl ?_
  refine PW.qn [(.tmp 6, .slice A xs.length c)] (.int .i64 (xs.length : Int)) rfl rfl rfl ⟨rfl, trivial⟩ (fun ρ W h => by obtain ⟨h1, _⟩ := h; exact r_lenI h1) ?_
  refine PW.move rfl rfl rfl rfl rfl ?_
  refine PW.qn [(.tmp 8, .slice A2 ys.length d)] (.int .i64 (ys.length : Int)) rfl rfl rfl ⟨rfl, trivial⟩ (fun ρ W h => by obtain ⟨h1, _⟩ := h; exact r_lenI h1) ?_
  refine PW.q2 (x := .tmp 7) (y := .tmp 9) (.bool true) rfl rfl rfl rfl rfl (fun ρ W h1 h2 => by exact r_neT h1 h2 (by omega)) ?_
  refine PW.nil (SX.then (SC.cond (t := true) rfl (SC.seq (SC.seq ?_))))
  by_cases hl : xs.length < ys.length
  ·refine SC.region ?_
   refine PW.move rfl rfl rfl rfl rfl ?_
   refine PW.qn [(.tmp 11, .slice A xs.length c)] (.int .i64 (xs.length : Int)) rfl rfl rfl ⟨rfl, trivial⟩ (fun ρ W h => by obtain ⟨h1, _⟩ := h; exact r_lenI h1) ?_
   refine PW.move rfl rfl rfl rfl rfl ?_
   refine PW.qn [(.tmp 13, .slice A2 ys.length d)] (.int .i64 (ys.length : Int)) rfl rfl rfl ⟨rfl, trivial⟩ (fun ρ W h => by obtain ⟨h1, _⟩ := h; exact r_lenI h1) ?_
   refine PW.q2 (x := .tmp 12) (y := .tmp 14) (.bool true) rfl rfl rfl rfl rfl (fun ρ W h1 h2 => by exact r_lt h1 h2 (decide_eq_true (by omega))) ?_
   refine PW.nil (SX.then (SC.cond (t := true) rfl (SC.seq (SC.region (PW.assign rfl rfl rfl rfl rfl (PW.nil (SX.then (SC.ret (SX.thenR (SX.thenR ?_))))))))))
   have hr : cmp (lv 65536 xs) (lv 65536 ys) = (-1) := cmp_lt (lt_of_len dx dy ty (by omega))
   rw [hr]
   exact SX.done (s := 4) (r := .vl (.int .i64 (-1))) rfl rfl rfl
  ·refine SC.region ?_
   refine PW.move rfl rfl rfl rfl rfl ?_
   refine PW.qn [(.tmp 11, .slice A xs.length c)] (.int .i64 (xs.length : Int)) rfl rfl rfl ⟨rfl, trivial⟩ (fun ρ W h => by obtain ⟨h1, _⟩ := h; exact r_lenI h1) ?_
   refine PW.move rfl rfl rfl rfl rfl ?_
   refine PW.qn [(.tmp 13, .slice A2 ys.length d)] (.int .i64 (ys.length : Int)) rfl rfl rfl ⟨rfl, trivial⟩ (fun ρ W h => by obtain ⟨h1, _⟩ := h; exact r_lenI h1) ?_
   refine PW.q2 (x := .tmp 12) (y := .tmp 14) (.bool false) rfl rfl rfl rfl rfl (fun ρ W h1 h2 => by exact r_lt h1 h2 (decide_eq_false (by omega))) ?_
   refine PW.nil (SX.then (SC.cond (t := false) rfl (SC.skip (SX.then (SC.seq (SC.region (PW.assign rfl rfl rfl rfl rfl (PW.nil (SX.then (SC.ret (SX.thenR ?_)))))))))))
   have hr : cmp (lv 65536 xs) (lv 65536 ys) = 1 := cmp_gt (lt_of_len dy dx tx (by omega))
   rw [hr]
   exact SX.done (s := 4) (r := .vl (.int .i64 1)) rfl rfl rfl
 ·have hd : xs.length = ys.length := by omega
  refine SC.region (PW.move rfl rfl rfl rfl rfl ?_)
  refine PW.qn [(.tmp 6, .slice A xs.length c)] (.int .i64 (xs.length : Int)) rfl rfl rfl ⟨rfl, trivial⟩ (fun ρ W h => by obtain ⟨h1, _⟩ := h; exact r_lenI h1) ?_
  refine PW.move rfl rfl rfl rfl rfl ?_
  refine PW.qn [(.tmp 8, .slice A2 ys.length d)] (.int .i64 (ys.length : Int)) rfl rfl rfl ⟨rfl, trivial⟩ (fun ρ W h => by obtain ⟨h1, _⟩ := h; exact r_lenI h1) ?_
  refine PW.q2 (x := .tmp 7) (y := .tmp 9) (.bool false) rfl rfl rfl rfl rfl (fun ρ W h1 h2 => by exact r_neF h1 h2 (by omega)) ?_
  refine PW.nil (SX.then (SC.cond (t := false) rfl (SC.skip (SX.then (SC.seq (SC.seq (SC.region (PW.move rfl rfl rfl rfl rfl ?_))))))))
  refine PW.qn [(.tmp 16, .slice A xs.length c)] (.int .i64 (xs.length : Int)) rfl rfl rfl ⟨rfl, trivial⟩ (fun ρ W h => by obtain ⟨h1, _⟩ := h; exact r_lenI h1) ?_
  refine PW.q2 (x := .tmp 17) (y := .const (.int .i64 1)) (.int .i64 ((xs.length : Int) - 1)) rfl rfl rfl rfl rfl (fun ρ W h1 h2 => by exact r_sub h1 h2 (by omega) (by omega)) ?_
  refine PW.assign rfl rfl rfl rfl rfl (PW.nil (SX.then (SC.block ?_)))
  refine SC.loop (S := Nat) (fun t => [(0, .vl (.slice A xs.length c)), (1, .vl (.slice A2 ys.length d)), (5, .vl (.int .i64 ((t : Int) - 1)))]) (fun t => t ≤ xs.length ∧ xs.drop t = ys.drop t) (fun t => t) xs.length ⟨Nat.le_refl _, by rw [List.drop_eq_nil_of_le (Nat.le_refl _), List.drop_eq_nil_of_le (by omega)]⟩ ⟨rfl, rfl, rfl, trivial⟩ ?_
  rintro t ⟨hP1, hP2⟩
  refine SC.seq (SC.seq ?_)
  by_cases ht : (0 : Int) ≤ (t : Int) - 1
  ·obtain ⟨i, rfl⟩ : ∃ i, t = i + 1 := ⟨t - 1, by omega⟩
   rw [show ((i + 1 : Nat) : Int) - 1 = (i : Int) by omega]
   rw [show ((i + 1 : Nat) : Int) - 1 = (i : Int) by omega] at ht
   refine SC.region (PW.move rfl rfl rfl rfl rfl ?_)
   refine PW.q2 (x := .tmp 19) (y := .const (.int .i64 0)) (.bool true) rfl rfl rfl rfl rfl (fun ρ W h1 h2 => by exact r_ge h1 h2 (decide_eq_true ht)) ?_
   refine PW.nil (SX.then (SC.cond (t := true) rfl (SC.skip (SX.then (SC.seq (SC.block (SC.seq (SC.seq ?_))))))))
   by_cases g1 : at0 xs i < at0 ys i
   ·refine SC.dx [.val 23 (.vl (.slice A xs.length c)), .val 24 (.vl (.int .i64 (i : Int))), .val 25 (.vl (.pointer (padd A i))), .val 26 (.vl (.int .i64 (at0 xs i))), .val 27 (.vl (.slice A2 ys.length d)), .val 28 (.vl (.int .i64 (i : Int))), .val 29 (.vl (.pointer (padd A2 i))), .val 30 (.vl (.int .i64 (at0 ys i))), .val 31 (.vl (.bool true))] [([], [0]), ([], [5]), ([0, 1], []), ([2], []), ([], [1]), ([], [5]), ([4, 5], []), ([6], []), ([3, 7], [])] rfl (by kernel_rfl) (by kernel_rfl) (by kernel_rfl) rfl ⟨?_, ?_, ?_, ?_, ?_, ?_, ?_, ?_, ?_, trivial⟩ ?_
    ·exact DX.move rfl rfl rfl rfl rfl rfl
    ·exact DX.move rfl rfl rfl rfl rfl rfl
    ·exact DX.q2 (x := .tmp 23) (y := .tmp 24) (.pointer (padd A i)) rfl rfl rfl rfl rfl (fun ρ W h1 h2 => r_idxRI rA h1 h2 (by omega))
    ·exact DX.iget (i := i) rfl rfl rfl rfl rfl rfl rA (by omega) r_l64
    ·exact DX.move rfl rfl rfl rfl rfl rfl
    ·exact DX.move rfl rfl rfl rfl rfl rfl
    ·exact DX.q2 (x := .tmp 27) (y := .tmp 28) (.pointer (padd A2 i)) rfl rfl rfl rfl rfl (fun ρ W h1 h2 => r_idxRI rB h1 h2 (by omega))
    ·exact DX.iget (i := i) rfl rfl rfl rfl rfl rfl rB (by omega) r_l64
    ·exact DX.q2 (x := .tmp 26) (y := .tmp 30) (.bool true) rfl rfl rfl rfl rfl (fun ρ W h1 h2 => by exact r_lt h1 h2 (decide_eq_true g1))
    refine SX.then (SC.cond (t := true) rfl (SC.seq (SC.region (PW.assign rfl rfl rfl rfl rfl (PW.nil (SX.then (SC.ret (SX.thenR (SX.blockR (SX.thenR (SX.thenR (SX.blockR (SX.thenR ?_)))))))))))))
    have hr : cmp (lv 65536 xs) (lv 65536 ys) = (-1) := cmp_lt (cmp_top dx dy hd (by omega) hP2 g1)
    rw [hr]
    exact SX.done (s := 4) (r := .vl (.int .i64 (-1))) rfl rfl rfl
   ·refine SC.dx [.val 23 (.vl (.slice A xs.length c)), .val 24 (.vl (.int .i64 (i : Int))), .val 25 (.vl (.pointer (padd A i))), .val 26 (.vl (.int .i64 (at0 xs i))), .val 27 (.vl (.slice A2 ys.length d)), .val 28 (.vl (.int .i64 (i : Int))), .val 29 (.vl (.pointer (padd A2 i))), .val 30 (.vl (.int .i64 (at0 ys i))), .val 31 (.vl (.bool false))] [([], [0]), ([], [5]), ([0, 1], []), ([2], []), ([], [1]), ([], [5]), ([4, 5], []), ([6], []), ([3, 7], [])] rfl (by kernel_rfl) (by kernel_rfl) (by kernel_rfl) rfl ⟨?_, ?_, ?_, ?_, ?_, ?_, ?_, ?_, ?_, trivial⟩ ?_
    ·exact DX.move rfl rfl rfl rfl rfl rfl
    ·exact DX.move rfl rfl rfl rfl rfl rfl
    ·exact DX.q2 (x := .tmp 23) (y := .tmp 24) (.pointer (padd A i)) rfl rfl rfl rfl rfl (fun ρ W h1 h2 => r_idxRI rA h1 h2 (by omega))
    ·exact DX.iget (i := i) rfl rfl rfl rfl rfl rfl rA (by omega) r_l64
    ·exact DX.move rfl rfl rfl rfl rfl rfl
    ·exact DX.move rfl rfl rfl rfl rfl rfl
    ·exact DX.q2 (x := .tmp 27) (y := .tmp 28) (.pointer (padd A2 i)) rfl rfl rfl rfl rfl (fun ρ W h1 h2 => r_idxRI rB h1 h2 (by omega))
    ·exact DX.iget (i := i) rfl rfl rfl rfl rfl rfl rB (by omega) r_l64
    ·exact DX.q2 (x := .tmp 26) (y := .tmp 30) (.bool false) rfl rfl rfl rfl rfl (fun ρ W h1 h2 => by exact r_lt h1 h2 (decide_eq_false g1))
    refine SX.then (SC.cond (t := false) rfl (SC.skip (SX.then (SC.seq ?_))))
    by_cases g2 : at0 ys i < at0 xs i
    ·refine SC.dx [.val 32 (.vl (.slice A xs.length c)), .val 33 (.vl (.int .i64 (i : Int))), .val 34 (.vl (.pointer (padd A i))), .val 35 (.vl (.int .i64 (at0 xs i))), .val 36 (.vl (.slice A2 ys.length d)), .val 37 (.vl (.int .i64 (i : Int))), .val 38 (.vl (.pointer (padd A2 i))), .val 39 (.vl (.int .i64 (at0 ys i))), .val 40 (.vl (.bool true))] [([], [0]), ([], [5]), ([0, 1], []), ([2], []), ([], [1]), ([], [5]), ([4, 5], []), ([6], []), ([3, 7], [])] rfl (by kernel_rfl) (by kernel_rfl) (by kernel_rfl) rfl ⟨?_, ?_, ?_, ?_, ?_, ?_, ?_, ?_, ?_, trivial⟩ ?_
     ·exact DX.move rfl rfl rfl rfl rfl rfl
     ·exact DX.move rfl rfl rfl rfl rfl rfl
     ·exact DX.q2 (x := .tmp 32) (y := .tmp 33) (.pointer (padd A i)) rfl rfl rfl rfl rfl (fun ρ W h1 h2 => r_idxRI rA h1 h2 (by omega))
     ·exact DX.iget (i := i) rfl rfl rfl rfl rfl rfl rA (by omega) r_l64
     ·exact DX.move rfl rfl rfl rfl rfl rfl
     ·exact DX.move rfl rfl rfl rfl rfl rfl
     ·exact DX.q2 (x := .tmp 36) (y := .tmp 37) (.pointer (padd A2 i)) rfl rfl rfl rfl rfl (fun ρ W h1 h2 => r_idxRI rB h1 h2 (by omega))
     ·exact DX.iget (i := i) rfl rfl rfl rfl rfl rfl rB (by omega) r_l64
     ·exact DX.q2 (x := .tmp 35) (y := .tmp 39) (.bool true) rfl rfl rfl rfl rfl (fun ρ W h1 h2 => by exact r_gt h1 h2 (decide_eq_true g2))
     refine SX.then (SC.cond (t := true) rfl (SC.seq (SC.region (PW.assign rfl rfl rfl rfl rfl (PW.nil (SX.then (SC.ret (SX.blockR (SX.thenR (SX.thenR (SX.blockR (SX.thenR ?_))))))))))))
     have hr : cmp (lv 65536 xs) (lv 65536 ys) = 1 := cmp_gt (cmp_top dy dx hd.symm (by omega) hP2.symm g2)
     rw [hr]
     exact SX.done (s := 4) (r := .vl (.int .i64 1)) rfl rfl rfl
    ·refine SC.dx [.val 32 (.vl (.slice A xs.length c)), .val 33 (.vl (.int .i64 (i : Int))), .val 34 (.vl (.pointer (padd A i))), .val 35 (.vl (.int .i64 (at0 xs i))), .val 36 (.vl (.slice A2 ys.length d)), .val 37 (.vl (.int .i64 (i : Int))), .val 38 (.vl (.pointer (padd A2 i))), .val 39 (.vl (.int .i64 (at0 ys i))), .val 40 (.vl (.bool false))] [([], [0]), ([], [5]), ([0, 1], []), ([2], []), ([], [1]), ([], [5]), ([4, 5], []), ([6], []), ([3, 7], [])] rfl (by kernel_rfl) (by kernel_rfl) (by kernel_rfl) rfl ⟨?_, ?_, ?_, ?_, ?_, ?_, ?_, ?_, ?_, trivial⟩ ?_
     ·exact DX.move rfl rfl rfl rfl rfl rfl
     ·exact DX.move rfl rfl rfl rfl rfl rfl
     ·exact DX.q2 (x := .tmp 32) (y := .tmp 33) (.pointer (padd A i)) rfl rfl rfl rfl rfl (fun ρ W h1 h2 => r_idxRI rA h1 h2 (by omega))
     ·exact DX.iget (i := i) rfl rfl rfl rfl rfl rfl rA (by omega) r_l64
     ·exact DX.move rfl rfl rfl rfl rfl rfl
     ·exact DX.move rfl rfl rfl rfl rfl rfl
     ·exact DX.q2 (x := .tmp 36) (y := .tmp 37) (.pointer (padd A2 i)) rfl rfl rfl rfl rfl (fun ρ W h1 h2 => r_idxRI rB h1 h2 (by omega))
     ·exact DX.iget (i := i) rfl rfl rfl rfl rfl rfl rB (by omega) r_l64
     ·exact DX.q2 (x := .tmp 35) (y := .tmp 39) (.bool false) rfl rfl rfl rfl rfl (fun ρ W h1 h2 => by exact r_gt h1 h2 (decide_eq_false g2))
     refine SX.then (SC.cond (t := false) rfl (SC.skip ?_))
     refine SX.blockN ?_
     refine SX.then (SC.region (PW.move rfl rfl rfl rfl rfl ?_))
     refine PW.q2 (x := .tmp 21) (y := .const (.int .i64 1)) (.int .i64 ((i : Int) - 1)) rfl rfl rfl rfl rfl (fun ρ W h1 h2 => by exact r_sub h1 h2 (by omega) (by omega)) ?_
     refine PW.assign rfl rfl rfl rfl rfl (PW.nil ?_)
     refine SX.back i ?_ ?_ ?_
     ·exact ⟨by omega, drop_at hd (by omega) hP2 (by omega)⟩
     ·exact (show i < i + 1 by omega)
     ·exact ⟨rfl, rfl, rfl, trivial⟩
  ·obtain rfl : t = 0 := by omega
   refine SC.region (PW.move rfl rfl rfl rfl rfl ?_)
   refine PW.q2 (x := .tmp 19) (y := .const (.int .i64 0)) (.bool false) rfl rfl rfl rfl rfl (fun ρ W h1 h2 => by exact r_ge h1 h2 (decide_eq_false ht)) ?_
   refine PW.nil (SX.then (SC.cond (t := false) rfl (SC.exit (SX.thenE (SX.thenE (SX.blockE (SX.then (SC.seq (SC.region (PW.assign rfl rfl rfl rfl rfl (PW.nil (SX.then (SC.ret ?_)))))))))))))
   have hr : cmp (lv 65536 xs) (lv 65536 ys) = 0 := cmp_eq (by rw [List.drop_zero, List.drop_zero] at hP2; rw [hP2])
   rw [hr]
   exact SX.done (s := 4) (r := .vl (.int .i64 0)) rfl rfl rfl
set_option maxHeartbeats 3200000 in
set_option maxRecDepth 100000 in
theorem rplus_c {A A2 : Option Addr} {c d : Nat} {xs ys : List Int} {w : World} (rA : Rd w .i64 A xs) (rB : Rd w .i64 A2 ys) (dx : dg 65536 xs) (dy : dg 65536 ys) (hx : xs.length ≤ 2000000) (hy : ys.length ≤ 2000000) :
  Calls Tryz.prog 144 #[.slice A xs.length c, .slice A2 ys.length d] w (Ret w (KL .i64 fun zs => dg 65536 zs ∧ lv 65536 zs = lv 65536 xs + lv 65536 ys ∧ zs.length ≤ max xs.length ys.length + 1)) := by
 refine calls_sc (l := [.vl (.slice A xs.length c), .vl (.slice A2 ys.length d)]) (us := [.slice A xs.length c, .slice A2 ys.length d]) 54 Tryz.func144 rfl Tryz.ntmps144 (by simp) ⟨rfl, rfl, rfl, rfl, trivial⟩ ?_
 refine SC.seq (SC.region (PW.assign rfl rfl rfl rfl rfl (PW.nil (SX.then (SC.seq (SC.region (PW.assign rfl rfl rfl rfl rfl (PW.nil (SX.then (SC.seq (SC.region (PW.assign rfl rfl rfl rfl rfl ?_))))))))))))
 refine PW.nil (SX.then (SC.seq (SC.seq (SC.region (PW.assign rfl rfl rfl rfl rfl (PW.nil (SX.then (SC.block ?_))))))))
 refine SC.weak (fun a W hf => Fr.nilrow 54 3 (.int .i64) hf) ?_
 refine SC.loop (S := Nat × Value × List Int × Int) (fun ⟨i, v, zs, cc⟩ => [(0, .vl (.slice A xs.length c)), (1, .vl (.slice A2 ys.length d)), (5, .vl (v)), (6, .vl (.int .i64 (cc))), (7, .vl (.int .i64 (i : Int))), (54, .ro (v) 3 (.int .i64) (zs))]) (fun ⟨i, v, zs, cc⟩ => Pl xs ys i zs cc) (fun ⟨i, v, zs, cc⟩ => 2 * (max xs.length ys.length - i) + cc.toNat) (0, .slice none 0 0, [], 0) (Pl.start xs ys) ⟨rfl, rfl, rfl, rfl, rfl, rfl, trivial⟩ ?_
 rintro ⟨i, v, zs, cc⟩ hP
 show SC _ _ _ _ [(0, .vl (.slice A xs.length c)), (1, .vl (.slice A2 ys.length d)), (5, .vl (v)), (6, .vl (.int .i64 (cc))), (7, .vl (.int .i64 (i : Int))), (54, .ro (v) 3 (.int .i64) (zs))] _
 refine SC.seq (SC.seq ?_)
 by_cases ha : (i : Int) < (xs.length : Int)
 ·refine SC.region ?_
  refine PW.move rfl rfl rfl rfl rfl (PW.move rfl rfl rfl rfl rfl ?_)
  refine PW.qn [(.tmp 10, .slice A xs.length c)] (.int .i64 (xs.length : Int)) rfl rfl rfl ⟨rfl, trivial⟩ (fun ρ W h => by obtain ⟨h1, _⟩ := h; exact r_lenI h1) ?_
  refine PW.q2 (x := .tmp 9) (y := .tmp 11) (.bool true) rfl rfl rfl rfl rfl (fun ρ W h1 h2 => by exact r_lt h1 h2 (decide_eq_true ha)) ?_
  refine PW.move rfl rfl rfl rfl rfl ?_
  refine PW.skip rfl rfl rfl ?_
  refine PW.skip rfl rfl rfl ?_
  refine PW.skip rfl rfl rfl ?_
  refine PW.skip rfl rfl rfl ?_
  refine PW.pick (t := true) rfl rfl rfl rfl rfl rfl ?_
  refine PW.move rfl rfl rfl rfl rfl ?_
  refine PW.skip rfl rfl rfl ?_
  refine PW.skip rfl rfl rfl ?_
  refine PW.pick (t := true) rfl rfl rfl rfl rfl rfl ?_
  refine PW.nil (SX.then (SC.cond (t := true) rfl (SC.skip (SX.then (SC.seq (SC.block (SC.seq (SC.region (PW.move rfl rfl rfl rfl rfl (PW.assign rfl rfl rfl rfl rfl (PW.nil (SX.then (SC.seq ?_)))))))))))))
  refine SC.seq (SC.region (PW.move rfl rfl rfl rfl rfl (PW.move rfl rfl rfl rfl rfl ?_)))
  refine PW.qn [(.tmp 27, .slice A xs.length c)] (.int .i64 (xs.length : Int)) rfl rfl rfl ⟨rfl, trivial⟩ (fun ρ W h => by obtain ⟨h1, _⟩ := h; exact r_lenI h1) ?_
  refine PW.q2 (x := .tmp 26) (y := .tmp 28) (.bool true) rfl rfl rfl rfl rfl (fun ρ W h1 h2 => by exact r_lt h1 h2 (decide_eq_true ha)) ?_
  refine PW.nil (SX.then (SC.cond (t := true) rfl (SC.region (PW.move rfl rfl rfl rfl rfl (PW.move rfl rfl rfl rfl rfl (PW.move rfl rfl rfl rfl rfl ?_))))))
  refine PW.q2 (x := .tmp 31) (y := .tmp 32) (.pointer (padd A i)) rfl rfl rfl rfl rfl (fun ρ W h1 h2 => r_idxRI rA h1 h2 (by omega)) ?_
  refine PW.iget (i := i) rfl rfl rfl rfl rfl rfl rA (by omega) r_l64 ?_
  refine PW.q2 (x := .tmp 30) (y := .tmp 34) (.int .i64 ((cc) + at0 xs i)) rfl rfl rfl rfl rfl (fun ρ W h1 h2 => by exact r_add h1 h2 rfl (by have := dg_at dx BJ_pos i; have := hP.c0; have := hP.c1; omega)) ?_
  refine PW.assign rfl rfl rfl rfl rfl (PW.nil (SX.then (SC.seq (SC.seq ?_))))
  by_cases hb : (i : Int) < (ys.length : Int)
  ·refine SC.region ?_
   refine PW.move rfl rfl rfl rfl rfl (PW.move rfl rfl rfl rfl rfl ?_)
   refine PW.qn [(.tmp 37, .slice A2 ys.length d)] (.int .i64 (ys.length : Int)) rfl rfl rfl ⟨rfl, trivial⟩ (fun ρ W h => by obtain ⟨h1, _⟩ := h; exact r_lenI h1) ?_
   refine PW.q2 (x := .tmp 36) (y := .tmp 38) (.bool true) rfl rfl rfl rfl rfl (fun ρ W h1 h2 => by exact r_lt h1 h2 (decide_eq_true hb)) ?_
   refine PW.nil (SX.then (SC.cond (t := true) rfl (SC.region (PW.move rfl rfl rfl rfl rfl (PW.move rfl rfl rfl rfl rfl (PW.move rfl rfl rfl rfl rfl ?_))))))
   refine PW.q2 (x := .tmp 41) (y := .tmp 42) (.pointer (padd A2 i)) rfl rfl rfl rfl rfl (fun ρ W h1 h2 => r_idxRI rB h1 h2 (by omega)) ?_
   refine PW.iget (i := i) rfl rfl rfl rfl rfl rfl rB (by omega) r_l64 ?_
   refine PW.q2 (x := .tmp 40) (y := .tmp 44) (.int .i64 (((cc) + at0 xs i) + at0 ys i)) rfl rfl rfl rfl rfl (fun ρ W h1 h2 => by exact r_add h1 h2 rfl (by have := dg_at dx BJ_pos i; have := dg_at dy BJ_pos i; have := hP.c0; have := hP.c1; omega)) ?_
   refine PW.assign rfl rfl rfl rfl rfl (PW.nil (SX.then (SC.seq ?_)))
   obtain ⟨hp, hn0, hn1, hmu⟩ := hP.step dx dy (n := (((cc) + at0 xs i) + at0 ys i)) (by omega) (by omega)
   refine SC.region (PW.move rfl rfl rfl rfl rfl (PW.move rfl rfl rfl rfl rfl ?_))
   refine PW.q2 (x := .tmp 47) (y := .const (.int .i64 65536)) (.int .i64 (((((cc) + at0 xs i) + at0 ys i)) % 65536)) rfl rfl rfl rfl rfl (fun ρ W h1 h2 => by exact r_rem h1 h2 rfl (by omega) (by decide)) ?_
   refine PW.app (K := 54) (f := .int .i64) [(((((cc) + at0 xs i) + at0 ys i)) % 65536)] rfl rfl rfl (fun a W hf => r_b1I (hf.vl (s := 48) rfl)) rfl rfl rfl rfl rfl rfl rfl rfl Tryz.underlying32 info_i64 rfl (fun _ => rfl) (by have l1 := hP.len; have l2 := hP.le; unfold maxLen; show _ + 1 ≤ _; omega) (by have l1 := hP.len; have l2 := hP.le; show (_ + 1) * 8 ≤ _; omega) rfl fun vq1 uq1 => ?_
   refine PW.assign rfl rfl rfl rfl rfl (PW.nil (SX.then (SC.region (PW.move rfl rfl rfl rfl rfl ?_))))
   refine PW.q2 (x := .tmp 51) (y := .const (.int .i64 65536)) (.int .i64 (((((cc) + at0 xs i) + at0 ys i)) / 65536)) rfl rfl rfl rfl rfl (fun ρ W h1 h2 => by exact r_quo h1 h2 rfl (by omega) (by decide)) ?_
   refine PW.assign rfl rfl rfl rfl rfl (PW.nil ?_)
   refine SX.blockN ?_
   refine SX.then (SC.region (PW.move rfl rfl rfl rfl rfl ?_))
   refine PW.q2 (x := .tmp 23) (y := .const (.int .i64 1)) (.int .i64 (((i + 1 : Nat) : Int))) rfl rfl rfl rfl rfl (fun ρ W h1 h2 => by exact r_add h1 h2 (by omega) (by have := hP.le; omega)) ?_
   refine PW.assign rfl rfl rfl rfl rfl (PW.nil ?_)
   refine SX.back (i + 1, vq1, zs ++ [(((((cc) + at0 xs i) + at0 ys i)) % 65536)], (((((cc) + at0 xs i) + at0 ys i)) / 65536)) ?_ ?_ ?_
   ·exact hp
   ·exact hmu
   ·exact ⟨rfl, rfl, rfl, rfl, rfl, rfl, trivial⟩
  ·refine SC.region ?_
   refine PW.move rfl rfl rfl rfl rfl (PW.move rfl rfl rfl rfl rfl ?_)
   refine PW.qn [(.tmp 37, .slice A2 ys.length d)] (.int .i64 (ys.length : Int)) rfl rfl rfl ⟨rfl, trivial⟩ (fun ρ W h => by obtain ⟨h1, _⟩ := h; exact r_lenI h1) ?_
   refine PW.q2 (x := .tmp 36) (y := .tmp 38) (.bool false) rfl rfl rfl rfl rfl (fun ρ W h1 h2 => by exact r_lt h1 h2 (decide_eq_false hb)) ?_
   refine PW.nil (SX.then (SC.cond (t := false) rfl (SC.skip (SX.then (SC.seq ?_)))))
   have ay : at0 ys i = 0 := at0_ge (by omega)
   obtain ⟨hp, hn0, hn1, hmu⟩ := hP.step dx dy (n := ((cc) + at0 xs i)) (by omega) (by omega)
   refine SC.region (PW.move rfl rfl rfl rfl rfl (PW.move rfl rfl rfl rfl rfl ?_))
   refine PW.q2 (x := .tmp 47) (y := .const (.int .i64 65536)) (.int .i64 ((((cc) + at0 xs i)) % 65536)) rfl rfl rfl rfl rfl (fun ρ W h1 h2 => by exact r_rem h1 h2 rfl (by omega) (by decide)) ?_
   refine PW.app (K := 54) (f := .int .i64) [((((cc) + at0 xs i)) % 65536)] rfl rfl rfl (fun a W hf => r_b1I (hf.vl (s := 48) rfl)) rfl rfl rfl rfl rfl rfl rfl rfl Tryz.underlying32 info_i64 rfl (fun _ => rfl) (by have l1 := hP.len; have l2 := hP.le; unfold maxLen; show _ + 1 ≤ _; omega) (by have l1 := hP.len; have l2 := hP.le; show (_ + 1) * 8 ≤ _; omega) rfl fun vq2 uq2 => ?_
   refine PW.assign rfl rfl rfl rfl rfl (PW.nil (SX.then (SC.region (PW.move rfl rfl rfl rfl rfl ?_))))
   refine PW.q2 (x := .tmp 51) (y := .const (.int .i64 65536)) (.int .i64 ((((cc) + at0 xs i)) / 65536)) rfl rfl rfl rfl rfl (fun ρ W h1 h2 => by exact r_quo h1 h2 rfl (by omega) (by decide)) ?_
   refine PW.assign rfl rfl rfl rfl rfl (PW.nil ?_)
   refine SX.blockN ?_
   refine SX.then (SC.region (PW.move rfl rfl rfl rfl rfl ?_))
   refine PW.q2 (x := .tmp 23) (y := .const (.int .i64 1)) (.int .i64 (((i + 1 : Nat) : Int))) rfl rfl rfl rfl rfl (fun ρ W h1 h2 => by exact r_add h1 h2 (by omega) (by have := hP.le; omega)) ?_
   refine PW.assign rfl rfl rfl rfl rfl (PW.nil ?_)
   refine SX.back (i + 1, vq2, zs ++ [((((cc) + at0 xs i)) % 65536)], ((((cc) + at0 xs i)) / 65536)) ?_ ?_ ?_
   ·exact hp
   ·exact hmu
   ·exact ⟨rfl, rfl, rfl, rfl, rfl, rfl, trivial⟩
 ·by_cases hb : (i : Int) < (ys.length : Int)
  ·refine SC.region ?_
   refine PW.move rfl rfl rfl rfl rfl (PW.move rfl rfl rfl rfl rfl ?_)
   refine PW.qn [(.tmp 10, .slice A xs.length c)] (.int .i64 (xs.length : Int)) rfl rfl rfl ⟨rfl, trivial⟩ (fun ρ W h => by obtain ⟨h1, _⟩ := h; exact r_lenI h1) ?_
   refine PW.q2 (x := .tmp 9) (y := .tmp 11) (.bool false) rfl rfl rfl rfl rfl (fun ρ W h1 h2 => by exact r_lt h1 h2 (decide_eq_false ha)) ?_
   refine PW.move rfl rfl rfl rfl rfl (PW.move rfl rfl rfl rfl rfl (PW.move rfl rfl rfl rfl rfl ?_))
   refine PW.qn [(.tmp 15, .slice A2 ys.length d)] (.int .i64 (ys.length : Int)) rfl rfl rfl ⟨rfl, trivial⟩ (fun ρ W h => by obtain ⟨h1, _⟩ := h; exact r_lenI h1) ?_
   refine PW.q2 (x := .tmp 14) (y := .tmp 16) (.bool true) rfl rfl rfl rfl rfl (fun ρ W h1 h2 => by exact r_lt h1 h2 (decide_eq_true hb)) ?_
   refine PW.pick (t := false) rfl rfl rfl rfl rfl rfl ?_
   refine PW.move rfl rfl rfl rfl rfl ?_
   refine PW.skip rfl rfl rfl ?_
   refine PW.skip rfl rfl rfl ?_
   refine PW.pick (t := true) rfl rfl rfl rfl rfl rfl ?_
   refine PW.nil (SX.then (SC.cond (t := true) rfl (SC.skip (SX.then (SC.seq (SC.block (SC.seq (SC.region (PW.move rfl rfl rfl rfl rfl (PW.assign rfl rfl rfl rfl rfl (PW.nil (SX.then ?_))))))))))))
   refine SC.seq (SC.seq (SC.region (PW.move rfl rfl rfl rfl rfl (PW.move rfl rfl rfl rfl rfl ?_))))
   refine PW.qn [(.tmp 27, .slice A xs.length c)] (.int .i64 (xs.length : Int)) rfl rfl rfl ⟨rfl, trivial⟩ (fun ρ W h => by obtain ⟨h1, _⟩ := h; exact r_lenI h1) ?_
   refine PW.q2 (x := .tmp 26) (y := .tmp 28) (.bool false) rfl rfl rfl rfl rfl (fun ρ W h1 h2 => by exact r_lt h1 h2 (decide_eq_false ha)) ?_
   refine PW.nil (SX.then (SC.cond (t := false) rfl (SC.skip (SX.then (SC.seq (SC.seq (SC.region (PW.move rfl rfl rfl rfl rfl (PW.move rfl rfl rfl rfl rfl ?_)))))))))
   refine PW.qn [(.tmp 37, .slice A2 ys.length d)] (.int .i64 (ys.length : Int)) rfl rfl rfl ⟨rfl, trivial⟩ (fun ρ W h => by obtain ⟨h1, _⟩ := h; exact r_lenI h1) ?_
   refine PW.q2 (x := .tmp 36) (y := .tmp 38) (.bool true) rfl rfl rfl rfl rfl (fun ρ W h1 h2 => by exact r_lt h1 h2 (decide_eq_true hb)) ?_
   refine PW.nil (SX.then (SC.cond (t := true) rfl (SC.region (PW.move rfl rfl rfl rfl rfl (PW.move rfl rfl rfl rfl rfl (PW.move rfl rfl rfl rfl rfl ?_))))))
   refine PW.q2 (x := .tmp 41) (y := .tmp 42) (.pointer (padd A2 i)) rfl rfl rfl rfl rfl (fun ρ W h1 h2 => r_idxRI rB h1 h2 (by omega)) ?_
   refine PW.iget (i := i) rfl rfl rfl rfl rfl rfl rB (by omega) r_l64 ?_
   refine PW.q2 (x := .tmp 40) (y := .tmp 44) (.int .i64 ((cc) + at0 ys i)) rfl rfl rfl rfl rfl (fun ρ W h1 h2 => by exact r_add h1 h2 rfl (by have := dg_at dx BJ_pos i; have := dg_at dy BJ_pos i; have := hP.c0; have := hP.c1; omega)) ?_
   refine PW.assign rfl rfl rfl rfl rfl (PW.nil (SX.then (SC.seq ?_)))
   have ax : at0 xs i = 0 := at0_ge (by omega)
   obtain ⟨hp, hn0, hn1, hmu⟩ := hP.step dx dy (n := ((cc) + at0 ys i)) (by omega) (by omega)
   refine SC.region (PW.move rfl rfl rfl rfl rfl (PW.move rfl rfl rfl rfl rfl ?_))
   refine PW.q2 (x := .tmp 47) (y := .const (.int .i64 65536)) (.int .i64 ((((cc) + at0 ys i)) % 65536)) rfl rfl rfl rfl rfl (fun ρ W h1 h2 => by exact r_rem h1 h2 rfl (by omega) (by decide)) ?_
   refine PW.app (K := 54) (f := .int .i64) [((((cc) + at0 ys i)) % 65536)] rfl rfl rfl (fun a W hf => r_b1I (hf.vl (s := 48) rfl)) rfl rfl rfl rfl rfl rfl rfl rfl Tryz.underlying32 info_i64 rfl (fun _ => rfl) (by have l1 := hP.len; have l2 := hP.le; unfold maxLen; show _ + 1 ≤ _; omega) (by have l1 := hP.len; have l2 := hP.le; show (_ + 1) * 8 ≤ _; omega) rfl fun vq3 uq3 => ?_
   refine PW.assign rfl rfl rfl rfl rfl (PW.nil (SX.then (SC.region (PW.move rfl rfl rfl rfl rfl ?_))))
   refine PW.q2 (x := .tmp 51) (y := .const (.int .i64 65536)) (.int .i64 ((((cc) + at0 ys i)) / 65536)) rfl rfl rfl rfl rfl (fun ρ W h1 h2 => by exact r_quo h1 h2 rfl (by omega) (by decide)) ?_
   refine PW.assign rfl rfl rfl rfl rfl (PW.nil ?_)
   refine SX.blockN ?_
   refine SX.then (SC.region (PW.move rfl rfl rfl rfl rfl ?_))
   refine PW.q2 (x := .tmp 23) (y := .const (.int .i64 1)) (.int .i64 (((i + 1 : Nat) : Int))) rfl rfl rfl rfl rfl (fun ρ W h1 h2 => by exact r_add h1 h2 (by omega) (by have := hP.le; omega)) ?_
   refine PW.assign rfl rfl rfl rfl rfl (PW.nil ?_)
   refine SX.back (i + 1, vq3, zs ++ [((((cc) + at0 ys i)) % 65536)], ((((cc) + at0 ys i)) / 65536)) ?_ ?_ ?_
   ·exact hp
   ·exact hmu
   ·exact ⟨rfl, rfl, rfl, rfl, rfl, rfl, trivial⟩
  ·by_cases hc : (0 : Int) < cc
   ·refine SC.region ?_
    refine PW.move rfl rfl rfl rfl rfl (PW.move rfl rfl rfl rfl rfl ?_)
    refine PW.qn [(.tmp 10, .slice A xs.length c)] (.int .i64 (xs.length : Int)) rfl rfl rfl ⟨rfl, trivial⟩ (fun ρ W h => by obtain ⟨h1, _⟩ := h; exact r_lenI h1) ?_
    refine PW.q2 (x := .tmp 9) (y := .tmp 11) (.bool false) rfl rfl rfl rfl rfl (fun ρ W h1 h2 => by exact r_lt h1 h2 (decide_eq_false ha)) ?_
    refine PW.move rfl rfl rfl rfl rfl (PW.move rfl rfl rfl rfl rfl (PW.move rfl rfl rfl rfl rfl ?_))
    refine PW.qn [(.tmp 15, .slice A2 ys.length d)] (.int .i64 (ys.length : Int)) rfl rfl rfl ⟨rfl, trivial⟩ (fun ρ W h => by obtain ⟨h1, _⟩ := h; exact r_lenI h1) ?_
    refine PW.q2 (x := .tmp 14) (y := .tmp 16) (.bool false) rfl rfl rfl rfl rfl (fun ρ W h1 h2 => by exact r_lt h1 h2 (decide_eq_false hb)) ?_
    refine PW.pick (t := false) rfl rfl rfl rfl rfl rfl ?_
    refine PW.move rfl rfl rfl rfl rfl (PW.move rfl rfl rfl rfl rfl ?_)
    refine PW.q2 (x := .tmp 20) (y := .const (.int .i64 0)) (.bool true) rfl rfl rfl rfl rfl (fun ρ W h1 h2 => by exact r_gt h1 h2 (decide_eq_true hc)) ?_
    refine PW.pick (t := false) rfl rfl rfl rfl rfl rfl ?_
    refine PW.nil (SX.then (SC.cond (t := true) rfl (SC.skip (SX.then (SC.seq (SC.block (SC.seq (SC.region (PW.move rfl rfl rfl rfl rfl (PW.assign rfl rfl rfl rfl rfl (PW.nil (SX.then ?_))))))))))))
    refine SC.seq (SC.seq (SC.region (PW.move rfl rfl rfl rfl rfl (PW.move rfl rfl rfl rfl rfl ?_))))
    refine PW.qn [(.tmp 27, .slice A xs.length c)] (.int .i64 (xs.length : Int)) rfl rfl rfl ⟨rfl, trivial⟩ (fun ρ W h => by obtain ⟨h1, _⟩ := h; exact r_lenI h1) ?_
    refine PW.q2 (x := .tmp 26) (y := .tmp 28) (.bool false) rfl rfl rfl rfl rfl (fun ρ W h1 h2 => by exact r_lt h1 h2 (decide_eq_false ha)) ?_
    refine PW.nil (SX.then (SC.cond (t := false) rfl (SC.skip (SX.then (SC.seq (SC.seq (SC.region (PW.move rfl rfl rfl rfl rfl (PW.move rfl rfl rfl rfl rfl ?_)))))))))
    refine PW.qn [(.tmp 37, .slice A2 ys.length d)] (.int .i64 (ys.length : Int)) rfl rfl rfl ⟨rfl, trivial⟩ (fun ρ W h => by obtain ⟨h1, _⟩ := h; exact r_lenI h1) ?_
    refine PW.q2 (x := .tmp 36) (y := .tmp 38) (.bool false) rfl rfl rfl rfl rfl (fun ρ W h1 h2 => by exact r_lt h1 h2 (decide_eq_false hb)) ?_
    refine PW.nil (SX.then (SC.cond (t := false) rfl (SC.skip (SX.then (SC.seq ?_)))))
    have ax : at0 xs i = 0 := at0_ge (by omega)
    have ay : at0 ys i = 0 := at0_ge (by omega)
    obtain ⟨hp, hn0, hn1, hmu⟩ := hP.step dx dy (n := (cc)) (by omega) (by omega)
    refine SC.region (PW.move rfl rfl rfl rfl rfl (PW.move rfl rfl rfl rfl rfl ?_))
    refine PW.q2 (x := .tmp 47) (y := .const (.int .i64 65536)) (.int .i64 (((cc)) % 65536)) rfl rfl rfl rfl rfl (fun ρ W h1 h2 => by exact r_rem h1 h2 rfl (by omega) (by decide)) ?_
    refine PW.app (K := 54) (f := .int .i64) [(((cc)) % 65536)] rfl rfl rfl (fun a W hf => r_b1I (hf.vl (s := 48) rfl)) rfl rfl rfl rfl rfl rfl rfl rfl Tryz.underlying32 info_i64 rfl (fun _ => rfl) (by have l1 := hP.len; have l2 := hP.le; unfold maxLen; show _ + 1 ≤ _; omega) (by have l1 := hP.len; have l2 := hP.le; show (_ + 1) * 8 ≤ _; omega) rfl fun vq4 uq4 => ?_
    refine PW.assign rfl rfl rfl rfl rfl (PW.nil (SX.then (SC.region (PW.move rfl rfl rfl rfl rfl ?_))))
    refine PW.q2 (x := .tmp 51) (y := .const (.int .i64 65536)) (.int .i64 (((cc)) / 65536)) rfl rfl rfl rfl rfl (fun ρ W h1 h2 => by exact r_quo h1 h2 rfl (by omega) (by decide)) ?_
    refine PW.assign rfl rfl rfl rfl rfl (PW.nil ?_)
    refine SX.blockN ?_
    refine SX.then (SC.region (PW.move rfl rfl rfl rfl rfl ?_))
    refine PW.q2 (x := .tmp 23) (y := .const (.int .i64 1)) (.int .i64 (((i + 1 : Nat) : Int))) rfl rfl rfl rfl rfl (fun ρ W h1 h2 => by exact r_add h1 h2 (by omega) (by have := hP.le; omega)) ?_
    refine PW.assign rfl rfl rfl rfl rfl (PW.nil ?_)
    refine SX.back (i + 1, vq4, zs ++ [(((cc)) % 65536)], (((cc)) / 65536)) ?_ ?_ ?_
    ·exact hp
    ·exact hmu
    ·exact ⟨rfl, rfl, rfl, rfl, rfl, rfl, trivial⟩
   ·refine SC.region ?_
    refine PW.move rfl rfl rfl rfl rfl (PW.move rfl rfl rfl rfl rfl ?_)
    refine PW.qn [(.tmp 10, .slice A xs.length c)] (.int .i64 (xs.length : Int)) rfl rfl rfl ⟨rfl, trivial⟩ (fun ρ W h => by obtain ⟨h1, _⟩ := h; exact r_lenI h1) ?_
    refine PW.q2 (x := .tmp 9) (y := .tmp 11) (.bool false) rfl rfl rfl rfl rfl (fun ρ W h1 h2 => by exact r_lt h1 h2 (decide_eq_false ha)) ?_
    refine PW.move rfl rfl rfl rfl rfl (PW.move rfl rfl rfl rfl rfl (PW.move rfl rfl rfl rfl rfl ?_))
    refine PW.qn [(.tmp 15, .slice A2 ys.length d)] (.int .i64 (ys.length : Int)) rfl rfl rfl ⟨rfl, trivial⟩ (fun ρ W h => by obtain ⟨h1, _⟩ := h; exact r_lenI h1) ?_
    refine PW.q2 (x := .tmp 14) (y := .tmp 16) (.bool false) rfl rfl rfl rfl rfl (fun ρ W h1 h2 => by exact r_lt h1 h2 (decide_eq_false hb)) ?_
    refine PW.pick (t := false) rfl rfl rfl rfl rfl rfl ?_
    refine PW.move rfl rfl rfl rfl rfl (PW.move rfl rfl rfl rfl rfl ?_)
    refine PW.q2 (x := .tmp 20) (y := .const (.int .i64 0)) (.bool false) rfl rfl rfl rfl rfl (fun ρ W h1 h2 => by exact r_gt h1 h2 (decide_eq_false hc)) ?_
    refine PW.pick (t := false) rfl rfl rfl rfl rfl rfl ?_
    refine PW.nil (SX.then (SC.cond (t := false) rfl (SC.exit (SX.thenE (SX.thenE (SX.blockE (SX.then (SC.seq (SC.region (PW.move rfl rfl rfl rfl rfl (PW.assign rfl rfl rfl rfl rfl (PW.nil ?_))))))))))))
    refine SX.then (SC.ret ?_)
    exact SX.doneL (s := 4) (K1 := 54) (.inl rfl) rfl rfl rfl (hP.fin (by omega) (by omega) hc) rfl
set_option maxHeartbeats 3200000 in
set_option maxRecDepth 100000 in
theorem rminus_o {A A2 : Option Addr} {c d : Nat} {xs ys : List Int} {w : World} (rA : Rd w .i64 A xs) (rB : Rd w .i64 A2 ys) (dx : dg 65536 xs) (dy : dg 65536 ys) (hx : xs.length ≤ 2000000) (hy : ys.length ≤ 2000000) (ty : top ys) (hle : lv 65536 ys ≤ lv 65536 xs) :
  Calls Tryz.prog 146 #[.slice A xs.length c, .slice A2 ys.length d] w (Ret w (KR w.heap.size 3 .i64 fun zs => dg 65536 zs ∧ lv 65536 zs = lv 65536 xs - lv 65536 ys ∧ top zs)) := by
 refine calls_sc (l := [.vl (.slice A xs.length c), .vl (.slice A2 ys.length d)]) (us := [.slice A xs.length c, .slice A2 ys.length d]) 41 Tryz.func146 rfl Tryz.ntmps146 (by simp) ⟨rfl, rfl, rfl, rfl, trivial⟩ ?_
 refine SC.seq (SC.region (PW.assign rfl rfl rfl rfl rfl (PW.nil (SX.then (SC.seq (SC.region (PW.assign rfl rfl rfl rfl rfl (PW.nil (SX.then (SC.seq (SC.region (PW.assign rfl rfl rfl rfl rfl ?_))))))))))))
 refine PW.nil (SX.then (SC.seq (SC.seq (SC.region (PW.assign rfl rfl rfl rfl rfl (PW.nil (SX.then (SC.block ?_))))))))
 refine SC.weak (fun a W hf => Fr.nilrow 41 3 (.int .i64) hf) ?_
 refine SC.loop (S := Nat × Value × List Int × Int) (fun ⟨i, v, zs, bb⟩ => [(0, .vl (.slice A xs.length c)), (1, .vl (.slice A2 ys.length d)), (5, .vl (v)), (6, .vl (.int .i64 (bb))), (7, .vl (.int .i64 (i : Int))), (41, .ro (v) 3 (.int .i64) (zs))]) (fun ⟨i, v, zs, bb⟩ => Mn xs ys i zs bb) (fun ⟨i, v, zs, bb⟩ => xs.length - i) (0, .slice none 0 0, [], 0) (Mn.start xs ys) ⟨rfl, rfl, rfl, rfl, rfl, rfl, trivial⟩ ?_
 rintro ⟨i, v, zs, bb⟩ hP
 show SC _ _ _ _ [(0, .vl (.slice A xs.length c)), (1, .vl (.slice A2 ys.length d)), (5, .vl (v)), (6, .vl (.int .i64 (bb))), (7, .vl (.int .i64 (i : Int))), (41, .ro (v) 3 (.int .i64) (zs))] _
 refine SC.seq (SC.seq ?_)
 by_cases ha : (i : Int) < (xs.length : Int)
 ·refine SC.region ?_
  refine PW.move rfl rfl rfl rfl rfl (PW.move rfl rfl rfl rfl rfl ?_)
  refine PW.qn [(.tmp 10, .slice A xs.length c)] (.int .i64 (xs.length : Int)) rfl rfl rfl ⟨rfl, trivial⟩ (fun ρ W h => by obtain ⟨h1, _⟩ := h; exact r_lenI h1) ?_
  refine PW.q2 (x := .tmp 9) (y := .tmp 11) (.bool true) rfl rfl rfl rfl rfl (fun ρ W h1 h2 => by exact r_lt h1 h2 (decide_eq_true ha)) ?_
  refine PW.nil (SX.then (SC.cond (t := true) rfl (SC.skip (SX.then (SC.seq (SC.block (SC.seq (SC.region (PW.move rfl rfl rfl rfl rfl (PW.move rfl rfl rfl rfl rfl ?_))))))))))
  refine PW.q2 (x := .tmp 15) (y := .tmp 16) (.pointer (padd A i)) rfl rfl rfl rfl rfl (fun ρ W h1 h2 => r_idxRI rA h1 h2 (by omega)) ?_
  refine PW.iget (i := i) rfl rfl rfl rfl rfl rfl rA (by omega) r_l64 ?_
  refine PW.move rfl rfl rfl rfl rfl ?_
  refine PW.q2 (x := .tmp 18) (y := .tmp 19) (.int .i64 (at0 xs i - bb)) rfl rfl rfl rfl rfl (fun ρ W h1 h2 => by exact r_sub h1 h2 rfl (by have := dg_at dx BJ_pos i; have := dg_at dy BJ_pos i; have := hP.c0; have := hP.c1; omega)) ?_
  refine PW.assign rfl rfl rfl rfl rfl (PW.nil (SX.then (SC.seq (SC.seq ?_))))
  by_cases hb : (i : Int) < (ys.length : Int)
  ·refine SC.region ?_
   refine PW.move rfl rfl rfl rfl rfl (PW.move rfl rfl rfl rfl rfl ?_)
   refine PW.qn [(.tmp 22, .slice A2 ys.length d)] (.int .i64 (ys.length : Int)) rfl rfl rfl ⟨rfl, trivial⟩ (fun ρ W h => by obtain ⟨h1, _⟩ := h; exact r_lenI h1) ?_
   refine PW.q2 (x := .tmp 21) (y := .tmp 23) (.bool true) rfl rfl rfl rfl rfl (fun ρ W h1 h2 => by exact r_lt h1 h2 (decide_eq_true hb)) ?_
   refine PW.nil (SX.then (SC.cond (t := true) rfl (SC.region (PW.move rfl rfl rfl rfl rfl (PW.move rfl rfl rfl rfl rfl (PW.move rfl rfl rfl rfl rfl ?_))))))
   refine PW.q2 (x := .tmp 26) (y := .tmp 27) (.pointer (padd A2 i)) rfl rfl rfl rfl rfl (fun ρ W h1 h2 => r_idxRI rB h1 h2 (by omega)) ?_
   refine PW.iget (i := i) rfl rfl rfl rfl rfl rfl rB (by omega) r_l64 ?_
   refine PW.q2 (x := .tmp 25) (y := .tmp 29) (.int .i64 (at0 xs i - bb - at0 ys i)) rfl rfl rfl rfl rfl (fun ρ W h1 h2 => by exact r_sub h1 h2 rfl (by have := dg_at dx BJ_pos i; have := dg_at dy BJ_pos i; have := hP.c0; have := hP.c1; omega)) ?_
   refine PW.assign rfl rfl rfl rfl rfl (PW.nil (SX.then (SC.seq (SC.region (PW.assign rfl rfl rfl rfl rfl (PW.nil (SX.then (SC.seq (SC.seq ?_)))))))))
   by_cases hn : (at0 xs i - bb - at0 ys i) < 0
   ·refine SC.region ?_
    refine PW.move rfl rfl rfl rfl rfl ?_
    refine PW.q2 (x := .tmp 31) (y := .const (.int .i64 0)) (.bool true) rfl rfl rfl rfl rfl (fun ρ W h1 h2 => by exact r_lt h1 h2 (decide_eq_true hn)) ?_
    refine PW.nil (SX.then (SC.cond (t := true) rfl (SC.seq (SC.region (PW.move rfl rfl rfl rfl rfl ?_)))))
    refine PW.q2 (x := .tmp 33) (y := .const (.int .i64 65536)) (.int .i64 ((at0 xs i - bb - at0 ys i) + 65536)) rfl rfl rfl rfl rfl (fun ρ W h1 h2 => by exact r_add h1 h2 rfl (by have := dg_at dx BJ_pos i; have := dg_at dy BJ_pos i; have := hP.c0; have := hP.c1; omega)) ?_
    refine PW.assign rfl rfl rfl rfl rfl (PW.nil (SX.then (SC.region (PW.assign rfl rfl rfl rfl rfl (PW.nil (SX.then (SC.region (PW.move rfl rfl rfl rfl rfl (PW.move rfl rfl rfl rfl rfl ?_)))))))))
    refine PW.app (K := 41) (f := .int .i64) [((at0 xs i - bb - at0 ys i) + 65536)] rfl rfl rfl (fun a W hf => r_b1I (hf.vl (s := 36) rfl)) rfl rfl rfl rfl rfl rfl rfl rfl Tryz.underlying32 info_i64 rfl (fun _ => rfl) (by have l1 := hP.len; unfold maxLen; show _ + 1 ≤ _; omega) (by have l1 := hP.len; show (_ + 1) * 8 ≤ _; omega) rfl fun vq1 uq1 => ?_
    refine PW.assign rfl rfl rfl rfl rfl (PW.nil ?_)
    refine SX.blockN ?_
    refine SX.then (SC.region (PW.move rfl rfl rfl rfl rfl ?_))
    refine PW.q2 (x := .tmp 13) (y := .const (.int .i64 1)) (.int .i64 (((i + 1 : Nat) : Int))) rfl rfl rfl rfl rfl (fun ρ W h1 h2 => by exact r_add h1 h2 (by omega) (by omega)) ?_
    refine PW.assign rfl rfl rfl rfl rfl (PW.nil ?_)
    refine SX.back (i + 1, vq1, zs ++ [((at0 xs i - bb - at0 ys i) + 65536)], 1) ?_ ?_ ?_
    ·exact (hP.step dx dy (by omega) (n := (at0 xs i - bb - at0 ys i)) (by omega) (.inl ⟨hn, rfl, rfl⟩))
    ·exact (show xs.length - (i + 1) < xs.length - i by omega)
    ·exact ⟨rfl, rfl, rfl, rfl, rfl, rfl, trivial⟩
   ·refine SC.region ?_
    refine PW.move rfl rfl rfl rfl rfl ?_
    refine PW.q2 (x := .tmp 31) (y := .const (.int .i64 0)) (.bool false) rfl rfl rfl rfl rfl (fun ρ W h1 h2 => by exact r_lt h1 h2 (decide_eq_false hn)) ?_
    refine PW.nil (SX.then (SC.cond (t := false) rfl (SC.skip (SX.then (SC.region (PW.move rfl rfl rfl rfl rfl (PW.move rfl rfl rfl rfl rfl ?_)))))))
    refine PW.app (K := 41) (f := .int .i64) [(at0 xs i - bb - at0 ys i)] rfl rfl rfl (fun a W hf => r_b1I (hf.vl (s := 36) rfl)) rfl rfl rfl rfl rfl rfl rfl rfl Tryz.underlying32 info_i64 rfl (fun _ => rfl) (by have l1 := hP.len; unfold maxLen; show _ + 1 ≤ _; omega) (by have l1 := hP.len; show (_ + 1) * 8 ≤ _; omega) rfl fun vq2 uq2 => ?_
    refine PW.assign rfl rfl rfl rfl rfl (PW.nil ?_)
    refine SX.blockN ?_
    refine SX.then (SC.region (PW.move rfl rfl rfl rfl rfl ?_))
    refine PW.q2 (x := .tmp 13) (y := .const (.int .i64 1)) (.int .i64 (((i + 1 : Nat) : Int))) rfl rfl rfl rfl rfl (fun ρ W h1 h2 => by exact r_add h1 h2 (by omega) (by omega)) ?_
    refine PW.assign rfl rfl rfl rfl rfl (PW.nil ?_)
    refine SX.back (i + 1, vq2, zs ++ [(at0 xs i - bb - at0 ys i)], 0) ?_ ?_ ?_
    ·exact (hP.step dx dy (by omega) (n := (at0 xs i - bb - at0 ys i)) (by omega) (.inr ⟨hn, rfl, rfl⟩))
    ·exact (show xs.length - (i + 1) < xs.length - i by omega)
    ·exact ⟨rfl, rfl, rfl, rfl, rfl, rfl, trivial⟩
  ·have ay : at0 ys i = 0 := at0_ge (by omega)
   refine SC.region (PW.move rfl rfl rfl rfl rfl (PW.move rfl rfl rfl rfl rfl ?_))
   refine PW.qn [(.tmp 22, .slice A2 ys.length d)] (.int .i64 (ys.length : Int)) rfl rfl rfl ⟨rfl, trivial⟩ (fun ρ W h => by obtain ⟨h1, _⟩ := h; exact r_lenI h1) ?_
   refine PW.q2 (x := .tmp 21) (y := .tmp 23) (.bool false) rfl rfl rfl rfl rfl (fun ρ W h1 h2 => by exact r_lt h1 h2 (decide_eq_false hb)) ?_
   refine PW.nil (SX.then (SC.cond (t := false) rfl (SC.skip (SX.then (SC.seq (SC.region (PW.assign rfl rfl rfl rfl rfl (PW.nil (SX.then (SC.seq (SC.seq ?_)))))))))))
   by_cases hn : (at0 xs i - bb) < 0
   ·refine SC.region ?_
    refine PW.move rfl rfl rfl rfl rfl ?_
    refine PW.q2 (x := .tmp 31) (y := .const (.int .i64 0)) (.bool true) rfl rfl rfl rfl rfl (fun ρ W h1 h2 => by exact r_lt h1 h2 (decide_eq_true hn)) ?_
    refine PW.nil (SX.then (SC.cond (t := true) rfl (SC.seq (SC.region (PW.move rfl rfl rfl rfl rfl ?_)))))
    refine PW.q2 (x := .tmp 33) (y := .const (.int .i64 65536)) (.int .i64 ((at0 xs i - bb) + 65536)) rfl rfl rfl rfl rfl (fun ρ W h1 h2 => by exact r_add h1 h2 rfl (by have := dg_at dx BJ_pos i; have := dg_at dy BJ_pos i; have := hP.c0; have := hP.c1; omega)) ?_
    refine PW.assign rfl rfl rfl rfl rfl (PW.nil (SX.then (SC.region (PW.assign rfl rfl rfl rfl rfl (PW.nil (SX.then (SC.region (PW.move rfl rfl rfl rfl rfl (PW.move rfl rfl rfl rfl rfl ?_)))))))))
    refine PW.app (K := 41) (f := .int .i64) [((at0 xs i - bb) + 65536)] rfl rfl rfl (fun a W hf => r_b1I (hf.vl (s := 36) rfl)) rfl rfl rfl rfl rfl rfl rfl rfl Tryz.underlying32 info_i64 rfl (fun _ => rfl) (by have l1 := hP.len; unfold maxLen; show _ + 1 ≤ _; omega) (by have l1 := hP.len; show (_ + 1) * 8 ≤ _; omega) rfl fun vq3 uq3 => ?_
    refine PW.assign rfl rfl rfl rfl rfl (PW.nil ?_)
    refine SX.blockN ?_
    refine SX.then (SC.region (PW.move rfl rfl rfl rfl rfl ?_))
    refine PW.q2 (x := .tmp 13) (y := .const (.int .i64 1)) (.int .i64 (((i + 1 : Nat) : Int))) rfl rfl rfl rfl rfl (fun ρ W h1 h2 => by exact r_add h1 h2 (by omega) (by omega)) ?_
    refine PW.assign rfl rfl rfl rfl rfl (PW.nil ?_)
    refine SX.back (i + 1, vq3, zs ++ [((at0 xs i - bb) + 65536)], 1) ?_ ?_ ?_
    ·exact (hP.step dx dy (by omega) (n := (at0 xs i - bb)) (by omega) (.inl ⟨hn, rfl, rfl⟩))
    ·exact (show xs.length - (i + 1) < xs.length - i by omega)
    ·exact ⟨rfl, rfl, rfl, rfl, rfl, rfl, trivial⟩
   ·refine SC.region ?_
    refine PW.move rfl rfl rfl rfl rfl ?_
    refine PW.q2 (x := .tmp 31) (y := .const (.int .i64 0)) (.bool false) rfl rfl rfl rfl rfl (fun ρ W h1 h2 => by exact r_lt h1 h2 (decide_eq_false hn)) ?_
    refine PW.nil (SX.then (SC.cond (t := false) rfl (SC.skip (SX.then (SC.region (PW.move rfl rfl rfl rfl rfl (PW.move rfl rfl rfl rfl rfl ?_)))))))
    refine PW.app (K := 41) (f := .int .i64) [(at0 xs i - bb)] rfl rfl rfl (fun a W hf => r_b1I (hf.vl (s := 36) rfl)) rfl rfl rfl rfl rfl rfl rfl rfl Tryz.underlying32 info_i64 rfl (fun _ => rfl) (by have l1 := hP.len; unfold maxLen; show _ + 1 ≤ _; omega) (by have l1 := hP.len; show (_ + 1) * 8 ≤ _; omega) rfl fun vq4 uq4 => ?_
    refine PW.assign rfl rfl rfl rfl rfl (PW.nil ?_)
    refine SX.blockN ?_
    refine SX.then (SC.region (PW.move rfl rfl rfl rfl rfl ?_))
    refine PW.q2 (x := .tmp 13) (y := .const (.int .i64 1)) (.int .i64 (((i + 1 : Nat) : Int))) rfl rfl rfl rfl rfl (fun ρ W h1 h2 => by exact r_add h1 h2 (by omega) (by omega)) ?_
    refine PW.assign rfl rfl rfl rfl rfl (PW.nil ?_)
    refine SX.back (i + 1, vq4, zs ++ [(at0 xs i - bb)], 0) ?_ ?_ ?_
    ·exact (hP.step dx dy (by omega) (n := (at0 xs i - bb)) (by omega) (.inr ⟨hn, rfl, rfl⟩))
    ·exact (show xs.length - (i + 1) < xs.length - i by omega)
    ·exact ⟨rfl, rfl, rfl, rfl, rfl, rfl, trivial⟩
 ·obtain rfl : i = xs.length := by have := hP.le; omega
  refine SC.region (PW.move rfl rfl rfl rfl rfl (PW.move rfl rfl rfl rfl rfl ?_))
  refine PW.qn [(.tmp 10, .slice A xs.length c)] (.int .i64 (xs.length : Int)) rfl rfl rfl ⟨rfl, trivial⟩ (fun ρ W h => by obtain ⟨h1, _⟩ := h; exact r_lenI h1) ?_
  refine PW.q2 (x := .tmp 9) (y := .tmp 11) (.bool false) rfl rfl rfl rfl rfl (fun ρ W h1 h2 => by exact r_lt h1 h2 (decide_eq_false ha)) ?_
  refine PW.nil (SX.then (SC.cond (t := false) rfl (SC.exit (SX.thenE (SX.thenE (SX.blockE (SX.then (SC.seq (SC.region (PW.move rfl rfl rfl rfl rfl ?_))))))))))
  refine PW.callG (r := .vl (tv (v) (trim zs).length)) ce_rtrimmed rfl rfl rfl rfl rfl (KV.st _) rfl (fun a W hf => by have h1 := hf.vl (s := 39) rfl; have h2 : OwF W _ _ (.int .i64) (v) (zs) := hf.ho 41 _ rfl; show Calls Tryz.prog _ #[a.tmps.getD 39 undef] W _; rw [h1]; exact tv_calls h2) ?_
  refine PW.more _ (fun a W hf => Fr.trimv (K := 41) hf rfl) ?_
  refine PW.assign rfl rfl rfl rfl rfl (PW.nil (SX.then (SC.ret ?_)))
  obtain ⟨f1, f2⟩ := hP.fin (len_le_of dy dx ty hle) hle
  exact SX.doneO (s := 4) (K1 := 41) (.inl rfl) rfl rfl rfl ⟨trim_dg f1, (trim_lv _ _).trans f2, trim_top _⟩ rfl
theorem rminus_c {A A2 : Option Addr} {c d : Nat} {xs ys : List Int} {w : World} (rA : Rd w .i64 A xs) (rB : Rd w .i64 A2 ys) (dx : dg 65536 xs) (dy : dg 65536 ys) (hx : xs.length ≤ 2000000) (hy : ys.length ≤ 2000000) (ty : top ys) (hle : lv 65536 ys ≤ lv 65536 xs) : Calls Tryz.prog 146 #[.slice A xs.length c, .slice A2 ys.length d] w (Ret w (KL .i64 fun zs => dg 65536 zs ∧ lv 65536 zs = lv 65536 xs - lv 65536 ys ∧ top zs)) :=
 (rminus_o rA rB dx dy hx hy ty hle).mono fun e W' ⟨v, e1, h, hn⟩ => ⟨v, e1, h.l, hn⟩
set_option maxHeartbeats 3200000 in
set_option maxRecDepth 100000 in
theorem rtimes_c {A A2 : Option Addr} {c d : Nat} {xs ys : List Int} {w : World} (rA : Rd w .i64 A xs) (rB : Rd w .i64 A2 ys) (dx : dg 65536 xs) (dy : dg 65536 ys) (hx : xs.length ≤ 2000000) (hy : ys.length ≤ 2000000) :
  Calls Tryz.prog 147 #[.slice A xs.length c, .slice A2 ys.length d] w (Ret w (KL .i64 fun zs => dg 65536 zs ∧ lv 65536 zs = lv 65536 xs * lv 65536 ys ∧ top zs)) := by
 refine calls_sc (l := [.vl (.slice A xs.length c), .vl (.slice A2 ys.length d)]) (us := [.slice A xs.length c, .slice A2 ys.length d]) 68 Tryz.func147 rfl Tryz.ntmps147 (by simp) ⟨rfl, rfl, rfl, rfl, trivial⟩ ?_
 refine SC.seq (SC.region (PW.assign rfl rfl rfl rfl rfl (PW.nil (SX.then (SC.seq (SC.region (PW.move rfl rfl rfl rfl rfl ?_)))))))
 refine PW.qn [(.tmp 10, .slice A xs.length c)] (.int .i64 (xs.length : Int)) rfl rfl rfl ⟨rfl, trivial⟩ (fun ρ W h => by obtain ⟨h1, _⟩ := h; exact r_lenI h1) ?_
 refine PW.move rfl rfl rfl rfl rfl ?_
 refine PW.qn [(.tmp 12, .slice A2 ys.length d)] (.int .i64 (ys.length : Int)) rfl rfl rfl ⟨rfl, trivial⟩ (fun ρ W h => by obtain ⟨h1, _⟩ := h; exact r_lenI h1) ?_
 refine PW.q2 (x := .tmp 11) (y := .tmp 13) (.int .i64 (((xs.length + ys.length : Nat) : Int))) rfl rfl rfl rfl rfl (fun ρ W h1 h2 => by exact r_add h1 h2 (by omega) (by omega)) ?_
 refine PW.q2 (x := .tmp 14) (y := .const (.int .i64 1)) (.int .i64 (((xs.length + ys.length + 1 : Nat) : Int))) rfl rfl rfl rfl rfl (fun ρ W h1 h2 => by exact r_add h1 h2 (by omega) (by omega)) ?_
 refine PW.make (n := (xs.length + ys.length + 1)) 68 rfl rfl rfl rfl rfl Tryz.underlying32 info_i64 (by omega) (by unfold maxLen; omega) fun g1 => ?_
 refine PW.assign rfl rfl rfl rfl rfl (PW.nil (SX.then (SC.seq (SC.seq (SC.region (PW.assign rfl rfl rfl rfl rfl (PW.nil (SX.then (SC.block ?_)))))))))
 refine SC.loop (S := Nat × List Int) (fun ⟨k, zs⟩ => [(0, .vl (.slice A xs.length c)), (1, .vl (.slice A2 ys.length d)), (5, .vl (.slice (some ⟨g1, 0, none⟩) (xs.length + ys.length + 1) (xs.length + ys.length + 1))), (6, .vl (.int .i64 (k : Int))), (68, .ro (.slice (some ⟨g1, 0, none⟩) (xs.length + ys.length + 1) (xs.length + ys.length + 1)) 3 (.int .i64) (zs))]) (fun ⟨k, zs⟩ => Tm xs ys k zs) (fun ⟨k, zs⟩ => xs.length - k) (0, List.replicate (xs.length + ys.length + 1) 0) (Tm.start xs ys) ⟨rfl, rfl, rfl, rfl, rfl, trivial⟩ ?_
 rintro ⟨k, zs⟩ hT0
 show SC _ _ _ _ [(0, .vl (.slice A xs.length c)), (1, .vl (.slice A2 ys.length d)), (5, .vl (.slice (some ⟨g1, 0, none⟩) (xs.length + ys.length + 1) (xs.length + ys.length + 1))), (6, .vl (.int .i64 (k : Int))), (68, .ro (.slice (some ⟨g1, 0, none⟩) (xs.length + ys.length + 1) (xs.length + ys.length + 1)) 3 (.int .i64) (zs))] _
 have hlen := hT0.len
 refine SC.seq (SC.seq ?_)
 by_cases ha : (k : Int) < (xs.length : Int)
 ·refine SC.region ?_
  refine PW.move rfl rfl rfl rfl rfl (PW.move rfl rfl rfl rfl rfl ?_)
  refine PW.qn [(.tmp 18, .slice A xs.length c)] (.int .i64 (xs.length : Int)) rfl rfl rfl ⟨rfl, trivial⟩ (fun ρ W h => by obtain ⟨h1, _⟩ := h; exact r_lenI h1) ?_
  refine PW.q2 (x := .tmp 17) (y := .tmp 19) (.bool true) rfl rfl rfl rfl rfl (fun ρ W h1 h2 => by exact r_lt h1 h2 (decide_eq_true ha)) ?_
  refine PW.nil (SX.then (SC.cond (t := true) rfl (SC.skip (SX.then (SC.seq (SC.block (SC.seq (SC.region (PW.assign rfl rfl rfl rfl rfl (PW.nil (SX.then (SC.seq (SC.seq (SC.region (PW.assign rfl rfl rfl rfl rfl ?_)))))))))))))))
  refine PW.nil (SX.then (SC.block ?_))
  refine SC.loop (S := Nat × List Int × Int) (fun ⟨j, zs, cc⟩ => [(0, .vl (.slice A xs.length c)), (1, .vl (.slice A2 ys.length d)), (5, .vl (.slice (some ⟨g1, 0, none⟩) (xs.length + ys.length + 1) (xs.length + ys.length + 1))), (6, .vl (.int .i64 (k : Int))), (7, .vl (.int .i64 (cc))), (8, .vl (.int .i64 (j : Int))), (68, .ro (.slice (some ⟨g1, 0, none⟩) (xs.length + ys.length + 1) (xs.length + ys.length + 1)) 3 (.int .i64) (zs))]) (fun ⟨j, zs, cc⟩ => Ti xs ys k j zs cc) (fun ⟨j, zs, cc⟩ => ys.length - j) (0, zs, 0) hT0.inner ⟨rfl, rfl, rfl, rfl, rfl, rfl, rfl, trivial⟩ ?_
  rintro ⟨j, zs, cc⟩ hT
  show SC _ _ _ _ [(0, .vl (.slice A xs.length c)), (1, .vl (.slice A2 ys.length d)), (5, .vl (.slice (some ⟨g1, 0, none⟩) (xs.length + ys.length + 1) (xs.length + ys.length + 1))), (6, .vl (.int .i64 (k : Int))), (7, .vl (.int .i64 (cc))), (8, .vl (.int .i64 (j : Int))), (68, .ro (.slice (some ⟨g1, 0, none⟩) (xs.length + ys.length + 1) (xs.length + ys.length + 1)) 3 (.int .i64) (zs))] _
  have hlen := hT.len
  refine SC.seq (SC.seq ?_)
  by_cases hb : (j : Int) < (ys.length : Int)
  ·refine SC.region ?_
   refine PW.move rfl rfl rfl rfl rfl (PW.move rfl rfl rfl rfl rfl ?_)
   refine PW.qn [(.tmp 24, .slice A2 ys.length d)] (.int .i64 (ys.length : Int)) rfl rfl rfl ⟨rfl, trivial⟩ (fun ρ W h => by obtain ⟨h1, _⟩ := h; exact r_lenI h1) ?_
   refine PW.q2 (x := .tmp 23) (y := .tmp 25) (.bool true) rfl rfl rfl rfl rfl (fun ρ W h1 h2 => by exact r_lt h1 h2 (decide_eq_true hb)) ?_
   refine PW.nil (SX.then (SC.cond (t := true) rfl (SC.skip (SX.then (SC.seq (SC.block (SC.seq ?_)))))))
   refine SC.dx [.val 29 (.vl (.slice (some ⟨g1, 0, none⟩) (xs.length + ys.length + 1) (xs.length + ys.length + 1))), .val 30 (.vl (.int .i64 (k : Int))), .val 31 (.vl (.int .i64 (j : Int))), .val 32 (.vl (.int .i64 (((k + j : Nat) : Int)))), .val 33 (.vl (.pointer (some ⟨g1, k + j, none⟩))), .val 34 (.vl (.int .i64 (at0 zs (k + j)))), .val 35 (.vl (.slice A xs.length c)), .val 36 (.vl (.int .i64 (k : Int))), .val 37 (.vl (.pointer (padd A k))), .val 38 (.vl (.int .i64 (at0 xs k))), .val 39 (.vl (.slice A2 ys.length d)), .val 40 (.vl (.int .i64 (j : Int))), .val 41 (.vl (.pointer (padd A2 j))), .val 42 (.vl (.int .i64 (at0 ys j))), .val 43 (.vl (.int .i64 (at0 xs k * at0 ys j))), .val 44 (.vl (.int .i64 (at0 zs (k + j) + at0 xs k * at0 ys j))), .val 45 (.vl (.int .i64 (cc))), .val 46 (.vl (.int .i64 (at0 zs (k + j) + at0 xs k * at0 ys j + cc))), .val 9 (.vl (.int .i64 (at0 zs (k + j) + at0 xs k * at0 ys j + cc)))] [([], [5]), ([], [6]), ([], [8]), ([1, 2], []), ([0, 3], []), ([4], [68]), ([], [0]), ([], [6]), ([6, 7], []), ([8], []), ([], [1]), ([], [8]), ([10, 11], []), ([12], []), ([9, 13], []), ([5, 14], []), ([], [7]), ([15, 16], []), ([17], [])] rfl (by kernel_rfl) (by kernel_rfl) (by kernel_rfl) rfl ⟨?_, ?_, ?_, ?_, ?_, ?_, ?_, ?_, ?_, ?_, ?_, ?_, ?_, ?_, ?_, ?_, ?_, ?_, ?_, trivial⟩ ?_
   ·exact DX.move rfl rfl rfl rfl rfl rfl
   ·exact DX.move rfl rfl rfl rfl rfl rfl
   ·exact DX.move rfl rfl rfl rfl rfl rfl
   ·exact DX.q2 (x := .tmp 30) (y := .tmp 31) (.int .i64 (((k + j : Nat) : Int))) rfl rfl rfl rfl rfl (fun ρ W h1 h2 => by exact r_add h1 h2 (by omega) (by omega))
   ·exact DX.q2 (x := .tmp 29) (y := .tmp 32) (.pointer (some ⟨g1, k + j, none⟩)) rfl rfl rfl rfl rfl (fun ρ W h1 h2 => r_idxI h1 h2 (by omega))
   ·exact DX.rload (K := 68) (i := k + j) rfl rfl rfl rfl rfl rfl (by omega) r_l64
   ·exact DX.move rfl rfl rfl rfl rfl rfl
   ·exact DX.move rfl rfl rfl rfl rfl rfl
   ·exact DX.q2 (x := .tmp 35) (y := .tmp 36) (.pointer (padd A k)) rfl rfl rfl rfl rfl (fun ρ W h1 h2 => r_idxRI rA h1 h2 (by omega))
   ·exact DX.iget (i := k) rfl rfl rfl rfl rfl rfl rA (by omega) r_l64
   ·exact DX.move rfl rfl rfl rfl rfl rfl
   ·exact DX.move rfl rfl rfl rfl rfl rfl
   ·exact DX.q2 (x := .tmp 39) (y := .tmp 40) (.pointer (padd A2 j)) rfl rfl rfl rfl rfl (fun ρ W h1 h2 => r_idxRI rB h1 h2 (by omega))
   ·exact DX.iget (i := j) rfl rfl rfl rfl rfl rfl rB (by omega) r_l64
   ·exact DX.q2 (x := .tmp 38) (y := .tmp 42) (.int .i64 (at0 xs k * at0 ys j)) rfl rfl rfl rfl rfl (fun ρ W h1 h2 => by exact r_mul h1 h2 rfl (by have := hT.bound dx dy; omega))
   ·exact DX.q2 (x := .tmp 34) (y := .tmp 43) (.int .i64 (at0 zs (k + j) + at0 xs k * at0 ys j)) rfl rfl rfl rfl rfl (fun ρ W h1 h2 => by exact r_add h1 h2 rfl (by have := hT.bound dx dy; omega))
   ·exact DX.move rfl rfl rfl rfl rfl rfl
   ·exact DX.q2 (x := .tmp 44) (y := .tmp 45) (.int .i64 (at0 zs (k + j) + at0 xs k * at0 ys j + cc)) rfl rfl rfl rfl rfl (fun ρ W h1 h2 => by exact r_add h1 h2 rfl (by have := hT.bound dx dy; have := hT.c0; have := hT.c1; omega))
   ·exact DX.assign rfl rfl rfl rfl rfl rfl
   refine SX.then (SC.seq (SC.region (PW.move rfl rfl rfl rfl rfl (PW.move rfl rfl rfl rfl rfl (PW.move rfl rfl rfl rfl rfl ?_)))))
   refine PW.q2 (x := .tmp 48) (y := .tmp 49) (.int .i64 (((k + j : Nat) : Int))) rfl rfl rfl rfl rfl (fun ρ W h1 h2 => by exact r_add h1 h2 (by omega) (by omega)) ?_
   refine PW.move rfl rfl rfl rfl rfl ?_
   refine PW.q2 (x := .tmp 51) (y := .const (.int .i64 65536)) (.int .i64 ((at0 zs (k + j) + at0 xs k * at0 ys j + cc) % 65536)) rfl rfl rfl rfl rfl (fun ρ W h1 h2 => by exact r_rem h1 h2 rfl (by have := hT.bound dx dy; have := hT.c0; have := hT.c1; omega) (by decide)) ?_
   refine PW.q2 (x := .tmp 47) (y := .tmp 50) (.pointer (some ⟨g1, k + j, none⟩)) rfl rfl rfl rfl rfl (fun ρ W h1 h2 => r_idxI h1 h2 (by omega)) ?_
   refine PW.rstore (K := 68) (x := .tmp 52) (i := k + j) (y := ((at0 zs (k + j) + at0 xs k * at0 ys j + cc) % 65536)) rfl rfl rfl rfl rfl (by omega) rfl rfl r_s64 ?_
   refine PW.nil (SX.then (SC.region (PW.move rfl rfl rfl rfl rfl ?_)))
   refine PW.q2 (x := .tmp 54) (y := .const (.int .i64 65536)) (.int .i64 ((at0 zs (k + j) + at0 xs k * at0 ys j + cc) / 65536)) rfl rfl rfl rfl rfl (fun ρ W h1 h2 => by exact r_quo h1 h2 rfl (by have := hT.bound dx dy; have := hT.c0; have := hT.c1; omega) (by decide)) ?_
   refine PW.assign rfl rfl rfl rfl rfl (PW.nil ?_)
   refine SX.blockN ?_
   refine SX.then (SC.region (PW.move rfl rfl rfl rfl rfl ?_))
   refine PW.q2 (x := .tmp 27) (y := .const (.int .i64 1)) (.int .i64 (((j + 1 : Nat) : Int))) rfl rfl rfl rfl rfl (fun ρ W h1 h2 => by exact r_add h1 h2 (by omega) (by omega)) ?_
   refine PW.assign rfl rfl rfl rfl rfl (PW.nil ?_)
   refine SX.back (j + 1, zs.set (k + j) ((at0 zs (k + j) + at0 xs k * at0 ys j + cc) % 65536), ((at0 zs (k + j) + at0 xs k * at0 ys j + cc) / 65536)) ?_ ?_ ?_
   ·exact (hT.step dx dy (by omega) (by omega) rfl)
   ·exact (show ys.length - (j + 1) < ys.length - j by omega)
   ·exact ⟨rfl, rfl, rfl, rfl, rfl, rfl, rfl, trivial⟩
  ·obtain rfl : j = ys.length := by have := hT.le; omega
   obtain ⟨o1, o2⟩ := hT.outer (by omega)
   refine SC.region (PW.move rfl rfl rfl rfl rfl (PW.move rfl rfl rfl rfl rfl ?_))
   refine PW.qn [(.tmp 24, .slice A2 ys.length d)] (.int .i64 (ys.length : Int)) rfl rfl rfl ⟨rfl, trivial⟩ (fun ρ W h => by obtain ⟨h1, _⟩ := h; exact r_lenI h1) ?_
   refine PW.q2 (x := .tmp 23) (y := .tmp 25) (.bool false) rfl rfl rfl rfl rfl (fun ρ W h1 h2 => by exact r_lt h1 h2 (decide_eq_false hb)) ?_
   refine PW.nil (SX.then (SC.cond (t := false) rfl (SC.exit (SX.thenE (SX.thenE (SX.blockE (SX.then (SC.region (PW.move rfl rfl rfl rfl rfl (PW.move rfl rfl rfl rfl rfl (PW.move rfl rfl rfl rfl rfl ?_)))))))))))
   refine PW.qn [(.tmp 58, .slice A2 ys.length d)] (.int .i64 (ys.length : Int)) rfl rfl rfl ⟨rfl, trivial⟩ (fun ρ W h => by obtain ⟨h1, _⟩ := h; exact r_lenI h1) ?_
   refine PW.q2 (x := .tmp 57) (y := .tmp 59) (.int .i64 (((k + ys.length : Nat) : Int))) rfl rfl rfl rfl rfl (fun ρ W h1 h2 => by exact r_add h1 h2 (by omega) (by omega)) ?_
   refine PW.q2 (x := .tmp 56) (y := .tmp 60) (.pointer (some ⟨g1, k + ys.length, none⟩)) rfl rfl rfl rfl rfl (fun ρ W h1 h2 => r_idxI h1 h2 (by omega)) ?_
   refine PW.rload (K := 68) (i := k + ys.length) rfl rfl rfl rfl rfl rfl (by omega) r_l64 ?_
   refine PW.move rfl rfl rfl rfl rfl ?_
   refine PW.q2 (x := .tmp 62) (y := .tmp 63) (.int .i64 (at0 zs (k + ys.length) + cc)) rfl rfl rfl rfl rfl (fun ρ W h1 h2 => by exact r_add h1 h2 rfl (by have := hT.c0; have := hT.c1; omega)) ?_
   refine PW.q2 (x := .tmp 56) (y := .tmp 60) (.pointer (some ⟨g1, k + ys.length, none⟩)) rfl rfl rfl rfl rfl (fun ρ W h1 h2 => r_idxI h1 h2 (by omega)) ?_
   refine PW.rstore (K := 68) (x := .tmp 64) (i := k + ys.length) (y := (at0 zs (k + ys.length) + cc)) rfl rfl rfl rfl rfl (by omega) rfl rfl r_s64 ?_
   refine PW.nil ?_
   refine SX.blockN ?_
   refine SX.then (SC.region (PW.move rfl rfl rfl rfl rfl ?_))
   refine PW.q2 (x := .tmp 21) (y := .const (.int .i64 1)) (.int .i64 (((k + 1 : Nat) : Int))) rfl rfl rfl rfl rfl (fun ρ W h1 h2 => by exact r_add h1 h2 (by omega) (by omega)) ?_
   refine PW.assign rfl rfl rfl rfl rfl (PW.nil ?_)
   refine SX.back (k + 1, zs.set (k + ys.length) (at0 zs (k + ys.length) + cc)) ?_ ?_ ?_
   ·exact o1
   ·exact (show xs.length - (k + 1) < xs.length - k by omega)
   ·exact ⟨rfl, rfl, rfl, rfl, rfl, trivial⟩
 ·obtain rfl : k = xs.length := by have := hT0.le; omega
  refine SC.region (PW.move rfl rfl rfl rfl rfl (PW.move rfl rfl rfl rfl rfl ?_))
  refine PW.qn [(.tmp 18, .slice A xs.length c)] (.int .i64 (xs.length : Int)) rfl rfl rfl ⟨rfl, trivial⟩ (fun ρ W h => by obtain ⟨h1, _⟩ := h; exact r_lenI h1) ?_
  refine PW.q2 (x := .tmp 17) (y := .tmp 19) (.bool false) rfl rfl rfl rfl rfl (fun ρ W h1 h2 => by exact r_lt h1 h2 (decide_eq_false ha)) ?_
  refine PW.nil (SX.then (SC.cond (t := false) rfl (SC.exit (SX.thenE (SX.thenE (SX.blockE (SX.then (SC.seq (SC.region (PW.move rfl rfl rfl rfl rfl ?_))))))))))
  refine PW.callG (r := .vl (tv (.slice (some ⟨g1, 0, none⟩) (xs.length + ys.length + 1) (xs.length + ys.length + 1)) (trim zs).length)) ce_rtrimmed rfl rfl rfl rfl rfl (KV.st _) rfl (fun a W hf => by have h1 := hf.vl (s := 66) rfl; have h2 : OwF W _ _ (.int .i64) (.slice (some ⟨g1, 0, none⟩) (xs.length + ys.length + 1) (xs.length + ys.length + 1)) (zs) := hf.ho 68 _ rfl; show Calls Tryz.prog _ #[a.tmps.getD 66 undef] W _; rw [h1]; exact tv_calls h2) ?_
  refine PW.more _ (fun a W hf => Fr.trimv (K := 68) hf rfl) ?_
  refine PW.assign rfl rfl rfl rfl rfl (PW.nil (SX.then (SC.ret ?_)))
  obtain ⟨f1, f2⟩ := hT0.fin
  exact SX.doneL (s := 4) (K1 := 68) (.inl rfl) rfl rfl rfl ⟨trim_dg f1, (trim_lv _ _).trans f2, trim_top _⟩ rfl
end Go.Proofs.YthpjmhhfcechmaaGreat.Sy
/- Powers: what their loop keeps, and how long they are. No program in sight. -/
namespace Go.Proofs.YthpjmhhfcechmaaGreat
open Go Go.RowKit Ma
theorem natAbs_pow' (x : Int) (n : Nat) : (x ^ n).natAbs = x.natAbs ^ n := by
 induction n with
 | zero => simp
 | succ n ih => rw [Int.pow_succ, Int.natAbs_mul, ih, Nat.pow_succ]
theorem pw_bd {o b X : Int} {k m : Nat} (h : o * b ^ k = X) (hX : X ≠ 0) (hk : 1 ≤ k) (hb : bd m X) : bd m o ∧ bd m b := by
 have h1 : o.natAbs * b.natAbs ^ k = X.natAbs := by rw [← h, Int.natAbs_mul, natAbs_pow']
 have h2 : 0 < X.natAbs := by omega
 have h3 : 0 < o.natAbs := by
  rcases Nat.eq_zero_or_pos o.natAbs with e | e
  ·rw [e, Nat.zero_mul] at h1; omega
  ·exact e
 have h4 : 0 < b.natAbs ^ k := by
  rcases Nat.eq_zero_or_pos (b.natAbs ^ k) with e | e
  ·rw [e, Nat.mul_zero] at h1; omega
  ·exact e
 have h5 : o.natAbs ≤ X.natAbs := by rw [← h1]; exact Nat.le_mul_of_pos_right _ h4
 have h6 : b.natAbs ^ k ≤ X.natAbs := by rw [← h1]; exact Nat.le_mul_of_pos_left _ h3
 have h7 : b.natAbs ≤ b.natAbs ^ k := by
  obtain ⟨j, rfl⟩ : ∃ j, k = j + 1 := ⟨k - 1, by omega⟩
  rw [Nat.pow_succ]
  have h8 : 0 < b.natAbs := by
   rcases Nat.eq_zero_or_pos b.natAbs with e | e
   ·rw [e, Nat.pow_succ, Nat.mul_zero] at h4; omega
   ·exact e
  exact Nat.le_mul_of_pos_left _ (Nat.pow_pos h8)
 unfold bd at *
 omega
theorem pw_odd {o b X : Int} {k : Nat} (h : o * b ^ k = X) (hk : k % 2 = 1) : o * b * (b * b) ^ (k / 2) = X := by
 have e : k = 2 * (k / 2) + 1 := by omega
 rw [← h]
 conv => rhs; rw [e, Int.pow_succ, Int.pow_mul]
 rw [show b ^ 2 = b * b by rw [Int.pow_succ, Int.pow_succ, Int.pow_zero, Int.one_mul]]
 grind
theorem pw_even {o b X : Int} {k : Nat} (h : o * b ^ k = X) (hk : k % 2 = 0) : o * (b * b) ^ (k / 2) = X := by
 have e : k = 2 * (k / 2) := by omega
 rw [← h]
 conv => rhs; rw [e, Int.pow_mul]
 rw [show b ^ 2 = b * b by rw [Int.pow_succ, Int.pow_succ, Int.pow_zero, Int.one_mul]]
theorem pw_end {o b X : Int} {k : Nat} (h : o * b ^ k = X) (hk : k = 1) : o * b = X := by
 rw [hk] at h
 simpa [Int.pow_succ] using h
theorem wid_nat (z : Int) (h : 0 ≤ z) : pat z = z := by unfold pat; rw [if_neg (by omega)]
theorem pw_size {x : Int} {s : Nat} (hx : 2 ≤ x.natAbs) (hs : wid (pat (x.natAbs : Int)) = s + 1) : 2 ^ s ≤ x.natAbs ∧ x.natAbs < 2 ^ (s + 1) := by
 rw [wid_nat _ (by omega)] at hs
 have h1 := wid_le (z := (x.natAbs : Int)) (by omega)
 have h2 := wid_lt (x.natAbs : Int)
 rw [hs] at h1 h2
 rw [Nat.add_sub_cancel] at h1
 exact ⟨by exact_mod_cast h1, by exact_mod_cast h2⟩
theorem wid_big {z : Int} {M : Nat} (h : 2 ^ (M + 1) ≤ z.natAbs) : M < wid (pat z) := by
 have h5 : 2 ^ (M + 1) = 2 * 2 ^ M := by rw [Nat.pow_succ, Nat.mul_comm]
 have h6 : 0 < 2 ^ M := Nat.pow_pos (by decide)
 apply Classical.byContradiction
 intro hc
 have h7 := wid_lt (pat z)
 have h8 : (2 : Int) ^ wid (pat z) ≤ 2 ^ M := pow_le (by decide) (by omega)
 have h9 : pat z < ((2 ^ M : Nat) : Int) := by
  have : ((2 ^ M : Nat) : Int) = 2 ^ M := by rw [Int.natCast_pow]; rfl
  omega
 rw [h5] at h
 generalize (2 ^ M : Nat) = P at *
 unfold pat at h9
 split at h9 <;> omega
theorem bd_small {z : Int} {m : Nat} (h : z.natAbs ≤ 2 ^ (32 * m)) : bd (m + 1) z := by
 have h6 : (2 : Nat) ^ (32 * (m + 1)) = 2 ^ (32 * m) * 4294967296 := by rw [Nat.mul_add, Nat.pow_add]
 have h7 : 0 < 2 ^ (32 * m) := Nat.pow_pos (by decide)
 rw [bd2]
 have e : (2 : Int) ^ (32 * (m + 1)) = ((2 ^ (32 * (m + 1)) : Nat) : Int) := by rw [Int.natCast_pow]; rfl
 rw [e, h6]
 generalize (2 : Nat) ^ (32 * m) = P at *
 omega
theorem pw_large {x : Int} {n s : Nat} (hx : 2 ≤ x.natAbs) (hs : wid (pat (x.natAbs : Int)) = s + 1) (hs1 : 1 ≤ s) (hq : 65536 / s < n) : 65536 < wid (pat (x ^ n)) := by
 have h1 := (pw_size hx hs).1
 have h2 : 2 ^ (s * n) ≤ (x ^ n).natAbs := by rw [natAbs_pow', Nat.pow_mul]; exact Nat.pow_le_pow_left h1 n
 have h3 : 65536 < s * n := by
  have := Nat.lt_mul_of_div_lt hq hs1
  rwa [Nat.mul_comm] at this
 have key : ∀ M : Nat, M < s * n → M < wid (pat (x ^ n)) := fun M h => wid_big (Nat.le_trans (Nat.pow_le_pow_right (by decide) h) h2)
 exact key _ h3
theorem pw_bits {x : Int} {n s : Nat} (hx : 2 ≤ x.natAbs) (hs : wid (pat (x.natAbs : Int)) = s + 1) (hs1 : 1 ≤ s) (hq : ¬ 65536 / s < n) : bd 4097 (x ^ n) ∧ x ^ n ≠ 0 := by
 have h1 := (pw_size hx hs).2
 have h2 : (x ^ n).natAbs ≤ 2 ^ ((s + 1) * n) := by rw [natAbs_pow', Nat.pow_mul]; exact Nat.pow_le_pow_left (by omega) n
 have h3 : s * n ≤ 65536 := by
  have h4 : n ≤ 65536 / s := by omega
  have := (Nat.le_div_iff_mul_le hs1).1 h4
  rwa [Nat.mul_comm] at this
 have h4 : (s + 1) * n ≤ 32 * 4096 := by
  rw [Nat.add_mul, Nat.one_mul]
  have : n ≤ s * n := Nat.le_mul_of_pos_left n hs1
  omega
 have key : ∀ m : Nat, (s + 1) * n ≤ 32 * m → bd (m + 1) (x ^ n) := fun m h => bd_small (Nat.le_trans h2 (Nat.pow_le_pow_right (by decide) h))
 refine ⟨key _ h4, ?_⟩
 intro e
 have h8 : 0 < (x ^ n).natAbs := by rw [natAbs_pow']; exact Nat.pow_pos (by omega)
 rw [e] at h8
 simp at h8
theorem bd.abs {a : Nat} {x : Int} (h : bd a x) : bd a (x.natAbs : Int) := by unfold bd at *; omega
end Go.Proofs.YthpjmhhfcechmaaGreat
/- Fields of the reference's integers in boxes; contracts of its digit functions in the form that the rules want. -/
namespace Go.Proofs.YthpjmhhfcechmaaGreat.Sy
open Go Go.RowKit Ma
theorem RJ.num {W : World} {n : Bool} {A : Option Addr} {l c : Nat} {z : Int} (h : RJ W n A l c z) : ∃ xs, l = xs.length ∧ l ≤ c ∧ Rd W .i64 A xs ∧ dg 65536 xs ∧ lv 65536 xs = (z.natAbs : Int) ∧ top xs ∧ n = decide (z < 0) := by
 obtain ⟨xs, h1, h2, h3, d, t, hn, e⟩ := h
 have l0 : 0 ≤ lv 65536 xs := lv_nonneg BJ_pos d
 have e' : z = sg n (lv 65536 xs) := e
 refine ⟨xs, h1, h2, h3, d, ?_, t, ?_⟩
 ·rw [e']; cases n <;> simp [sg] <;> omega
 ·cases n with
  | false => rw [e']; simp [sg]; omega
  | true =>
   have h5 := top_le BJ_pos d t (hn rfl)
   have h6 := pos_pow BJ_pos (xs.length - 1)
   rw [e']; simp [sg]; omega
theorem holdsJ {T : TypeId} {p : Nat} {v : Value} {W : World} {z : Int} (hh : Holds (BI T) p v W) (hk : KJ z v W) : ∃ m A l c, v = .agg #[.bool m, .slice A l c] ∧ RJ W m A l c z ∧ W.cell? ⟨p, 0, none⟩ = some (.bool m) ∧ W.cell? ⟨p, 1, none⟩ = some (.slice A l c) := by
 obtain ⟨m, A, l, c, rfl, hi⟩ := hk
 obtain ⟨cs, ⟨m', A', l', c', e1, rfl⟩, hc⟩ := hh
 simp only [Value.agg.injEq, Array.mk.injEq, List.cons.injEq, Value.bool.injEq, Value.slice.injEq, and_true] at e1
 obtain ⟨rfl, rfl, rfl, rfl⟩ := e1
 exact ⟨m, A, l, c, rfl, hi, (hc 0 _ rfl).1, (hc 1 _ rfl).1⟩
section
variable {z : Int} {p : Nat}
theorem faJ0 (v : Value) (W : World) (hh : Holds (BI 34) p v W) (hk : KJ z v W) : (Instr.fieldAt 34 (ptr p) 0).run Tryz.prog W = .ok (.pointer (some ⟨p, 0, none⟩)) W := by
 obtain ⟨m, A, l, c, rfl, hi, h0, h1⟩ := holdsJ hh hk
 go_simp
theorem faJ1 (v : Value) (W : World) (hh : Holds (BI 34) p v W) (hk : KJ z v W) : (Instr.fieldAt 34 (ptr p) 1).run Tryz.prog W = .ok (.pointer (some ⟨p, 1, none⟩)) W := by
 obtain ⟨m, A, l, c, rfl, hi, h0, h1⟩ := holdsJ hh hk
 go_simp
theorem flJ0 {t : Bool} (e : decide (z < 0) = t) (v : Value) (W : World) (hh : Holds (BI 34) p v W) (hk : KJ z v W) : ∃ u, (Instr.loadAt 4 (.pointer (some ⟨p, 0, none⟩))).run Tryz.prog W = .ok u W ∧ (AV.vl (.bool t)).of u W := by
 obtain ⟨m, A, l, c, rfl, hi, h0, h1⟩ := holdsJ hh hk
 obtain ⟨xs, _, _, _, _, _, _, hn⟩ := RJ.num hi
 refine ⟨.bool m, by go_simp, ?_⟩
 show Value.bool m = .bool t
 rw [hn, e]
theorem flJ1 (v : Value) (W : World) (hh : Holds (BI 34) p v W) (hk : KJ z v W) : ∃ u, (Instr.loadAt 32 (.pointer (some ⟨p, 1, none⟩))).run Tryz.prog W = .ok u W ∧ (AV.kw (KDt (z.natAbs : Int))).of u W := by
 obtain ⟨m, A, l, c, rfl, hi, h0, h1⟩ := holdsJ hh hk
 obtain ⟨xs, rfl, hc, rd, d, e, t, _⟩ := RJ.num hi
 exact ⟨.slice A xs.length c, by go_simp, xs, A, c, rfl, hc, rd, d, e, t⟩
theorem fldJ0 {t : Bool} (e : decide (z < 0) = t) (v : Value) (W : World) (p : Nat) (hh : Holds (BI 34) p v W) (hk : KJ z v W) : ∃ q u, (Instr.fieldAt 34 (ptr p) 0).run Tryz.prog W = .ok q W ∧ (Instr.loadAt 4 q).run Tryz.prog W = .ok u W ∧ (AV.vl (.bool t)).of u W := by
 obtain ⟨u, h1, h2⟩ := flJ0 e v W hh hk
 exact ⟨_, u, faJ0 v W hh hk, h1, h2⟩
theorem fldJ1 (v : Value) (W : World) (p : Nat) (hh : Holds (BI 34) p v W) (hk : KJ z v W) : ∃ q u, (Instr.fieldAt 34 (ptr p) 1).run Tryz.prog W = .ok q W ∧ (Instr.loadAt 32 q).run Tryz.prog W = .ok u W ∧ (AV.kw (KDt (z.natAbs : Int))).of u W := by
 obtain ⟨u, h1, h2⟩ := flJ1 v W hh hk
 exact ⟨_, u, faJ1 v W hh hk, h1, h2⟩
end
theorem PW.openL {B N : Nat} {w0 : World} {ops : Array Oper} {rest : List Oper} {fr : List (Nat × AV)} {Q : Exit → Act → World → Prop} {t : Nat} {k : IntKind} {p : List Int → Prop} (hs : look fr t = some (.kw (KL k p))) (h : ∀ zs A c, p zs → zs.length ≤ c → PW B N w0 ops rest ((t, .vl (.slice A zs.length c)) :: fr) Q) : PW B N w0 ops rest fr Q := fun a W hf => by
 obtain ⟨⟨zs, A, c, e, hc, rd, hp⟩, _⟩ := hf.ho t _ hs
 exact h zs A c hp hc a W (hf.know rfl e)
theorem k_mkT {n : Bool} {z y : Int} (e : sg n z = y) : CallOk 117 [KV (.bool n), KDt z] (KJ y) := e ▸ k_rmadeT
theorem k_mkN {n : Bool} {m : Nat} {z y : Int} (e : sg n z = y) : CallOk 117 [KV (.bool n), KDn m z] (KJ y) := e ▸ k_rmadeN
theorem sgJ_mul {x y : Int} {t : Bool} (e : (decide (x < 0) != decide (y < 0)) = t) : sg t ((x.natAbs : Int) * (y.natAbs : Int)) = x * y := by
 subst e
 by_cases hx : x < 0 <;> by_cases hy : y < 0
 ·have e1 : (x.natAbs : Int) = -x := by omega
  have e2 : (y.natAbs : Int) = -y := by omega
  simp only [sg, hx, hy, e1, e2, decide_true, decide_false, bne_self_eq_false, Bool.false_bne, Bool.bne_false, if_true, Bool.false_eq_true, if_false] <;> grind
 ·have e1 : (x.natAbs : Int) = -x := by omega
  have e2 : (y.natAbs : Int) = y := by omega
  simp only [sg, hx, hy, e1, e2, decide_true, decide_false, bne_self_eq_false, Bool.false_bne, Bool.bne_false, if_true, Bool.false_eq_true, if_false] <;> grind
 ·have e1 : (x.natAbs : Int) = x := by omega
  have e2 : (y.natAbs : Int) = -y := by omega
  simp only [sg, hx, hy, e1, e2, decide_true, decide_false, bne_self_eq_false, Bool.false_bne, Bool.bne_false, if_true, Bool.false_eq_true, if_false] <;> grind
 ·have e1 : (x.natAbs : Int) = x := by omega
  have e2 : (y.natAbs : Int) = y := by omega
  simp only [sg, hx, hy, e1, e2, decide_true, decide_false, bne_self_eq_false, Bool.false_bne, Bool.bne_false, if_true, Bool.false_eq_true, if_false] <;> grind
theorem KDt.zero_iff {z : Int} {zs : List Int} (h : dg 65536 zs ∧ lv 65536 zs = z ∧ top zs) : z = 0 ↔ zs.length = 0 := by
 obtain ⟨d, e, t⟩ := h
 constructor
 ·intro hz
  apply Classical.byContradiction
  intro hn
  have hne : zs ≠ [] := fun h => hn (by rw [h]; rfl)
  have h1 := top_le BJ_pos d t hne
  have h2 := pos_pow BJ_pos (zs.length - 1)
  omega
 ·intro hl
  rw [List.eq_nil_of_length_eq_zero hl] at e
  exact e.symm
theorem cmp_nn {a b : Int} (h : b ≤ a) : cmp a b ≥ 0 := by unfold cmp; rw [if_neg (by omega)]; split <;> decide
theorem buildJ {W : World} {u : Value} {z : Int} (h : KDt z u W) (hz : 0 ≤ z) : KJ z (.agg #[.bool false, u]) W := by
 obtain ⟨zs, A, c, rfl, hc, rd, d, e, t⟩ := h
 exact ⟨false, A, zs.length, c, rfl, zs, rfl, hc, rd, d, t, (fun h => by cases h), e.symm⟩
theorem ce_rplus : CE 144 := fun args W => by go_simp
theorem ce_rminus : CE 146 := fun args W => by go_simp
theorem ce_rtimes : CE 147 := fun args W => by go_simp
theorem ce_rcompare : CE 145 := fun args W => by go_simp
section
variable {x y : Int} {a b : Nat}
theorem k_rplus (X : bd a x) (Y : bd b y) (ha : a ≤ 1000000) (hb : b ≤ 1000000) : CallOk 144 [KDt x, KDt y] (KDn (2 * max a b + 1) (x + y)) :=
 call2 ce_rplus fun W u v ⟨xs, A, c, e, hc, rd, d, ex, t⟩ ⟨ys, A2, c2, e2, hc2, rd2, d2, ey, t2⟩ => by
  subst e e2
  have l1 := len_bd d ex t X
  have l2 := len_bd d2 ey t2 Y
  exact (rplus_c rd rd2 d d2 (by omega) (by omega)).mono fun e W' ⟨v, e1, ⟨zs, A3, c3, ev, hc3, rd3, d3, e3, l3⟩, hn⟩ => ⟨v, e1, ⟨zs, A3, c3, ev, hc3, rd3, d3, by rw [e3, ex, ey], by omega⟩, hn⟩
theorem k_rminus (X : bd a x) (Y : bd b y) (ha : a ≤ 1000000) (hb : b ≤ 1000000) (h : y ≤ x) : CallOk 146 [KDt x, KDt y] (KDt (x - y)) :=
 call2 ce_rminus fun W u v ⟨xs, A, c, e, hc, rd, d, ex, t⟩ ⟨ys, A2, c2, e2, hc2, rd2, d2, ey, t2⟩ => by
  subst e e2
  have l1 := len_bd d ex t X
  have l2 := len_bd d2 ey t2 Y
  exact (rminus_c rd rd2 d d2 (by omega) (by omega) t2 (by rw [ex, ey]; exact h)).mono fun e W' ⟨v, e1, ⟨zs, A3, c3, ev, hc3, rd3, d3, e3, l3⟩, hn⟩ => ⟨v, e1, ⟨zs, A3, c3, ev, hc3, rd3, d3, by rw [e3, ex, ey], l3⟩, hn⟩
theorem k_rtimes (X : bd a x) (Y : bd b y) (ha : a ≤ 1000000) (hb : b ≤ 1000000) : CallOk 147 [KDt x, KDt y] (KDt (x * y)) :=
 call2 ce_rtimes fun W u v ⟨xs, A, c, e, hc, rd, d, ex, t⟩ ⟨ys, A2, c2, e2, hc2, rd2, d2, ey, t2⟩ => by
  subst e e2
  have l1 := len_bd d ex t X
  have l2 := len_bd d2 ey t2 Y
  exact (rtimes_c rd rd2 d d2 (by omega) (by omega)).mono fun e W' ⟨v, e1, ⟨zs, A3, c3, ev, hc3, rd3, d3, e3, l3⟩, hn⟩ => ⟨v, e1, ⟨zs, A3, c3, ev, hc3, rd3, d3, by rw [e3, ex, ey], l3⟩, hn⟩
theorem k_rcompare {z : Int} (X : bd a x) (Y : bd b y) (ha : a ≤ 1000000) (hb : b ≤ 1000000) (h : cmp x y = z) : CallOk 145 [KDt x, KDt y] (KV (.int .i64 z)) :=
 call2 ce_rcompare fun W u v ⟨xs, A, c, e, hc, rd, d, ex, t⟩ ⟨ys, A2, c2, e2, hc2, rd2, d2, ey, t2⟩ => by
  subst e e2
  have l1 := len_bd d ex t X
  have l2 := len_bd d2 ey t2 Y
  have := rcompare_c (w := W) (c := c) (d := c2) rd rd2 d d2 (by omega) (by omega) t t2
  rw [ex, ey, h] at this
  exact this
end
end Go.Proofs.YthpjmhhfcechmaaGreat.Sy
