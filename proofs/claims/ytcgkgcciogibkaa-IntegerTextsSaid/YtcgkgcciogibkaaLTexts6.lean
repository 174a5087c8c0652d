/- Parts Lw, Jw, Lv, Syq, Lp, Pw, Pk, Jx, Jy, Jz, Gc, Rt, Jn, St, Lt, Syw, in one file. -/
import Derived.Lib.RabinKarpLaws
import Derived.Test.YtcgkgcciogibkaaLTexts2
import Derived.Test.YtcgkgcciogibkaaLTexts3
import Derived.Test.YtcgkgcciogibkaaLTexts4
import Derived.Test.YtcgkgcciogibkaaLTexts5
/- Plain laws for the reference's width, bits, powers of two: digits to the base 65536. No program in sight. -/
set_option linter.unusedVariables false
set_option linter.unusedSimpArgs false
namespace Go.Proofs.Ytcgkgcciogibkaa.Ma
open Go
theorem pow16 (n : Nat) : (65536 : Int) ^ n = 2 ^ (16 * n) := by rw [Int.pow_mul]; rfl
theorem wid_half {t : Int} (h : 0 < t) : wid t = wid (t / 2) + 1 := by
  by_cases h1 : t = 1
  · subst h1; decide
  · have h2 : 0 < t / 2 := by omega
    have a1 := wid_lt (t / 2)
    have a2 := wid_le h2
    have a3 := wid_pos h2
    apply wid_of
    · rw [Int.pow_succ]; omega
    · omega
    · rw [show wid (t / 2) + 1 - 1 = wid (t / 2) - 1 + 1 by omega, Int.pow_succ]; omega
theorem wid_lvJ {zs : List Int} (d : dg 65536 zs) (t : top zs) (hne : zs ≠ []) : wid (lv 65536 zs) = 16 * (zs.length - 1) + wid (at0 zs (zs.length - 1)) := by
  have hl : 0 < zs.length := List.length_pos_iff.2 hne
  have e := lv_take_succ 65536 zs (zs.length - 1) (by omega)
  rw [Nat.sub_add_cancel hl, List.take_length] at e
  have a0 := lv_nonneg (b := 65536) (by decide) (dg_take d (zs.length - 1))
  have a1 := lv_lt (b := 65536) (by decide) (dg_take d (zs.length - 1))
  rw [List.length_take, Nat.min_eq_left (by omega)] at a1
  have b0 := dg_at d (by decide) (zs.length - 1)
  have b1 := (top_at hne).1 t
  rw [pow16] at e a1
  have c0 := wid_lt (at0 zs (zs.length - 1))
  have c1 := wid_le (z := at0 zs (zs.length - 1)) (by omega)
  have c2 := wid_pos (z := at0 zs (zs.length - 1)) (by omega)
  have hq : (0 : Int) < 2 ^ (16 * (zs.length - 1)) := Int.pow_pos (by decide)
  apply wid_of
  · rw [e, Int.pow_add]
    have : 2 ^ (16 * (zs.length - 1)) * (at0 zs (zs.length - 1) + 1) ≤ 2 ^ (16 * (zs.length - 1)) * (2 : Int) ^ wid (at0 zs (zs.length - 1)) := Int.mul_le_mul_of_nonneg_left (by omega) (by omega)
    rw [Int.mul_add] at this
    omega
  · omega
  · rw [e, show 16 * (zs.length - 1) + wid (at0 zs (zs.length - 1)) - 1 = 16 * (zs.length - 1) + (wid (at0 zs (zs.length - 1)) - 1) by omega, Int.pow_add]
    have : 2 ^ (16 * (zs.length - 1)) * (2 : Int) ^ (wid (at0 zs (zs.length - 1)) - 1) ≤ 2 ^ (16 * (zs.length - 1)) * at0 zs (zs.length - 1) := Int.mul_le_mul_of_nonneg_left c1 (by omega)
    omega
/-- The rounds of width. -/
def Wd (W : Nat) (n t : Int) : Prop := 0 ≤ t ∧ t < 65536 ∧ n + (wid t : Int) = W ∧ 0 ≤ n
theorem Wd.start {zs : List Int} (d : dg 65536 zs) (t : top zs) (hne : zs ≠ []) : Wd (wid (lv 65536 zs)) (16 * ((zs.length : Int) - 1)) (at0 zs (zs.length - 1)) := by
  have b0 := dg_at d (by decide) (zs.length - 1)
  have hl : 0 < zs.length := List.length_pos_iff.2 hne
  refine ⟨b0.1, b0.2, ?_, by omega⟩
  rw [wid_lvJ d t hne]; omega
theorem Wd.step {W : Nat} {n t : Int} (h : Wd W n t) (ht : 0 < t) : Wd W (n + 1) (t / 2) := by
  obtain ⟨h1, h2, h3, h4⟩ := h
  have := wid_half ht
  exact ⟨by omega, by omega, by omega, by omega⟩
theorem Wd.fin {W : Nat} {n t : Int} (h : Wd W n t) (ht : ¬ 0 < t) : n = W := by
  obtain ⟨h1, h2, h3, h4⟩ := h
  obtain rfl : t = 0 := by omega
  rw [wid_zero] at h3
  omega
/-- The rounds of set. -/
theorem half_pow (t : Int) (k : Nat) : t / 2 ^ k / 2 = t / 2 ^ (k + 1) := by
  rw [Int.pow_succ, Int.ediv_ediv_of_nonneg (Int.le_of_lt (Int.pow_pos (by decide)))]
/-- The rounds of Two. -/
def Tw (n i : Nat) (zs : List Int) : Prop := i ≤ n % 16 ∧ zs = (List.replicate (n / 16 + 1) 0).set (n / 16) (2 ^ i)
theorem Tw.start (n : Nat) : Tw n 0 ((List.replicate (n / 16 + 1) 0).set (n / 16) 1) := ⟨by omega, rfl⟩
theorem Tw.len {n i : Nat} {zs : List Int} (h : Tw n i zs) : zs.length = n / 16 + 1 := by rw [h.2]; simp
theorem at0_put_self {zs : List Int} {i : Nat} (x : Int) (h : i < zs.length) : at0 (zs.set i x) i = x := by simp [at0, List.getD_eq_getElem?_getD, h]
theorem at0_put_ne {zs : List Int} {i j : Nat} (x : Int) (h : i ≠ j) : at0 (zs.set i x) j = at0 zs j := by simp [at0, List.getD_eq_getElem?_getD, List.getElem?_set_ne h]
theorem Tw.at {n i : Nat} {zs : List Int} (h : Tw n i zs) : at0 zs (n / 16) = 2 ^ i := by rw [h.2]; exact at0_put_self _ (by simp)
theorem pow15 {i : Nat} (h : i ≤ 15) : (1 : Int) ≤ 2 ^ i ∧ (2 : Int) ^ i ≤ 32768 := by
  have h1 := pow_le (b := 2) (by decide) h
  have h2 : (0 : Int) < 2 ^ i := Int.pow_pos (by decide)
  have e : (2 : Int) ^ 15 = 32768 := by decide
  omega
theorem Tw.step {n i : Nat} {zs : List Int} (h : Tw n i zs) (hi : i < n % 16) : Tw n (i + 1) (zs.set (n / 16) (2 ^ i * 2)) := by
  refine ⟨by omega, ?_⟩
  rw [h.2, List.set_set, Int.pow_succ]
theorem Tw.fin {n : Nat} {zs : List Int} (h : Tw n (n % 16) zs) : dg 65536 zs ∧ lv 65536 zs = 2 ^ n := by
  have hp := pow15 (i := n % 16) (by omega)
  refine ⟨by rw [h.2]; exact dg_set (dg_replicate _ (by decide) (by decide)) _ (by omega) (by omega), ?_⟩
  rw [h.2, lv_set _ _ _ _ (by simp), lv_zeros, zeros_at]
  rw [pow16, Int.sub_zero, Int.zero_add, ← Int.pow_add]
  congr 1; omega
/-- The number whose bits are in the order of a list, with a sign from there on. -/
def BitsOf (z : Int) (ls : List Int) (g : Bool) : Prop := ∀ i, tb z i = if i < ls.length then decide (at0 ls i = 1) else g
/-- The same, without the sign. -/
def bflip (g : Bool) (z : Int) : Int := if g then -1 - z else z
theorem tb_bflip (g : Bool) (z : Int) (i : Nat) : tb (bflip g z) i = (tb z i != g) := by
  unfold bflip
  cases g
  · simp
  · simp [tb_compl]
theorem BitsOf.high {z : Int} {ls : List Int} {g : Bool} (h : BitsOf z ls g) : 0 ≤ bflip g z ∧ bflip g z < 2 ^ ls.length := by
  have hb : ∀ i, ls.length ≤ i → tb (bflip g z) i = false := fun i hi => by rw [tb_bflip, h i, if_neg (by omega)]; simp
  have hp : (0 : Int) < 2 ^ ls.length := Int.pow_pos (by decide)
  have q : bflip g z / 2 ^ ls.length = 0 := tb_ext fun i => by rw [← tb_shift, hb _ (by omega), tb_zero]
  have e := Int.mul_ediv_add_emod (bflip g z) (2 ^ ls.length)
  have r0 := Int.emod_nonneg (bflip g z) (Int.ne_of_gt hp)
  have r1 := Int.emod_lt_of_pos (bflip g z) hp
  rw [q, Int.mul_zero] at e
  omega
/-- The rounds of Of: bits from i on are in their digits. -/
def OfI (Z : Int) (n i : Nat) (ds : List Int) : Prop := i ≤ n ∧ ds.length = n / 16 + 1 ∧ ∀ j, j ≤ n / 16 → at0 ds j = Z / 2 ^ (max (16 * j) i) % 2 ^ (16 * (j + 1) - max (16 * j) i)
theorem OfI.start {Z : Int} {n : Nat} (h0 : 0 ≤ Z) (h1 : Z < 2 ^ n) : OfI Z n n (List.replicate (n / 16 + 1) 0) := by
  refine ⟨Nat.le_refl _, by simp, fun j hj => ?_⟩
  have e : at0 (List.replicate (n / 16 + 1) 0) j = 0 := zeros_at _ _
  have h2 := pow_le (b := 2) (by decide) (show n ≤ max (16 * j) n by omega)
  rw [e, Int.ediv_eq_zero_of_lt h0 (by omega)]
  simp
theorem OfI.bound {Z : Int} {n i : Nat} {ds : List Int} (h : OfI Z n (i + 1) ds) : 0 ≤ at0 ds (i / 16) ∧ at0 ds (i / 16) < 32768 := by
  obtain ⟨h1, h2, h3⟩ := h
  have e := h3 (i / 16) (by omega)
  have hp : (0 : Int) < 2 ^ (16 * (i / 16 + 1) - max (16 * (i / 16)) (i + 1)) := Int.pow_pos (by decide)
  have a0 := Int.emod_nonneg (Z / 2 ^ (max (16 * (i / 16)) (i + 1))) (Int.ne_of_gt hp)
  have a1 := Int.emod_lt_of_pos (Z / 2 ^ (max (16 * (i / 16)) (i + 1))) hp
  have a2 := (pow15 (i := 16 * (i / 16 + 1) - max (16 * (i / 16)) (i + 1)) (by omega)).2
  omega
theorem OfI.step {Z : Int} {n i : Nat} {ds : List Int} {y : Int} (h : OfI Z n (i + 1) ds) (hy : y = at0 ds (i / 16) * 2 + (if tb Z i then 1 else 0)) : OfI Z n i (ds.set (i / 16) y) := by
  obtain ⟨h1, h2, h3⟩ := h
  refine ⟨by omega, by simpa using h2, fun j hj => ?_⟩
  by_cases e : i / 16 = j
  · subst e
    rw [at0_put_self _ (by omega), hy, h3 _ hj, Nat.max_eq_right (by omega), Nat.max_eq_right (by omega)]
    have e2 : 16 * (i / 16 + 1) - i = 16 * (i / 16 + 1) - (i + 1) + 1 := by omega
    rw [e2, ← half_pow, Int.pow_succ]
    unfold tb
    generalize Z / 2 ^ i = q
    generalize (2 : Int) ^ (16 * (i / 16 + 1) - (i + 1)) = p
    have key : q % (p * 2) = q / 2 % p * 2 + q % 2 := by
      have e1 : q / (p * 2) = q / 2 / p := by rw [Int.mul_comm p 2, Int.ediv_ediv_of_nonneg (by decide)]
      rw [Int.emod_def, Int.emod_def (q / 2) p, e1]
      have e2 : p * 2 * (q / 2 / p) = 2 * (p * (q / 2 / p)) := by rw [Int.mul_comm p 2, Int.mul_assoc]
      rw [e2]
      omega
    rw [key]
    have : q % 2 = 0 ∨ q % 2 = 1 := by omega
    rcases this with h | h <;> simp [h]
  · rw [at0_put_ne _ e, h3 j hj]
    by_cases hlt : i < 16 * j
    · rw [Nat.max_eq_left (by omega), Nat.max_eq_left (by omega)]
    · rw [show 16 * (j + 1) - max (16 * j) (i + 1) = 0 by omega, show 16 * (j + 1) - max (16 * j) i = 0 by omega]
      simp
theorem OfI.dg {Z : Int} {n i : Nat} {ds : List Int} (h : OfI Z n i ds) : Ma.dg 65536 ds := by
  intro x hx
  obtain ⟨k, hk, rfl⟩ := List.getElem_of_mem hx
  have e := h.2.2 k (by have := h.2.1; omega)
  rw [at0_of_lt hk] at e
  have hp : (0 : Int) < 2 ^ (16 * (k + 1) - max (16 * k) i) := Int.pow_pos (by decide)
  have a0 := Int.emod_nonneg (Z / 2 ^ (max (16 * k) i)) (Int.ne_of_gt hp)
  have a1 := Int.emod_lt_of_pos (Z / 2 ^ (max (16 * k) i)) hp
  have a2 := pow_le (b := 2) (by decide) (show 16 * (k + 1) - max (16 * k) i ≤ 16 by omega)
  have e16 : (2 : Int) ^ 16 = 65536 := by decide
  omega
theorem OfI.fin {Z : Int} {n : Nat} {ds : List Int} (h : OfI Z n 0 ds) (h0 : 0 ≤ Z) (h1 : Z < 2 ^ n) : lv 65536 ds = Z := by
  have e := lv_digits (b := 65536) (V := Z) (by decide) (zs := ds) ds.length (Nat.le_refl _) (fun j hj => by
    rw [h.2.2 j (by have := h.2.1; omega), Nat.max_eq_left (by omega), show 16 * (j + 1) - 16 * j = 16 by omega, pow16]; rfl)
  rw [List.take_length] at e
  rw [e, h.2.1]
  refine Int.emod_eq_of_lt h0 ?_
  have := pow_le (b := 2) (by decide) (show n ≤ 16 * (n / 16 + 1) by omega)
  rw [pow16]; omega
end Go.Proofs.Ytcgkgcciogibkaa.Ma
/- The reference's width, set, Two, chosen, New by rules. -/
set_option linter.unusedVariables false
set_option linter.unusedSimpArgs false
namespace Go.Proofs.Ytcgkgcciogibkaa.Sy
open Go Go.RowKit Ma
theorem facJ0 {p : Nat} {m : Bool} {A : Option Addr} {l c : Nat} (W : World) (hh : Holds (BI 31) p (.agg #[.bool m, .slice A l c]) W) : (Instr.fieldAt 31 (ptr p) 0).run Try.prog W = .ok (.pointer (some ⟨p, 0, none⟩)) W := by
  obtain ⟨_, h0, h1⟩ := holdsV hh rfl
  go_simp
theorem facJ1 {p : Nat} {m : Bool} {A : Option Addr} {l c : Nat} (W : World) (hh : Holds (BI 31) p (.agg #[.bool m, .slice A l c]) W) : (Instr.fieldAt 31 (ptr p) 1).run Try.prog W = .ok (.pointer (some ⟨p, 1, none⟩)) W := by
  obtain ⟨_, h0, h1⟩ := holdsV hh rfl
  go_simp
theorem flcJ0 {T : TypeId} {p : Nat} {m : Bool} {A : Option Addr} {l c : Nat} (W : World) (hh : Holds (BI T) p (.agg #[.bool m, .slice A l c]) W) : (Instr.loadAt 4 (.pointer (some ⟨p, 0, none⟩))).run Try.prog W = .ok (.bool m) W := by
  obtain ⟨_, h0, h1⟩ := holdsV hh rfl
  go_simp
theorem flcJ1 {T : TypeId} {p : Nat} {m : Bool} {A : Option Addr} {l c : Nat} (W : World) (hh : Holds (BI T) p (.agg #[.bool m, .slice A l c]) W) : (Instr.loadAt 29 (.pointer (some ⟨p, 1, none⟩))).run Try.prog W = .ok (.slice A l c) W := by
  obtain ⟨_, h0, h1⟩ := holdsV hh rfl
  go_simp
theorem RJ.len {W : World} {n : Bool} {A : Option Addr} {l c k : Nat} {z : Int} (h : RJ W n A l c z) (X : bd k z) (hk : k ≤ 1000000) : l ≤ 2000000 := by
  refine Nat.le_trans (h.len_le (2 * k) ?_ ?_) (by omega)
  · have := X.1; unfold b16; rw [← pow65]; exact this
  · have := X.2; unfold b16; rw [← pow65]; exact this
end Go.Proofs.Ytcgkgcciogibkaa.Sy
/- Plain laws for the reference's lists of bits. No program in sight. -/
set_option linter.unusedVariables false
set_option linter.unusedSimpArgs false
namespace Go.Proofs.Ytcgkgcciogibkaa.Ma
open Go
def bi (b : Bool) : Int := if b then 1 else 0
theorem bi_eq (b : Bool) : decide (bi b = 1) = b := by cases b <;> decide
/-- The first n bits of a number. -/
def lof (c : Nat → Bool) (n : Nat) : List Int := (List.range n).map fun i => bi (c i)
theorem lof_len (c : Nat → Bool) (n : Nat) : (lof c n).length = n := by simp [lof]
theorem lof_at (c : Nat → Bool) {n i : Nat} (h : i < n) : at0 (lof c n) i = bi (c i) := by
  rw [at0_of_lt (by rw [lof_len]; exact h)]
  simp [lof]
theorem lof_bit (c : Nat → Bool) {n i : Nat} (h : i < n) : decide (at0 (lof c n) i = 1) = c i := by rw [lof_at c h, bi_eq]
theorem pat_range (x : Int) : -(2 ^ wid (pat x)) ≤ x ∧ x < 2 ^ wid (pat x) := by
  have h := wid_lt (pat x)
  have h0 := pat_nonneg x
  generalize (2 : Int) ^ wid (pat x) = p at *
  unfold pat at h h0
  split at h <;> omega
theorem tb_over {x : Int} {n i : Nat} (hn : wid (pat x) ≤ n) (hi : n ≤ i) : tb x i = decide (x < 0) := tb_high (pat_range x).1 (pat_range x).2 (by omega)
/-- The rounds of Deposit. -/
def DpI (x y : Int) (k p n i : Nat) (ls : List Int) : Prop := i ≤ k ∧ ls = lof (fun j => if p ≤ j ∧ j < p + i then tb y (j - p) else tb x j) n
theorem DpI.start (x y : Int) (k p n : Nat) : DpI x y k p n 0 (lof (tb x) n) := ⟨by omega, by congr 1; funext j; rw [if_neg (by omega)]⟩
theorem lof_set {c c' : Nat → Bool} {n j : Nat} {v : Int} (hv : v = bi (c' j)) (hj : j < n) (h : ∀ i, i ≠ j → c i = c' i) : (lof c n).set j v = lof c' n := by
  apply List.ext_getElem
  · simp [lof]
  · intro i h1 h2
    simp [lof] at h1 h2
    by_cases e : j = i
    · subst e; simp [lof, hv]
    · rw [List.getElem_set_ne e]; simp [lof, h i (fun x => e x.symm)]
theorem DpI.step {x y : Int} {k p n i : Nat} {ls : List Int} (h : DpI x y k p n i ls) (hi : i < k) (hn : p + k ≤ n) : DpI x y k p n (i + 1) (ls.set (p + i) (at0 (lof (tb y) k) i)) := by
  refine ⟨by omega, ?_⟩
  rw [h.2, lof_at _ hi]
  refine lof_set ?_ (by omega) fun j hj => ?_
  · rw [if_pos (by omega)]; congr 2; omega
  · by_cases h1 : p ≤ j ∧ j < p + i
    · rw [if_pos h1, if_pos (by omega)]
    · rw [if_neg h1, if_neg (by omega)]
theorem DpI.fin {x y : Int} {k p n : Nat} {ls : List Int} (h : DpI x y k p n k ls) (hx : wid (pat x) ≤ n) (hn : p + k ≤ n) : BitsOf (dep x y k p) ls (decide (x < 0)) := by
  intro i
  rw [h.2, lof_len, tb_dep]
  by_cases hi : i < n
  · rw [if_pos hi, lof_bit _ hi]
  · rw [if_neg hi, if_neg (by omega), tb_over hx (by omega)]
/-- The rounds of Count. -/
def CtI (p : Nat) (i : Nat) (n : Int) : Prop := n + pc (p / 2 ^ i) = pc p ∧ 0 ≤ n ∧ n ≤ i
theorem CtI.start (p : Nat) : CtI p 0 0 := ⟨by simp, by omega, by omega⟩
theorem pc_step (p i : Nat) : pc (p / 2 ^ i) = (if tb (p : Int) i then 1 else 0) + pc (p / 2 ^ (i + 1)) := by
  rw [pc_half, Nat.pow_succ, Nat.div_div_eq_div_mul]
  congr 1
  have e : tb (p : Int) i = decide (p / 2 ^ i % 2 = 1) := by
    unfold tb
    have : ((p : Int) / 2 ^ i % 2) = ((p / 2 ^ i % 2 : Nat) : Int) := by
      rw [Int.natCast_emod, Int.natCast_ediv, Int.natCast_pow]; rfl
    rw [this]
    by_cases h : p / 2 ^ i % 2 = 1
    · rw [h]; simp
    · have h2 : p / 2 ^ i % 2 = 0 := by omega
      rw [h2]; decide
  rw [e]
  by_cases h : p / 2 ^ i % 2 = 1
  · rw [decide_eq_true h, h]; rfl
  · rw [decide_eq_false h]; simp; omega
theorem CtI.yes {p i : Nat} {n : Int} (h : CtI p i n) (hb : tb (p : Int) i = true) : CtI p (i + 1) (n + 1) := by
  obtain ⟨h1, h2, h3⟩ := h
  rw [pc_step, hb] at h1
  exact ⟨by simp at h1; omega, by omega, by omega⟩
theorem CtI.no {p i : Nat} {n : Int} (h : CtI p i n) (hb : tb (p : Int) i = false) : CtI p (i + 1) n := by
  obtain ⟨h1, h2, h3⟩ := h
  rw [pc_step, hb] at h1
  exact ⟨by simp at h1; omega, by omega, by omega⟩
theorem CtI.fin {p w : Nat} {n : Int} (h : CtI p w n) (hw : (p : Int) < 2 ^ w) : n = pc p := by
  obtain ⟨h1, _⟩ := h
  have : p < 2 ^ w := by
    have e : (2 : Int) ^ w = ((2 ^ w : Nat) : Int) := by rw [Int.natCast_pow]; rfl
    omega
  rw [Nat.div_eq_of_lt this, pc_zero] at h1
  omega
end Go.Proofs.Ytcgkgcciogibkaa.Ma
/- A walk by rules: rows of bools; rows wherever they lie, by index; boxes that hold just a value, known as something. -/
set_option linter.unusedVariables false
set_option linter.unusedSimpArgs false
namespace Go.Proofs.Ytcgkgcciogibkaa.Sy
open Go Go.RowKit Ma
def bv (x : Int) : Value := .bool (decide (x = 1))
def sad : Value → Option Addr
  | .slice A _ _ => A
  | _ => none
/-- A slice at A reads as these bools. -/
def RdB (w : World) (A : Option Addr) (xs : List Int) : Prop := xs.length ≤ 9223372036854775807 ∧ ∀ i, i < xs.length → ∃ ad, A = some ad ∧ w.cell? (ad.add i) = some (bv (at0 xs i))
theorem RdB.below {w W : World} {A : Option Addr} {xs : List Int} (h : RdB w A xs) (hb : Below w.heap.size w W) : RdB W A xs :=
  ⟨h.1, fun i hi => let ⟨ad, e, hc⟩ := h.2 i hi; ⟨ad, e, by rw [hb.cell (World.block_lt_of_cell? w _ hc)]; exact hc⟩⟩
section
variable {B N : Nat} {w0 : World} {ops : Array Oper} {o : Oper} {rest : List Oper} {fr : List (Nat × AV)} {Q : Exit → Act → World → Prop} {d : Nat}
/-- The place of a number in a row, wherever that lies. -/
theorem ridx_run {T : TypeId} {s K i : Nat} {y : Operand} {v : Value} {e : TypeId} {f : Int → Value} {zs : List Int} {a : Act} {W : World} (hf : Fr B N w0 fr a W) (ho : o.op = .indexAddr T (.tmp s) y) (hs : look fr s = some (.vl v)) (hy : opv fr y = some (.vl (.int .i64 (i : Int)))) (hK : look fr K = some (.ro v e f zs)) (hi : i < zs.length)
    (hx : ∀ (ρ : Operand → Value) (W : World) (g c : Nat), ρ (.tmp s) = .slice (some ⟨g, 0, none⟩) zs.length c → ρ y = .int .i64 (i : Int) → (execOp ρ o).run Try.prog W = .ok (.value (.pointer (some ⟨g, i, none⟩))) W) : (execOp a.eval o).run Try.prog W = .ok (.value (.pointer (padd (sad v) i))) W := by
  have ow : OwF W B e f v zs := hf.ho K _ hK
  have h1 : a.eval (.tmp s) = v := hf.ho s _ hs
  have h2 := opv_vl hf hy
  rcases ow.form with ⟨_, h⟩ | ⟨g, c, rfl, hc⟩
  · rw [h] at hi; simp at hi
  · rw [hx a.eval W g c h1 h2]
    show _ = Result.ok (Next.value (.pointer (some (Addr.add ⟨g, 0, none⟩ i)))) W
    rw [add_at]
theorem PW.ridx {T : TypeId} {s i : Nat} {y : Operand} {v : Value} {e : TypeId} {f : Int → Value} {zs : List Int} (K : Nat) (hw : wantB ops fr o = some true) (hd : o.dst = some d) (hN : Nat.blt d N = true) (ho : o.op = .indexAddr T (.tmp s) y) (hs : look fr s = some (.vl v)) (hy : opv fr y = some (.vl (.int .i64 (i : Int)))) (hK : look fr K = some (.ro v e f zs)) (hi : i < zs.length)
    (hx : ∀ (ρ : Operand → Value) (W : World) (g c : Nat), ρ (.tmp s) = .slice (some ⟨g, 0, none⟩) zs.length c → ρ y = .int .i64 (i : Int) → (execOp ρ o).run Try.prog W = .ok (.value (.pointer (some ⟨g, i, none⟩))) W) (hk : PW B N w0 ops rest ((d, .vl (.pointer (padd (sad v) i))) :: fr) Q) : PW B N w0 ops (o :: rest) fr Q :=
  PW.val (r := .vl (.pointer (padd (sad v) i))) hw hd hN rfl (fun a W hf => ⟨_, ridx_run hf ho hs hy hK hi hx, rfl⟩) hk
theorem DX.ridx {T : TypeId} {s i : Nat} {y : Operand} {v : Value} {e : TypeId} {f : Int → Value} {zs : List Int} (K : Nat) (hw : wantB ops fr o = some true) (hd : o.dst = some d) (hN : Nat.blt d N = true) (ho : o.op = .indexAddr T (.tmp s) y) (hs : look fr s = some (.vl v)) (hy : opv fr y = some (.vl (.int .i64 (i : Int)))) (hK : look fr K = some (.ro v e f zs)) (hi : i < zs.length)
    (hx : ∀ (ρ : Operand → Value) (W : World) (g c : Nat), ρ (.tmp s) = .slice (some ⟨g, 0, none⟩) zs.length c → ρ y = .int .i64 (i : Int) → (execOp ρ o).run Try.prog W = .ok (.value (.pointer (some ⟨g, i, none⟩))) W) : Eo B N w0 ops o fr (.val d (.vl (.pointer (padd (sad v) i)))) :=
  DX.val hw hd hN rfl (fun a W hf => ⟨_, ridx_run hf ho hs hy hK hi hx, rfl⟩)
theorem rget_run {T : TypeId} {t K i : Nat} {v : Value} {e : TypeId} {f : Int → Value} {zs : List Int} {a : Act} {W : World} (hf : Fr B N w0 fr a W) (ho : o.op = .load T (.tmp t)) (ht : look fr t = some (.vl (.pointer (padd (sad v) i)))) (hK : look fr K = some (.ro v e f zs)) (hi : i < zs.length)
    (hl : ∀ (W : World) (p : Addr) (x : Int), W.cell? p = some (f x) → (Instr.loadAt T (.pointer (some p))).run Try.prog W = .ok (f x) W) : (execOp a.eval o).run Try.prog W = .ok (.value (f (at0 zs i))) W := by
  have ow : OwF W B e f v zs := hf.ho K _ hK
  have h1 : a.tmps.getD t undef = .pointer (padd (sad v) i) := hf.ho t _ ht
  rcases ow.form with ⟨_, h⟩ | ⟨g, c, rfl, hc⟩
  · rw [h] at hi; simp at hi
  · have h2 := ow.cellAt hi
    unfold execOp
    rw [ho]
    show (do pure (.value (← Instr.loadAt T (a.tmps.getD t undef))) : Sem Next).run Try.prog W = _
    rw [h1]
    show (do pure (.value (← Instr.loadAt T (.pointer (some (Addr.add ⟨g, 0, none⟩ i))))) : Sem Next).run Try.prog W = _
    rw [add_at]
    exact run_val (hl W _ _ h2)
theorem PW.rget {T : TypeId} {t i : Nat} {v : Value} {e : TypeId} {f : Int → Value} {zs : List Int} (K : Nat) (hw : wantB ops fr o = some true) (hd : o.dst = some d) (hN : Nat.blt d N = true) (ho : o.op = .load T (.tmp t)) (ht : look fr t = some (.vl (.pointer (padd (sad v) i)))) (hK : look fr K = some (.ro v e f zs)) (hi : i < zs.length)
    (hl : ∀ (W : World) (p : Addr) (x : Int), W.cell? p = some (f x) → (Instr.loadAt T (.pointer (some p))).run Try.prog W = .ok (f x) W) (hk : PW B N w0 ops rest ((d, .vl (f (at0 zs i))) :: fr) Q) : PW B N w0 ops (o :: rest) fr Q :=
  PW.val (r := .vl (f (at0 zs i))) hw hd hN rfl (fun a W hf => ⟨_, rget_run hf ho ht hK hi hl, rfl⟩) hk
theorem DX.rget {T : TypeId} {t i : Nat} {v : Value} {e : TypeId} {f : Int → Value} {zs : List Int} (K : Nat) (hw : wantB ops fr o = some true) (hd : o.dst = some d) (hN : Nat.blt d N = true) (ho : o.op = .load T (.tmp t)) (ht : look fr t = some (.vl (.pointer (padd (sad v) i)))) (hK : look fr K = some (.ro v e f zs)) (hi : i < zs.length)
    (hl : ∀ (W : World) (p : Addr) (x : Int), W.cell? p = some (f x) → (Instr.loadAt T (.pointer (some p))).run Try.prog W = .ok (f x) W) : Eo B N w0 ops o fr (.val d (.vl (f (at0 zs i)))) :=
  DX.val hw hd hN rfl (fun a W hf => ⟨_, rget_run hf ho ht hK hi hl, rfl⟩)
/-- A number of a row is written, wherever that lies. -/
theorem PW.rput {T : TypeId} {t i : Nat} {x : Operand} {v : Value} {e : TypeId} {f : Int → Value} {zs : List Int} (y : Int) (K : Nat) (hw : wantB ops fr o = some true) (hd : o.dst = none) (ho : o.op = .store T (.tmp t) x) (ht : look fr t = some (.vl (.pointer (padd (sad v) i)))) (hK : look fr K = some (.ro v e f zs)) (hi : i < zs.length) (hx : opv fr x = some (.vl (f y))) (hc : calmB fr = true)
    (hst : ∀ (W : World) (p : Addr) (x y : Int), W.cell? p = some (f x) → W.frozen? p = false → (Instr.storeAt T (.pointer (some p)) (f y)).run Try.prog W = .ok () (W.setCell p (f y))) (hk : PW B N w0 ops rest ((K, .ro v e f (zs.set i y)) :: fr) Q) : PW B N w0 ops (o :: rest) fr Q :=
  PW.step hw fun a W hf K' hK' => by
    have ow : OwF W B e f v zs := hf.ho K _ hK
    have h1 : a.tmps.getD t undef = .pointer (padd (sad v) i) := hf.ho t _ ht
    rcases ow.form with ⟨_, h⟩ | ⟨g, c, hv, hcl⟩
    · rw [h] at hi; simp at hi
    · subst hv
      have h3 := opv_vl hf hx
      have h4 : a.tmps.getD t undef = .pointer (some ⟨g, i, none⟩) := by
        rw [h1]
        show Value.pointer (some (Addr.add ⟨g, 0, none⟩ i)) = _
        rw [add_at]
      have e2 : (execOp a.eval o).run Try.prog W = .ok .skip (W.setCell ⟨g, i, none⟩ (f y)) := by
        unfold execOp
        rw [ho]
        show (do (Instr.storeAt T (a.tmps.getD t undef) (a.eval x)); pure .skip : Sem Next).run Try.prog W = _
        rw [h4, h3]
        exact run_skip (hst W _ _ _ (ow.cellAt hi) (ow.frozenAt i))
      unfold Oper.wp
      rw [e2]
      show K' (a.put o.dst undef) _
      rw [hd]
      exact hK' _ _ (hk _ _ (hf.rset hK hc y))
/-- The length of a row, wherever that lies. -/
theorem rlen_run {s K : Nat} {v : Value} {e : TypeId} {f : Int → Value} {zs : List Int} {a : Act} {W : World} (hf : Fr B N w0 fr a W) (hs : look fr s = some (.vl v)) (hK : look fr K = some (.ro v e f zs))
    (hl : ∀ (ρ : Operand → Value) (W : World) (A : Option Addr) (c : Nat), ρ (.tmp s) = .slice A zs.length c → (execOp ρ o).run Try.prog W = .ok (.value (.int .i64 (zs.length : Int))) W) : (execOp a.eval o).run Try.prog W = .ok (.value (.int .i64 (zs.length : Int))) W := by
  have ow : OwF W B e f v zs := hf.ho K _ hK
  have h1 : a.eval (.tmp s) = v := hf.ho s _ hs
  rcases ow.form with ⟨rfl, rfl⟩ | ⟨g, c, rfl, hc⟩
  · exact hl a.eval W none 0 h1
  · exact hl a.eval W _ c h1
theorem PW.rlen {s : Nat} {v : Value} {e : TypeId} {f : Int → Value} {zs : List Int} (K : Nat) (hw : wantB ops fr o = some true) (hd : o.dst = some d) (hN : Nat.blt d N = true) (hs : look fr s = some (.vl v)) (hK : look fr K = some (.ro v e f zs))
    (hl : ∀ (ρ : Operand → Value) (W : World) (A : Option Addr) (c : Nat), ρ (.tmp s) = .slice A zs.length c → (execOp ρ o).run Try.prog W = .ok (.value (.int .i64 (zs.length : Int))) W) (hk : PW B N w0 ops rest ((d, .vl (.int .i64 (zs.length : Int))) :: fr) Q) : PW B N w0 ops (o :: rest) fr Q :=
  PW.val (r := .vl (.int .i64 (zs.length : Int))) hw hd hN rfl (fun a W hf => ⟨_, rlen_run hf hs hK hl, rfl⟩) hk
end
section
variable {x y : Operand} {dst : Option Tmp} {ty : TypeId} {pos : String} {after : Array Edge} {guard : Option (Nat × Bool)} {ρ : Operand → Value} {W : World}
end
end Go.Proofs.Ytcgkgcciogibkaa.Sy
/- Plain laws for texts of integers that are read. No program in sight. -/
set_option linter.unusedVariables false
set_option linter.unusedSimpArgs false
namespace Go.Proofs.Ytcgkgcciogibkaa.Ma
open Go
/-- The bytes of a text. -/
def byl (s : ByteArray) : List Int := s.data.toList.map fun b => (b.toNat : Int)
theorem byl_len (s : ByteArray) : (byl s).length = s.size := by simp [byl]
theorem byl_byte (s : ByteArray) (i : Nat) : 0 ≤ at0 (byl s) i ∧ at0 (byl s) i < 256 := by
  by_cases h : i < (byl s).length
  · rw [at0_of_lt h]
    have := (s.data.toList[i]'(by simpa [byl] using h)).toNat_lt
    simp only [byl, List.getElem_map]
    omega
  · rw [at0_ge (by omega)]; omega
theorem byl_at (s : ByteArray) {i : Nat} (h : i < s.size) : ((s[i]'h).toNat : Int) = at0 (byl s) i := by
  rw [at0_of_lt (by rw [byl_len]; exact h)]
  simp only [byl, List.getElem_map]
  rfl
theorem byl_drop (s : ByteArray) (p : Nat) : byl (s.extract p s.size) = (byl s).drop p := by
  unfold byl
  rw [ByteArray.data_extract, Array.toList_extract]
  simp only [List.extract_eq_take_drop, List.map_take, List.map_drop]
  rw [List.take_of_length_le]
  simp
theorem byl_inj {s t : ByteArray} (h : byl s = byl t) : s = t := bytes_inj h
/-- The value of a digit, or 36. -/
def dv (c : Int) : Int := if 48 ≤ c ∧ c ≤ 57 then c - 48 else if 65 ≤ c ∧ c ≤ 90 then c - 55 else if 97 ≤ c ∧ c ≤ 122 then c - 87 else 36
theorem dv_le (c : Int) : 0 ≤ dv c ∧ dv c ≤ 36 := by unfold dv; repeat' split
                                                     all_goals omega
/-- The number that digits make. -/
def pv (r : Int) (v : Int) : List Int → Int
  | [] => v
  | c :: l => pv r (v * r + dv c) l
theorem pv_app (r : Int) : ∀ (l : List Int) (v c : Int), pv r v (l ++ [c]) = pv r v l * r + dv c
  | [], v, c => rfl
  | x :: l, v, c => pv_app r l _ c
/-- What Parse hands back. -/
def parseR (r : Int) (s : List Int) : Except Int Int :=
  if ¬ (2 ≤ r ∧ r ≤ 36) then .error 1
  else if 20000 < s.length then .error 14
  else
    let b := if at0 s 0 = 45 ∨ at0 s 0 = 43 then s.drop 1 else s
    if b = [] then .error 2
    else if b.all fun c => decide (dv c < r) then .ok (sg (decide (at0 s 0 = 45)) (pv r 0 b)) else .error 2
/-- The rounds of Parse: the digits read so far, their number. -/
structure PrI (b r : Int) (ls : List Int) (i : Nat) (zs : List Int) : Prop where
  le : i ≤ ls.length
  ok : ∀ j, j < i → dv (at0 ls j) < r
  dg : Ma.dg b zs
  lv : Ma.lv b zs = pv r 0 (ls.take i)
  len : zs.length ≤ i
theorem PrI.start (b r : Int) (ls : List Int) : PrI b r ls 0 [] := ⟨by omega, fun j h => by omega, dg_nil _, by simp [Ma.lv, pv], by simp⟩
theorem take_snoc {ls : List Int} {i : Nat} (h : i < ls.length) : ls.take (i + 1) = ls.take i ++ [at0 ls i] := by
  rw [List.take_add_one, at0_of_lt h]; simp [h]
theorem pv_step {r : Int} {ls : List Int} {i : Nat} (h : i < ls.length) : pv r 0 (ls.take (i + 1)) = pv r 0 (ls.take i) * r + dv (at0 ls i) := by rw [take_snoc h, pv_app]
/-- The rounds within: limbs times the radix, and what is carried. -/
structure PrJ (b r d : Int) (ys : List Int) (k : Nat) (zs : List Int) (cc : Int) : Prop where
  le : k ≤ ys.length
  len : zs.length = ys.length
  dg : Ma.dg b zs
  up : zs.drop k = ys.drop k
  eq : Ma.lv b (zs.take k) + b ^ k * cc = Ma.lv b (ys.take k) * r + d
  c0 : 0 ≤ cc
  c1 : cc ≤ 36
theorem PrJ.start {b r d : Int} {ys : List Int} (h : Ma.dg b ys) (h0 : 0 ≤ d) (h1 : d ≤ 36) : PrJ b r d ys 0 ys d := ⟨by omega, rfl, h, rfl, by simp [Ma.lv], h0, h1⟩
theorem PrJ.at {b r d : Int} {ys zs : List Int} {k : Nat} {cc : Int} (h : PrJ b r d ys k zs cc) (hk : k < ys.length) : at0 zs k = at0 ys k := by
  have e := h.up
  have a1 := h.len
  have hz : k < zs.length := by rw [a1]; exact hk
  rw [List.drop_eq_getElem_cons hz, List.drop_eq_getElem_cons hk] at e
  injection e with e1 _
  rw [at0_of_lt hz, at0_of_lt hk, e1]
theorem PrJ.step {b r d : Int} {ys zs : List Int} {k : Nat} {cc n : Int} (hb : 65536 ≤ b) (h : PrJ b r d ys k zs cc) (hk : k < ys.length) (hr0 : 2 ≤ r) (hr : r ≤ 36) (hn : n = at0 zs k * r + cc) (hy : Ma.dg b ys) : PrJ b r d ys (k + 1) (zs.set k (n % b)) (n / b) := by
  have hb0 : (0 : Int) < b := by omega
  have a := dg_at hy hb0 k
  have e0 := h.at hk
  have hl := h.len
  have c0 := h.c0
  have c1 := h.c1
  have n0 : 0 ≤ n := by
    have := Int.mul_nonneg a.1 (show (0 : Int) ≤ r by omega)
    rw [hn, e0]; omega
  have n1 : n < b * 37 := by
    have h1 := Int.mul_le_mul_of_nonneg_right (show at0 ys k ≤ b - 1 by omega) (show (0 : Int) ≤ r by omega)
    have h2 := Int.mul_le_mul_of_nonneg_left hr (show (0 : Int) ≤ b - 1 by omega)
    rw [hn, e0]
    have h3 : (b - 1) * 36 = b * 36 - 36 := by omega
    omega
  have m0 := Int.emod_nonneg n (Int.ne_of_gt hb0)
  have m1 := Int.emod_lt_of_pos n hb0
  have me := Int.mul_ediv_add_emod n b
  refine ⟨by omega, by simpa using hl, dg_set h.dg _ m0 m1, ?_, ?_, Int.ediv_nonneg n0 (by omega), ?_⟩
  · rw [List.drop_set_of_lt (by omega)]
    have := congrArg (List.drop 1) h.up
    rw [List.drop_drop, List.drop_drop] at this
    exact this
  · have t1 : (zs.set k (n % b)).take (k + 1) = zs.take k ++ [n % b] := by
      rw [take_snoc (by simp; omega), at0_put_self _ (by omega), List.take_set_of_le (Nat.le_refl k)]
    have t2 : (zs.take k).length = k := by simp; omega
    rw [t1, lv_snoc, t2, lv_take_succ _ _ _ hk, Int.pow_succ]
    have e1 := h.eq
    rw [e0] at hn
    have e3 : b ^ k * b * (n / b) = b ^ k * (b * (n / b)) := Int.mul_assoc _ _ _
    have e4 : b ^ k * n = b ^ k * (at0 ys k * r) + b ^ k * cc := by rw [hn, Int.mul_add]
    have e5 : b ^ k * (b * (n / b)) + b ^ k * (n % b) = b ^ k * n := by rw [← Int.mul_add, me]
    have e6 : (Ma.lv b (ys.take k) + b ^ k * at0 ys k) * r = Ma.lv b (ys.take k) * r + b ^ k * (at0 ys k * r) := by rw [Int.add_mul, Int.mul_assoc]
    rw [e6, e3]
    omega
  · have : n / b < 37 := Int.ediv_lt_of_lt_mul hb0 (by rw [Int.mul_comm]; exact n1)
    omega
theorem PrJ.fin {b r d : Int} {ys zs : List Int} {cc : Int} (h : PrJ b r d ys ys.length zs cc) : Ma.lv b zs + b ^ zs.length * cc = Ma.lv b ys * r + d := by
  have e := h.eq
  have l := h.len
  rw [List.take_of_length_le (by omega), List.take_of_length_le (Nat.le_refl _), ← l] at e
  exact e
theorem PrI.no {b r : Int} {ls ys zs : List Int} {i : Nat} (h : PrI b r ls i ys) (hi : i < ls.length) (hd : dv (at0 ls i) < r) (h2 : PrJ b r (dv (at0 ls i)) ys ys.length zs 0) : PrI b r ls (i + 1) zs := by
  have e := h2.fin
  refine ⟨by omega, fun j hj => ?_, h2.dg, ?_, by have := h2.len; have := h.len; omega⟩
  · by_cases e : j = i
    · subst e; exact hd
    · exact h.ok j (by omega)
  · rw [pv_step hi, ← h.lv]; omega
theorem PrI.yes {b r : Int} {ls ys zs : List Int} {i : Nat} {cc : Int} (hb : 65536 ≤ b) (h : PrI b r ls i ys) (hi : i < ls.length) (hd : dv (at0 ls i) < r) (h2 : PrJ b r (dv (at0 ls i)) ys ys.length zs cc) : PrI b r ls (i + 1) (zs ++ [cc]) := by
  have e := h2.fin
  refine ⟨by omega, fun j hj => ?_, dg_append.2 ⟨h2.dg, fun x hx => ?_⟩, ?_, by have := h2.len; have := h.len; simp; omega⟩
  · by_cases e : j = i
    · subst e; exact hd
    · exact h.ok j (by omega)
  · have c0 := h2.c0
    have c1 := h2.c1
    rw [List.mem_singleton] at hx
    omega
  · rw [lv_snoc, pv_step hi, ← h.lv]; exact e
theorem all_at {ls : List Int} {r : Int} : (ls.all fun c => decide (dv c < r)) = true ↔ ∀ j, j < ls.length → dv (at0 ls j) < r := by
  rw [List.all_eq_true]
  constructor
  · intro h j hj
    have := h _ (List.getElem_mem hj)
    rw [at0_of_lt hj]
    simpa using this
  · intro h x hx
    obtain ⟨j, hj, rfl⟩ := List.getElem_of_mem hx
    have := h j hj
    rw [at0_of_lt hj] at this
    simpa using this
end Go.Proofs.Ytcgkgcciogibkaa.Ma
/- The contract of the program's Power, by rules. -/
set_option linter.unusedVariables false
set_option linter.unusedSimpArgs false
namespace Go.Proofs.Ytcgkgcciogibkaa.Sy
open Go Go.RowKit Ma
end Go.Proofs.Ytcgkgcciogibkaa.Sy
/- The contract of the program's Power, in one; powers of powers of two. -/
set_option linter.unusedVariables false
set_option linter.unusedSimpArgs false
namespace Go.Proofs.Ytcgkgcciogibkaa.Sy
open Go Go.RowKit Ma
/-- What Power hands back. -/
def KP (x : Int) (n : Nat) : Know := if wid (pat (x ^ n)) ≤ 65536 then K2 (KI (x ^ n)) (KV (.int .i64 0)) else K2 (KI 0) (KV (.int .i64 14))
theorem KP.st (x : Int) (n : Nat) : St (KP x n) := by unfold KP; split <;> exact K2.st (KI.st _) (KV.st _)
theorem KP.ok {x : Int} {n : Nat} (h : wid (pat (x ^ n)) ≤ 65536) : KP x n = K2 (KI (x ^ n)) (KV (.int .i64 0)) := if_pos h
/-! ### Powers of powers of two -/
end Go.Proofs.Ytcgkgcciogibkaa.Sy
/- The reference's Length, Power, Root by rules. -/
set_option linter.unusedVariables false
set_option linter.unusedSimpArgs false
namespace Go.Proofs.Ytcgkgcciogibkaa.Sy
open Go Go.RowKit Ma
/-- The rounds of Root. -/
structure Rq (x : Int) (m t : Nat) (q : Int) : Prop where
  q0 : 0 ≤ q
  lo : q * q ≤ x
  hi : x < (q + 2 ^ t) * (q + 2 ^ t)
  le : t ≤ m
theorem Rq.start {x : Int} {w : Nat} (h : wid (x.natAbs : Int) = w) (hx : 0 ≤ x) : Rq x (w / 2 + 1) (w / 2 + 1) 0 := by
  refine ⟨by omega, by omega, ?_, Nat.le_refl _⟩
  have h1 := wid_lt (x.natAbs : Int)
  have h2 := pow_le (b := 2) (by decide) (show wid (x.natAbs : Int) ≤ (w / 2 + 1) + (w / 2 + 1) by omega)
  rw [Int.pow_add] at h2
  rw [Int.zero_add]
  omega
theorem Rq.up {x q : Int} {m i : Nat} (h : Rq x m (i + 1) q) (hq : (q + 2 ^ i) * (q + 2 ^ i) ≤ x) : Rq x m i (q + 2 ^ i) := by
  have hp : (0 : Int) < 2 ^ i := Int.pow_pos (by decide)
  have := h.hi
  have e : q + 2 ^ (i + 1) = q + 2 ^ i + 2 ^ i := by rw [Int.pow_succ]; omega
  rw [e] at this
  exact ⟨by have := h.q0; omega, hq, this, by have := h.le; omega⟩
theorem Rq.down {x q : Int} {m i : Nat} (h : Rq x m (i + 1) q) (hq : ¬ (q + 2 ^ i) * (q + 2 ^ i) ≤ x) : Rq x m i q := ⟨h.q0, h.lo, by omega, by have := h.le; omega⟩
theorem Rq.fin {x q r : Int} {m : Nat} (h : Rq x m 0 q) (h0 : 0 ≤ r) (h1 : r * r ≤ x) (h2 : x < (r + 1) * (r + 1)) : q = r := by
  have a := h.hi
  rw [Int.pow_zero] at a
  have b := h.lo
  have c := h.q0
  rcases Int.lt_trichotomy q r with e | e | e
  · have := Int.mul_le_mul (show q + 1 ≤ r by omega) (show q + 1 ≤ r by omega) (by omega) h0
    omega
  · exact e
  · have := Int.mul_le_mul (show r + 1 ≤ q by omega) (show r + 1 ≤ q by omega) (by omega) c
    omega
theorem Rq.bd {x q : Int} {m t n : Nat} (h : Rq x m t q) (X : Go.Proofs.Ytcgkgcciogibkaa.bd n x) : Go.Proofs.Ytcgkgcciogibkaa.bd n q := by
  have a := h.lo
  have b := h.q0
  have c : q ≤ x := by
    by_cases e : q = 0
    · rw [e] at a ⊢; omega
    · have := Int.mul_le_mul_of_nonneg_right (show 1 ≤ q by omega) b
      omega
  unfold Go.Proofs.Ytcgkgcciogibkaa.bd at *
  omega

end Go.Proofs.Ytcgkgcciogibkaa.Sy
/- The reference's Bits and Of by rules. -/
set_option linter.unusedVariables false
set_option linter.unusedSimpArgs false
namespace Go.Proofs.Ytcgkgcciogibkaa.Sy
open Go Go.RowKit Ma
end Go.Proofs.Ytcgkgcciogibkaa.Sy
/- The reference's Bit, Boole, Count, Field, Deposit by rules. -/
set_option linter.unusedVariables false
set_option linter.unusedSimpArgs false
namespace Go.Proofs.Ytcgkgcciogibkaa.Sy
open Go Go.RowKit Ma
theorem signed {x : Int} {u : Value} {W : World} (h : KJ x u W) : ∃ A l c, u = .agg #[.bool (decide (x < 0)), .slice A l c] := by
  obtain ⟨m, A, l, c, e, h⟩ := h
  obtain ⟨_, _, _, _, _, _, _, hm⟩ := RJ.num h
  exact ⟨A, l, c, by rw [e, hm]⟩
end Go.Proofs.Ytcgkgcciogibkaa.Sy
/- The contract of the program's Gcd, by rules. -/
set_option linter.unusedVariables false
set_option linter.unusedSimpArgs false
namespace Go.Proofs.Ytcgkgcciogibkaa.Sy
open Go Go.RowKit Ma
end Go.Proofs.Ytcgkgcciogibkaa.Sy
/- The contract of the program's Root, by rules. -/
set_option linter.unusedVariables false
set_option linter.unusedSimpArgs false
namespace Go.Proofs.Ytcgkgcciogibkaa.Sy
open Go Go.RowKit Ma
section
variable {x q r : Int}
theorem tq (hx : 0 < x) : x.tdiv q = x / q := Int.tdiv_eq_ediv_of_nonneg (by omega)
end
end Go.Proofs.Ytcgkgcciogibkaa.Sy
/- Odd, Int64 of the program and of the reference by rules. -/
set_option linter.unusedVariables false
set_option linter.unusedSimpArgs false
namespace Go.Proofs.Ytcgkgcciogibkaa.Sy
open Go Go.RowKit Ma
section
variable {x y : Operand} {dst : Option Tmp} {ty : TypeId} {pos : String} {after : Array Edge} {guard : Option (Nat × Bool)} {ρ : Operand → Value} {W : World} {a b z : Int}
theorem r_i64u (h1 : ρ x = .int .i64 a) (h : 0 ≤ a ∧ a < 9223372036854775808) : (execOp ρ ⟨dst, .convert 3 107 x, ty, pos, after, guard⟩).run Try.prog W = .ok (.value (.int .u64 a)) W := by
  have e : IntKind.u64.wrap a = a := IntWalk.u64_in _ (by omega)
  go_simp
  done
end
section
variable {B N : Nat} {w0 : World} {fr : List (Nat × AV)} {fn : Func}
/-- Two results in slots. -/
theorem SX.done2t {e : Exit} {s t : Nat} {u v : Value} (he : e = .ret ∨ e = .normal) (hr : fn.results = #[.tmp s, .tmp t]) (hs : look fr s = some (.vl u)) (ht : look fr t = some (.vl v)) (hB : B = w0.heap.size) : SX B N w0 e fr (bodyPost Try.prog fn (Ret w0 (K2 (KV u) (KV v)))) := fun a W hf => by
  have a1 : a.tmps.getD s undef = u := hf.ho s _ hs
  have a2 : a.tmps.getD t undef = v := hf.ho t _ ht
  have hrun : (results fn a.tmps).run Try.prog W = .ok (.tuple #[a.tmps.getD s undef, a.tmps.getD t undef]) W := by
    unfold results
    simp [hr, go_sem]
  rw [a1, a2] at hrun
  have key : a.defers = [] ∧ ∃ v', (results fn a.tmps).run Try.prog W = .ok v' W ∧ Ret w0 (K2 (KV u) (KV v)) (.returned v') W :=
    ⟨hf.df, _, hrun, ⟨_, rfl, ⟨u, v, rfl, rfl, rfl⟩, by have := hf.be; rw [hB] at this; exact this⟩⟩
  rcases he with rfl | rfl <;> exact key
end
end Go.Proofs.Ytcgkgcciogibkaa.Sy
/- A walk by rules: strings: their length, their bytes, parts of them; contracts of strings.HasPrefix, IndexByte. -/
set_option linter.unusedVariables false
set_option linter.unusedSimpArgs false
namespace Go.Proofs.Ytcgkgcciogibkaa.Sy
open Go Go.RowKit Ma
section
variable {x y z : Operand} {dst : Option Tmp} {ty : TypeId} {pos : String} {after : Array Edge} {guard : Option (Nat × Bool)} {ρ : Operand → Value} {W : World} {a b : Int} {s t : ByteArray}
theorem r_slen (h1 : ρ x = .string s) : (execOp ρ ⟨dst, .call ⟨.builtin .len, #[x], #[9]⟩, ty, pos, after, guard⟩).run Try.prog W = .ok (.value (.int .i64 (s.size : Int))) W := by
  go_simp
theorem r_sidx {i : Nat} (h1 : ρ x = .string s) (h2 : ρ y = .int .i64 (i : Int)) (hi : i < s.size) : (execOp ρ ⟨dst, .index 9 x y, ty, pos, after, guard⟩).run Try.prog W = .ok (.value (.int .u8 (at0 (byl s) i))) W := by
  rw [← byl_at s hi]
  go_simp
theorem r_sfrom {p : Nat} (h1 : ρ x = .string s) (h2 : ρ y = .int .i64 (p : Int)) (hp : p ≤ s.size) : (execOp ρ ⟨dst, .slice 9 x (some y) none none, ty, pos, after, guard⟩).run Try.prog W = .ok (.value (.string (s.extract p s.size))) W := by
  go_simp
theorem r_seq {c : Bool} (h1 : ρ x = .string s) (h2 : ρ y = .string t) (e : (s.toList == t.toList) = c) : (execOp ρ ⟨dst, .binOp .eql 9 x y 9, ty, pos, after, guard⟩).run Try.prog W = .ok (.value (.bool c)) W := by
  subst e
  go_simp
theorem r_sadd (h1 : ρ x = .string s) (h2 : ρ y = .string t) (h : s.size + t.size ≤ 9223372036854775807) : (execOp ρ ⟨dst, .binOp .add 9 x y 9, ty, pos, after, guard⟩).run Try.prog W = .ok (.value (.string (s ++ t))) W := by
  have e := run_string_add_sum (P := Try.prog) W s t h
  go_simp
theorem r_ge8 {c : Bool} (h1 : ρ x = .int .u8 a) (h2 : ρ y = .int .u8 b) (e : decide (a ≥ b) = c) : (execOp ρ ⟨dst, .binOp .geq 5 x y 5, ty, pos, after, guard⟩).run Try.prog W = .ok (.value (.bool c)) W := by
  subst e
  go_simp
theorem r_le8 {c : Bool} (h1 : ρ x = .int .u8 a) (h2 : ρ y = .int .u8 b) (e : decide (a ≤ b) = c) : (execOp ρ ⟨dst, .binOp .leq 5 x y 5, ty, pos, after, guard⟩).run Try.prog W = .ok (.value (.bool c)) W := by
  subst e
  go_simp
theorem r_eq8 {c : Bool} (h1 : ρ x = .int .u8 a) (h2 : ρ y = .int .u8 b) (e : decide (a = b) = c) : (execOp ρ ⟨dst, .binOp .eql 5 x y 5, ty, pos, after, guard⟩).run Try.prog W = .ok (.value (.bool c)) W := by
  subst e
  go_simp
  rfl
theorem r_sub8 {c : Int} (h1 : ρ x = .int .u8 a) (h2 : ρ y = .int .u8 b) (e : a - b = c) (hc : 0 ≤ c ∧ c < 256) : (execOp ρ ⟨dst, .binOp .sub 5 x y 5, ty, pos, after, guard⟩).run Try.prog W = .ok (.value (.int .u8 c)) W := by
  subst e
  have e : IntKind.u8.wrap (a - b) = a - b := IntWalk.u8_in _ (by omega)
  go_simp
  done
theorem r_8i (h1 : ρ x = .int .u8 a) (h : 0 ≤ a ∧ a < 256) : (execOp ρ ⟨dst, .convert 5 3 x, ty, pos, after, guard⟩).run Try.prog W = .ok (.value (.int .i64 a)) W := by
  have e : IntKind.i64.wrap a = a := IntWalk.i64_in _ (by omega)
  go_simp
  done
end
theorem toList_byl (s t : ByteArray) : (s.toList == t.toList) = decide (byl s = byl t) := by
  rw [ByteArray.toList_eq, ByteArray.toList_eq]
  by_cases h : s = t
  · subst h; simp
  · have h1 : byl s ≠ byl t := fun e => h (byl_inj e)
    rw [decide_eq_false h1]
    rw [← Bool.not_eq_true, beq_iff_eq]
    intro e
    apply h
    cases s; cases t; congr; exact Array.toList_inj.1 e
theorem empty_eq (s : ByteArray) : (s.toList == (ByteArray.mk #[]).toList) = decide (s.size = 0) := by
  rw [toList_byl]
  congr 1
  apply propext
  show byl s = [] ↔ _
  rw [← byl_len]
  exact List.length_eq_zero_iff.symm
theorem k_hasPrefix (s p : ByteArray) {c : Bool} (e : Lib.hasPrefix s.data.toList p.data.toList = c) : CallOk 100 [KV (.string s), KV (.string p)] (KV (.bool c)) :=
  call2 (fun args W => by go_simp) fun W u v e1 e2 => by
    obtain rfl : u = _ := e1
    obtain rfl : v = _ := e2
    subst e
    exact (Try.strings_HasPrefix s p W).mono fun e W' ⟨e1, e2⟩ => ⟨_, e1, rfl, e2 ▸ Nw.refl _⟩
theorem k_indexByte (s : ByteArray) (c : Int) {r : Int} (e : Lib.indexByte s.data.toList c.toNat.toUInt8 = r) : CallOk 121 [KV (.string s), KV (.int .u8 c)] (KV (.int .i64 r)) :=
  call2 (fun args W => by go_simp) fun W u v e1 e2 => by
    obtain rfl : u = _ := e1
    obtain rfl : v = _ := e2
    subst e
    exact (Try.strings_IndexByte s c W).mono fun e W' ⟨e1, e2⟩ => ⟨_, e1, rfl, e2 ▸ Nw.refl _⟩
theorem pre_one (s : ByteArray) (b : UInt8) : Lib.hasPrefix s.data.toList [b] = decide (0 < s.size ∧ at0 (byl s) 0 = (b.toNat : Int)) := by
  unfold Lib.hasPrefix
  have hs : s.size = s.data.toList.length := by simp
  unfold byl
  rw [hs]
  cases s.data.toList with
  | nil => simp
  | cons x l =>
    simp only [List.isPrefixOf, Bool.and_true, List.length_cons, List.map_cons, at0, List.getD_cons_zero]
    by_cases h : b = x
    · subst h; simp
    · have h2 : ¬ ((x.toNat : Int) = (b.toNat : Int)) := fun e => h (UInt8.toNat_inj.1 (by omega)).symm
      simp [h, h2]
/-- Where a byte stands among the digits. -/
def ixd (c : Int) : Int := if 48 ≤ c ∧ c ≤ 57 then c - 48 else if 65 ≤ c ∧ c ≤ 90 then c - 55 else -1
theorem index_digs {c : Int} (h0 : 0 ≤ c) (h1 : c < 256) : Lib.indexByte digs.data.toList c.toNat.toUInt8 = ixd c := by
  have key : ∀ n : Fin 256, Lib.indexByte digs.data.toList n.val.toUInt8 = ixd (n.val : Int) := by decide +kernel
  have := key ⟨c.toNat, by omega⟩
  rw [Int.toNat_of_nonneg h0] at this
  exact this
/-- What Parse hands back: the program's, the reference's. -/
def KPI : Except Int Int → Know
  | .ok z => K2 (KI z) (KV (.int .i64 0))
  | .error e => K2 (KI 0) (KV (.int .i64 e))
def KPJ : Except Int Int → Know
  | .ok z => K2 (KJ z) (KV (.int .i64 0))
  | .error e => K2 (KJ 0) (KV (.int .i64 e))
theorem parse_radix {r : Int} {s : List Int} (h : ¬ (2 ≤ r ∧ r ≤ 36)) : parseR r s = .error 1 := if_pos h
theorem parse_long {r : Int} {s : List Int} (h : 2 ≤ r ∧ r ≤ 36) (hl : 20000 < s.length) : parseR r s = .error 14 := by
  unfold parseR; rw [if_neg (fun x => x h), if_pos hl]
theorem parse_form {r : Int} {s b : List Int} (h : 2 ≤ r ∧ r ≤ 36) (hl : ¬ 20000 < s.length) (hb : b = if at0 s 0 = 45 ∨ at0 s 0 = 43 then s.drop 1 else s) : parseR r s = if b = [] then .error 2 else if b.all fun c => decide (dv c < r) then .ok (sg (decide (at0 s 0 = 45)) (pv r 0 b)) else .error 2 := by
  subst hb
  unfold parseR; rw [if_neg (fun x => x h), if_neg hl]
theorem form_empty {r z : Int} {b : List Int} {g : Bool} (h : b.length = 0) : (if b = [] then Except.error 2 else if b.all fun c => decide (dv c < r) then .ok (sg g (pv r 0 b)) else .error 2 : Except Int Int) = .error 2 := by
  rw [if_pos (List.eq_nil_of_length_eq_zero h)]
theorem form_bad {r : Int} {b : List Int} {g : Bool} {i : Nat} (hi : i < b.length) (h : dv (at0 b i) ≥ r) : (if b = [] then Except.error 2 else if b.all fun c => decide (dv c < r) then .ok (sg g (pv r 0 b)) else .error 2 : Except Int Int) = .error 2 := by
  have h1 : ¬ (b.all fun c => decide (dv c < r)) = true := fun h2 => by have := all_at.1 h2 i hi; omega
  rw [if_neg h1]
  split <;> rfl
theorem form_ok {r : Int} {b : List Int} {g : Bool} (h0 : ¬ b.length = 0) (h : ∀ j, j < b.length → dv (at0 b j) < r) : (if b = [] then Except.error 2 else if b.all fun c => decide (dv c < r) then .ok (sg g (pv r 0 b)) else .error 2 : Except Int Int) = .ok (sg g (pv r 0 b)) := by
  rw [if_neg (fun e => h0 (by rw [e]; rfl)), if_pos (all_at.2 h)]
end Go.Proofs.Ytcgkgcciogibkaa.Sy
/- Plain laws for texts of integers that are written. -/
set_option linter.unusedVariables false
set_option linter.unusedSimpArgs false
namespace Go.Proofs.Ytcgkgcciogibkaa.Ma
open Go
/-- A text of one digit. -/
def chs (d : Int) : ByteArray := digs.extract d.toNat (d.toNat + 1)
theorem chs_byl {d : Int} (h0 : 0 ≤ d) (h1 : d < 36) : byl (chs d) = [dch d] := by
  have key : ∀ k : Fin 36, byl (chs (k.val : Int)) = [dch (k.val : Int)] := by decide +kernel
  have := key ⟨d.toNat, by omega⟩
  rwa [Int.toNat_of_nonneg h0] at this
theorem byl_append (s t : ByteArray) : byl (s ++ t) = byl s ++ byl t := by
  unfold byl
  rw [ByteArray.data_append, Array.toList_append, List.map_append]
theorem size_byl (s : ByteArray) : s.size = (byl s).length := (byl_len s).symm
/-- The rounds of Text: digits written so far, what is left. -/
def TyI (X r : Int) (M : Nat) (zs : List Int) (t : ByteArray) : Prop := ∃ ds, dg r ds ∧ X = lv r ds + r ^ ds.length * lv 65536 zs ∧ byl t = (ds.map dch).reverse ∧ (lv 65536 zs = 0 → top ds) ∧ 2 ^ ds.length * lv 65536 zs ≤ X ∧ ds.length ≤ M
theorem TyI.start {X r : Int} {M : Nat} {zs : List Int} (h : lv 65536 zs = X) : TyI X r M zs ⟨#[]⟩ := ⟨[], dg_nil _, by simp [lv, h], rfl, fun _ => top_nil, by simp [h], Nat.zero_le _⟩
theorem TyI.size {X r : Int} {M : Nat} {zs : List Int} {t : ByteArray} (h : TyI X r M zs t) : t.size ≤ M := by
  obtain ⟨ds, _, _, h3, _, _, h6⟩ := h
  rw [size_byl, h3]; simpa using h6
theorem TyI.step {X r : Int} {M : Nat} {zs zs' : List Int} {t : ByteArray} (h : TyI X r M zs t) (hr0 : 2 ≤ r) (hr : r ≤ 36) (hX : X < 2 ^ M) (h0 : 0 < lv 65536 zs) (he : lv 65536 zs' = lv 65536 zs / r) : TyI X r M zs' (chs (lv 65536 zs % r) ++ t) := by
  obtain ⟨ds, h1, h2, h3, h4, h5, h6⟩ := h
  generalize lv 65536 zs = D at h0 he h2 h4 h5 ⊢
  unfold TyI
  generalize lv 65536 zs' = D' at he ⊢
  have m0 := Int.emod_nonneg D (show r ≠ 0 by omega)
  have m1 := Int.emod_lt_of_pos D (show 0 < r by omega)
  have me := Int.mul_ediv_add_emod D r
  have hq := Int.ediv_nonneg (a := D) (b := r) (by omega) (by omega)
  have p2 : (0 : Int) < 2 ^ ds.length := Int.pow_pos (by decide)
  refine ⟨ds ++ [D % r], dg_append.2 ⟨h1, fun x hx => by rw [List.mem_singleton] at hx; omega⟩, ?_, ?_, fun hz => ?_, ?_, ?_⟩
  · rw [lv_snoc, List.length_append, List.length_singleton, Int.pow_succ, he, h2]
    generalize r ^ ds.length = p
    have e1 : p * D = p * (D % r) + p * r * (D / r) := by
      rw [Int.mul_assoc, ← Int.mul_add]
      congr 1; omega
    omega
  · rw [byl_append, chs_byl m0 (by omega), h3]; simp
  · rw [top_at (by simp)]
    simp only [List.length_append, List.length_singleton, Nat.add_sub_cancel]
    have : at0 (ds ++ [D % r]) ds.length = D % r := by simp [at0]
    rw [this]
    rw [he] at hz
    rw [hz] at me
    omega
  · rw [List.length_append, List.length_singleton, Int.pow_succ, he, Int.mul_assoc]
    have : 2 * (D / r) ≤ D := by
      have := Int.mul_le_mul_of_nonneg_right hr0 hq
      omega
    have := Int.mul_le_mul_of_nonneg_left this (Int.le_of_lt p2)
    omega
  · rw [List.length_append, List.length_singleton]
    have : ds.length < M := by
      apply Classical.byContradiction
      intro hn
      have a1 := pow_le (b := 2) (by decide) (show M ≤ ds.length by omega)
      have a2 := Int.mul_le_mul_of_nonneg_left (show 1 ≤ D by omega) (Int.le_of_lt p2)
      omega
    omega
theorem TyI.fin {X r : Int} {M : Nat} {zs : List Int} {t : ByteArray} (h : TyI X r M zs t) (h0 : lv 65536 zs = 0) : ∃ ds, dg r ds ∧ top ds ∧ X = lv r ds ∧ byl t = (ds.map dch).reverse := by
  obtain ⟨ds, h1, h2, h3, h4, _⟩ := h
  exact ⟨ds, h1, h4 h0, by rw [h2, h0]; simp, h3⟩
theorem TyI.empty {x r : Int} {M : Nat} {zs : List Int} {t : ByteArray} (hr : 2 ≤ r) (h : TyI (x.natAbs : Int) r M zs t) (h0 : lv 65536 zs = 0) : t.size = 0 ↔ x = 0 := by
  obtain ⟨ds, h1, h2, h3, h4⟩ := h.fin h0
  rw [size_byl, h4]
  simp only [List.length_reverse, List.length_map]
  constructor
  · intro e
    rw [List.eq_nil_of_length_eq_zero e] at h3
    simp only [lv] at h3
    omega
  · intro e
    subst e
    apply Classical.byContradiction
    intro hn
    have hne : ds ≠ [] := fun e => hn (by rw [e]; rfl)
    have a1 := top_le (b := r) (by omega) h1 h2 hne
    have a2 := pos_pow (b := r) (by omega) (ds.length - 1)
    simp at h3
    omega
theorem txt_zero {r : Int} : Txt r 0 ⟨#[48]⟩ := ⟨[], dg_nil _, top_nil, rfl, rfl⟩
theorem TyI.txt {x r : Int} {M : Nat} {zs : List Int} {t : ByteArray} (h : TyI (x.natAbs : Int) r M zs t) (h0 : lv 65536 zs = 0) (hx : 0 < x) : Txt r x t := by
  obtain ⟨ds, h1, h2, h3, h4⟩ := h.fin h0
  exact ⟨ds, h1, h2, h3.symm, by rw [if_neg (by omega), if_neg (by omega)]; exact h4⟩
theorem TyI.txtn {x r : Int} {M : Nat} {zs : List Int} {t : ByteArray} (h : TyI (x.natAbs : Int) r M zs t) (h0 : lv 65536 zs = 0) (hx : x < 0) : Txt r x (⟨#[45]⟩ ++ t) := by
  obtain ⟨ds, h1, h2, h3, h4⟩ := h.fin h0
  refine ⟨ds, h1, h2, h3.symm, ?_⟩
  rw [if_neg (by omega), if_pos hx, ← h4]
  exact byl_append _ _
/-- The text of a number. -/
noncomputable def tstr (r x : Int) : ByteArray := @dite _ (∃ s, Txt r x s) (Classical.propDecidable _) (fun h => Classical.choose h) (fun _ => ⟨#[]⟩)
theorem tstr_eq {r x : Int} {s : ByteArray} (hr : 2 ≤ r) (h : Txt r x s) : s = tstr r x := by
  have hex : ∃ s, Txt r x s := ⟨s, h⟩
  unfold tstr
  rw [dif_pos hex]
  exact Txt.eq hr h (Classical.choose_spec hex)
end Go.Proofs.Ytcgkgcciogibkaa.Ma
/- A walk by rules: loops whose rounds begin on a base of their own. -/
set_option linter.unusedVariables false
set_option linter.unusedSimpArgs false
namespace Go.Proofs.Ytcgkgcciogibkaa.Sy
open Go Go.RowKit Ma
section
variable {B N : Nat} {w0 : World} {ops : Array Oper} {o : Oper} {rest : List Oper} {fr : List (Nat × AV)} {Q : Exit → Act → World → Prop} {d : Nat}
theorem Fr.rebase {a : Act} {W : World} (fr' : List (Nat × AV)) (hf : Fr B N w0 fr a W) (hsub : Sub fr' fr) (hv : freeB fr' = true) : Fr W.heap.size N W fr' a W := by
  have hf1 := hf.sub hsub.spec
  exact ⟨hf.df, hf.sz, Below.refl _ _, Nat.le_refl _, fun i v hi => (hf1.ho i v hi).base (free_look hv i v hi), hf1.di⟩
theorem SC.loopW {c : Code} {S : Type} (wb : S → World) (F : S → List (Nat × AV)) (P : S → Prop) (μ : S → Nat) (h0 : ∀ a W, Fr B N w0 fr a W → ∃ s, P s ∧ Fr (wb s).heap.size N (wb s) (F s) a W)
    (round : ∀ s, P s → SC (wb s).heap.size N (wb s) c (F s) (Exit.then (fun a W => ∃ s', P s' ∧ μ s' < μ s ∧ Fr (wb s').heap.size N (wb s') (F s') a W) Q)) : SC B N w0 (.loop c) fr Q := fun a W hf => by
  obtain ⟨s0, p0, f0⟩ := h0 a W hf
  refine wp_loop_ghost (fun n a w => ∃ s, P s ∧ μ s = n ∧ Fr (wb s).heap.size N (wb s) (F s) a w) (μ s0) ⟨s0, p0, rfl, f0⟩ ?_
  rintro n a w ⟨s, hp, rfl, hf⟩
  refine wp_mono (round s hp a w hf) fun e a' w' hq => ?_
  cases e with
  | normal => obtain ⟨s', h1, h2, h3⟩ := hq; exact ⟨μ s', h2, s', h1, rfl, h3⟩
  | exit id => exact hq
  | goto l => exact hq
  | ret => exact hq
  | panic ch => exact hq
  | outgrown => exact hq
theorem SX.backW {K : Act → World → Prop} (h : ∀ a W, Fr B N w0 fr a W → K a W) : SX B N w0 .normal fr (Exit.then K Q) := h
theorem SX.done2tW {fn : Func} {e : Exit} {s t : Nat} {u v : Value} {w1 : World} (he : e = .ret ∨ e = .normal) (hr : fn.results = #[.tmp s, .tmp t]) (hs : look fr s = some (.vl u)) (ht : look fr t = some (.vl v)) (hb : Below w1.heap.size w1 w0) (hB : B = w0.heap.size) : SX B N w0 e fr (bodyPost Try.prog fn (Ret w1 (K2 (KV u) (KV v)))) := fun a W hf => by
  have a1 : a.tmps.getD s undef = u := hf.ho s _ hs
  have a2 : a.tmps.getD t undef = v := hf.ho t _ ht
  have hrun : (results fn a.tmps).run Try.prog W = .ok (.tuple #[a.tmps.getD s undef, a.tmps.getD t undef]) W := by
    unfold results
    simp [hr, go_sem]
  rw [a1, a2] at hrun
  have hn : Nw w1 W := Nw.trans hb (by have := hf.be; rw [hB] at this; exact this)
  have key : a.defers = [] ∧ ∃ v', (results fn a.tmps).run Try.prog W = .ok v' W ∧ Ret w1 (K2 (KV u) (KV v)) (.returned v') W :=
    ⟨hf.df, _, hrun, ⟨_, rfl, ⟨u, v, rfl, rfl, rfl⟩, hn⟩⟩
  rcases he with rfl | rfl <;> exact key
end
section
variable {x y z : Operand} {dst : Option Tmp} {ty : TypeId} {pos : String} {after : Array Edge} {guard : Option (Nat × Bool)} {ρ : Operand → Value} {W : World}
theorem r_sdig {d : Int} (h1 : ρ x = .string digs) (h2 : ρ y = .int .i64 d) (h3 : ρ z = .int .i64 (d + 1)) (h0 : 0 ≤ d) (hd : d < 36) : (execOp ρ ⟨dst, .slice 9 x (some y) (some z) none, ty, pos, after, guard⟩).run Try.prog W = .ok (.value (.string (chs d))) W := by
  have hs : digs.size = 36 := by decide
  have e : (d + 1).toNat = d.toNat + 1 := by omega
  have e2 := run_slice_string (P := Try.prog) W 9 digs .i64 .i64 d (d + 1) Try.underlying9 h0 (by omega) (by rw [hs]; omega)
  rw [e] at e2
  go_simp
  rfl
end
theorem tx_dig {r a R : Int} (hr : 2 ≤ r ∧ r ≤ 36) (ha : 0 ≤ a ∧ a < 65536) (h0 : 0 ≤ R) (h1 : R < r) : 0 ≤ R * 65536 + a ∧ R * 65536 + a < 2359296 ∧ (R * 65536 + a) / r < 65536 ∧ 0 ≤ (R * 65536 + a) / r ∧ a + 65536 * R - r * ((R * 65536 + a) / r) = (R * 65536 + a) % r ∧ 0 ≤ (R * 65536 + a) % r ∧ (R * 65536 + a) % r < r := by
  have q0 : 0 ≤ R * 65536 + a := by omega
  have q1 := Int.mul_ediv_add_emod (R * 65536 + a) r
  have q2 := Int.emod_nonneg (R * 65536 + a) (show r ≠ 0 by omega)
  have q3 := Int.emod_lt_of_pos (R * 65536 + a) (show 0 < r by omega)
  have q4 : (R * 65536 + a) / r < 65536 := Int.ediv_lt_of_lt_mul (by omega) (by have := Int.mul_le_mul_of_nonneg_right (show R ≤ r - 1 by omega) (show (0 : Int) ≤ 65536 by decide); omega)
  have q5 := Int.ediv_nonneg q0 (show 0 ≤ r by omega)
  refine ⟨q0, by omega, q4, q5, by omega, q2, q3⟩
end Go.Proofs.Ytcgkgcciogibkaa.Sy
