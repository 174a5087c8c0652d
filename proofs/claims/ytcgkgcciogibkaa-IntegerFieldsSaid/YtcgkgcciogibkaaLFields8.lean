/- Parts Lw, Jw, Lv, Syq, Pw, Pk, Jx, Jy, Jz, in one file. -/
import Derived.Lib.RabinKarpLaws
import Derived.Test.YtcgkgcciogibkaaLFields3
import Derived.Test.YtcgkgcciogibkaaLFields4
import Derived.Test.YtcgkgcciogibkaaLFields5
import Derived.Test.YtcgkgcciogibkaaLFields6
import Derived.Test.YtcgkgcciogibkaaLFields7
/- Plain laws for the reference's width, bits, powers of two: digits to the base 65536. No program in sight. -/
set_option linter.unusedVariables false
set_option linter.unusedSimpArgs false
namespace Go.Proofs.Ytcgkgcciogibkaa.Ma
open Go
theorem pow16 (n : Nat) : (65536 : Int) ^ n = 2 ^ (16 * n) := by rw [Int.pow_mul]; rfl
theorem wid_half {t : Int} (h : 0 < t) : wid t = wid (t / 2) + 1 := by
  by_cases h1 : t = 1
  · subst h1; decide
  · have h2 : 0 < t / 2 := by omega
    have a1 := wid_lt (t / 2)
    have a2 := wid_le h2
    have a3 := wid_pos h2
    apply wid_of
    · rw [Int.pow_succ]; omega
    · omega
    · rw [show wid (t / 2) + 1 - 1 = wid (t / 2) - 1 + 1 by omega, Int.pow_succ]; omega
theorem wid_lvJ {zs : List Int} (d : dg 65536 zs) (t : top zs) (hne : zs ≠ []) : wid (lv 65536 zs) = 16 * (zs.length - 1) + wid (at0 zs (zs.length - 1)) := by
  have hl : 0 < zs.length := List.length_pos_iff.2 hne
  have e := lv_take_succ 65536 zs (zs.length - 1) (by omega)
  rw [Nat.sub_add_cancel hl, List.take_length] at e
  have a0 := lv_nonneg (b := 65536) (by decide) (dg_take d (zs.length - 1))
  have a1 := lv_lt (b := 65536) (by decide) (dg_take d (zs.length - 1))
  rw [List.length_take, Nat.min_eq_left (by omega)] at a1
  have b0 := dg_at d (by decide) (zs.length - 1)
  have b1 := (top_at hne).1 t
  rw [pow16] at e a1
  have c0 := wid_lt (at0 zs (zs.length - 1))
  have c1 := wid_le (z := at0 zs (zs.length - 1)) (by omega)
  have c2 := wid_pos (z := at0 zs (zs.length - 1)) (by omega)
  have hq : (0 : Int) < 2 ^ (16 * (zs.length - 1)) := Int.pow_pos (by decide)
  apply wid_of
  · rw [e, Int.pow_add]
    have : 2 ^ (16 * (zs.length - 1)) * (at0 zs (zs.length - 1) + 1) ≤ 2 ^ (16 * (zs.length - 1)) * (2 : Int) ^ wid (at0 zs (zs.length - 1)) := Int.mul_le_mul_of_nonneg_left (by omega) (by omega)
    rw [Int.mul_add] at this
    omega
  · omega
  · rw [e, show 16 * (zs.length - 1) + wid (at0 zs (zs.length - 1)) - 1 = 16 * (zs.length - 1) + (wid (at0 zs (zs.length - 1)) - 1) by omega, Int.pow_add]
    have : 2 ^ (16 * (zs.length - 1)) * (2 : Int) ^ (wid (at0 zs (zs.length - 1)) - 1) ≤ 2 ^ (16 * (zs.length - 1)) * at0 zs (zs.length - 1) := Int.mul_le_mul_of_nonneg_left c1 (by omega)
    omega
/-- The rounds of width. -/
def Wd (W : Nat) (n t : Int) : Prop := 0 ≤ t ∧ t < 65536 ∧ n + (wid t : Int) = W ∧ 0 ≤ n
theorem Wd.start {zs : List Int} (d : dg 65536 zs) (t : top zs) (hne : zs ≠ []) : Wd (wid (lv 65536 zs)) (16 * ((zs.length : Int) - 1)) (at0 zs (zs.length - 1)) := by
  have b0 := dg_at d (by decide) (zs.length - 1)
  have hl : 0 < zs.length := List.length_pos_iff.2 hne
  refine ⟨b0.1, b0.2, ?_, by omega⟩
  rw [wid_lvJ d t hne]; omega
theorem Wd.step {W : Nat} {n t : Int} (h : Wd W n t) (ht : 0 < t) : Wd W (n + 1) (t / 2) := by
  obtain ⟨h1, h2, h3, h4⟩ := h
  have := wid_half ht
  exact ⟨by omega, by omega, by omega, by omega⟩
theorem Wd.fin {W : Nat} {n t : Int} (h : Wd W n t) (ht : ¬ 0 < t) : n = W := by
  obtain ⟨h1, h2, h3, h4⟩ := h
  obtain rfl : t = 0 := by omega
  rw [wid_zero] at h3
  omega
theorem lv_tbJ {ts : List Int} (d : dg 65536 ts) (j k : Nat) (hk : k < 16) : tb (lv 65536 ts) (16 * j + k) = tb (at0 ts j) k := by
  have hp := pos_pow (show (0 : Int) < 65536 by decide) j
  rw [tb_shift, ← pow16]
  by_cases hj : j < ts.length
  · have e1 := lv_split 65536 ts j (by omega)
    have e2 := lv_drop 65536 ts j hj
    have t0 := lv_nonneg (show (0 : Int) < 65536 by decide) (dg_take d j)
    have t1 := lv_lt (show (0 : Int) < 65536 by decide) (dg_take d j)
    rw [List.length_take, Nat.min_eq_left (by omega)] at t1
    rw [e1, Int.add_mul_ediv_left _ _ (by omega), Int.ediv_eq_zero_of_lt t0 t1, Int.zero_add, e2]
    exact tb_add_mul _ _ (n := 16) hk
  · have t0 := lv_nonneg (show (0 : Int) < 65536 by decide) d
    have t1 := lv_lt (show (0 : Int) < 65536 by decide) d
    have t2 := pow_le (b := 65536) (by decide) (show ts.length ≤ j by omega)
    rw [Int.ediv_eq_zero_of_lt t0 (by omega), at0_ge (by omega)]
/-- The rounds of set. -/
theorem half_pow (t : Int) (k : Nat) : t / 2 ^ k / 2 = t / 2 ^ (k + 1) := by
  rw [Int.pow_succ, Int.ediv_ediv_of_nonneg (Int.le_of_lt (Int.pow_pos (by decide)))]
theorem set_fin {ts : List Int} (d : dg 65536 ts) (i : Nat) : decide (at0 ts (i / 16) / 2 ^ (i % 16) % 2 = 1) = tb (lv 65536 ts) i := by
  have := lv_tbJ d (i / 16) (i % 16) (by omega)
  rw [Nat.div_add_mod] at this
  rw [this]; rfl
/-- The rounds of Two. -/
def Tw (n i : Nat) (zs : List Int) : Prop := i ≤ n % 16 ∧ zs = (List.replicate (n / 16 + 1) 0).set (n / 16) (2 ^ i)
theorem Tw.start (n : Nat) : Tw n 0 ((List.replicate (n / 16 + 1) 0).set (n / 16) 1) := ⟨by omega, rfl⟩
theorem Tw.len {n i : Nat} {zs : List Int} (h : Tw n i zs) : zs.length = n / 16 + 1 := by rw [h.2]; simp
theorem at0_put_self {zs : List Int} {i : Nat} (x : Int) (h : i < zs.length) : at0 (zs.set i x) i = x := by simp [at0, List.getD_eq_getElem?_getD, h]
theorem at0_put_ne {zs : List Int} {i j : Nat} (x : Int) (h : i ≠ j) : at0 (zs.set i x) j = at0 zs j := by simp [at0, List.getD_eq_getElem?_getD, List.getElem?_set_ne h]
theorem Tw.at {n i : Nat} {zs : List Int} (h : Tw n i zs) : at0 zs (n / 16) = 2 ^ i := by rw [h.2]; exact at0_put_self _ (by simp)
theorem pow15 {i : Nat} (h : i ≤ 15) : (1 : Int) ≤ 2 ^ i ∧ (2 : Int) ^ i ≤ 32768 := by
  have h1 := pow_le (b := 2) (by decide) h
  have h2 : (0 : Int) < 2 ^ i := Int.pow_pos (by decide)
  have e : (2 : Int) ^ 15 = 32768 := by decide
  omega
theorem Tw.step {n i : Nat} {zs : List Int} (h : Tw n i zs) (hi : i < n % 16) : Tw n (i + 1) (zs.set (n / 16) (2 ^ i * 2)) := by
  refine ⟨by omega, ?_⟩
  rw [h.2, List.set_set, Int.pow_succ]
theorem Tw.fin {n : Nat} {zs : List Int} (h : Tw n (n % 16) zs) : dg 65536 zs ∧ lv 65536 zs = 2 ^ n := by
  have hp := pow15 (i := n % 16) (by omega)
  refine ⟨by rw [h.2]; exact dg_set (dg_replicate _ (by decide) (by decide)) _ (by omega) (by omega), ?_⟩
  rw [h.2, lv_set _ _ _ _ (by simp), lv_zeros, zeros_at]
  rw [pow16, Int.sub_zero, Int.zero_add, ← Int.pow_add]
  congr 1; omega
/-- The number whose bits are in the order of a list, with a sign from there on. -/
def BitsOf (z : Int) (ls : List Int) (g : Bool) : Prop := ∀ i, tb z i = if i < ls.length then decide (at0 ls i = 1) else g
/-- The same, without the sign. -/
def bflip (g : Bool) (z : Int) : Int := if g then -1 - z else z
theorem tb_bflip (g : Bool) (z : Int) (i : Nat) : tb (bflip g z) i = (tb z i != g) := by
  unfold bflip
  cases g
  · simp
  · simp [tb_compl]
theorem BitsOf.high {z : Int} {ls : List Int} {g : Bool} (h : BitsOf z ls g) : 0 ≤ bflip g z ∧ bflip g z < 2 ^ ls.length := by
  have hb : ∀ i, ls.length ≤ i → tb (bflip g z) i = false := fun i hi => by rw [tb_bflip, h i, if_neg (by omega)]; simp
  have hp : (0 : Int) < 2 ^ ls.length := Int.pow_pos (by decide)
  have q : bflip g z / 2 ^ ls.length = 0 := tb_ext fun i => by rw [← tb_shift, hb _ (by omega), tb_zero]
  have e := Int.mul_ediv_add_emod (bflip g z) (2 ^ ls.length)
  have r0 := Int.emod_nonneg (bflip g z) (Int.ne_of_gt hp)
  have r1 := Int.emod_lt_of_pos (bflip g z) hp
  rw [q, Int.mul_zero] at e
  omega
/-- The rounds of Of: bits from i on are in their digits. -/
def OfI (Z : Int) (n i : Nat) (ds : List Int) : Prop := i ≤ n ∧ ds.length = n / 16 + 1 ∧ ∀ j, j ≤ n / 16 → at0 ds j = Z / 2 ^ (max (16 * j) i) % 2 ^ (16 * (j + 1) - max (16 * j) i)
theorem OfI.start {Z : Int} {n : Nat} (h0 : 0 ≤ Z) (h1 : Z < 2 ^ n) : OfI Z n n (List.replicate (n / 16 + 1) 0) := by
  refine ⟨Nat.le_refl _, by simp, fun j hj => ?_⟩
  have e : at0 (List.replicate (n / 16 + 1) 0) j = 0 := zeros_at _ _
  have h2 := pow_le (b := 2) (by decide) (show n ≤ max (16 * j) n by omega)
  rw [e, Int.ediv_eq_zero_of_lt h0 (by omega)]
  simp
theorem OfI.bound {Z : Int} {n i : Nat} {ds : List Int} (h : OfI Z n (i + 1) ds) : 0 ≤ at0 ds (i / 16) ∧ at0 ds (i / 16) < 32768 := by
  obtain ⟨h1, h2, h3⟩ := h
  have e := h3 (i / 16) (by omega)
  have hp : (0 : Int) < 2 ^ (16 * (i / 16 + 1) - max (16 * (i / 16)) (i + 1)) := Int.pow_pos (by decide)
  have a0 := Int.emod_nonneg (Z / 2 ^ (max (16 * (i / 16)) (i + 1))) (Int.ne_of_gt hp)
  have a1 := Int.emod_lt_of_pos (Z / 2 ^ (max (16 * (i / 16)) (i + 1))) hp
  have a2 := (pow15 (i := 16 * (i / 16 + 1) - max (16 * (i / 16)) (i + 1)) (by omega)).2
  omega
theorem OfI.step {Z : Int} {n i : Nat} {ds : List Int} {y : Int} (h : OfI Z n (i + 1) ds) (hy : y = at0 ds (i / 16) * 2 + (if tb Z i then 1 else 0)) : OfI Z n i (ds.set (i / 16) y) := by
  obtain ⟨h1, h2, h3⟩ := h
  refine ⟨by omega, by simpa using h2, fun j hj => ?_⟩
  by_cases e : i / 16 = j
  · subst e
    rw [at0_put_self _ (by omega), hy, h3 _ hj, Nat.max_eq_right (by omega), Nat.max_eq_right (by omega)]
    have e2 : 16 * (i / 16 + 1) - i = 16 * (i / 16 + 1) - (i + 1) + 1 := by omega
    rw [e2, ← half_pow, Int.pow_succ]
    unfold tb
    generalize Z / 2 ^ i = q
    generalize (2 : Int) ^ (16 * (i / 16 + 1) - (i + 1)) = p
    have key : q % (p * 2) = q / 2 % p * 2 + q % 2 := by
      have e1 : q / (p * 2) = q / 2 / p := by rw [Int.mul_comm p 2, Int.ediv_ediv_of_nonneg (by decide)]
      rw [Int.emod_def, Int.emod_def (q / 2) p, e1]
      have e2 : p * 2 * (q / 2 / p) = 2 * (p * (q / 2 / p)) := by rw [Int.mul_comm p 2, Int.mul_assoc]
      rw [e2]
      omega
    rw [key]
    have : q % 2 = 0 ∨ q % 2 = 1 := by omega
    rcases this with h | h <;> simp [h]
  · rw [at0_put_ne _ e, h3 j hj]
    by_cases hlt : i < 16 * j
    · rw [Nat.max_eq_left (by omega), Nat.max_eq_left (by omega)]
    · rw [show 16 * (j + 1) - max (16 * j) (i + 1) = 0 by omega, show 16 * (j + 1) - max (16 * j) i = 0 by omega]
      simp
theorem OfI.dg {Z : Int} {n i : Nat} {ds : List Int} (h : OfI Z n i ds) : Ma.dg 65536 ds := by
  intro x hx
  obtain ⟨k, hk, rfl⟩ := List.getElem_of_mem hx
  have e := h.2.2 k (by have := h.2.1; omega)
  rw [at0_of_lt hk] at e
  have hp : (0 : Int) < 2 ^ (16 * (k + 1) - max (16 * k) i) := Int.pow_pos (by decide)
  have a0 := Int.emod_nonneg (Z / 2 ^ (max (16 * k) i)) (Int.ne_of_gt hp)
  have a1 := Int.emod_lt_of_pos (Z / 2 ^ (max (16 * k) i)) hp
  have a2 := pow_le (b := 2) (by decide) (show 16 * (k + 1) - max (16 * k) i ≤ 16 by omega)
  have e16 : (2 : Int) ^ 16 = 65536 := by decide
  omega
theorem OfI.fin {Z : Int} {n : Nat} {ds : List Int} (h : OfI Z n 0 ds) (h0 : 0 ≤ Z) (h1 : Z < 2 ^ n) : lv 65536 ds = Z := by
  have e := lv_digits (b := 65536) (V := Z) (by decide) (zs := ds) ds.length (Nat.le_refl _) (fun j hj => by
    rw [h.2.2 j (by have := h.2.1; omega), Nat.max_eq_left (by omega), show 16 * (j + 1) - 16 * j = 16 by omega, pow16]; rfl)
  rw [List.take_length] at e
  rw [e, h.2.1]
  refine Int.emod_eq_of_lt h0 ?_
  have := pow_le (b := 2) (by decide) (show n ≤ 16 * (n / 16 + 1) by omega)
  rw [pow16]; omega
end Go.Proofs.Ytcgkgcciogibkaa.Ma
/- The reference's width, set, Two, chosen, New by rules. -/
set_option linter.unusedVariables false
set_option linter.unusedSimpArgs false
namespace Go.Proofs.Ytcgkgcciogibkaa.Sy
open Go Go.RowKit Ma
theorem facJ0 {p : Nat} {m : Bool} {A : Option Addr} {l c : Nat} (W : World) (hh : Holds (BI 31) p (.agg #[.bool m, .slice A l c]) W) : (Instr.fieldAt 31 (ptr p) 0).run Try.prog W = .ok (.pointer (some ⟨p, 0, none⟩)) W := by
  obtain ⟨_, h0, h1⟩ := holdsV hh rfl
  go_simp
theorem facJ1 {p : Nat} {m : Bool} {A : Option Addr} {l c : Nat} (W : World) (hh : Holds (BI 31) p (.agg #[.bool m, .slice A l c]) W) : (Instr.fieldAt 31 (ptr p) 1).run Try.prog W = .ok (.pointer (some ⟨p, 1, none⟩)) W := by
  obtain ⟨_, h0, h1⟩ := holdsV hh rfl
  go_simp
theorem flcJ0 {T : TypeId} {p : Nat} {m : Bool} {A : Option Addr} {l c : Nat} (W : World) (hh : Holds (BI T) p (.agg #[.bool m, .slice A l c]) W) : (Instr.loadAt 4 (.pointer (some ⟨p, 0, none⟩))).run Try.prog W = .ok (.bool m) W := by
  obtain ⟨_, h0, h1⟩ := holdsV hh rfl
  go_simp
theorem flcJ1 {T : TypeId} {p : Nat} {m : Bool} {A : Option Addr} {l c : Nat} (W : World) (hh : Holds (BI T) p (.agg #[.bool m, .slice A l c]) W) : (Instr.loadAt 29 (.pointer (some ⟨p, 1, none⟩))).run Try.prog W = .ok (.slice A l c) W := by
  obtain ⟨_, h0, h1⟩ := holdsV hh rfl
  go_simp
theorem r_eqD {x y : Operand} {dst : Option Tmp} {ty : TypeId} {pos : String} {after : Array Edge} {guard : Option (Nat × Bool)} {ρ : Operand → Value} {W : World} {a b : Int} {t : Bool} (h1 : ρ x = .int .i64 a) (h2 : ρ y = .int .i64 b) (e : decide (a = b) = t) : (execOp ρ ⟨dst, .binOp .eql 3 x y 3, ty, pos, after, guard⟩).run Try.prog W = .ok (.value (.bool t)) W := by
  by_cases h : a = b
  · rw [decide_eq_true h] at e; subst e; exact r_eqT h1 h2 h
  · rw [decide_eq_false h] at e; subst e; exact r_eqF h1 h2 h
set_option maxHeartbeats 3200000 in
set_option maxRecDepth 100000 in
theorem rwidth_c {m : Bool} {A : Option Addr} {c : Nat} {xs : List Int} {w : World} (rA : Rd w .i64 A xs) (dx : dg 65536 xs) (hx : xs.length ≤ 2000000) (tx : top xs) :
    Calls Try.prog 95 #[.agg #[.bool m, .slice A xs.length c]] w (Ret w (KV (.int .i64 (wid (lv 65536 xs) : Int)))) := by
  have hW : wid (lv 65536 xs) ≤ 40000000 := by
    have := wid_le_of (z := lv 65536 xs) (n := 16 * xs.length) (by rw [← pow16]; exact lv_lt BJ_pos dx)
    omega
  refine calls_sc (l := [.vl (.agg #[.bool m, .slice A xs.length c])]) (us := [.agg #[.bool m, .slice A xs.length c]]) 29 Try.func95 rfl Try.ntmps95 (by simp) ⟨rfl, rfl, trivial⟩ ?_
  refine SC.seq ?_
  refine SC.region ?_
  refine PW.boxc (x := .tmp 0) (BI 31) rfl rfl rfl rfl rfl bJ rfl ⟨_, _, _, _, _, rfl, rfl⟩ fun pb1 => ?_
  refine PW.assign rfl rfl rfl rfl rfl ?_
  refine PW.nil ?_
  refine SX.then ?_
  refine SC.seq ?_
  refine SC.seq ?_
  by_cases h0 : xs.length = 0
  · refine SC.region ?_
    refine PW.fac ⟨pb1, 1, none⟩ rfl rfl rfl rfl rfl facJ1 ?_
    refine PW.flc (s := 1) (.slice A xs.length c) rfl rfl rfl rfl rfl rfl flcJ1 ?_
    refine PW.qn [(.tmp 6, .slice A xs.length c)] (.int .i64 (xs.length : Int)) rfl rfl rfl ⟨rfl, trivial⟩ (fun ρ W h => by obtain ⟨h1, _⟩ := h; exact r_lenI h1) ?_
    refine PW.q2 (x := .tmp 7) (y := .const (.int .i64 0)) (.bool true) rfl rfl rfl rfl rfl (fun ρ W h1 h2 => by exact r_eqT h1 h2 (by omega)) ?_
    refine PW.nil ?_
    refine SX.then ?_
    refine SC.cond (t := true) rfl ?_
    refine SC.seq ?_
    refine SC.region ?_
    refine PW.assign rfl rfl rfl rfl rfl ?_
    refine PW.nil ?_
    refine SX.then ?_
    refine SC.ret ?_
    refine SX.thenR ?_
    have hr : (wid (lv 65536 xs) : Int) = 0 := by rw [List.eq_nil_of_length_eq_zero h0]; rfl
    rw [hr]
    exact SX.done (s := 2) (r := .vl (.int .i64 0)) rfl rfl rfl
  · have hne : xs ≠ [] := fun h => h0 (by rw [h]; rfl)
    refine SC.region ?_
    refine PW.fac ⟨pb1, 1, none⟩ rfl rfl rfl rfl rfl facJ1 ?_
    refine PW.flc (s := 1) (.slice A xs.length c) rfl rfl rfl rfl rfl rfl flcJ1 ?_
    refine PW.qn [(.tmp 6, .slice A xs.length c)] (.int .i64 (xs.length : Int)) rfl rfl rfl ⟨rfl, trivial⟩ (fun ρ W h => by obtain ⟨h1, _⟩ := h; exact r_lenI h1) ?_
    refine PW.q2 (x := .tmp 7) (y := .const (.int .i64 0)) (.bool false) rfl rfl rfl rfl rfl (fun ρ W h1 h2 => by exact r_eqF h1 h2 (by omega)) ?_
    refine PW.nil ?_
    refine SX.then ?_
    refine SC.cond (t := false) rfl ?_
    refine SC.skip ?_
    refine SX.then ?_
    refine SC.seq ?_
    refine SC.region ?_
    refine PW.fac ⟨pb1, 1, none⟩ rfl rfl rfl rfl rfl facJ1 ?_
    refine PW.flc (s := 1) (.slice A xs.length c) rfl rfl rfl rfl rfl rfl flcJ1 ?_
    refine PW.qn [(.tmp 10, .slice A xs.length c)] (.int .i64 (xs.length : Int)) rfl rfl rfl ⟨rfl, trivial⟩ (fun ρ W h => by obtain ⟨h1, _⟩ := h; exact r_lenI h1) ?_
    refine PW.q2 (x := .tmp 11) (y := .const (.int .i64 1)) (.int .i64 ((xs.length : Int) - 1)) rfl rfl rfl rfl rfl (fun ρ W h1 h2 => by exact r_sub h1 h2 (rfl) (by omega)) ?_
    refine PW.q2 (x := .const (.int .i64 16)) (y := .tmp 12) (.int .i64 (16 * ((xs.length : Int) - 1))) rfl rfl rfl rfl rfl (fun ρ W h1 h2 => by exact r_mul h1 h2 (rfl) (by omega)) ?_
    refine PW.assign rfl rfl rfl rfl rfl ?_
    refine PW.nil ?_
    refine SX.then ?_
    refine SC.seq ?_
    refine SC.seq ?_
    refine SC.region ?_
    refine PW.fac ⟨pb1, 1, none⟩ rfl rfl rfl rfl rfl facJ1 ?_
    refine PW.flc (s := 1) (.slice A xs.length c) rfl rfl rfl rfl rfl rfl flcJ1 ?_
    refine PW.fac ⟨pb1, 1, none⟩ rfl rfl rfl rfl rfl facJ1 ?_
    refine PW.flc (s := 1) (.slice A xs.length c) rfl rfl rfl rfl rfl rfl flcJ1 ?_
    refine PW.qn [(.tmp 17, .slice A xs.length c)] (.int .i64 (xs.length : Int)) rfl rfl rfl ⟨rfl, trivial⟩ (fun ρ W h => by obtain ⟨h1, _⟩ := h; exact r_lenI h1) ?_
    refine PW.q2 (x := .tmp 18) (y := .const (.int .i64 1)) (.int .i64 ((xs.length - 1 : Nat))) rfl rfl rfl rfl rfl (fun ρ W h1 h2 => by exact r_sub h1 h2 (by omega) (by omega)) ?_
    refine PW.q2 (x := .tmp 15) (y := .tmp 19) (.pointer (padd A (xs.length - 1))) rfl rfl rfl rfl rfl (fun ρ W h1 h2 => r_idxRI rA h1 h2 (by omega)) ?_
    refine PW.iget (i := xs.length - 1) rfl rfl rfl rfl rfl rfl rA (by omega) r_l64 ?_
    refine PW.assign rfl rfl rfl rfl rfl ?_
    refine PW.nil ?_
    refine SX.then ?_
    refine SC.block ?_
    refine SC.loop (S := Int × Int) (fun ⟨n, t⟩ => [(3, .vl (.int .i64 (n))), (4, .vl (.int .i64 (t)))]) (fun ⟨n, t⟩ => Wd (wid (lv 65536 xs)) n t) (fun ⟨n, t⟩ => t.toNat) (16 * ((xs.length : Int) - 1), at0 xs (xs.length - 1)) (Wd.start dx tx hne) ⟨rfl, rfl, trivial⟩ ?_
    rintro ⟨n, t⟩ hP
    show SC _ _ _ _ [(3, .vl (.int .i64 (n))), (4, .vl (.int .i64 (t)))] _
    refine SC.seq ?_
    refine SC.seq ?_
    by_cases ht : 0 < t
    · refine SC.region ?_
      refine PW.move rfl rfl rfl rfl rfl ?_
      refine PW.q2 (x := .tmp 22) (y := .const (.int .i64 0)) (.bool true) rfl rfl rfl rfl rfl (fun ρ W h1 h2 => by exact r_gt h1 h2 (decide_eq_true ht)) ?_
      refine PW.nil ?_
      refine SX.then ?_
      refine SC.cond (t := true) rfl ?_
      refine SC.skip ?_
      refine SX.then ?_
      refine SC.seq ?_
      refine SC.block ?_
      refine SC.region ?_
      refine PW.move rfl rfl rfl rfl rfl ?_
      refine PW.q2 (x := .tmp 26) (y := .const (.int .i64 1)) (.int .i64 (n + 1)) rfl rfl rfl rfl rfl (fun ρ W h1 h2 => by exact r_add h1 h2 (rfl) (by have := hP.2.2.1; have := hP.2.2.2; omega)) ?_
      refine PW.assign rfl rfl rfl rfl rfl ?_
      refine PW.nil ?_
      refine SX.blockN ?_
      refine SX.then ?_
      refine SC.region ?_
      refine PW.move rfl rfl rfl rfl rfl ?_
      refine PW.q2 (x := .tmp 24) (y := .const (.int .i64 2)) (.int .i64 (t / 2)) rfl rfl rfl rfl rfl (fun ρ W h1 h2 => by exact r_quo h1 h2 (rfl) (by have := hP.2.1; have := hP.1; omega) (by decide)) ?_
      refine PW.assign rfl rfl rfl rfl rfl ?_
      refine PW.nil ?_
      refine SX.back (n + 1, t / 2) ?_ ?_ ?_
      · exact hP.step ht
      · exact (show (t / 2).toNat < t.toNat by omega)
      · exact ⟨rfl, rfl, trivial⟩
    · refine SC.region ?_
      refine PW.move rfl rfl rfl rfl rfl ?_
      refine PW.q2 (x := .tmp 22) (y := .const (.int .i64 0)) (.bool false) rfl rfl rfl rfl rfl (fun ρ W h1 h2 => by exact r_gt h1 h2 (decide_eq_false ht)) ?_
      refine PW.nil ?_
      refine SX.then ?_
      refine SC.cond (t := false) rfl ?_
      refine SC.exit ?_
      refine SX.thenE ?_
      refine SX.thenE ?_
      refine SX.blockE ?_
      refine SX.then ?_
      refine SC.seq ?_
      refine SC.region ?_
      refine PW.move rfl rfl rfl rfl rfl ?_
      refine PW.assign rfl rfl rfl rfl rfl ?_
      refine PW.nil ?_
      refine SX.then ?_
      refine SC.ret ?_
      have hr := hP.fin ht
      rw [← hr]
      exact SX.done (s := 2) (r := .vl (.int .i64 (n))) rfl rfl rfl

set_option maxHeartbeats 3200000 in
set_option maxRecDepth 100000 in
theorem rset_c {m : Bool} {A : Option Addr} {c : Nat} {xs : List Int} {w : World} (rA : Rd w .i64 A xs) (dx : dg 65536 xs) (hx : xs.length ≤ 2000000) {i : Nat} (hi : i ≤ 9223372036854775807) :
    Calls Try.prog 80 #[.agg #[.bool m, .slice A xs.length c], .int .i64 (i : Int)] w (Ret w (KV (.bool (tb (lv 65536 xs) i)))) := by
  refine calls_sc (l := [.vl (.agg #[.bool m, .slice A xs.length c]), .vl (.int .i64 (i : Int))]) (us := [.agg #[.bool m, .slice A xs.length c], .int .i64 (i : Int)]) 30 Try.func80 rfl Try.ntmps80 (by simp) ⟨rfl, rfl, rfl, rfl, trivial⟩ ?_
  refine SC.seq ?_
  refine SC.region ?_
  refine PW.boxc (x := .tmp 0) (BI 31) rfl rfl rfl rfl rfl bJ rfl ⟨_, _, _, _, _, rfl, rfl⟩ fun pb1 => ?_
  refine PW.assign rfl rfl rfl rfl rfl ?_
  refine PW.nil ?_
  refine SX.then ?_
  refine SC.seq ?_
  refine SC.seq ?_
  by_cases hg : ((i / 16 : Nat) : Int) ≥ (xs.length : Int)
  · refine SC.region ?_
    refine PW.move rfl rfl rfl rfl rfl ?_
    refine PW.q2 (x := .tmp 7) (y := .const (.int .i64 16)) (.int .i64 ((i / 16 : Nat))) rfl rfl rfl rfl rfl (fun ρ W h1 h2 => by exact r_quo h1 h2 (by omega) (by omega) (by decide)) ?_
    refine PW.fac ⟨pb1, 1, none⟩ rfl rfl rfl rfl rfl facJ1 ?_
    refine PW.flc (s := 2) (.slice A xs.length c) rfl rfl rfl rfl rfl rfl flcJ1 ?_
    refine PW.qn [(.tmp 10, .slice A xs.length c)] (.int .i64 (xs.length : Int)) rfl rfl rfl ⟨rfl, trivial⟩ (fun ρ W h => by obtain ⟨h1, _⟩ := h; exact r_lenI h1) ?_
    refine PW.q2 (x := .tmp 8) (y := .tmp 11) (.bool true) rfl rfl rfl rfl rfl (fun ρ W h1 h2 => by exact r_ge h1 h2 (decide_eq_true hg)) ?_
    refine PW.nil ?_
    refine SX.then ?_
    refine SC.cond (t := true) rfl ?_
    refine SC.seq ?_
    refine SC.region ?_
    refine PW.assign rfl rfl rfl rfl rfl ?_
    refine PW.nil ?_
    refine SX.then ?_
    refine SC.ret ?_
    refine SX.thenR ?_
    have hr : tb (lv 65536 xs) i = false := by rw [← set_fin dx i, at0_ge (by omega), Int.zero_ediv]; decide
    rw [hr]
    exact SX.done (s := 4) (r := .vl (.bool false)) rfl rfl rfl
  · refine SC.region ?_
    refine PW.move rfl rfl rfl rfl rfl ?_
    refine PW.q2 (x := .tmp 7) (y := .const (.int .i64 16)) (.int .i64 ((i / 16 : Nat))) rfl rfl rfl rfl rfl (fun ρ W h1 h2 => by exact r_quo h1 h2 (by omega) (by omega) (by decide)) ?_
    refine PW.fac ⟨pb1, 1, none⟩ rfl rfl rfl rfl rfl facJ1 ?_
    refine PW.flc (s := 2) (.slice A xs.length c) rfl rfl rfl rfl rfl rfl flcJ1 ?_
    refine PW.qn [(.tmp 10, .slice A xs.length c)] (.int .i64 (xs.length : Int)) rfl rfl rfl ⟨rfl, trivial⟩ (fun ρ W h => by obtain ⟨h1, _⟩ := h; exact r_lenI h1) ?_
    refine PW.q2 (x := .tmp 8) (y := .tmp 11) (.bool false) rfl rfl rfl rfl rfl (fun ρ W h1 h2 => by exact r_ge h1 h2 (decide_eq_false hg)) ?_
    refine PW.nil ?_
    refine SX.then ?_
    refine SC.cond (t := false) rfl ?_
    refine SC.skip ?_
    refine SX.then ?_
    refine SC.seq ?_
    refine SC.region ?_
    refine PW.fac ⟨pb1, 1, none⟩ rfl rfl rfl rfl rfl facJ1 ?_
    refine PW.flc (s := 2) (.slice A xs.length c) rfl rfl rfl rfl rfl rfl flcJ1 ?_
    refine PW.move rfl rfl rfl rfl rfl ?_
    refine PW.q2 (x := .tmp 15) (y := .const (.int .i64 16)) (.int .i64 ((i / 16 : Nat))) rfl rfl rfl rfl rfl (fun ρ W h1 h2 => by exact r_quo h1 h2 (by omega) (by omega) (by decide)) ?_
    refine PW.q2 (x := .tmp 14) (y := .tmp 16) (.pointer (padd A (i / 16))) rfl rfl rfl rfl rfl (fun ρ W h1 h2 => r_idxRI rA h1 h2 (by omega)) ?_
    refine PW.iget (i := i / 16) rfl rfl rfl rfl rfl rfl rA (by omega) r_l64 ?_
    refine PW.assign rfl rfl rfl rfl rfl ?_
    refine PW.nil ?_
    refine SX.then ?_
    refine SC.seq ?_
    refine SC.seq ?_
    refine SC.region ?_
    refine PW.assign rfl rfl rfl rfl rfl ?_
    refine PW.nil ?_
    refine SX.then ?_
    refine SC.block ?_
    refine SC.loop (S := Nat × Int) (fun ⟨k, t⟩ => [(1, .vl (.int .i64 (i : Int))), (5, .vl (.int .i64 (t))), (6, .vl (.int .i64 (k : Int)))]) (fun ⟨k, t⟩ => k ≤ i % 16 ∧ 0 ≤ t ∧ t < 65536 ∧ t = at0 xs (i / 16) / 2 ^ k) (fun ⟨k, t⟩ => i % 16 - k) (0, at0 xs (i / 16)) ⟨by omega, (dg_at dx BJ_pos _).1, (dg_at dx BJ_pos _).2, by simp⟩ ⟨rfl, rfl, rfl, trivial⟩ ?_
    rintro ⟨k, t⟩ ⟨hk0, h0, h4, h3⟩
    show SC _ _ _ _ [(1, .vl (.int .i64 (i : Int))), (5, .vl (.int .i64 (t))), (6, .vl (.int .i64 (k : Int)))] _
    refine SC.seq ?_
    refine SC.seq ?_
    by_cases hk : (k : Int) < ((i % 16 : Nat) : Int)
    · refine SC.region ?_
      refine PW.move rfl rfl rfl rfl rfl ?_
      refine PW.move rfl rfl rfl rfl rfl ?_
      refine PW.q2 (x := .tmp 20) (y := .const (.int .i64 16)) (.int .i64 ((i % 16 : Nat))) rfl rfl rfl rfl rfl (fun ρ W h1 h2 => by exact r_rem h1 h2 (by omega) (by omega) (by decide)) ?_
      refine PW.q2 (x := .tmp 19) (y := .tmp 21) (.bool true) rfl rfl rfl rfl rfl (fun ρ W h1 h2 => by exact r_lt h1 h2 (decide_eq_true hk)) ?_
      refine PW.nil ?_
      refine SX.then ?_
      refine SC.cond (t := true) rfl ?_
      refine SC.skip ?_
      refine SX.then ?_
      refine SC.seq ?_
      refine SC.block ?_
      refine SC.region ?_
      refine PW.move rfl rfl rfl rfl rfl ?_
      refine PW.q2 (x := .tmp 25) (y := .const (.int .i64 2)) (.int .i64 (t / 2)) rfl rfl rfl rfl rfl (fun ρ W h1 h2 => by exact r_quo h1 h2 (rfl) (by omega) (by decide)) ?_
      refine PW.assign rfl rfl rfl rfl rfl ?_
      refine PW.nil ?_
      refine SX.blockN ?_
      refine SX.then ?_
      refine SC.region ?_
      refine PW.move rfl rfl rfl rfl rfl ?_
      refine PW.q2 (x := .tmp 23) (y := .const (.int .i64 1)) (.int .i64 ((k + 1 : Nat))) rfl rfl rfl rfl rfl (fun ρ W h1 h2 => by exact r_add h1 h2 (by omega) (by omega)) ?_
      refine PW.assign rfl rfl rfl rfl rfl ?_
      refine PW.nil ?_
      refine SX.back (k + 1, t / 2) ?_ ?_ ?_
      · exact ⟨by omega, by omega, by omega, by rw [h3, half_pow]⟩
      · exact (show i % 16 - (k + 1) < i % 16 - k by omega)
      · exact ⟨rfl, rfl, rfl, trivial⟩
    · refine SC.region ?_
      refine PW.move rfl rfl rfl rfl rfl ?_
      refine PW.move rfl rfl rfl rfl rfl ?_
      refine PW.q2 (x := .tmp 20) (y := .const (.int .i64 16)) (.int .i64 ((i % 16 : Nat))) rfl rfl rfl rfl rfl (fun ρ W h1 h2 => by exact r_rem h1 h2 (by omega) (by omega) (by decide)) ?_
      refine PW.q2 (x := .tmp 19) (y := .tmp 21) (.bool false) rfl rfl rfl rfl rfl (fun ρ W h1 h2 => by exact r_lt h1 h2 (decide_eq_false hk)) ?_
      refine PW.nil ?_
      refine SX.then ?_
      refine SC.cond (t := false) rfl ?_
      refine SC.exit ?_
      refine SX.thenE ?_
      refine SX.thenE ?_
      refine SX.blockE ?_
      refine SX.then ?_
      refine SC.seq ?_
      refine SC.region ?_
      refine PW.move rfl rfl rfl rfl rfl ?_
      refine PW.q2 (x := .tmp 27) (y := .const (.int .i64 2)) (.int .i64 (t % 2)) rfl rfl rfl rfl rfl (fun ρ W h1 h2 => by exact r_rem h1 h2 (rfl) (by omega) (by decide)) ?_
      refine PW.q2 (x := .tmp 28) (y := .const (.int .i64 1)) (.bool (tb (lv 65536 xs) i)) rfl rfl rfl rfl rfl (fun ρ W h1 h2 => by exact r_eqD h1 h2 (by rw [h3, ← set_fin dx i, show k = i % 16 by omega])) ?_
      refine PW.assign rfl rfl rfl rfl rfl ?_
      refine PW.nil ?_
      refine SX.then ?_
      refine SC.ret ?_
      exact SX.done (s := 4) (r := .vl (.bool (tb (lv 65536 xs) i))) rfl rfl rfl

set_option maxHeartbeats 3200000 in
set_option maxRecDepth 100000 in
theorem rtwo_c {n : Nat} {w : World} (hn : n ≤ 4000000) :
    Calls Try.prog 104 #[.int .i64 (n : Int)] w (Ret w (KJ (2 ^ n))) := by
  refine calls_sc (l := [.vl (.int .i64 (n : Int))]) (us := [.int .i64 (n : Int)]) 28 Try.func104 rfl Try.ntmps104 (by simp) ⟨rfl, rfl, trivial⟩ ?_
  refine SC.seq ?_
  refine SC.region ?_
  refine PW.alloc (BI 31) rfl rfl rfl rfl rfl bJ ?_
  refine PW.nil ?_
  refine SX.then ?_
  refine SC.seq ?_
  refine SC.region ?_
  refine PW.move rfl rfl rfl rfl rfl ?_
  refine PW.q2 (x := .tmp 5) (y := .const (.int .i64 16)) (.int .i64 ((n / 16 : Nat))) rfl rfl rfl rfl rfl (fun ρ W h1 h2 => by exact r_quo h1 h2 (by omega) (by omega) (by decide)) ?_
  refine PW.q2 (x := .tmp 6) (y := .const (.int .i64 1)) (.int .i64 ((n / 16 + 1 : Nat))) rfl rfl rfl rfl rfl (fun ρ W h1 h2 => by exact r_add h1 h2 (by omega) (by omega)) ?_
  refine PW.make (n := (n / 16 + 1)) 28 rfl rfl rfl rfl rfl Try.underlying29 info_i64 (by omega) (by unfold maxLen; omega) fun g1 => ?_
  refine PW.assign rfl rfl rfl rfl rfl ?_
  refine PW.nil ?_
  refine SX.then ?_
  refine SC.seq ?_
  refine SC.region ?_
  refine PW.move rfl rfl rfl rfl rfl ?_
  refine PW.move rfl rfl rfl rfl rfl ?_
  refine PW.q2 (x := .tmp 10) (y := .const (.int .i64 16)) (.int .i64 ((n / 16 : Nat))) rfl rfl rfl rfl rfl (fun ρ W h1 h2 => by exact r_quo h1 h2 (by omega) (by omega) (by decide)) ?_
  refine PW.q2 (x := .tmp 9) (y := .tmp 11) (.pointer (some ⟨g1, n / 16, none⟩)) rfl rfl rfl rfl rfl (fun ρ W h1 h2 => r_idxI h1 h2 (by first | omega | (have := hP.len; omega) | (simp; done))) ?_
  refine PW.rstore (K := 28) (x := .const (.int .i64 1)) (i := n / 16) (y := 1) rfl rfl rfl rfl rfl (by first | omega | (have := hP.len; omega) | (simp; done)) rfl rfl r_s64 ?_
  refine PW.nil ?_
  refine SX.then ?_
  refine SC.seq ?_
  refine SC.seq ?_
  refine SC.region ?_
  refine PW.assign rfl rfl rfl rfl rfl ?_
  refine PW.nil ?_
  refine SX.then ?_
  refine SC.block ?_
  refine SC.loop (S := Nat × List Int) (fun ⟨i, zs⟩ => [(0, .vl (.int .i64 (n : Int))), (2, .nb (BI 31)), (3, .vl (.slice (some ⟨g1, 0, none⟩) (n / 16 + 1) (n / 16 + 1))), (4, .vl (.int .i64 (i : Int))), (28, .ro (.slice (some ⟨g1, 0, none⟩) (n / 16 + 1) (n / 16 + 1)) 3 (.int .i64) (zs))]) (fun ⟨i, zs⟩ => Tw n i zs) (fun ⟨i, zs⟩ => n % 16 - i) (0, (List.replicate (n / 16 + 1) 0).set (n / 16) 1) (Tw.start n) ⟨rfl, rfl, rfl, rfl, rfl, trivial⟩ ?_
  rintro ⟨i, zs⟩ hP
  show SC _ _ _ _ [(0, .vl (.int .i64 (n : Int))), (2, .nb (BI 31)), (3, .vl (.slice (some ⟨g1, 0, none⟩) (n / 16 + 1) (n / 16 + 1))), (4, .vl (.int .i64 (i : Int))), (28, .ro (.slice (some ⟨g1, 0, none⟩) (n / 16 + 1) (n / 16 + 1)) 3 (.int .i64) (zs))] _
  have hlen := hP.len
  refine SC.seq ?_
  refine SC.seq ?_
  by_cases hi : (i : Int) < ((n % 16 : Nat) : Int)
  · refine SC.region ?_
    refine PW.move rfl rfl rfl rfl rfl ?_
    refine PW.move rfl rfl rfl rfl rfl ?_
    refine PW.q2 (x := .tmp 14) (y := .const (.int .i64 16)) (.int .i64 ((n % 16 : Nat))) rfl rfl rfl rfl rfl (fun ρ W h1 h2 => by exact r_rem h1 h2 (by omega) (by omega) (by decide)) ?_
    refine PW.q2 (x := .tmp 13) (y := .tmp 15) (.bool true) rfl rfl rfl rfl rfl (fun ρ W h1 h2 => by exact r_lt h1 h2 (decide_eq_true hi)) ?_
    refine PW.nil ?_
    refine SX.then ?_
    refine SC.cond (t := true) rfl ?_
    refine SC.skip ?_
    refine SX.then ?_
    refine SC.seq ?_
    refine SC.block ?_
    refine SC.region ?_
    refine PW.move rfl rfl rfl rfl rfl ?_
    refine PW.move rfl rfl rfl rfl rfl ?_
    refine PW.q2 (x := .tmp 20) (y := .const (.int .i64 16)) (.int .i64 ((n / 16 : Nat))) rfl rfl rfl rfl rfl (fun ρ W h1 h2 => by exact r_quo h1 h2 (by omega) (by omega) (by decide)) ?_
    refine PW.q2 (x := .tmp 19) (y := .tmp 21) (.pointer (some ⟨g1, n / 16, none⟩)) rfl rfl rfl rfl rfl (fun ρ W h1 h2 => r_idxI h1 h2 (by first | omega | (have := hP.len; omega))) ?_
    refine PW.rload (K := 28) (i := n / 16) rfl rfl rfl rfl rfl rfl (by first | omega | (have := hP.len; omega)) r_l64 ?_
    refine PW.q2 (x := .tmp 23) (y := .const (.int .i64 2)) (.int .i64 (2 ^ i * 2)) rfl rfl rfl rfl rfl (fun ρ W h1 h2 => by exact r_mul h1 h2 (by rw [hP.at]) (by have := pow15 (i := i) (by have := hP.1; omega); omega)) ?_
    refine PW.q2 (x := .tmp 19) (y := .tmp 21) (.pointer (some ⟨g1, n / 16, none⟩)) rfl rfl rfl rfl rfl (fun ρ W h1 h2 => r_idxI h1 h2 (by first | omega | (have := hP.len; omega))) ?_
    refine PW.rstore (K := 28) (x := .tmp 24) (i := n / 16) (y := (2 ^ i * 2)) rfl rfl rfl rfl rfl (by first | omega | (have := hP.len; omega)) rfl rfl r_s64 ?_
    refine PW.nil ?_
    refine SX.blockN ?_
    refine SX.then ?_
    refine SC.region ?_
    refine PW.move rfl rfl rfl rfl rfl ?_
    refine PW.q2 (x := .tmp 17) (y := .const (.int .i64 1)) (.int .i64 ((i + 1 : Nat))) rfl rfl rfl rfl rfl (fun ρ W h1 h2 => by exact r_add h1 h2 (by omega) (by omega)) ?_
    refine PW.assign rfl rfl rfl rfl rfl ?_
    refine PW.nil ?_
    refine SX.back (i + 1, zs.set (n / 16) (2 ^ i * 2)) ?_ ?_ ?_
    · exact hP.step (by omega)
    · exact (show n % 16 - (i + 1) < n % 16 - i by omega)
    · exact ⟨rfl, rfl, rfl, rfl, rfl, trivial⟩
  · obtain rfl : i = n % 16 := by have := hP.1; omega
    refine SC.region ?_
    refine PW.move rfl rfl rfl rfl rfl ?_
    refine PW.move rfl rfl rfl rfl rfl ?_
    refine PW.q2 (x := .tmp 14) (y := .const (.int .i64 16)) (.int .i64 ((n % 16 : Nat))) rfl rfl rfl rfl rfl (fun ρ W h1 h2 => by exact r_rem h1 h2 (by omega) (by omega) (by decide)) ?_
    refine PW.q2 (x := .tmp 13) (y := .tmp 15) (.bool false) rfl rfl rfl rfl rfl (fun ρ W h1 h2 => by exact r_lt h1 h2 (decide_eq_false hi)) ?_
    refine PW.nil ?_
    refine SX.then ?_
    refine SC.cond (t := false) rfl ?_
    refine SC.exit ?_
    refine SX.thenE ?_
    refine SX.thenE ?_
    refine SX.blockE ?_
    refine SX.then ?_
    refine SC.seq ?_
    refine SC.region ?_
    refine PW.move rfl rfl rfl rfl rfl ?_
    refine PW.callG (r := .kw (KJ (2 ^ n))) ce_rmade rfl rfl rfl rfl rfl (KJ.st _) rfl (fun a W hf => by have h2 := hf.vl (s := 26) rfl; have own : OwF W _ _ (.int .i64) (.slice (some ⟨g1, 0, none⟩) (n / 16 + 1) (n / 16 + 1)) zs := hf.ho 28 _ rfl; obtain ⟨A4, c4, e4, hc4, rd4⟩ := Own.rd own; show Calls Try.prog _ #[.bool false, a.tmps.getD 26 undef] W _; rw [h2, e4, ← hP.fin.2]; exact rmade_c (n := false) rfl rd4 hc4 hP.fin.1) ?_
    refine PW.store (x := .tmp 27) (r := .kw (KJ (2 ^ n))) rfl rfl rfl rfl rfl rfl sh_J ?_
    refine PW.nil ?_
    refine SX.then ?_
    refine SC.ret ?_
    exact SX.doneC (s := 2) (.inl rfl) rfl rfl rfl

theorem ce_width : CE 95 := fun args W => by go_simp
theorem ce_set : CE 80 := fun args W => by go_simp
theorem ce_two : CE 104 := fun args W => by go_simp
theorem ce_jnew : CE 42 := fun args W => by go_simp
theorem RJ.len {W : World} {n : Bool} {A : Option Addr} {l c k : Nat} {z : Int} (h : RJ W n A l c z) (X : bd k z) (hk : k ≤ 1000000) : l ≤ 2000000 := by
  refine Nat.le_trans (h.len_le (2 * k) ?_ ?_) (by omega)
  · have := X.1; unfold b16; rw [← pow65]; exact this
  · have := X.2; unfold b16; rw [← pow65]; exact this
theorem k_width {x : Int} {a : Nat} (X : bd a x) (ha : a ≤ 1000000) : CallOk 95 [KJ x] (KV (.int .i64 (wid ((x).natAbs) : Int))) :=
  call1 ce_width fun W u ⟨m, A, l, c, e, h⟩ => by
    subst e
    have hl := RJ.len h X ha
    obtain ⟨xs, rfl, hc, rd, d, e, t, _⟩ := RJ.num h
    rw [← e]
    exact rwidth_c rd d (by omega) t
theorem k_set {x : Int} {a i : Nat} (X : bd a x) (ha : a ≤ 1000000) (hi : i ≤ 9223372036854775807) : CallOk 80 [KJ x, KV (.int .i64 (i : Int))] (KV (.bool (tb (x.natAbs : Int) i))) :=
  call2 ce_set fun W u v ⟨m, A, l, c, e, h⟩ e2 => by
    subst e
    obtain rfl : v = _ := e2
    have hl := RJ.len h X ha
    obtain ⟨xs, rfl, hc, rd, d, e, t, _⟩ := RJ.num h
    rw [← e]
    exact rset_c rd d (by omega) hi
theorem k_two {n : Nat} (hn : n ≤ 4000000) : CallOk 104 [KV (.int .i64 (n : Int))] (KJ (2 ^ n)) := call1 ce_two fun W u e => by obtain rfl : u = _ := e; exact rtwo_c hn
theorem k_jnew {x : Int} (h : -9223372036854775808 ≤ x ∧ x < 9223372036854775808) : CallOk 42 [KV (.int .i64 x)] (KJ x) := call1 ce_jnew fun W u e => by obtain rfl : u = _ := e; exact rnew_c h
end Go.Proofs.Ytcgkgcciogibkaa.Sy
/- Plain laws for the reference's lists of bits. No program in sight. -/
set_option linter.unusedVariables false
set_option linter.unusedSimpArgs false
namespace Go.Proofs.Ytcgkgcciogibkaa.Ma
open Go
def bi (b : Bool) : Int := if b then 1 else 0
theorem bi_eq (b : Bool) : decide (bi b = 1) = b := by cases b <;> decide
/-- The first n bits of a number. -/
def lof (c : Nat → Bool) (n : Nat) : List Int := (List.range n).map fun i => bi (c i)
theorem lof_len (c : Nat → Bool) (n : Nat) : (lof c n).length = n := by simp [lof]
theorem lof_succ (c : Nat → Bool) (n : Nat) : lof c (n + 1) = lof c n ++ [bi (c n)] := by simp [lof, List.range_succ]
theorem lof_at (c : Nat → Bool) {n i : Nat} (h : i < n) : at0 (lof c n) i = bi (c i) := by
  rw [at0_of_lt (by rw [lof_len]; exact h)]
  simp [lof]
theorem lof_bit (c : Nat → Bool) {n i : Nat} (h : i < n) : decide (at0 (lof c n) i = 1) = c i := by rw [lof_at c h, bi_eq]
theorem bits_t {x : Int} (h : x < 0) (i : Nat) : (tb ((-1 - x).natAbs : Int) i != true) = tb x i := by
  rw [show ((-1 - x).natAbs : Int) = -1 - x by omega, tb_compl]
  cases tb x i <;> rfl
theorem bits_f {x : Int} (h : ¬ x < 0) (i : Nat) : (tb (x.natAbs : Int) i != false) = tb x i := by
  rw [show (x.natAbs : Int) = x by omega]
  cases tb x i <;> rfl
theorem pat_range (x : Int) : -(2 ^ wid (pat x)) ≤ x ∧ x < 2 ^ wid (pat x) := by
  have h := wid_lt (pat x)
  have h0 := pat_nonneg x
  generalize (2 : Int) ^ wid (pat x) = p at *
  unfold pat at h h0
  split at h <;> omega
theorem tb_over {x : Int} {n i : Nat} (hn : wid (pat x) ≤ n) (hi : n ≤ i) : tb x i = decide (x < 0) := tb_high (pat_range x).1 (pat_range x).2 (by omega)
theorem at0_drop (ls : List Int) (p i : Nat) : at0 (ls.drop p) i = at0 ls (p + i) := by simp [at0, List.getD_eq_getElem?_getD]
theorem bitsOf_fld {x : Int} {k p : Nat} : BitsOf (fld x k p) ((lof (tb x) (p + k)).drop p) false := by
  intro i
  rw [tb_fld, List.length_drop, lof_len]
  by_cases h : i < k
  · rw [if_pos (by omega), at0_drop, lof_bit _ (by omega)]; simp [h]
  · rw [if_neg (by omega)]; simp [h]
/-- The rounds of Deposit. -/
def DpI (x y : Int) (k p n i : Nat) (ls : List Int) : Prop := i ≤ k ∧ ls = lof (fun j => if p ≤ j ∧ j < p + i then tb y (j - p) else tb x j) n
theorem DpI.start (x y : Int) (k p n : Nat) : DpI x y k p n 0 (lof (tb x) n) := ⟨by omega, by congr 1; funext j; rw [if_neg (by omega)]⟩
theorem lof_set {c c' : Nat → Bool} {n j : Nat} {v : Int} (hv : v = bi (c' j)) (hj : j < n) (h : ∀ i, i ≠ j → c i = c' i) : (lof c n).set j v = lof c' n := by
  apply List.ext_getElem
  · simp [lof]
  · intro i h1 h2
    simp [lof] at h1 h2
    by_cases e : j = i
    · subst e; simp [lof, hv]
    · rw [List.getElem_set_ne e]; simp [lof, h i (fun x => e x.symm)]
theorem DpI.step {x y : Int} {k p n i : Nat} {ls : List Int} (h : DpI x y k p n i ls) (hi : i < k) (hn : p + k ≤ n) : DpI x y k p n (i + 1) (ls.set (p + i) (at0 (lof (tb y) k) i)) := by
  refine ⟨by omega, ?_⟩
  rw [h.2, lof_at _ hi]
  refine lof_set ?_ (by omega) fun j hj => ?_
  · rw [if_pos (by omega)]; congr 2; omega
  · by_cases h1 : p ≤ j ∧ j < p + i
    · rw [if_pos h1, if_pos (by omega)]
    · rw [if_neg h1, if_neg (by omega)]
theorem DpI.fin {x y : Int} {k p n : Nat} {ls : List Int} (h : DpI x y k p n k ls) (hx : wid (pat x) ≤ n) (hn : p + k ≤ n) : BitsOf (dep x y k p) ls (decide (x < 0)) := by
  intro i
  rw [h.2, lof_len, tb_dep]
  by_cases hi : i < n
  · rw [if_pos hi, lof_bit _ hi]
  · rw [if_neg hi, if_neg (by omega), tb_over hx (by omega)]
/-- The rounds of Count. -/
def CtI (p : Nat) (i : Nat) (n : Int) : Prop := n + pc (p / 2 ^ i) = pc p ∧ 0 ≤ n ∧ n ≤ i
theorem CtI.start (p : Nat) : CtI p 0 0 := ⟨by simp, by omega, by omega⟩
theorem pc_step (p i : Nat) : pc (p / 2 ^ i) = (if tb (p : Int) i then 1 else 0) + pc (p / 2 ^ (i + 1)) := by
  rw [pc_half, Nat.pow_succ, Nat.div_div_eq_div_mul]
  congr 1
  have e : tb (p : Int) i = decide (p / 2 ^ i % 2 = 1) := by
    unfold tb
    have : ((p : Int) / 2 ^ i % 2) = ((p / 2 ^ i % 2 : Nat) : Int) := by
      rw [Int.natCast_emod, Int.natCast_ediv, Int.natCast_pow]; rfl
    rw [this]
    by_cases h : p / 2 ^ i % 2 = 1
    · rw [h]; simp
    · have h2 : p / 2 ^ i % 2 = 0 := by omega
      rw [h2]; decide
  rw [e]
  by_cases h : p / 2 ^ i % 2 = 1
  · rw [decide_eq_true h, h]; rfl
  · rw [decide_eq_false h]; simp; omega
theorem CtI.no {p i : Nat} {n : Int} (h : CtI p i n) (hb : tb (p : Int) i = false) : CtI p (i + 1) n := by
  obtain ⟨h1, h2, h3⟩ := h
  rw [pc_step, hb] at h1
  exact ⟨by simp at h1; omega, by omega, by omega⟩
theorem CtI.fin {p w : Nat} {n : Int} (h : CtI p w n) (hw : (p : Int) < 2 ^ w) : n = pc p := by
  obtain ⟨h1, _⟩ := h
  have : p < 2 ^ w := by
    have e : (2 : Int) ^ w = ((2 ^ w : Nat) : Int) := by rw [Int.natCast_pow]; rfl
    omega
  rw [Nat.div_eq_of_lt this, pc_zero] at h1
  omega
end Go.Proofs.Ytcgkgcciogibkaa.Ma
/- A walk by rules: rows of bools; rows wherever they lie, by index; boxes that hold just a value, known as something. -/
set_option linter.unusedVariables false
set_option linter.unusedSimpArgs false
namespace Go.Proofs.Ytcgkgcciogibkaa.Sy
open Go Go.RowKit Ma
theorem Addr.add_add' (a : Addr) (i j : Nat) : a.add (i + j) = (a.add i).add j := by
  unfold Addr.add
  by_cases hi : i = 0 <;> by_cases hj : j = 0 <;> simp [hi, hj, Nat.add_assoc]
def bv (x : Int) : Value := .bool (decide (x = 1))
def sad : Value → Option Addr
  | .slice A _ _ => A
  | _ => none
/-- A slice at A reads as these bools. -/
def RdB (w : World) (A : Option Addr) (xs : List Int) : Prop := xs.length ≤ 9223372036854775807 ∧ ∀ i, i < xs.length → ∃ ad, A = some ad ∧ w.cell? (ad.add i) = some (bv (at0 xs i))
theorem RdB.below {w W : World} {A : Option Addr} {xs : List Int} (h : RdB w A xs) (hb : Below w.heap.size w W) : RdB W A xs :=
  ⟨h.1, fun i hi => let ⟨ad, e, hc⟩ := h.2 i hi; ⟨ad, e, by rw [hb.cell (World.block_lt_of_cell? w _ hc)]; exact hc⟩⟩
theorem OwF.rdB {w : World} {b : Nat} {e : TypeId} {v : Value} {zs : List Int} (h : OwF w b e bv v zs) : ∃ A c, v = .slice A zs.length c ∧ zs.length ≤ c ∧ RdB w A zs := by
  rcases h.form with ⟨rfl, rfl⟩ | ⟨g, c, rfl, hc⟩
  · exact ⟨none, 0, rfl, Nat.le_refl _, by simp, fun i hi => by simp at hi⟩
  · refine ⟨some ⟨g, 0, none⟩, c, rfl, hc, ?_, fun i hi => ⟨⟨g, 0, none⟩, rfl, ?_⟩⟩
    · obtain ⟨_, h1 | ⟨g', cap, cur, hv, _, _, hc', hm, _⟩⟩ := h
      · cases h1.1
      · have hm2 : maxLen ≤ 9223372036854775807 := by unfold maxLen; decide
        injection hv with _ h2 h3
        omega
    · rw [add_at]; exact h.cellAt hi
section
variable {B N : Nat} {w0 : World} {ops : Array Oper} {o : Oper} {rest : List Oper} {fr : List (Nat × AV)} {Q : Exit → Act → World → Prop} {d : Nat}
theorem igetB_run {T : TypeId} {s i : Nat} {A : Option Addr} {xs : List Int} {a : Act} {W : World} (hf : Fr B N w0 fr a W) (ho : o.op = .load T (.tmp s)) (hs : look fr s = some (.vl (.pointer (padd A i)))) (hB : B = w0.heap.size) (rA : RdB w0 A xs) (hi : i < xs.length)
    (hl : ∀ (W : World) (p : Addr) (x : Int), W.cell? p = some (bv x) → (Instr.loadAt T (.pointer (some p))).run Try.prog W = .ok (bv x) W) : (execOp a.eval o).run Try.prog W = .ok (.value (bv (at0 xs i))) W := by
  obtain ⟨ad, rfl, hc⟩ := rA.2 i hi
  have h1 : a.tmps.getD s undef = .pointer (some (ad.add i)) := hf.ho s _ hs
  have h2 : W.cell? (ad.add i) = some (bv (at0 xs i)) := by
    rw [hf.be.cell (by rw [hB]; exact World.block_lt_of_cell? w0 _ hc)]; exact hc
  unfold execOp
  rw [ho]
  show (do pure (.value (← Instr.loadAt T (a.tmps.getD s undef))) : Sem Next).run Try.prog W = _
  rw [h1]
  exact run_val (hl W _ _ h2)
theorem PW.igetB {T : TypeId} {s i : Nat} {A : Option Addr} {xs : List Int} (hw : wantB ops fr o = some true) (hd : o.dst = some d) (hN : Nat.blt d N = true) (ho : o.op = .load T (.tmp s)) (hs : look fr s = some (.vl (.pointer (padd A i)))) (hB : B = w0.heap.size) (rA : RdB w0 A xs) (hi : i < xs.length)
    (hl : ∀ (W : World) (p : Addr) (x : Int), W.cell? p = some (bv x) → (Instr.loadAt T (.pointer (some p))).run Try.prog W = .ok (bv x) W) (hk : PW B N w0 ops rest ((d, .vl (.bool (decide (at0 xs i = 1)))) :: fr) Q) : PW B N w0 ops (o :: rest) fr Q :=
  PW.val (r := .vl (.bool (decide (at0 xs i = 1)))) hw hd hN rfl (fun a W hf => ⟨_, igetB_run hf ho hs hB rA hi hl, rfl⟩) hk
theorem DX.igetB {T : TypeId} {s i : Nat} {A : Option Addr} {xs : List Int} (hw : wantB ops fr o = some true) (hd : o.dst = some d) (hN : Nat.blt d N = true) (ho : o.op = .load T (.tmp s)) (hs : look fr s = some (.vl (.pointer (padd A i)))) (hB : B = w0.heap.size) (rA : RdB w0 A xs) (hi : i < xs.length)
    (hl : ∀ (W : World) (p : Addr) (x : Int), W.cell? p = some (bv x) → (Instr.loadAt T (.pointer (some p))).run Try.prog W = .ok (bv x) W) : Eo B N w0 ops o fr (.val d (.vl (.bool (decide (at0 xs i = 1))))) :=
  DX.val hw hd hN rfl (fun a W hf => ⟨_, igetB_run hf ho hs hB rA hi hl, rfl⟩)
/-- The place of a number in a row, wherever that lies. -/
theorem ridx_run {T : TypeId} {s K i : Nat} {y : Operand} {v : Value} {e : TypeId} {f : Int → Value} {zs : List Int} {a : Act} {W : World} (hf : Fr B N w0 fr a W) (ho : o.op = .indexAddr T (.tmp s) y) (hs : look fr s = some (.vl v)) (hy : opv fr y = some (.vl (.int .i64 (i : Int)))) (hK : look fr K = some (.ro v e f zs)) (hi : i < zs.length)
    (hx : ∀ (ρ : Operand → Value) (W : World) (g c : Nat), ρ (.tmp s) = .slice (some ⟨g, 0, none⟩) zs.length c → ρ y = .int .i64 (i : Int) → (execOp ρ o).run Try.prog W = .ok (.value (.pointer (some ⟨g, i, none⟩))) W) : (execOp a.eval o).run Try.prog W = .ok (.value (.pointer (padd (sad v) i))) W := by
  have ow : OwF W B e f v zs := hf.ho K _ hK
  have h1 : a.eval (.tmp s) = v := hf.ho s _ hs
  have h2 := opv_vl hf hy
  rcases ow.form with ⟨_, h⟩ | ⟨g, c, rfl, hc⟩
  · rw [h] at hi; simp at hi
  · rw [hx a.eval W g c h1 h2]
    show _ = Result.ok (Next.value (.pointer (some (Addr.add ⟨g, 0, none⟩ i)))) W
    rw [add_at]
theorem PW.ridx {T : TypeId} {s i : Nat} {y : Operand} {v : Value} {e : TypeId} {f : Int → Value} {zs : List Int} (K : Nat) (hw : wantB ops fr o = some true) (hd : o.dst = some d) (hN : Nat.blt d N = true) (ho : o.op = .indexAddr T (.tmp s) y) (hs : look fr s = some (.vl v)) (hy : opv fr y = some (.vl (.int .i64 (i : Int)))) (hK : look fr K = some (.ro v e f zs)) (hi : i < zs.length)
    (hx : ∀ (ρ : Operand → Value) (W : World) (g c : Nat), ρ (.tmp s) = .slice (some ⟨g, 0, none⟩) zs.length c → ρ y = .int .i64 (i : Int) → (execOp ρ o).run Try.prog W = .ok (.value (.pointer (some ⟨g, i, none⟩))) W) (hk : PW B N w0 ops rest ((d, .vl (.pointer (padd (sad v) i))) :: fr) Q) : PW B N w0 ops (o :: rest) fr Q :=
  PW.val (r := .vl (.pointer (padd (sad v) i))) hw hd hN rfl (fun a W hf => ⟨_, ridx_run hf ho hs hy hK hi hx, rfl⟩) hk
theorem DX.ridx {T : TypeId} {s i : Nat} {y : Operand} {v : Value} {e : TypeId} {f : Int → Value} {zs : List Int} (K : Nat) (hw : wantB ops fr o = some true) (hd : o.dst = some d) (hN : Nat.blt d N = true) (ho : o.op = .indexAddr T (.tmp s) y) (hs : look fr s = some (.vl v)) (hy : opv fr y = some (.vl (.int .i64 (i : Int)))) (hK : look fr K = some (.ro v e f zs)) (hi : i < zs.length)
    (hx : ∀ (ρ : Operand → Value) (W : World) (g c : Nat), ρ (.tmp s) = .slice (some ⟨g, 0, none⟩) zs.length c → ρ y = .int .i64 (i : Int) → (execOp ρ o).run Try.prog W = .ok (.value (.pointer (some ⟨g, i, none⟩))) W) : Eo B N w0 ops o fr (.val d (.vl (.pointer (padd (sad v) i)))) :=
  DX.val hw hd hN rfl (fun a W hf => ⟨_, ridx_run hf ho hs hy hK hi hx, rfl⟩)
theorem rget_run {T : TypeId} {t K i : Nat} {v : Value} {e : TypeId} {f : Int → Value} {zs : List Int} {a : Act} {W : World} (hf : Fr B N w0 fr a W) (ho : o.op = .load T (.tmp t)) (ht : look fr t = some (.vl (.pointer (padd (sad v) i)))) (hK : look fr K = some (.ro v e f zs)) (hi : i < zs.length)
    (hl : ∀ (W : World) (p : Addr) (x : Int), W.cell? p = some (f x) → (Instr.loadAt T (.pointer (some p))).run Try.prog W = .ok (f x) W) : (execOp a.eval o).run Try.prog W = .ok (.value (f (at0 zs i))) W := by
  have ow : OwF W B e f v zs := hf.ho K _ hK
  have h1 : a.tmps.getD t undef = .pointer (padd (sad v) i) := hf.ho t _ ht
  rcases ow.form with ⟨_, h⟩ | ⟨g, c, rfl, hc⟩
  · rw [h] at hi; simp at hi
  · have h2 := ow.cellAt hi
    unfold execOp
    rw [ho]
    show (do pure (.value (← Instr.loadAt T (a.tmps.getD t undef))) : Sem Next).run Try.prog W = _
    rw [h1]
    show (do pure (.value (← Instr.loadAt T (.pointer (some (Addr.add ⟨g, 0, none⟩ i))))) : Sem Next).run Try.prog W = _
    rw [add_at]
    exact run_val (hl W _ _ h2)
theorem PW.rget {T : TypeId} {t i : Nat} {v : Value} {e : TypeId} {f : Int → Value} {zs : List Int} (K : Nat) (hw : wantB ops fr o = some true) (hd : o.dst = some d) (hN : Nat.blt d N = true) (ho : o.op = .load T (.tmp t)) (ht : look fr t = some (.vl (.pointer (padd (sad v) i)))) (hK : look fr K = some (.ro v e f zs)) (hi : i < zs.length)
    (hl : ∀ (W : World) (p : Addr) (x : Int), W.cell? p = some (f x) → (Instr.loadAt T (.pointer (some p))).run Try.prog W = .ok (f x) W) (hk : PW B N w0 ops rest ((d, .vl (f (at0 zs i))) :: fr) Q) : PW B N w0 ops (o :: rest) fr Q :=
  PW.val (r := .vl (f (at0 zs i))) hw hd hN rfl (fun a W hf => ⟨_, rget_run hf ho ht hK hi hl, rfl⟩) hk
theorem DX.rget {T : TypeId} {t i : Nat} {v : Value} {e : TypeId} {f : Int → Value} {zs : List Int} (K : Nat) (hw : wantB ops fr o = some true) (hd : o.dst = some d) (hN : Nat.blt d N = true) (ho : o.op = .load T (.tmp t)) (ht : look fr t = some (.vl (.pointer (padd (sad v) i)))) (hK : look fr K = some (.ro v e f zs)) (hi : i < zs.length)
    (hl : ∀ (W : World) (p : Addr) (x : Int), W.cell? p = some (f x) → (Instr.loadAt T (.pointer (some p))).run Try.prog W = .ok (f x) W) : Eo B N w0 ops o fr (.val d (.vl (f (at0 zs i)))) :=
  DX.val hw hd hN rfl (fun a W hf => ⟨_, rget_run hf ho ht hK hi hl, rfl⟩)
/-- A number of a row is written, wherever that lies. -/
theorem PW.rput {T : TypeId} {t i : Nat} {x : Operand} {v : Value} {e : TypeId} {f : Int → Value} {zs : List Int} (y : Int) (K : Nat) (hw : wantB ops fr o = some true) (hd : o.dst = none) (ho : o.op = .store T (.tmp t) x) (ht : look fr t = some (.vl (.pointer (padd (sad v) i)))) (hK : look fr K = some (.ro v e f zs)) (hi : i < zs.length) (hx : opv fr x = some (.vl (f y))) (hc : calmB fr = true)
    (hst : ∀ (W : World) (p : Addr) (x y : Int), W.cell? p = some (f x) → W.frozen? p = false → (Instr.storeAt T (.pointer (some p)) (f y)).run Try.prog W = .ok () (W.setCell p (f y))) (hk : PW B N w0 ops rest ((K, .ro v e f (zs.set i y)) :: fr) Q) : PW B N w0 ops (o :: rest) fr Q :=
  PW.step hw fun a W hf K' hK' => by
    have ow : OwF W B e f v zs := hf.ho K _ hK
    have h1 : a.tmps.getD t undef = .pointer (padd (sad v) i) := hf.ho t _ ht
    rcases ow.form with ⟨_, h⟩ | ⟨g, c, hv, hcl⟩
    · rw [h] at hi; simp at hi
    · subst hv
      have h3 := opv_vl hf hx
      have h4 : a.tmps.getD t undef = .pointer (some ⟨g, i, none⟩) := by
        rw [h1]
        show Value.pointer (some (Addr.add ⟨g, 0, none⟩ i)) = _
        rw [add_at]
      have e2 : (execOp a.eval o).run Try.prog W = .ok .skip (W.setCell ⟨g, i, none⟩ (f y)) := by
        unfold execOp
        rw [ho]
        show (do (Instr.storeAt T (a.tmps.getD t undef) (a.eval x)); pure .skip : Sem Next).run Try.prog W = _
        rw [h4, h3]
        exact run_skip (hst W _ _ _ (ow.cellAt hi) (ow.frozenAt i))
      unfold Oper.wp
      rw [e2]
      show K' (a.put o.dst undef) _
      rw [hd]
      exact hK' _ _ (hk _ _ (hf.rset hK hc y))
def scap : Value → Nat
  | .slice _ _ c => c
  | _ => 0
def pof (v : Value) (p : Nat) : Nat := if scap v = p then 0 else p
/-- A part of a row, from p on. -/
theorem rsl_run {s K p : Nat} {y : Operand} {v : Value} {e : TypeId} {f : Int → Value} {zs : List Int} {a : Act} {W : World} (hf : Fr B N w0 fr a W) (hs : look fr s = some (.vl v)) (hy : opv fr y = some (.vl (.int .i64 (p : Int)))) (hK : look fr K = some (.ro v e f zs)) (hp : p ≤ zs.length)
    (h0 : ∀ (ρ : Operand → Value) (W : World), ρ (.tmp s) = .slice none 0 0 → ρ y = .int .i64 0 → (execOp ρ o).run Try.prog W = .ok (.value (.slice none 0 0)) W)
    (h1 : ∀ (ρ : Operand → Value) (W : World) (g c : Nat), ρ (.tmp s) = .slice (some ⟨g, 0, none⟩) zs.length c → ρ y = .int .i64 (p : Int) → zs.length ≤ c → (execOp ρ o).run Try.prog W = .ok (.value (.slice (some ⟨g, if c = p then 0 else p, none⟩) (zs.length - p) (c - p))) W) : (execOp a.eval o).run Try.prog W = .ok (.value (.slice (padd (sad v) (pof v p)) (zs.length - p) (scap v - p))) W := by
  have ow : OwF W B e f v zs := hf.ho K _ hK
  have hv : a.eval (.tmp s) = v := hf.ho s _ hs
  have hy := opv_vl hf hy
  rcases ow.form with ⟨rfl, rfl⟩ | ⟨g, c, rfl, hc⟩
  · obtain rfl : p = 0 := by simpa using hp
    exact h0 a.eval W hv hy
  · rw [h1 a.eval W g c hv hy hc]
    show _ = Result.ok (Next.value (.slice (some (Addr.add ⟨g, 0, none⟩ (if c = p then 0 else p))) _ _)) W
    rw [add_at]
    rfl
theorem PW.rsl {s p : Nat} {y : Operand} {v : Value} {e : TypeId} {f : Int → Value} {zs : List Int} (K : Nat) (hw : wantB ops fr o = some true) (hd : o.dst = some d) (hN : Nat.blt d N = true) (hs : look fr s = some (.vl v)) (hy : opv fr y = some (.vl (.int .i64 (p : Int)))) (hK : look fr K = some (.ro v e f zs)) (hp : p ≤ zs.length)
    (h0 : ∀ (ρ : Operand → Value) (W : World), ρ (.tmp s) = .slice none 0 0 → ρ y = .int .i64 0 → (execOp ρ o).run Try.prog W = .ok (.value (.slice none 0 0)) W)
    (h1 : ∀ (ρ : Operand → Value) (W : World) (g c : Nat), ρ (.tmp s) = .slice (some ⟨g, 0, none⟩) zs.length c → ρ y = .int .i64 (p : Int) → zs.length ≤ c → (execOp ρ o).run Try.prog W = .ok (.value (.slice (some ⟨g, if c = p then 0 else p, none⟩) (zs.length - p) (c - p))) W) (hk : PW B N w0 ops rest ((d, .vl (.slice (padd (sad v) (pof v p)) (zs.length - p) (scap v - p))) :: fr) Q) : PW B N w0 ops (o :: rest) fr Q :=
  PW.val (r := .vl (.slice (padd (sad v) (pof v p)) (zs.length - p) (scap v - p))) hw hd hN rfl (fun a W hf => ⟨_, rsl_run hf hs hy hK hp h0 h1, rfl⟩) hk
theorem OwF.rdB_drop {w : World} {b : Nat} {e : TypeId} {v : Value} {zs : List Int} (h : OwF w b e bv v zs) (p : Nat) : RdB w (padd (sad v) (pof v p)) (zs.drop p) := by
  obtain ⟨A, c, rfl, hc, r1, r2⟩ := OwF.rdB h
  by_cases hcp : c = p
  · exact ⟨by simp; omega, fun i hi => by rw [List.length_drop] at hi; omega⟩
  rw [show pof (.slice A zs.length c) p = p from if_neg hcp]
  refine ⟨by simp; omega, fun i hi => ?_⟩
  rw [List.length_drop] at hi
  obtain ⟨ad, rfl, hcell⟩ := r2 (p + i) (by omega)
  refine ⟨ad.add p, rfl, ?_⟩
  rw [← Addr.add_add', at0_drop, hcell]
theorem PW.loadck {T : TypeId} {s p : Nat} {b : BT} {v : Value} {k : Know} (hw : wantB ops fr o = some true) (hd : o.dst = some d) (hN : Nat.blt d N = true) (ho : o.op = .load T (.tmp s)) (hs : look fr s = some (.bc b p v)) (hT : b.T = T) (hB : B = w0.heap.size) (hk0 : k v w0) (st : St k) (hk : PW B N w0 ops rest ((d, .kw k) :: fr) Q) : PW B N w0 ops (o :: rest) fr Q :=
  PW.val (r := .kw k) hw hd hN rfl (fun a W hf => ⟨_, loadc_run hf ho hs hT, st _ _ _ (IntK.of_below (by have := hf.be; rw [hB] at this; exact this)) hk0, st⟩) hk
theorem DX.loadck {T : TypeId} {s p : Nat} {b : BT} {v : Value} {k : Know} (hw : wantB ops fr o = some true) (hd : o.dst = some d) (hN : Nat.blt d N = true) (ho : o.op = .load T (.tmp s)) (hs : look fr s = some (.bc b p v)) (hT : b.T = T) (hB : B = w0.heap.size) (hk0 : k v w0) (st : St k) : Eo B N w0 ops o fr (.val d (.kw k)) :=
  DX.val hw hd hN rfl (fun a W hf => ⟨_, loadc_run hf ho hs hT, st _ _ _ (IntK.of_below (by have := hf.be; rw [hB] at this; exact this)) hk0, st⟩)
end
section
variable {x y : Operand} {dst : Option Tmp} {ty : TypeId} {pos : String} {after : Array Edge} {guard : Option (Nat × Bool)} {ρ : Operand → Value} {W : World}
theorem r_idxB {g n cap i : Nat} (h1 : ρ x = .slice (some ⟨g, 0, none⟩) n cap) (h2 : ρ y = .int .i64 (i : Int)) (hi : i < n) : (execOp ρ ⟨dst, .indexAddr 96 x y, ty, pos, after, guard⟩).run Try.prog W = .ok (.value (.pointer (some ⟨g, i, none⟩))) W := by
  go_simp
theorem r_idxRB {w0 : World} {A : Option Addr} {xs : List Int} {cap i : Nat} (rA : RdB w0 A xs) (h1 : ρ x = .slice A xs.length cap) (h2 : ρ y = .int .i64 (i : Int)) (hi : i < xs.length) : (execOp ρ ⟨dst, .indexAddr 96 x y, ty, pos, after, guard⟩).run Try.prog W = .ok (.value (.pointer (padd A i))) W := by
  obtain ⟨ad, rfl, _⟩ := rA.2 i hi
  unfold padd
  go_simp
theorem r_lenB {A : Option Addr} {n cap : Nat} (h1 : ρ x = .slice A n cap) : (execOp ρ ⟨dst, .call ⟨.builtin .len, #[x], #[96]⟩, ty, pos, after, guard⟩).run Try.prog W = .ok (.value (.int .i64 (n : Int))) W := by
  go_simp
  done
theorem r_b1B {a : Int} (h1 : ρ x = bv a) : (execOp ρ ⟨dst, .buildSlice 96 1 #[(0, x)], ty, pos, after, guard⟩).run Try.prog W = .ok (.value (.slice (some ⟨W.heap.size, 0, none⟩) [a].length [a].length)) (W.alloc (.cells ([a].map bv).toArray 4)) := by
  unfold bv at h1
  go_simp
  rfl
theorem r_neB {a b t : Bool} (h1 : ρ x = .bool a) (h2 : ρ y = .bool b) (e : (a != b) = t) : (execOp ρ ⟨dst, .binOp .neq 4 x y 4, ty, pos, after, guard⟩).run Try.prog W = .ok (.value (.bool t)) W := by
  subst e
  go_simp
  cases a <;> cases b <;> rfl
theorem r_max {a b c : Int} (h1 : ρ x = .int .i64 a) (h2 : ρ y = .int .i64 b) (e : max a b = c) : (execOp ρ ⟨dst, .call ⟨.builtin .max, #[x, y], #[3, 3]⟩, ty, pos, after, guard⟩).run Try.prog W = .ok (.value (.int .i64 c)) W := by
  subst e
  go_simp
theorem r_slB {g n c p : Nat} (h1 : ρ x = .slice (some ⟨g, 0, none⟩) n c) (h2 : ρ y = .int .i64 (p : Int)) (hp : p ≤ n) (hc : n ≤ c) : (execOp ρ ⟨dst, .slice 96 x (some y) none none, ty, pos, after, guard⟩).run Try.prog W = .ok (.value (.slice (some ⟨g, if c = p then 0 else p, none⟩) (n - p) (c - p))) W := by
  by_cases h : c = p
  · subst h
    go_simp
  · rw [if_neg h]
    go_simp
theorem r_slB0 (h1 : ρ x = .slice none 0 0) (h2 : ρ y = .int .i64 0) : (execOp ρ ⟨dst, .slice 96 x (some y) none none, ty, pos, after, guard⟩).run Try.prog W = .ok (.value (.slice none 0 0)) W := by
  go_simp
end
theorem r_lBv (W : World) (p : Addr) (x : Int) (h : W.cell? p = some (bv x)) : (Instr.loadAt 4 (.pointer (some p))).run Try.prog W = .ok (bv x) W := by
  unfold bv at *
  go_simp
theorem r_sBv (W : World) (p : Addr) (x y : Int) (h : W.cell? p = some (bv x)) (hf : W.frozen? p = false) : (Instr.storeAt 4 (.pointer (some p)) (bv y)).run Try.prog W = .ok () (W.setCell p (bv y)) := by
  unfold bv at *
  go_simp
theorem info_bool : (Try.prog.info? 4).map (fun i => (i.zero, i.size, i.bytes)) = some (some (bv 0), 1, 1) := by kernel_rfl
end Go.Proofs.Ytcgkgcciogibkaa.Sy
/- The contract of the program's Power, by rules. -/
set_option linter.unusedVariables false
set_option linter.unusedSimpArgs false
namespace Go.Proofs.Ytcgkgcciogibkaa.Sy
open Go Go.RowKit Ma
end Go.Proofs.Ytcgkgcciogibkaa.Sy
/- The contract of the program's Power, in one; powers of powers of two. -/
set_option linter.unusedVariables false
set_option linter.unusedSimpArgs false
namespace Go.Proofs.Ytcgkgcciogibkaa.Sy
open Go Go.RowKit Ma
/-- What Power hands back. -/
def KP (x : Int) (n : Nat) : Know := if wid (pat (x ^ n)) ≤ 65536 then K2 (KI (x ^ n)) (KV (.int .i64 0)) else K2 (KI 0) (KV (.int .i64 14))
theorem KP.st (x : Int) (n : Nat) : St (KP x n) := by unfold KP; split <;> exact K2.st (KI.st _) (KV.st _)
theorem KP.ok {x : Int} {n : Nat} (h : wid (pat (x ^ n)) ≤ 65536) : KP x n = K2 (KI (x ^ n)) (KV (.int .i64 0)) := if_pos h
/-! ### Powers of powers of two -/
end Go.Proofs.Ytcgkgcciogibkaa.Sy
/- The reference's Length, Power, Root by rules. -/
set_option linter.unusedVariables false
set_option linter.unusedSimpArgs false
namespace Go.Proofs.Ytcgkgcciogibkaa.Sy
open Go Go.RowKit Ma
theorem wid_bdn {z : Int} {a : Nat} (h : bd a z) : wid (z.natAbs : Int) ≤ 32 * a := wid_le_of (by have := bd2.1 h; omega)
theorem wid_bdp {z : Int} {a : Nat} (h : bd a z) : wid (pat z) ≤ 32 * a := wid_le_of (by have := bd2.1 h; unfold pat; split <;> omega)
theorem bd_two {n i : Nat} (h : i ≤ 32 * n + 1) : bd (n + 1) (2 ^ i : Int) := by
  have h1 := pow_le (b := 2) (by decide) (show i + 1 ≤ 32 * (n + 1) by omega)
  have h2 : (0 : Int) < 2 ^ i := Int.pow_pos (by decide)
  rw [Int.pow_succ] at h1
  rw [bd2]
  omega
/-- The rounds of Root. -/
structure Rq (x : Int) (m t : Nat) (q : Int) : Prop where
  q0 : 0 ≤ q
  lo : q * q ≤ x
  hi : x < (q + 2 ^ t) * (q + 2 ^ t)
  le : t ≤ m
theorem Rq.start {x : Int} {w : Nat} (h : wid (x.natAbs : Int) = w) (hx : 0 ≤ x) : Rq x (w / 2 + 1) (w / 2 + 1) 0 := by
  refine ⟨by omega, by omega, ?_, Nat.le_refl _⟩
  have h1 := wid_lt (x.natAbs : Int)
  have h2 := pow_le (b := 2) (by decide) (show wid (x.natAbs : Int) ≤ (w / 2 + 1) + (w / 2 + 1) by omega)
  rw [Int.pow_add] at h2
  rw [Int.zero_add]
  omega
theorem Rq.up {x q : Int} {m i : Nat} (h : Rq x m (i + 1) q) (hq : (q + 2 ^ i) * (q + 2 ^ i) ≤ x) : Rq x m i (q + 2 ^ i) := by
  have hp : (0 : Int) < 2 ^ i := Int.pow_pos (by decide)
  have := h.hi
  have e : q + 2 ^ (i + 1) = q + 2 ^ i + 2 ^ i := by rw [Int.pow_succ]; omega
  rw [e] at this
  exact ⟨by have := h.q0; omega, hq, this, by have := h.le; omega⟩
theorem Rq.down {x q : Int} {m i : Nat} (h : Rq x m (i + 1) q) (hq : ¬ (q + 2 ^ i) * (q + 2 ^ i) ≤ x) : Rq x m i q := ⟨h.q0, h.lo, by omega, by have := h.le; omega⟩
theorem Rq.fin {x q r : Int} {m : Nat} (h : Rq x m 0 q) (h0 : 0 ≤ r) (h1 : r * r ≤ x) (h2 : x < (r + 1) * (r + 1)) : q = r := by
  have a := h.hi
  rw [Int.pow_zero] at a
  have b := h.lo
  have c := h.q0
  rcases Int.lt_trichotomy q r with e | e | e
  · have := Int.mul_le_mul (show q + 1 ≤ r by omega) (show q + 1 ≤ r by omega) (by omega) h0
    omega
  · exact e
  · have := Int.mul_le_mul (show r + 1 ≤ q by omega) (show r + 1 ≤ q by omega) (by omega) c
    omega
theorem Rq.bd {x q : Int} {m t n : Nat} (h : Rq x m t q) (X : Go.Proofs.Ytcgkgcciogibkaa.bd n x) : Go.Proofs.Ytcgkgcciogibkaa.bd n q := by
  have a := h.lo
  have b := h.q0
  have c : q ≤ x := by
    by_cases e : q = 0
    · rw [e] at a ⊢; omega
    · have := Int.mul_le_mul_of_nonneg_right (show 1 ≤ q by omega) b
      omega
  unfold Go.Proofs.Ytcgkgcciogibkaa.bd at *
  omega

theorem ce_k_jlen : CE 49 := fun args W => by go_simp

set_option maxHeartbeats 3200000 in
set_option maxRecDepth 100000 in
theorem k_jlen {x : Int} {a : Nat} (X : bd a x) (ha : a ≤ 400000) : CallOk 49 [KJ (x)] (KV (.int .i64 (wid (pat x) : Int))) := by
  refine CallOk.enter (l := [.kw (KJ (x))]) 11 ce_k_jlen Try.func49 rfl Try.ntmps49 (by simp) ⟨(KJ.st _), rfl, trivial⟩ fun w => ?_
  refine SC.seq ?_
  refine SC.region ?_
  refine PW.box (x := .tmp 0) (r := .kw (KJ (x))) (BI 31) rfl rfl rfl rfl rfl bJ rfl sh_J ?_
  refine PW.assign rfl rfl rfl rfl rfl ?_
  refine PW.nil ?_
  refine SX.then ?_
  refine SC.seq ?_
  refine SC.seq ?_
  by_cases nx : x < 0
  · refine SC.region ?_
    refine PW.fld (r := .vl (.bool true)) rfl rfl rfl rfl rfl rfl rfl rfl rfl rfl rfl (fldJ0 (decide_eq_true nx)) (KV.st _) ?_
    refine PW.nil ?_
    refine SX.then ?_
    refine SC.cond (t := true) rfl ?_
    refine SC.seq ?_
    refine SC.dx [.val 5 (.kw (KJ (x))), .val 6 (.kw (KJ (1))), .val 7 (.kw (KJ (x + 1))), .val 8 (.vl (.int .i64 (wid ((x + 1).natAbs) : Int))), .val 2 (.vl (.int .i64 (wid ((x + 1).natAbs) : Int)))] [([], [1]), ([], []), ([0, 1], []), ([2], []), ([3], [])] rfl (by kernel_rfl) (by kernel_rfl) (by kernel_rfl) rfl ⟨?_, ?_, ?_, ?_, ?_, trivial⟩ ?_
    · exact DX.load rfl rfl rfl rfl rfl rfl
    · exact DX.call (r := .kw (KJ (1))) rfl rfl rfl rfl rfl rfl (KJ.st _) rfl (k_jnew (by decide))
    · exact DX.call (r := .kw (KJ (x + 1))) rfl rfl rfl rfl rfl rfl (KJ.st _) rfl (k_jadd X (bd.lit (by decide)) (by first | decide | omega) (by first | decide | omega))
    · exact DX.call (r := .vl (.int .i64 (wid ((x + 1).natAbs) : Int))) rfl rfl rfl rfl rfl rfl (KV.st _) rfl (k_width (X.add (bd.lit (by decide))) (by first | decide | omega))
    · exact DX.assign rfl rfl rfl rfl rfl rfl
    refine SX.then ?_
    refine SC.ret ?_
    refine SX.thenR ?_
    have hr : (wid (pat x) : Int) = (wid ((x + 1).natAbs) : Int) := by unfold pat; rw [if_pos nx]; congr 2; omega
    rw [hr]
    exact SX.done (s := 2) (r := .vl (.int .i64 (wid ((x + 1).natAbs) : Int))) rfl rfl rfl
  · refine SC.region ?_
    refine PW.fld (r := .vl (.bool false)) rfl rfl rfl rfl rfl rfl rfl rfl rfl rfl rfl (fldJ0 (decide_eq_false nx)) (KV.st _) ?_
    refine PW.nil ?_
    refine SX.then ?_
    refine SC.cond (t := false) rfl ?_
    refine SC.skip ?_
    refine SX.then ?_
    refine SC.seq ?_
    refine SC.region ?_
    refine PW.load rfl rfl rfl rfl rfl rfl ?_
    refine PW.call (r := .vl (.int .i64 (wid ((x).natAbs) : Int))) rfl rfl rfl rfl rfl rfl (KV.st _) rfl (k_width X (by first | decide | omega)) ?_
    refine PW.assign rfl rfl rfl rfl rfl ?_
    refine PW.nil ?_
    refine SX.then ?_
    refine SC.ret ?_
    have hr : (wid (pat x) : Int) = (wid ((x).natAbs) : Int) := by unfold pat; rw [if_neg nx]; congr 2; omega
    rw [hr]
    exact SX.done (s := 2) (r := .vl (.int .i64 (wid ((x).natAbs) : Int))) rfl rfl rfl

end Go.Proofs.Ytcgkgcciogibkaa.Sy
/- The reference's Bits and Of by rules. -/
set_option linter.unusedVariables false
set_option linter.unusedSimpArgs false
namespace Go.Proofs.Ytcgkgcciogibkaa.Sy
open Go Go.RowKit Ma
theorem CallOk.toJ {f : FuncId} {ks : List Know} {a b : Int} (h : CallOk f ks (KJ a)) (e : a = b) : CallOk f ks (KJ b) := e ▸ h

set_option maxHeartbeats 3200000 in
set_option maxRecDepth 100000 in
theorem rbits_t {x : Int} {A : Option Addr} {l c n a : Nat} {w : World} (hX : KJ x (.agg #[.bool true, .slice A l c]) w) (X : bd a x) (ha : a ≤ 100000) (hn : n ≤ 4000000) (hx : x < 0) :
    Calls Try.prog 73 #[.agg #[.bool true, .slice A l c], .int .i64 (n : Int)] w (Ret w (KRf w.heap.size 4 bv (fun zs => zs = lof (tb x) n))) := by
  have Y := (bd.lit (by decide) : bd 1 (-1)).sub X
  refine calls_sc (l := [.vl (.agg #[.bool true, .slice A l c]), .vl (.int .i64 (n : Int))]) (us := [.agg #[.bool true, .slice A l c], .int .i64 (n : Int)]) 29 Try.func73 rfl Try.ntmps73 (by simp) ⟨rfl, rfl, rfl, rfl, trivial⟩ ?_
  refine SC.seq ?_
  refine SC.region ?_
  refine PW.boxc (x := .tmp 0) (BI 31) rfl rfl rfl rfl rfl bJ rfl ⟨_, _, _, _, _, rfl, rfl⟩ fun pb1 => ?_
  refine PW.assign rfl rfl rfl rfl rfl ?_
  refine PW.nil ?_
  refine SX.then ?_
  refine SC.seq ?_
  refine SC.region ?_
  refine PW.loadck (k := KJ (x)) rfl rfl rfl rfl rfl rfl rfl hX (KJ.st _) ?_
  refine PW.alloc (BI 31) rfl rfl rfl rfl rfl bJ ?_
  refine PW.store (x := .tmp 8) (r := .kw (KJ (x))) rfl rfl rfl rfl rfl rfl sh_J ?_
  refine PW.nil ?_
  refine SX.then ?_
  refine SC.seq ?_
  refine SC.seq ?_
  refine SC.region ?_
  refine PW.fac ⟨pb1, 0, none⟩ rfl rfl rfl rfl rfl facJ0 ?_
  refine PW.flc (s := 2) (.bool true) rfl rfl rfl rfl rfl rfl flcJ0 ?_
  refine PW.nil ?_
  refine SX.then ?_
  refine SC.cond (t := true) rfl ?_
  refine SC.dx [.val 11 (.kw (KJ (-1))), .val 12 (.kw (KJ (x))), .val 13 (.kw (KJ ((-1) - x))), .put 5 (BI 31) (.kw (KJ ((-1) - x)))] [([], []), ([], [2]), ([0, 1], []), ([2], [5])] rfl (by kernel_rfl) (by kernel_rfl) (by kernel_rfl) rfl ⟨?_, ?_, ?_, ?_, trivial⟩ ?_
  · exact DX.call (r := .kw (KJ (-1))) rfl rfl rfl rfl rfl rfl (KJ.st _) rfl (k_jnew (by decide))
  · exact DX.loadck (k := KJ (x)) rfl rfl rfl rfl rfl rfl rfl hX (KJ.st _)
  · exact DX.call (r := .kw (KJ ((-1) - x))) rfl rfl rfl rfl rfl rfl (KJ.st _) rfl (k_jsub (bd.lit (by decide)) X (by first | decide | omega) (by first | decide | omega))
  · exact DX.store (x := .tmp 13) (r := .kw (KJ ((-1) - x))) rfl rfl rfl rfl rfl rfl sh_J
  refine SX.then ?_
  refine SC.seq ?_
  refine SC.rebase (s := 5) [(1, .vl (.int .i64 (n : Int))), (2, .bc (BI 31) pb1 (.agg #[.bool true, .slice A l c])), (4, .vl (.slice none 0 0))] rfl ⟨rfl, rfl, rfl, trivial⟩ rfl fun p5 v5 w1 hb hb0 hY => ?_
  have hX := KJ.st _ _ _ _ (IntK.of_below hb) hX
  refine SC.region ?_
  refine PW.assign rfl rfl rfl rfl rfl ?_
  refine PW.nil ?_
  refine SX.then ?_
  refine SC.seq ?_
  refine SC.seq ?_
  refine SC.region ?_
  refine PW.assign rfl rfl rfl rfl rfl ?_
  refine PW.nil ?_
  refine SX.then ?_
  refine SC.block ?_
  refine SC.weak (fun a W hf => Fr.nilrow 29 4 (bv) hf) ?_
  refine SC.loop (S := Nat × Value × List Int) (fun ⟨i, v, zs⟩ => [(1, .vl (.int .i64 (n : Int))), (2, .bc (BI 31) pb1 (.agg #[.bool true, .slice A l c])), (5, .bc (BI 31) p5 (v5)), (6, .vl (v)), (7, .vl (.int .i64 (i : Int))), (29, .ro (v) 4 (bv) (zs))]) (fun ⟨i, v, zs⟩ => i ≤ n ∧ zs = lof (tb x) i) (fun ⟨i, v, zs⟩ => n - i) (0, .slice none 0 0, []) ⟨by omega, rfl⟩ ⟨rfl, rfl, rfl, rfl, rfl, rfl, trivial⟩ ?_
  rintro ⟨i, v, zs⟩ ⟨hi, hz2⟩
  show SC _ _ _ _ [(1, .vl (.int .i64 (n : Int))), (2, .bc (BI 31) pb1 (.agg #[.bool true, .slice A l c])), (5, .bc (BI 31) p5 (v5)), (6, .vl (v)), (7, .vl (.int .i64 (i : Int))), (29, .ro (v) 4 (bv) (zs))] _
  refine SC.seq ?_
  refine SC.seq ?_
  by_cases hk : (i : Int) < (n : Int)
  · refine SC.region ?_
    refine PW.move rfl rfl rfl rfl rfl ?_
    refine PW.move rfl rfl rfl rfl rfl ?_
    refine PW.q2 (x := .tmp 14) (y := .tmp 15) (.bool true) rfl rfl rfl rfl rfl (fun ρ W h1 h2 => by exact r_lt h1 h2 (decide_eq_true hk)) ?_
    refine PW.nil ?_
    refine SX.then ?_
    refine SC.cond (t := true) rfl ?_
    refine SC.skip ?_
    refine SX.then ?_
    refine SC.seq ?_
    refine SC.block ?_
    refine SC.dxl [.val 19 (.vl (v)), .val 20 (.kw (KJ (-1 - x))), .val 21 (.vl (.int .i64 (i : Int))), .val 22 (.vl (.bool (tb ((-1 - x).natAbs : Int) i))), .val 23 (.vl (.pointer (some ⟨pb1, 0, none⟩))), .val 24 (.vl (.bool true)), .val 25 (.vl (.bool (decide (bi (tb x i) = 1)))), .row 26 4 (bv) (fun zs => zs = [bi (tb x i)])] [([], [6]), ([], [5]), ([], [7]), ([1, 2], []), ([], [2]), ([4], [2]), ([3, 5], []), ([6], [])] rfl (by kernel_rfl) (by kernel_rfl) (by kernel_rfl) rfl (by kernel_rfl) ⟨?_, ?_, ?_, ?_, ?_, ?_, ?_, ?_, trivial⟩ ?_
    · exact DX.move rfl rfl rfl rfl rfl rfl
    · exact DX.loadck (k := KJ (-1 - x)) rfl rfl rfl rfl rfl rfl rfl hY (KJ.st _)
    · exact DX.move rfl rfl rfl rfl rfl rfl
    · exact DX.call (r := .vl (.bool (tb ((-1 - x).natAbs : Int) i))) rfl rfl rfl rfl rfl rfl (KV.st _) rfl (k_set Y (by omega) (by omega))
    · exact DX.fac ⟨pb1, 0, none⟩ rfl rfl rfl rfl rfl facJ0
    · exact DX.flc (s := 2) (.bool true) rfl rfl rfl rfl rfl rfl flcJ0
    · exact DX.q2 (x := .tmp 22) (y := .tmp 24) (.bool (decide (bi (tb x i) = 1))) rfl rfl rfl rfl rfl (fun ρ W h1 h2 => by exact r_neB h1 h2 (by rw [bi_eq]; exact bits_t hx i))
    · exact DX.bs (f := bv) [bi (tb x i)] rfl rfl rfl (fun a W hf => r_b1B (hf.vl (s := 25) rfl)) (by unfold maxLen; show 1 ≤ _; omega)
    refine PW.openx (s := 26) 30 rfl rfl ?_
    rintro vx2 _ rfl
    refine PW.keep [(1, .vl (.int .i64 (n : Int))), (2, .bc (BI 31) pb1 (.agg #[.bool true, .slice A l c])), (5, .bc (BI 31) p5 (v5)), (6, .vl (v)), (7, .vl (.int .i64 (i : Int))), (14, .vl (.int .i64 (i : Int))), (15, .vl (.int .i64 (n : Int))), (16, .vl (.bool true)), (19, .vl (v)), (21, .vl (.int .i64 (i : Int))), (22, .vl (.bool (tb ((-1 - x).natAbs : Int) i))), (23, .vl (.pointer (some ⟨pb1, 0, none⟩))), (24, .vl (.bool true)), (25, .vl (.bool (decide (bi (tb x i) = 1)))), (26, .vl (vx2)), (29, .ro (v) 4 (bv) (zs)), (30, .ro (vx2) 4 (bv) ([bi (tb x i)]))] ⟨rfl, rfl, rfl, rfl, rfl, rfl, rfl, rfl, rfl, rfl, rfl, rfl, rfl, rfl, rfl, rfl, rfl, trivial⟩ ?_
    refine PW.apr (K := 29) (K2 := 30) (f := bv) rfl rfl rfl rfl rfl rfl rfl rfl rfl Try.underlying96 info_bool rfl (fun _ => rfl) (by have l1 := hz2 ▸ lof_len (tb x) i; unfold maxLen; show _ + 1 ≤ _; omega) (by have l1 := hz2 ▸ lof_len (tb x) i; show (_ + 1) * 1 ≤ _; omega) rfl fun vq3 => ?_
    refine PW.assign rfl rfl rfl rfl rfl ?_
    refine PW.nil ?_
    refine SX.blockN ?_
    refine SX.then ?_
    refine SC.region ?_
    refine PW.move rfl rfl rfl rfl rfl ?_
    refine PW.q2 (x := .tmp 17) (y := .const (.int .i64 1)) (.int .i64 ((i + 1 : Nat))) rfl rfl rfl rfl rfl (fun ρ W h1 h2 => by exact r_add h1 h2 (by omega) (by omega)) ?_
    refine PW.assign rfl rfl rfl rfl rfl ?_
    refine PW.nil ?_
    refine SX.back (i + 1, vq3, zs ++ ([bi (tb x i)])) ?_ ?_ ?_
    · exact ⟨by omega, by rw [hz2, lof_succ]⟩
    · exact (show n - (i + 1) < n - i by omega)
    · exact ⟨rfl, rfl, rfl, rfl, rfl, rfl, trivial⟩
  · obtain rfl : i = n := by omega
    refine SC.region ?_
    refine PW.move rfl rfl rfl rfl rfl ?_
    refine PW.move rfl rfl rfl rfl rfl ?_
    refine PW.q2 (x := .tmp 14) (y := .tmp 15) (.bool false) rfl rfl rfl rfl rfl (fun ρ W h1 h2 => by exact r_lt h1 h2 (decide_eq_false hk)) ?_
    refine PW.nil ?_
    refine SX.then ?_
    refine SC.cond (t := false) rfl ?_
    refine SC.exit ?_
    refine SX.thenE ?_
    refine SX.thenE ?_
    refine SX.blockE ?_
    refine SX.then ?_
    refine SC.seq ?_
    refine SC.region ?_
    refine PW.move rfl rfl rfl rfl rfl ?_
    refine PW.assign rfl rfl rfl rfl rfl ?_
    refine PW.nil ?_
    refine SX.then ?_
    refine SC.ret ?_
    exact SX.doneRow (s := 4) (K1 := 29) (.inl rfl) rfl rfl rfl hz2 hb rfl

set_option maxHeartbeats 3200000 in
set_option maxRecDepth 100000 in
theorem rbits_f {x : Int} {A : Option Addr} {l c n a : Nat} {w : World} (hX : KJ x (.agg #[.bool false, .slice A l c]) w) (X : bd a x) (ha : a ≤ 100000) (hn : n ≤ 4000000) (hx : ¬ x < 0) :
    Calls Try.prog 73 #[.agg #[.bool false, .slice A l c], .int .i64 (n : Int)] w (Ret w (KRf w.heap.size 4 bv (fun zs => zs = lof (tb x) n))) := by
  have Y := X
  refine calls_sc (l := [.vl (.agg #[.bool false, .slice A l c]), .vl (.int .i64 (n : Int))]) (us := [.agg #[.bool false, .slice A l c], .int .i64 (n : Int)]) 29 Try.func73 rfl Try.ntmps73 (by simp) ⟨rfl, rfl, rfl, rfl, trivial⟩ ?_
  refine SC.seq ?_
  refine SC.region ?_
  refine PW.boxc (x := .tmp 0) (BI 31) rfl rfl rfl rfl rfl bJ rfl ⟨_, _, _, _, _, rfl, rfl⟩ fun pb1 => ?_
  refine PW.assign rfl rfl rfl rfl rfl ?_
  refine PW.nil ?_
  refine SX.then ?_
  refine SC.seq ?_
  refine SC.region ?_
  refine PW.loadck (k := KJ (x)) rfl rfl rfl rfl rfl rfl rfl hX (KJ.st _) ?_
  refine PW.alloc (BI 31) rfl rfl rfl rfl rfl bJ ?_
  refine PW.store (x := .tmp 8) (r := .kw (KJ (x))) rfl rfl rfl rfl rfl rfl sh_J ?_
  refine PW.nil ?_
  refine SX.then ?_
  refine SC.seq ?_
  refine SC.seq ?_
  refine SC.region ?_
  refine PW.fac ⟨pb1, 0, none⟩ rfl rfl rfl rfl rfl facJ0 ?_
  refine PW.flc (s := 2) (.bool false) rfl rfl rfl rfl rfl rfl flcJ0 ?_
  refine PW.nil ?_
  refine SX.then ?_
  refine SC.cond (t := false) rfl ?_
  refine SC.skip ?_
  refine SX.then ?_
  refine SC.seq ?_
  refine SC.rebase (s := 5) [(1, .vl (.int .i64 (n : Int))), (2, .bc (BI 31) pb1 (.agg #[.bool false, .slice A l c])), (4, .vl (.slice none 0 0))] rfl ⟨rfl, rfl, rfl, trivial⟩ rfl fun p5 v5 w1 hb hb0 hY => ?_
  have hX := KJ.st _ _ _ _ (IntK.of_below hb) hX
  refine SC.region ?_
  refine PW.assign rfl rfl rfl rfl rfl ?_
  refine PW.nil ?_
  refine SX.then ?_
  refine SC.seq ?_
  refine SC.seq ?_
  refine SC.region ?_
  refine PW.assign rfl rfl rfl rfl rfl ?_
  refine PW.nil ?_
  refine SX.then ?_
  refine SC.block ?_
  refine SC.weak (fun a W hf => Fr.nilrow 29 4 (bv) hf) ?_
  refine SC.loop (S := Nat × Value × List Int) (fun ⟨i, v, zs⟩ => [(1, .vl (.int .i64 (n : Int))), (2, .bc (BI 31) pb1 (.agg #[.bool false, .slice A l c])), (5, .bc (BI 31) p5 (v5)), (6, .vl (v)), (7, .vl (.int .i64 (i : Int))), (29, .ro (v) 4 (bv) (zs))]) (fun ⟨i, v, zs⟩ => i ≤ n ∧ zs = lof (tb x) i) (fun ⟨i, v, zs⟩ => n - i) (0, .slice none 0 0, []) ⟨by omega, rfl⟩ ⟨rfl, rfl, rfl, rfl, rfl, rfl, trivial⟩ ?_
  rintro ⟨i, v, zs⟩ ⟨hi, hz2⟩
  show SC _ _ _ _ [(1, .vl (.int .i64 (n : Int))), (2, .bc (BI 31) pb1 (.agg #[.bool false, .slice A l c])), (5, .bc (BI 31) p5 (v5)), (6, .vl (v)), (7, .vl (.int .i64 (i : Int))), (29, .ro (v) 4 (bv) (zs))] _
  refine SC.seq ?_
  refine SC.seq ?_
  by_cases hk : (i : Int) < (n : Int)
  · refine SC.region ?_
    refine PW.move rfl rfl rfl rfl rfl ?_
    refine PW.move rfl rfl rfl rfl rfl ?_
    refine PW.q2 (x := .tmp 14) (y := .tmp 15) (.bool true) rfl rfl rfl rfl rfl (fun ρ W h1 h2 => by exact r_lt h1 h2 (decide_eq_true hk)) ?_
    refine PW.nil ?_
    refine SX.then ?_
    refine SC.cond (t := true) rfl ?_
    refine SC.skip ?_
    refine SX.then ?_
    refine SC.seq ?_
    refine SC.block ?_
    refine SC.dxl [.val 19 (.vl (v)), .val 20 (.kw (KJ (x))), .val 21 (.vl (.int .i64 (i : Int))), .val 22 (.vl (.bool (tb ((x).natAbs : Int) i))), .val 23 (.vl (.pointer (some ⟨pb1, 0, none⟩))), .val 24 (.vl (.bool false)), .val 25 (.vl (.bool (decide (bi (tb x i) = 1)))), .row 26 4 (bv) (fun zs => zs = [bi (tb x i)])] [([], [6]), ([], [5]), ([], [7]), ([1, 2], []), ([], [2]), ([4], [2]), ([3, 5], []), ([6], [])] rfl (by kernel_rfl) (by kernel_rfl) (by kernel_rfl) rfl (by kernel_rfl) ⟨?_, ?_, ?_, ?_, ?_, ?_, ?_, ?_, trivial⟩ ?_
    · exact DX.move rfl rfl rfl rfl rfl rfl
    · exact DX.loadck (k := KJ (x)) rfl rfl rfl rfl rfl rfl rfl hY (KJ.st _)
    · exact DX.move rfl rfl rfl rfl rfl rfl
    · exact DX.call (r := .vl (.bool (tb ((x).natAbs : Int) i))) rfl rfl rfl rfl rfl rfl (KV.st _) rfl (k_set Y (by omega) (by omega))
    · exact DX.fac ⟨pb1, 0, none⟩ rfl rfl rfl rfl rfl facJ0
    · exact DX.flc (s := 2) (.bool false) rfl rfl rfl rfl rfl rfl flcJ0
    · exact DX.q2 (x := .tmp 22) (y := .tmp 24) (.bool (decide (bi (tb x i) = 1))) rfl rfl rfl rfl rfl (fun ρ W h1 h2 => by exact r_neB h1 h2 (by rw [bi_eq]; exact bits_f hx i))
    · exact DX.bs (f := bv) [bi (tb x i)] rfl rfl rfl (fun a W hf => r_b1B (hf.vl (s := 25) rfl)) (by unfold maxLen; show 1 ≤ _; omega)
    refine PW.openx (s := 26) 30 rfl rfl ?_
    rintro vx2 _ rfl
    refine PW.keep [(1, .vl (.int .i64 (n : Int))), (2, .bc (BI 31) pb1 (.agg #[.bool false, .slice A l c])), (5, .bc (BI 31) p5 (v5)), (6, .vl (v)), (7, .vl (.int .i64 (i : Int))), (14, .vl (.int .i64 (i : Int))), (15, .vl (.int .i64 (n : Int))), (16, .vl (.bool true)), (19, .vl (v)), (21, .vl (.int .i64 (i : Int))), (22, .vl (.bool (tb ((x).natAbs : Int) i))), (23, .vl (.pointer (some ⟨pb1, 0, none⟩))), (24, .vl (.bool false)), (25, .vl (.bool (decide (bi (tb x i) = 1)))), (26, .vl (vx2)), (29, .ro (v) 4 (bv) (zs)), (30, .ro (vx2) 4 (bv) ([bi (tb x i)]))] ⟨rfl, rfl, rfl, rfl, rfl, rfl, rfl, rfl, rfl, rfl, rfl, rfl, rfl, rfl, rfl, rfl, rfl, trivial⟩ ?_
    refine PW.apr (K := 29) (K2 := 30) (f := bv) rfl rfl rfl rfl rfl rfl rfl rfl rfl Try.underlying96 info_bool rfl (fun _ => rfl) (by have l1 := hz2 ▸ lof_len (tb x) i; unfold maxLen; show _ + 1 ≤ _; omega) (by have l1 := hz2 ▸ lof_len (tb x) i; show (_ + 1) * 1 ≤ _; omega) rfl fun vq3 => ?_
    refine PW.assign rfl rfl rfl rfl rfl ?_
    refine PW.nil ?_
    refine SX.blockN ?_
    refine SX.then ?_
    refine SC.region ?_
    refine PW.move rfl rfl rfl rfl rfl ?_
    refine PW.q2 (x := .tmp 17) (y := .const (.int .i64 1)) (.int .i64 ((i + 1 : Nat))) rfl rfl rfl rfl rfl (fun ρ W h1 h2 => by exact r_add h1 h2 (by omega) (by omega)) ?_
    refine PW.assign rfl rfl rfl rfl rfl ?_
    refine PW.nil ?_
    refine SX.back (i + 1, vq3, zs ++ ([bi (tb x i)])) ?_ ?_ ?_
    · exact ⟨by omega, by rw [hz2, lof_succ]⟩
    · exact (show n - (i + 1) < n - i by omega)
    · exact ⟨rfl, rfl, rfl, rfl, rfl, rfl, trivial⟩
  · obtain rfl : i = n := by omega
    refine SC.region ?_
    refine PW.move rfl rfl rfl rfl rfl ?_
    refine PW.move rfl rfl rfl rfl rfl ?_
    refine PW.q2 (x := .tmp 14) (y := .tmp 15) (.bool false) rfl rfl rfl rfl rfl (fun ρ W h1 h2 => by exact r_lt h1 h2 (decide_eq_false hk)) ?_
    refine PW.nil ?_
    refine SX.then ?_
    refine SC.cond (t := false) rfl ?_
    refine SC.exit ?_
    refine SX.thenE ?_
    refine SX.thenE ?_
    refine SX.blockE ?_
    refine SX.then ?_
    refine SC.seq ?_
    refine SC.region ?_
    refine PW.move rfl rfl rfl rfl rfl ?_
    refine PW.assign rfl rfl rfl rfl rfl ?_
    refine PW.nil ?_
    refine SX.then ?_
    refine SC.ret ?_
    exact SX.doneRow (s := 4) (K1 := 29) (.inl rfl) rfl rfl rfl hz2 hb rfl

theorem ce_bits : CE 73 := fun args W => by go_simp
theorem k_bits {x : Int} {a n : Nat} (X : bd a x) (ha : a ≤ 100000) (hn : n ≤ 4000000) : CallRow 73 [KJ x, KV (.int .i64 (n : Int))] 4 bv (fun zs => zs = lof (tb x) n) := ⟨ce_bits, fun W us hu => by
  obtain ⟨u, v, rfl, ⟨m, A, l, c, e, h⟩, e2⟩ := all2 hu
  obtain rfl : v = _ := e2
  have hm : m = decide (x < 0) := by obtain ⟨_, _, _, _, _, _, _, hm⟩ := RJ.num h; exact hm
  have hX : KJ x u W := ⟨m, A, l, c, e, h⟩
  subst e
  by_cases hx : x < 0
  · rw [decide_eq_true hx] at hm; subst hm; exact rbits_t hX X ha hn hx
  · rw [decide_eq_false hx] at hm; subst hm; exact rbits_f hX X ha hn hx⟩

set_option maxHeartbeats 3200000 in
set_option maxRecDepth 100000 in
theorem rof_t {z : Int} {A : Option Addr} {c a : Nat} {ls : List Int} {w : World} (rA : RdB w A ls) (hl : ls.length ≤ 4000000) (hz : BitsOf z ls true) (Z : bd a (bflip true z)) (ha : a ≤ 400000) :
    Calls Try.prog 75 #[.slice A ls.length c, .bool true] w (Ret w (KJ z)) := by
  refine calls_sc (l := [.vl (.slice A ls.length c), .vl (.bool true)]) (us := [.slice A ls.length c, .bool true]) 47 Try.func75 rfl Try.ntmps75 (by simp) ⟨rfl, rfl, rfl, rfl, trivial⟩ ?_
  refine SC.seq ?_
  refine SC.region ?_
  refine PW.alloc (BI 31) rfl rfl rfl rfl rfl bJ ?_
  refine PW.nil ?_
  refine SX.then ?_
  refine SC.seq ?_
  refine SC.region ?_
  refine PW.move rfl rfl rfl rfl rfl ?_
  refine PW.qn [(.tmp 8, .slice A ls.length c)] (.int .i64 (ls.length : Int)) rfl rfl rfl ⟨rfl, trivial⟩ (fun ρ W h => by obtain ⟨h1, _⟩ := h; exact r_lenB h1) ?_
  refine PW.q2 (x := .tmp 9) (y := .const (.int .i64 16)) (.int .i64 ((ls.length / 16 : Nat))) rfl rfl rfl rfl rfl (fun ρ W h1 h2 => by exact r_quo h1 h2 (by omega) (by omega) (by decide)) ?_
  refine PW.q2 (x := .tmp 10) (y := .const (.int .i64 1)) (.int .i64 ((ls.length / 16 + 1 : Nat))) rfl rfl rfl rfl rfl (fun ρ W h1 h2 => by exact r_add h1 h2 (by omega) (by omega)) ?_
  refine PW.make (n := (ls.length / 16 + 1)) 47 rfl rfl rfl rfl rfl Try.underlying29 info_i64 (by omega) (by unfold maxLen; omega) fun g1 => ?_
  refine PW.assign rfl rfl rfl rfl rfl ?_
  refine PW.nil ?_
  refine SX.then ?_
  refine SC.seq ?_
  refine SC.seq ?_
  refine SC.region ?_
  refine PW.move rfl rfl rfl rfl rfl ?_
  refine PW.qn [(.tmp 13, .slice A ls.length c)] (.int .i64 (ls.length : Int)) rfl rfl rfl ⟨rfl, trivial⟩ (fun ρ W h => by obtain ⟨h1, _⟩ := h; exact r_lenB h1) ?_
  refine PW.q2 (x := .tmp 14) (y := .const (.int .i64 1)) (.int .i64 ((ls.length : Int) - 1)) rfl rfl rfl rfl rfl (fun ρ W h1 h2 => by exact r_sub h1 h2 (rfl) (by omega)) ?_
  refine PW.assign rfl rfl rfl rfl rfl ?_
  refine PW.nil ?_
  refine SX.then ?_
  refine SC.block ?_
  refine SC.loop (S := Nat × List Int) (fun ⟨t, ds⟩ => [(0, .vl (.slice A ls.length c)), (1, .vl (.bool true)), (4, .nb (BI 31)), (5, .vl (.slice (some ⟨g1, 0, none⟩) (ls.length / 16 + 1) (ls.length / 16 + 1))), (6, .vl (.int .i64 ((t : Int) - 1))), (47, .ro (.slice (some ⟨g1, 0, none⟩) (ls.length / 16 + 1) (ls.length / 16 + 1)) 3 (.int .i64) (ds))]) (fun ⟨t, ds⟩ => OfI (bflip true z) ls.length t ds) (fun ⟨t, ds⟩ => t) (ls.length, List.replicate (ls.length / 16 + 1) 0) (OfI.start hz.high.1 hz.high.2) ⟨rfl, rfl, rfl, rfl, rfl, rfl, trivial⟩ ?_
  rintro ⟨t, ds⟩ hP
  show SC _ _ _ _ [(0, .vl (.slice A ls.length c)), (1, .vl (.bool true)), (4, .nb (BI 31)), (5, .vl (.slice (some ⟨g1, 0, none⟩) (ls.length / 16 + 1) (ls.length / 16 + 1))), (6, .vl (.int .i64 ((t : Int) - 1))), (47, .ro (.slice (some ⟨g1, 0, none⟩) (ls.length / 16 + 1) (ls.length / 16 + 1)) 3 (.int .i64) (ds))] _
  refine SC.seq ?_
  refine SC.seq ?_
  by_cases ht : (0 : Int) ≤ (t : Int) - 1
  · obtain ⟨i, rfl⟩ : ∃ i, t = i + 1 := ⟨t - 1, by omega⟩
    rw [show ((i + 1 : Nat) : Int) - 1 = (i : Int) by omega]
    rw [show ((i + 1 : Nat) : Int) - 1 = (i : Int) by omega] at ht
    have hbn := hP.bound
    have hdl := hP.2.1
    have hil := hP.1
    have hbit : (decide (at0 ls i = 1) != true) = tb (bflip true z) i := by rw [tb_bflip, hz i, if_pos (by omega)]
    refine SC.region ?_
    refine PW.move rfl rfl rfl rfl rfl ?_
    refine PW.q2 (x := .tmp 16) (y := .const (.int .i64 0)) (.bool true) rfl rfl rfl rfl rfl (fun ρ W h1 h2 => by exact r_ge h1 h2 (decide_eq_true ht)) ?_
    refine PW.nil ?_
    refine SX.then ?_
    refine SC.cond (t := true) rfl ?_
    refine SC.skip ?_
    refine SX.then ?_
    refine SC.seq ?_
    refine SC.block ?_
    refine SC.seq ?_
    refine SC.region ?_
    refine PW.move rfl rfl rfl rfl rfl ?_
    refine PW.move rfl rfl rfl rfl rfl ?_
    refine PW.q2 (x := .tmp 21) (y := .const (.int .i64 16)) (.int .i64 ((i / 16 : Nat))) rfl rfl rfl rfl rfl (fun ρ W h1 h2 => by exact r_quo h1 h2 (by omega) (by omega) (by decide)) ?_
    refine PW.q2 (x := .tmp 20) (y := .tmp 22) (.pointer (some ⟨g1, i / 16, none⟩)) rfl rfl rfl rfl rfl (fun ρ W h1 h2 => r_idxI h1 h2 (by first | omega | (simp only [List.length_set]; omega))) ?_
    refine PW.rload (K := 47) (i := i / 16) rfl rfl rfl rfl rfl rfl (by first | omega | (simp only [List.length_set]; omega)) r_l64 ?_
    refine PW.q2 (x := .tmp 24) (y := .const (.int .i64 2)) (.int .i64 (at0 ds (i / 16) * 2)) rfl rfl rfl rfl rfl (fun ρ W h1 h2 => by exact r_mul h1 h2 (rfl) (by omega)) ?_
    refine PW.q2 (x := .tmp 20) (y := .tmp 22) (.pointer (some ⟨g1, i / 16, none⟩)) rfl rfl rfl rfl rfl (fun ρ W h1 h2 => r_idxI h1 h2 (by first | omega | (simp only [List.length_set]; omega))) ?_
    refine PW.rstore (K := 47) (x := .tmp 25) (i := i / 16) (y := (at0 ds (i / 16) * 2)) rfl rfl rfl rfl rfl (by first | omega | (simp only [List.length_set]; omega)) rfl rfl r_s64 ?_
    refine PW.nil ?_
    refine SX.then ?_
    refine SC.seq ?_
    by_cases hb : tb (bflip true z) i = true
    · refine SC.region ?_
      refine PW.move rfl rfl rfl rfl rfl ?_
      refine PW.move rfl rfl rfl rfl rfl ?_
      refine PW.q2 (x := .tmp 27) (y := .tmp 28) (.pointer (padd A i)) rfl rfl rfl rfl rfl (fun ρ W h1 h2 => r_idxRB rA h1 h2 (by omega)) ?_
      refine PW.igetB (i := i) rfl rfl rfl rfl rfl rfl rA (by omega) r_lBv ?_
      refine PW.move rfl rfl rfl rfl rfl ?_
      refine PW.q2 (x := .tmp 30) (y := .tmp 31) (.bool true) rfl rfl rfl rfl rfl (fun ρ W h1 h2 => by exact r_neB h1 h2 (by rw [hbit]; exact hb)) ?_
      refine PW.nil ?_
      refine SX.then ?_
      refine SC.cond (t := true) rfl ?_
      refine SC.region ?_
      refine PW.move rfl rfl rfl rfl rfl ?_
      refine PW.move rfl rfl rfl rfl rfl ?_
      refine PW.q2 (x := .tmp 34) (y := .const (.int .i64 16)) (.int .i64 ((i / 16 : Nat))) rfl rfl rfl rfl rfl (fun ρ W h1 h2 => by exact r_quo h1 h2 (by omega) (by omega) (by decide)) ?_
      refine PW.q2 (x := .tmp 33) (y := .tmp 35) (.pointer (some ⟨g1, i / 16, none⟩)) rfl rfl rfl rfl rfl (fun ρ W h1 h2 => r_idxI h1 h2 (by first | omega | (simp only [List.length_set]; omega))) ?_
      refine PW.rload (K := 47) (i := i / 16) rfl rfl rfl rfl rfl rfl (by first | omega | (simp only [List.length_set]; omega)) r_l64 ?_
      refine PW.q2 (x := .tmp 37) (y := .const (.int .i64 1)) (.int .i64 (at0 ds (i / 16) * 2 + 1)) rfl rfl rfl rfl rfl (fun ρ W h1 h2 => by exact r_add h1 h2 (by rw [Ma.at0_put_self _ (by omega)]) (by omega)) ?_
      refine PW.q2 (x := .tmp 33) (y := .tmp 35) (.pointer (some ⟨g1, i / 16, none⟩)) rfl rfl rfl rfl rfl (fun ρ W h1 h2 => r_idxI h1 h2 (by first | omega | (simp only [List.length_set]; omega))) ?_
      refine PW.rstore (K := 47) (x := .tmp 38) (i := i / 16) (y := (at0 ds (i / 16) * 2 + 1)) rfl rfl rfl rfl rfl (by first | omega | (simp only [List.length_set]; omega)) rfl rfl r_s64 ?_
      refine PW.nil ?_
      refine SX.blockN ?_
      refine SX.then ?_
      refine SC.region ?_
      refine PW.move rfl rfl rfl rfl rfl ?_
      refine PW.q2 (x := .tmp 18) (y := .const (.int .i64 1)) (.int .i64 ((i : Int) - 1)) rfl rfl rfl rfl rfl (fun ρ W h1 h2 => by exact r_sub h1 h2 (rfl) (by omega)) ?_
      refine PW.assign rfl rfl rfl rfl rfl ?_
      refine PW.nil ?_
      refine SX.back (i, (ds.set (i / 16) (at0 ds (i / 16) * 2)).set (i / 16) (at0 ds (i / 16) * 2 + 1)) ?_ ?_ ?_
      · exact (by rw [List.set_set]; exact hP.step (by rw [hb]; rfl))
      · exact (show i < i + 1 by omega)
      · exact ⟨rfl, rfl, rfl, rfl, rfl, rfl, trivial⟩
    · refine SC.region ?_
      refine PW.move rfl rfl rfl rfl rfl ?_
      refine PW.move rfl rfl rfl rfl rfl ?_
      refine PW.q2 (x := .tmp 27) (y := .tmp 28) (.pointer (padd A i)) rfl rfl rfl rfl rfl (fun ρ W h1 h2 => r_idxRB rA h1 h2 (by omega)) ?_
      refine PW.igetB (i := i) rfl rfl rfl rfl rfl rfl rA (by omega) r_lBv ?_
      refine PW.move rfl rfl rfl rfl rfl ?_
      refine PW.q2 (x := .tmp 30) (y := .tmp 31) (.bool false) rfl rfl rfl rfl rfl (fun ρ W h1 h2 => by exact r_neB h1 h2 (by rw [hbit]; exact (by simpa using hb))) ?_
      refine PW.nil ?_
      refine SX.then ?_
      refine SC.cond (t := false) rfl ?_
      refine SC.skip ?_
      refine SX.blockN ?_
      refine SX.then ?_
      refine SC.region ?_
      refine PW.move rfl rfl rfl rfl rfl ?_
      refine PW.q2 (x := .tmp 18) (y := .const (.int .i64 1)) (.int .i64 ((i : Int) - 1)) rfl rfl rfl rfl rfl (fun ρ W h1 h2 => by exact r_sub h1 h2 (rfl) (by omega)) ?_
      refine PW.assign rfl rfl rfl rfl rfl ?_
      refine PW.nil ?_
      refine SX.back (i, ds.set (i / 16) (at0 ds (i / 16) * 2)) ?_ ?_ ?_
      · exact (hP.step (by rw [show tb (bflip true z) i = false by simpa using hb]; simp))
      · exact (show i < i + 1 by omega)
      · exact ⟨rfl, rfl, rfl, rfl, rfl, rfl, trivial⟩
  · obtain rfl : t = 0 := by omega
    refine SC.region ?_
    refine PW.move rfl rfl rfl rfl rfl ?_
    refine PW.q2 (x := .tmp 16) (y := .const (.int .i64 0)) (.bool false) rfl rfl rfl rfl rfl (fun ρ W h1 h2 => by exact r_ge h1 h2 (decide_eq_false ht)) ?_
    refine PW.nil ?_
    refine SX.then ?_
    refine SC.cond (t := false) rfl ?_
    refine SC.exit ?_
    refine SX.thenE ?_
    refine SX.thenE ?_
    refine SX.blockE ?_
    refine SX.then ?_
    refine SC.seq ?_
    refine SC.region ?_
    refine PW.move rfl rfl rfl rfl rfl ?_
    refine PW.callG (r := .kw (KJ (bflip true z))) ce_rmade rfl rfl rfl rfl rfl (KJ.st _) rfl (fun a W hf => by have h2 := hf.vl (s := 40) rfl; have own : OwF W _ _ (.int .i64) (.slice (some ⟨g1, 0, none⟩) (ls.length / 16 + 1) (ls.length / 16 + 1)) ds := hf.ho 47 _ rfl; obtain ⟨A4, c4, e4, hc4, rd4⟩ := Own.rd own; show Calls Try.prog _ #[.bool false, a.tmps.getD 40 undef] W _; rw [h2, e4, ← hP.fin hz.high.1 hz.high.2]; exact rmade_c (n := false) rfl rd4 hc4 hP.dg) ?_
    refine PW.alloc (BI 31) rfl rfl rfl rfl rfl bJ ?_
    refine PW.store (x := .tmp 41) (r := .kw (KJ (bflip true z))) rfl rfl rfl rfl rfl rfl sh_J ?_
    refine PW.nil ?_
    refine SX.then ?_
    refine SC.seq ?_
    refine SC.seq ?_
    refine SC.region ?_
    refine PW.move rfl rfl rfl rfl rfl ?_
    refine PW.nil ?_
    refine SX.then ?_
    refine SC.cond (t := true) rfl ?_
    refine SC.seq ?_
    refine SC.dx [.val 43 (.kw (KJ (-1))), .val 44 (.kw (KJ (bflip true z))), .val 45 (.kw (KJ (z))), .put 4 (BI 31) (.kw (KJ (z)))] [([], []), ([], [7]), ([0, 1], []), ([2], [4])] rfl (by kernel_rfl) (by kernel_rfl) (by kernel_rfl) rfl ⟨?_, ?_, ?_, ?_, trivial⟩ ?_
    · exact DX.call (r := .kw (KJ (-1))) rfl rfl rfl rfl rfl rfl (KJ.st _) rfl (k_jnew (by decide))
    · exact DX.load rfl rfl rfl rfl rfl rfl
    · exact DX.call (r := .kw (KJ (z))) rfl rfl rfl rfl rfl rfl (KJ.st _) rfl ((k_jsub (bd.lit (by decide) : bd 1 (-1)) Z (by omega) (by omega)).toJ (show -1 - (-1 - z) = z by omega))
    · exact DX.store (x := .tmp 45) (r := .kw (KJ (z))) rfl rfl rfl rfl rfl rfl sh_J
    refine SX.then ?_
    refine SC.ret ?_
    refine SX.thenR ?_
    exact SX.doneC (s := 4) (.inl rfl) rfl rfl rfl

set_option maxHeartbeats 3200000 in
set_option maxRecDepth 100000 in
theorem rof_f {z : Int} {A : Option Addr} {c a : Nat} {ls : List Int} {w : World} (rA : RdB w A ls) (hl : ls.length ≤ 4000000) (hz : BitsOf z ls false) (Z : bd a (bflip false z)) (ha : a ≤ 400000) :
    Calls Try.prog 75 #[.slice A ls.length c, .bool false] w (Ret w (KJ z)) := by
  refine calls_sc (l := [.vl (.slice A ls.length c), .vl (.bool false)]) (us := [.slice A ls.length c, .bool false]) 47 Try.func75 rfl Try.ntmps75 (by simp) ⟨rfl, rfl, rfl, rfl, trivial⟩ ?_
  refine SC.seq ?_
  refine SC.region ?_
  refine PW.alloc (BI 31) rfl rfl rfl rfl rfl bJ ?_
  refine PW.nil ?_
  refine SX.then ?_
  refine SC.seq ?_
  refine SC.region ?_
  refine PW.move rfl rfl rfl rfl rfl ?_
  refine PW.qn [(.tmp 8, .slice A ls.length c)] (.int .i64 (ls.length : Int)) rfl rfl rfl ⟨rfl, trivial⟩ (fun ρ W h => by obtain ⟨h1, _⟩ := h; exact r_lenB h1) ?_
  refine PW.q2 (x := .tmp 9) (y := .const (.int .i64 16)) (.int .i64 ((ls.length / 16 : Nat))) rfl rfl rfl rfl rfl (fun ρ W h1 h2 => by exact r_quo h1 h2 (by omega) (by omega) (by decide)) ?_
  refine PW.q2 (x := .tmp 10) (y := .const (.int .i64 1)) (.int .i64 ((ls.length / 16 + 1 : Nat))) rfl rfl rfl rfl rfl (fun ρ W h1 h2 => by exact r_add h1 h2 (by omega) (by omega)) ?_
  refine PW.make (n := (ls.length / 16 + 1)) 47 rfl rfl rfl rfl rfl Try.underlying29 info_i64 (by omega) (by unfold maxLen; omega) fun g1 => ?_
  refine PW.assign rfl rfl rfl rfl rfl ?_
  refine PW.nil ?_
  refine SX.then ?_
  refine SC.seq ?_
  refine SC.seq ?_
  refine SC.region ?_
  refine PW.move rfl rfl rfl rfl rfl ?_
  refine PW.qn [(.tmp 13, .slice A ls.length c)] (.int .i64 (ls.length : Int)) rfl rfl rfl ⟨rfl, trivial⟩ (fun ρ W h => by obtain ⟨h1, _⟩ := h; exact r_lenB h1) ?_
  refine PW.q2 (x := .tmp 14) (y := .const (.int .i64 1)) (.int .i64 ((ls.length : Int) - 1)) rfl rfl rfl rfl rfl (fun ρ W h1 h2 => by exact r_sub h1 h2 (rfl) (by omega)) ?_
  refine PW.assign rfl rfl rfl rfl rfl ?_
  refine PW.nil ?_
  refine SX.then ?_
  refine SC.block ?_
  refine SC.loop (S := Nat × List Int) (fun ⟨t, ds⟩ => [(0, .vl (.slice A ls.length c)), (1, .vl (.bool false)), (4, .nb (BI 31)), (5, .vl (.slice (some ⟨g1, 0, none⟩) (ls.length / 16 + 1) (ls.length / 16 + 1))), (6, .vl (.int .i64 ((t : Int) - 1))), (47, .ro (.slice (some ⟨g1, 0, none⟩) (ls.length / 16 + 1) (ls.length / 16 + 1)) 3 (.int .i64) (ds))]) (fun ⟨t, ds⟩ => OfI (bflip false z) ls.length t ds) (fun ⟨t, ds⟩ => t) (ls.length, List.replicate (ls.length / 16 + 1) 0) (OfI.start hz.high.1 hz.high.2) ⟨rfl, rfl, rfl, rfl, rfl, rfl, trivial⟩ ?_
  rintro ⟨t, ds⟩ hP
  show SC _ _ _ _ [(0, .vl (.slice A ls.length c)), (1, .vl (.bool false)), (4, .nb (BI 31)), (5, .vl (.slice (some ⟨g1, 0, none⟩) (ls.length / 16 + 1) (ls.length / 16 + 1))), (6, .vl (.int .i64 ((t : Int) - 1))), (47, .ro (.slice (some ⟨g1, 0, none⟩) (ls.length / 16 + 1) (ls.length / 16 + 1)) 3 (.int .i64) (ds))] _
  refine SC.seq ?_
  refine SC.seq ?_
  by_cases ht : (0 : Int) ≤ (t : Int) - 1
  · obtain ⟨i, rfl⟩ : ∃ i, t = i + 1 := ⟨t - 1, by omega⟩
    rw [show ((i + 1 : Nat) : Int) - 1 = (i : Int) by omega]
    rw [show ((i + 1 : Nat) : Int) - 1 = (i : Int) by omega] at ht
    have hbn := hP.bound
    have hdl := hP.2.1
    have hil := hP.1
    have hbit : (decide (at0 ls i = 1) != false) = tb (bflip false z) i := by rw [tb_bflip, hz i, if_pos (by omega)]
    refine SC.region ?_
    refine PW.move rfl rfl rfl rfl rfl ?_
    refine PW.q2 (x := .tmp 16) (y := .const (.int .i64 0)) (.bool true) rfl rfl rfl rfl rfl (fun ρ W h1 h2 => by exact r_ge h1 h2 (decide_eq_true ht)) ?_
    refine PW.nil ?_
    refine SX.then ?_
    refine SC.cond (t := true) rfl ?_
    refine SC.skip ?_
    refine SX.then ?_
    refine SC.seq ?_
    refine SC.block ?_
    refine SC.seq ?_
    refine SC.region ?_
    refine PW.move rfl rfl rfl rfl rfl ?_
    refine PW.move rfl rfl rfl rfl rfl ?_
    refine PW.q2 (x := .tmp 21) (y := .const (.int .i64 16)) (.int .i64 ((i / 16 : Nat))) rfl rfl rfl rfl rfl (fun ρ W h1 h2 => by exact r_quo h1 h2 (by omega) (by omega) (by decide)) ?_
    refine PW.q2 (x := .tmp 20) (y := .tmp 22) (.pointer (some ⟨g1, i / 16, none⟩)) rfl rfl rfl rfl rfl (fun ρ W h1 h2 => r_idxI h1 h2 (by first | omega | (simp only [List.length_set]; omega))) ?_
    refine PW.rload (K := 47) (i := i / 16) rfl rfl rfl rfl rfl rfl (by first | omega | (simp only [List.length_set]; omega)) r_l64 ?_
    refine PW.q2 (x := .tmp 24) (y := .const (.int .i64 2)) (.int .i64 (at0 ds (i / 16) * 2)) rfl rfl rfl rfl rfl (fun ρ W h1 h2 => by exact r_mul h1 h2 (rfl) (by omega)) ?_
    refine PW.q2 (x := .tmp 20) (y := .tmp 22) (.pointer (some ⟨g1, i / 16, none⟩)) rfl rfl rfl rfl rfl (fun ρ W h1 h2 => r_idxI h1 h2 (by first | omega | (simp only [List.length_set]; omega))) ?_
    refine PW.rstore (K := 47) (x := .tmp 25) (i := i / 16) (y := (at0 ds (i / 16) * 2)) rfl rfl rfl rfl rfl (by first | omega | (simp only [List.length_set]; omega)) rfl rfl r_s64 ?_
    refine PW.nil ?_
    refine SX.then ?_
    refine SC.seq ?_
    by_cases hb : tb (bflip false z) i = true
    · refine SC.region ?_
      refine PW.move rfl rfl rfl rfl rfl ?_
      refine PW.move rfl rfl rfl rfl rfl ?_
      refine PW.q2 (x := .tmp 27) (y := .tmp 28) (.pointer (padd A i)) rfl rfl rfl rfl rfl (fun ρ W h1 h2 => r_idxRB rA h1 h2 (by omega)) ?_
      refine PW.igetB (i := i) rfl rfl rfl rfl rfl rfl rA (by omega) r_lBv ?_
      refine PW.move rfl rfl rfl rfl rfl ?_
      refine PW.q2 (x := .tmp 30) (y := .tmp 31) (.bool true) rfl rfl rfl rfl rfl (fun ρ W h1 h2 => by exact r_neB h1 h2 (by rw [hbit]; exact hb)) ?_
      refine PW.nil ?_
      refine SX.then ?_
      refine SC.cond (t := true) rfl ?_
      refine SC.region ?_
      refine PW.move rfl rfl rfl rfl rfl ?_
      refine PW.move rfl rfl rfl rfl rfl ?_
      refine PW.q2 (x := .tmp 34) (y := .const (.int .i64 16)) (.int .i64 ((i / 16 : Nat))) rfl rfl rfl rfl rfl (fun ρ W h1 h2 => by exact r_quo h1 h2 (by omega) (by omega) (by decide)) ?_
      refine PW.q2 (x := .tmp 33) (y := .tmp 35) (.pointer (some ⟨g1, i / 16, none⟩)) rfl rfl rfl rfl rfl (fun ρ W h1 h2 => r_idxI h1 h2 (by first | omega | (simp only [List.length_set]; omega))) ?_
      refine PW.rload (K := 47) (i := i / 16) rfl rfl rfl rfl rfl rfl (by first | omega | (simp only [List.length_set]; omega)) r_l64 ?_
      refine PW.q2 (x := .tmp 37) (y := .const (.int .i64 1)) (.int .i64 (at0 ds (i / 16) * 2 + 1)) rfl rfl rfl rfl rfl (fun ρ W h1 h2 => by exact r_add h1 h2 (by rw [Ma.at0_put_self _ (by omega)]) (by omega)) ?_
      refine PW.q2 (x := .tmp 33) (y := .tmp 35) (.pointer (some ⟨g1, i / 16, none⟩)) rfl rfl rfl rfl rfl (fun ρ W h1 h2 => r_idxI h1 h2 (by first | omega | (simp only [List.length_set]; omega))) ?_
      refine PW.rstore (K := 47) (x := .tmp 38) (i := i / 16) (y := (at0 ds (i / 16) * 2 + 1)) rfl rfl rfl rfl rfl (by first | omega | (simp only [List.length_set]; omega)) rfl rfl r_s64 ?_
      refine PW.nil ?_
      refine SX.blockN ?_
      refine SX.then ?_
      refine SC.region ?_
      refine PW.move rfl rfl rfl rfl rfl ?_
      refine PW.q2 (x := .tmp 18) (y := .const (.int .i64 1)) (.int .i64 ((i : Int) - 1)) rfl rfl rfl rfl rfl (fun ρ W h1 h2 => by exact r_sub h1 h2 (rfl) (by omega)) ?_
      refine PW.assign rfl rfl rfl rfl rfl ?_
      refine PW.nil ?_
      refine SX.back (i, (ds.set (i / 16) (at0 ds (i / 16) * 2)).set (i / 16) (at0 ds (i / 16) * 2 + 1)) ?_ ?_ ?_
      · exact (by rw [List.set_set]; exact hP.step (by rw [hb]; rfl))
      · exact (show i < i + 1 by omega)
      · exact ⟨rfl, rfl, rfl, rfl, rfl, rfl, trivial⟩
    · refine SC.region ?_
      refine PW.move rfl rfl rfl rfl rfl ?_
      refine PW.move rfl rfl rfl rfl rfl ?_
      refine PW.q2 (x := .tmp 27) (y := .tmp 28) (.pointer (padd A i)) rfl rfl rfl rfl rfl (fun ρ W h1 h2 => r_idxRB rA h1 h2 (by omega)) ?_
      refine PW.igetB (i := i) rfl rfl rfl rfl rfl rfl rA (by omega) r_lBv ?_
      refine PW.move rfl rfl rfl rfl rfl ?_
      refine PW.q2 (x := .tmp 30) (y := .tmp 31) (.bool false) rfl rfl rfl rfl rfl (fun ρ W h1 h2 => by exact r_neB h1 h2 (by rw [hbit]; exact (by simpa using hb))) ?_
      refine PW.nil ?_
      refine SX.then ?_
      refine SC.cond (t := false) rfl ?_
      refine SC.skip ?_
      refine SX.blockN ?_
      refine SX.then ?_
      refine SC.region ?_
      refine PW.move rfl rfl rfl rfl rfl ?_
      refine PW.q2 (x := .tmp 18) (y := .const (.int .i64 1)) (.int .i64 ((i : Int) - 1)) rfl rfl rfl rfl rfl (fun ρ W h1 h2 => by exact r_sub h1 h2 (rfl) (by omega)) ?_
      refine PW.assign rfl rfl rfl rfl rfl ?_
      refine PW.nil ?_
      refine SX.back (i, ds.set (i / 16) (at0 ds (i / 16) * 2)) ?_ ?_ ?_
      · exact (hP.step (by rw [show tb (bflip false z) i = false by simpa using hb]; simp))
      · exact (show i < i + 1 by omega)
      · exact ⟨rfl, rfl, rfl, rfl, rfl, rfl, trivial⟩
  · obtain rfl : t = 0 := by omega
    refine SC.region ?_
    refine PW.move rfl rfl rfl rfl rfl ?_
    refine PW.q2 (x := .tmp 16) (y := .const (.int .i64 0)) (.bool false) rfl rfl rfl rfl rfl (fun ρ W h1 h2 => by exact r_ge h1 h2 (decide_eq_false ht)) ?_
    refine PW.nil ?_
    refine SX.then ?_
    refine SC.cond (t := false) rfl ?_
    refine SC.exit ?_
    refine SX.thenE ?_
    refine SX.thenE ?_
    refine SX.blockE ?_
    refine SX.then ?_
    refine SC.seq ?_
    refine SC.region ?_
    refine PW.move rfl rfl rfl rfl rfl ?_
    refine PW.callG (r := .kw (KJ (bflip false z))) ce_rmade rfl rfl rfl rfl rfl (KJ.st _) rfl (fun a W hf => by have h2 := hf.vl (s := 40) rfl; have own : OwF W _ _ (.int .i64) (.slice (some ⟨g1, 0, none⟩) (ls.length / 16 + 1) (ls.length / 16 + 1)) ds := hf.ho 47 _ rfl; obtain ⟨A4, c4, e4, hc4, rd4⟩ := Own.rd own; show Calls Try.prog _ #[.bool false, a.tmps.getD 40 undef] W _; rw [h2, e4, ← hP.fin hz.high.1 hz.high.2]; exact rmade_c (n := false) rfl rd4 hc4 hP.dg) ?_
    refine PW.alloc (BI 31) rfl rfl rfl rfl rfl bJ ?_
    refine PW.store (x := .tmp 41) (r := .kw (KJ (bflip false z))) rfl rfl rfl rfl rfl rfl sh_J ?_
    refine PW.nil ?_
    refine SX.then ?_
    refine SC.seq ?_
    refine SC.seq ?_
    refine SC.region ?_
    refine PW.move rfl rfl rfl rfl rfl ?_
    refine PW.nil ?_
    refine SX.then ?_
    refine SC.cond (t := false) rfl ?_
    refine SC.skip ?_
    refine SX.then ?_
    refine SC.seq ?_
    refine SC.region ?_
    refine PW.load rfl rfl rfl rfl rfl rfl ?_
    refine PW.store (x := .tmp 46) (r := .kw (KJ (bflip false z))) rfl rfl rfl rfl rfl rfl sh_J ?_
    refine PW.nil ?_
    refine SX.then ?_
    refine SC.ret ?_
    exact SX.doneC (s := 4) (.inl rfl) rfl rfl rfl

theorem ce_of2 : CE 75 := fun args W => by go_simp
theorem bd_high {z : Int} {n m : Nat} (h0 : 0 ≤ z) (h1 : z < 2 ^ n) (hm : n ≤ 32 * m) : bd m z := by
  have := pow_le (b := 2) (by decide) hm
  rw [bd2]
  omega
theorem rof_c {z : Int} {A : Option Addr} {c : Nat} {ls : List Int} {g : Bool} {w : World} (rA : RdB w A ls) (hl : ls.length ≤ 4000000) (hz : BitsOf z ls g) : Calls Try.prog 75 #[.slice A ls.length c, .bool g] w (Ret w (KJ z)) := by
  cases g
  · exact rof_f rA hl hz (bd_high (m := ls.length / 32 + 1) hz.high.1 hz.high.2 (by omega)) (by omega)
  · exact rof_t rA hl hz (bd_high (m := ls.length / 32 + 1) hz.high.1 hz.high.2 (by omega)) (by omega)

end Go.Proofs.Ytcgkgcciogibkaa.Sy
/- The reference's Bit, Boole, Count, Field, Deposit by rules. -/
set_option linter.unusedVariables false
set_option linter.unusedSimpArgs false
namespace Go.Proofs.Ytcgkgcciogibkaa.Sy
open Go Go.RowKit Ma
theorem signed {x : Int} {u : Value} {W : World} (h : KJ x u W) : ∃ A l c, u = .agg #[.bool (decide (x < 0)), .slice A l c] := by
  obtain ⟨m, A, l, c, e, h⟩ := h
  obtain ⟨_, _, _, _, _, _, _, hm⟩ := RJ.num h
  exact ⟨A, l, c, by rw [e, hm]⟩
theorem ce_k_within : CE 109 := fun args W => by go_simp

set_option maxHeartbeats 3200000 in
set_option maxRecDepth 100000 in
theorem k_within {n : Int} {t : Bool} (h : decide (0 ≤ n ∧ n ≤ 65536) = t) : CallOk 109 [KV (.int .i64 (n))] (KV (.bool t)) := by
  refine CallOk.enter (l := [.vl (.int .i64 (n))]) 9 ce_k_within Try.func109 rfl Try.ntmps109 (by simp) ⟨(KV.st _), rfl, trivial⟩ fun w => ?_
  refine SC.seq ?_
  refine SC.region ?_
  refine PW.assign rfl rfl rfl rfl rfl ?_
  refine PW.nil ?_
  refine SX.then ?_
  refine SC.seq ?_
  by_cases h0 : n ≥ 0
  · by_cases h5 : n ≤ 65536
    · refine SC.region ?_
      refine PW.move rfl rfl rfl rfl rfl ?_
      refine PW.q2 (x := .tmp 3) (y := .const (.int .i64 0)) (.bool true) rfl rfl rfl rfl rfl (fun ρ W h1 h2 => by exact r_ge h1 h2 (decide_eq_true h0)) ?_
      refine PW.move rfl rfl rfl rfl rfl ?_
      refine PW.move rfl rfl rfl rfl rfl ?_
      refine PW.q2 (x := .tmp 6) (y := .const (.int .i64 65536)) (.bool true) rfl rfl rfl rfl rfl (fun ρ W h1 h2 => by exact r_le h1 h2 (decide_eq_true h5)) ?_
      refine PW.pick (t := true) rfl rfl rfl rfl rfl rfl ?_
      refine PW.assign rfl rfl rfl rfl rfl ?_
      refine PW.nil ?_
      refine SX.then ?_
      refine SC.ret ?_
      obtain rfl : t = true := by rw [← h]; exact decide_eq_true ⟨h0, h5⟩
      exact SX.done (s := 2) (r := .vl (.bool true)) rfl rfl rfl
    · refine SC.region ?_
      refine PW.move rfl rfl rfl rfl rfl ?_
      refine PW.q2 (x := .tmp 3) (y := .const (.int .i64 0)) (.bool true) rfl rfl rfl rfl rfl (fun ρ W h1 h2 => by exact r_ge h1 h2 (decide_eq_true h0)) ?_
      refine PW.move rfl rfl rfl rfl rfl ?_
      refine PW.move rfl rfl rfl rfl rfl ?_
      refine PW.q2 (x := .tmp 6) (y := .const (.int .i64 65536)) (.bool false) rfl rfl rfl rfl rfl (fun ρ W h1 h2 => by exact r_le h1 h2 (decide_eq_false h5)) ?_
      refine PW.pick (t := true) rfl rfl rfl rfl rfl rfl ?_
      refine PW.assign rfl rfl rfl rfl rfl ?_
      refine PW.nil ?_
      refine SX.then ?_
      refine SC.ret ?_
      obtain rfl : t = false := by rw [← h]; exact decide_eq_false (by omega)
      exact SX.done (s := 2) (r := .vl (.bool false)) rfl rfl rfl
  · refine SC.region ?_
    refine PW.move rfl rfl rfl rfl rfl ?_
    refine PW.q2 (x := .tmp 3) (y := .const (.int .i64 0)) (.bool false) rfl rfl rfl rfl rfl (fun ρ W h1 h2 => by exact r_ge h1 h2 (decide_eq_false h0)) ?_
    refine PW.move rfl rfl rfl rfl rfl ?_
    refine PW.skip rfl rfl rfl ?_
    refine PW.skip rfl rfl rfl ?_
    refine PW.pick (t := false) rfl rfl rfl rfl rfl rfl ?_
    refine PW.assign rfl rfl rfl rfl rfl ?_
    refine PW.nil ?_
    refine SX.then ?_
    refine SC.ret ?_
    obtain rfl : t = false := by rw [← h]; exact decide_eq_false (by omega)
    exact SX.done (s := 2) (r := .vl (.bool false)) rfl rfl rfl

theorem ce_k_jfield_bad : CE 59 := fun args W => by go_simp

set_option maxHeartbeats 3200000 in
set_option maxRecDepth 100000 in
theorem k_jfield_bad {x k q : Int} (hb : ¬ ((0 ≤ k ∧ k ≤ 65536) ∧ (0 ≤ q ∧ q ≤ 65536))) : CallOk 59 [KJ (x), KV (.int .i64 (k)), KV (.int .i64 (q))] (K2 (KJ 0) (KV (.int .i64 1))) := by
  refine CallOk.enter (l := [.kw (KJ (x)), .vl (.int .i64 (k)), .vl (.int .i64 (q))]) 27 ce_k_jfield_bad Try.func59 rfl Try.ntmps59 (by simp) ⟨(KJ.st _), rfl, (KV.st _), rfl, (KV.st _), rfl, trivial⟩ fun w => ?_
  refine SC.seq ?_
  refine SC.region ?_
  refine PW.box (x := .tmp 0) (r := .kw (KJ (x))) (BI 31) rfl rfl rfl rfl rfl bJ rfl sh_J ?_
  refine PW.alloc (BI 31) rfl rfl rfl rfl rfl bJ ?_
  refine PW.assign rfl rfl rfl rfl rfl ?_
  refine PW.nil ?_
  refine SX.then ?_
  refine SC.seq ?_
  refine SC.seq ?_
  by_cases hk : 0 ≤ k ∧ k ≤ 65536
  · by_cases hq : 0 ≤ q ∧ q ≤ 65536
    · exact absurd ⟨hk, hq⟩ hb
    · refine SC.region ?_
      refine PW.move rfl rfl rfl rfl rfl ?_
      refine PW.call (r := .vl (.bool true)) rfl rfl rfl rfl rfl rfl (KV.st _) rfl (k_within (decide_eq_true hk)) ?_
      refine PW.q1 (x := .tmp 10) (.bool false) rfl rfl rfl rfl (fun ρ W h1 => by go_simp) ?_
      refine PW.move rfl rfl rfl rfl rfl ?_
      refine PW.move rfl rfl rfl rfl rfl ?_
      refine PW.call (r := .vl (.bool false)) rfl rfl rfl rfl rfl rfl (KV.st _) rfl (k_within (decide_eq_false hq)) ?_
      refine PW.q1 (x := .tmp 14) (.bool true) rfl rfl rfl rfl (fun ρ W h1 => by go_simp) ?_
      refine PW.pick (t := false) rfl rfl rfl rfl rfl rfl ?_
      refine PW.nil ?_
      refine SX.then ?_
      refine SC.cond (t := true) rfl ?_
      refine SC.seq ?_
      refine SC.region ?_
      refine PW.val (r := .kw (KJ (0))) rfl rfl rfl rfl (fun a W hf => ⟨.agg #[.bool false, .slice none 0 0], by go_simp, zeroJ W, KJ.st _⟩) ?_
      refine PW.store (x := .tmp 17) (r := .kw (KJ (0))) rfl rfl rfl rfl rfl rfl sh_J ?_
      refine PW.assign rfl rfl rfl rfl rfl ?_
      refine PW.nil ?_
      refine SX.then ?_
      refine SC.ret ?_
      refine SX.thenR ?_
      exact SX.done2 (s := 6) (t := 7) (r := .vl (.int .i64 1)) (.inl rfl) rfl rfl rfl rfl
  · refine SC.region ?_
    refine PW.move rfl rfl rfl rfl rfl ?_
    refine PW.call (r := .vl (.bool false)) rfl rfl rfl rfl rfl rfl (KV.st _) rfl (k_within (decide_eq_false hk)) ?_
    refine PW.q1 (x := .tmp 10) (.bool true) rfl rfl rfl rfl (fun ρ W h1 => by go_simp) ?_
    refine PW.move rfl rfl rfl rfl rfl ?_
    refine PW.skip rfl rfl rfl ?_
    refine PW.skip rfl rfl rfl ?_
    refine PW.skip rfl rfl rfl ?_
    refine PW.pick (t := true) rfl rfl rfl rfl rfl rfl ?_
    refine PW.nil ?_
    refine SX.then ?_
    refine SC.cond (t := true) rfl ?_
    refine SC.seq ?_
    refine SC.region ?_
    refine PW.val (r := .kw (KJ (0))) rfl rfl rfl rfl (fun a W hf => ⟨.agg #[.bool false, .slice none 0 0], by go_simp, zeroJ W, KJ.st _⟩) ?_
    refine PW.store (x := .tmp 17) (r := .kw (KJ (0))) rfl rfl rfl rfl rfl rfl sh_J ?_
    refine PW.assign rfl rfl rfl rfl rfl ?_
    refine PW.nil ?_
    refine SX.then ?_
    refine SC.ret ?_
    refine SX.thenR ?_
    exact SX.done2 (s := 6) (t := 7) (r := .vl (.int .i64 1)) (.inl rfl) rfl rfl rfl rfl

set_option maxHeartbeats 3200000 in
set_option maxRecDepth 100000 in
theorem rfield_c {x : Int} {A : Option Addr} {l c a k p : Nat} {w : World} (hX : KJ x (.agg #[.bool (decide (x < 0)), .slice A l c]) w) (X : bd a x) (ha : a ≤ 100000) (hk : k ≤ 65536) (hp : p ≤ 65536) :
    Calls Try.prog 59 #[.agg #[.bool (decide (x < 0)), .slice A l c], .int .i64 (k : Int), .int .i64 (p : Int)] w (Ret w (K2 (KJ (fld x k p)) (KV (.int .i64 0)))) := by
  refine calls_sc (l := [.vl (.agg #[.bool (decide (x < 0)), .slice A l c]), .vl (.int .i64 (k : Int)), .vl (.int .i64 (p : Int))]) (us := [.agg #[.bool (decide (x < 0)), .slice A l c], .int .i64 (k : Int), .int .i64 (p : Int)]) 27 Try.func59 rfl Try.ntmps59 (by simp) ⟨rfl, rfl, rfl, rfl, rfl, rfl, trivial⟩ ?_
  refine SC.seq ?_
  refine SC.region ?_
  refine PW.boxc (x := .tmp 0) (BI 31) rfl rfl rfl rfl rfl bJ rfl ⟨_, _, _, _, _, rfl, rfl⟩ fun pb1 => ?_
  refine PW.alloc (BI 31) rfl rfl rfl rfl rfl bJ ?_
  refine PW.assign rfl rfl rfl rfl rfl ?_
  refine PW.nil ?_
  refine SX.then ?_
  refine SC.seq ?_
  refine SC.seq ?_
  refine SC.region ?_
  refine PW.move rfl rfl rfl rfl rfl ?_
  refine PW.call (r := .vl (.bool true)) rfl rfl rfl rfl rfl rfl (KV.st _) rfl (k_within (decide_eq_true (by omega))) ?_
  refine PW.q1 (x := .tmp 10) (.bool false) rfl rfl rfl rfl (fun ρ W h1 => by go_simp) ?_
  refine PW.move rfl rfl rfl rfl rfl ?_
  refine PW.move rfl rfl rfl rfl rfl ?_
  refine PW.call (r := .vl (.bool true)) rfl rfl rfl rfl rfl rfl (KV.st _) rfl (k_within (decide_eq_true (by omega))) ?_
  refine PW.q1 (x := .tmp 14) (.bool false) rfl rfl rfl rfl (fun ρ W h1 => by go_simp) ?_
  refine PW.pick (t := false) rfl rfl rfl rfl rfl rfl ?_
  refine PW.nil ?_
  refine SX.then ?_
  refine SC.cond (t := false) rfl ?_
  refine SC.skip ?_
  refine SX.then ?_
  refine SC.seq ?_
  refine SC.region ?_
  refine PW.loadck (k := KJ (x)) rfl rfl rfl rfl rfl rfl rfl hX (KJ.st _) ?_
  refine PW.move rfl rfl rfl rfl rfl ?_
  refine PW.move rfl rfl rfl rfl rfl ?_
  refine PW.q2 (x := .tmp 19) (y := .tmp 20) (.int .i64 ((p + k : Nat))) rfl rfl rfl rfl rfl (fun ρ W h1 h2 => by exact r_add h1 h2 (by omega) (by omega)) ?_
  refine PW.callRow (f := bv) (e := 4) (p := fun zs => zs = lof (tb x) (p + k)) 27 rfl rfl rfl rfl rfl rfl (k_bits X (by omega) (by omega)) ?_
  rintro vx2 _ rfl
  refine PW.more _ (fun a W h => h) ?_
  refine PW.assign rfl rfl rfl rfl rfl ?_
  refine PW.nil ?_
  refine SX.then ?_
  refine SC.seq ?_
  refine SC.region ?_
  refine PW.move rfl rfl rfl rfl rfl ?_
  refine PW.move rfl rfl rfl rfl rfl ?_
  refine PW.rsl (s := 23) (p := p) 27 rfl rfl rfl rfl rfl rfl (by rw [lof_len]; omega) (fun ρ W h1 h2 => r_slB0 h1 h2) (fun ρ W g c h1 h2 h3 => r_slB h1 h2 (by rw [lof_len]; omega) h3) ?_
  refine PW.callG (r := .kw (KJ (fld x k p))) ce_of2 rfl rfl rfl rfl rfl (KJ.st _) rfl (fun a W hf => by have h1 := hf.vl (s := 25) rfl; have own : OwF W _ _ bv (vx2) (lof (tb x) (p + k)) := hf.ho 27 _ rfl; show Calls Try.prog _ #[a.tmps.getD 25 undef, .bool false] W _; rw [h1, ← List.length_drop]; exact rof_c (OwF.rdB_drop own p) (by rw [List.length_drop, lof_len]; omega) bitsOf_fld) ?_
  refine PW.store (x := .tmp 26) (r := .kw (KJ (fld x k p))) rfl rfl rfl rfl rfl rfl sh_J ?_
  refine PW.assign rfl rfl rfl rfl rfl ?_
  refine PW.nil ?_
  refine SX.then ?_
  refine SC.ret ?_
  exact SX.done2 (s := 6) (t := 7) (r := .vl (.int .i64 0)) (.inl rfl) rfl rfl rfl rfl

theorem k_jfield {x : Int} {a k p : Nat} (X : bd a x) (ha : a ≤ 100000) (hk : k ≤ 65536) (hp : p ≤ 65536) : CallOk 59 [KJ x, KV (.int .i64 (k : Int)), KV (.int .i64 (p : Int))] (K2 (KJ (fld x k p)) (KV (.int .i64 0))) :=
  call3 ce_k_jfield_bad fun W u v u2 h1 e e2 => by
    obtain rfl : v = _ := e
    obtain rfl : u2 = _ := e2
    obtain ⟨A1, l1, c1, rfl⟩ := signed h1
    exact rfield_c h1 X ha hk hp

theorem ce_k_jdep_bad : CE 61 := fun args W => by go_simp

set_option maxHeartbeats 3200000 in
set_option maxRecDepth 100000 in
theorem k_jdep_bad {x y k q : Int} (hb : ¬ ((0 ≤ k ∧ k ≤ 65536) ∧ (0 ≤ q ∧ q ≤ 65536))) : CallOk 61 [KJ (x), KJ (y), KV (.int .i64 (k)), KV (.int .i64 (q))] (K2 (KJ 0) (KV (.int .i64 1))) := by
  refine CallOk.enter (l := [.kw (KJ (x)), .kw (KJ (y)), .vl (.int .i64 (k)), .vl (.int .i64 (q))]) 51 ce_k_jdep_bad Try.func61 rfl Try.ntmps61 (by simp) ⟨(KJ.st _), rfl, (KJ.st _), rfl, (KV.st _), rfl, (KV.st _), rfl, trivial⟩ fun w => ?_
  refine SC.seq ?_
  refine SC.region ?_
  refine PW.box (x := .tmp 0) (r := .kw (KJ (x))) (BI 31) rfl rfl rfl rfl rfl bJ rfl sh_J ?_
  refine PW.box (x := .tmp 1) (r := .kw (KJ (y))) (BI 31) rfl rfl rfl rfl rfl bJ rfl sh_J ?_
  refine PW.alloc (BI 31) rfl rfl rfl rfl rfl bJ ?_
  refine PW.assign rfl rfl rfl rfl rfl ?_
  refine PW.nil ?_
  refine SX.then ?_
  refine SC.seq ?_
  refine SC.seq ?_
  by_cases hk : 0 ≤ k ∧ k ≤ 65536
  · by_cases hq : 0 ≤ q ∧ q ≤ 65536
    · exact absurd ⟨hk, hq⟩ hb
    · refine SC.region ?_
      refine PW.move rfl rfl rfl rfl rfl ?_
      refine PW.call (r := .vl (.bool true)) rfl rfl rfl rfl rfl rfl (KV.st _) rfl (k_within (decide_eq_true hk)) ?_
      refine PW.q1 (x := .tmp 14) (.bool false) rfl rfl rfl rfl (fun ρ W h1 => by go_simp) ?_
      refine PW.move rfl rfl rfl rfl rfl ?_
      refine PW.move rfl rfl rfl rfl rfl ?_
      refine PW.call (r := .vl (.bool false)) rfl rfl rfl rfl rfl rfl (KV.st _) rfl (k_within (decide_eq_false hq)) ?_
      refine PW.q1 (x := .tmp 18) (.bool true) rfl rfl rfl rfl (fun ρ W h1 => by go_simp) ?_
      refine PW.pick (t := false) rfl rfl rfl rfl rfl rfl ?_
      refine PW.nil ?_
      refine SX.then ?_
      refine SC.cond (t := true) rfl ?_
      refine SC.seq ?_
      refine SC.region ?_
      refine PW.val (r := .kw (KJ (0))) rfl rfl rfl rfl (fun a W hf => ⟨.agg #[.bool false, .slice none 0 0], by go_simp, zeroJ W, KJ.st _⟩) ?_
      refine PW.store (x := .tmp 21) (r := .kw (KJ (0))) rfl rfl rfl rfl rfl rfl sh_J ?_
      refine PW.assign rfl rfl rfl rfl rfl ?_
      refine PW.nil ?_
      refine SX.then ?_
      refine SC.ret ?_
      refine SX.thenR ?_
      exact SX.done2 (s := 8) (t := 9) (r := .vl (.int .i64 1)) (.inl rfl) rfl rfl rfl rfl
  · refine SC.region ?_
    refine PW.move rfl rfl rfl rfl rfl ?_
    refine PW.call (r := .vl (.bool false)) rfl rfl rfl rfl rfl rfl (KV.st _) rfl (k_within (decide_eq_false hk)) ?_
    refine PW.q1 (x := .tmp 14) (.bool true) rfl rfl rfl rfl (fun ρ W h1 => by go_simp) ?_
    refine PW.move rfl rfl rfl rfl rfl ?_
    refine PW.skip rfl rfl rfl ?_
    refine PW.skip rfl rfl rfl ?_
    refine PW.skip rfl rfl rfl ?_
    refine PW.pick (t := true) rfl rfl rfl rfl rfl rfl ?_
    refine PW.nil ?_
    refine SX.then ?_
    refine SC.cond (t := true) rfl ?_
    refine SC.seq ?_
    refine SC.region ?_
    refine PW.val (r := .kw (KJ (0))) rfl rfl rfl rfl (fun a W hf => ⟨.agg #[.bool false, .slice none 0 0], by go_simp, zeroJ W, KJ.st _⟩) ?_
    refine PW.store (x := .tmp 21) (r := .kw (KJ (0))) rfl rfl rfl rfl rfl rfl sh_J ?_
    refine PW.assign rfl rfl rfl rfl rfl ?_
    refine PW.nil ?_
    refine SX.then ?_
    refine SC.ret ?_
    refine SX.thenR ?_
    exact SX.done2 (s := 8) (t := 9) (r := .vl (.int .i64 1)) (.inl rfl) rfl rfl rfl rfl

set_option maxHeartbeats 3200000 in
set_option maxRecDepth 100000 in
theorem rdep_c {x y : Int} {A1 A2 : Option Addr} {l1 c1 l2 c2 a b k p : Nat} {w : World} (hX : KJ x (.agg #[.bool (decide (x < 0)), .slice A1 l1 c1]) w) (hY : KJ y (.agg #[.bool (decide (y < 0)), .slice A2 l2 c2]) w) (X : bd a x) (Y : bd b y) (ha : a ≤ 100000) (hb : b ≤ 100000) (hk : k ≤ 65536) (hp : p ≤ 65536) :
    Calls Try.prog 61 #[.agg #[.bool (decide (x < 0)), .slice A1 l1 c1], .agg #[.bool (decide (y < 0)), .slice A2 l2 c2], .int .i64 (k : Int), .int .i64 (p : Int)] w (Ret w (K2 (KJ (dep x y k p)) (KV (.int .i64 0)))) := by
  have wx := wid_bdp X
  obtain ⟨n, hn⟩ : ∃ n : Nat, n = max (wid (pat x)) (p + k) := ⟨_, rfl⟩
  refine calls_sc (l := [.vl (.agg #[.bool (decide (x < 0)), .slice A1 l1 c1]), .vl (.agg #[.bool (decide (y < 0)), .slice A2 l2 c2]), .vl (.int .i64 (k : Int)), .vl (.int .i64 (p : Int))]) (us := [.agg #[.bool (decide (x < 0)), .slice A1 l1 c1], .agg #[.bool (decide (y < 0)), .slice A2 l2 c2], .int .i64 (k : Int), .int .i64 (p : Int)]) 51 Try.func61 rfl Try.ntmps61 (by simp) ⟨rfl, rfl, rfl, rfl, rfl, rfl, rfl, rfl, trivial⟩ ?_
  refine SC.seq ?_
  refine SC.region ?_
  refine PW.boxc (x := .tmp 0) (BI 31) rfl rfl rfl rfl rfl bJ rfl ⟨_, _, _, _, _, rfl, rfl⟩ fun pb1 => ?_
  refine PW.boxc (x := .tmp 1) (BI 31) rfl rfl rfl rfl rfl bJ rfl ⟨_, _, _, _, _, rfl, rfl⟩ fun pb2 => ?_
  refine PW.alloc (BI 31) rfl rfl rfl rfl rfl bJ ?_
  refine PW.assign rfl rfl rfl rfl rfl ?_
  refine PW.nil ?_
  refine SX.then ?_
  refine SC.seq ?_
  refine SC.seq ?_
  refine SC.region ?_
  refine PW.move rfl rfl rfl rfl rfl ?_
  refine PW.call (r := .vl (.bool true)) rfl rfl rfl rfl rfl rfl (KV.st _) rfl (k_within (decide_eq_true (by omega))) ?_
  refine PW.q1 (x := .tmp 14) (.bool false) rfl rfl rfl rfl (fun ρ W h1 => by go_simp) ?_
  refine PW.move rfl rfl rfl rfl rfl ?_
  refine PW.move rfl rfl rfl rfl rfl ?_
  refine PW.call (r := .vl (.bool true)) rfl rfl rfl rfl rfl rfl (KV.st _) rfl (k_within (decide_eq_true (by omega))) ?_
  refine PW.q1 (x := .tmp 18) (.bool false) rfl rfl rfl rfl (fun ρ W h1 => by go_simp) ?_
  refine PW.pick (t := false) rfl rfl rfl rfl rfl rfl ?_
  refine PW.nil ?_
  refine SX.then ?_
  refine SC.cond (t := false) rfl ?_
  refine SC.skip ?_
  refine SX.then ?_
  refine SC.seq ?_
  refine SC.dxl [.val 22 (.kw (KJ (x))), .val 23 (.kw (KJ (x))), .val 24 (.vl (.int .i64 (wid (pat x) : Int))), .val 25 (.vl (.int .i64 (p : Int))), .val 26 (.vl (.int .i64 (k : Int))), .val 27 (.vl (.int .i64 ((p + k : Nat)))), .val 28 (.vl (.int .i64 (n : Int))), .row 29 4 (bv) (fun zs => zs = lof (tb x) n)] [([], [4]), ([], [4]), ([1], []), ([], [3]), ([], [2]), ([3, 4], []), ([2, 5], []), ([0, 6], [])] rfl (by kernel_rfl) (by kernel_rfl) (by kernel_rfl) rfl (by kernel_rfl) ⟨?_, ?_, ?_, ?_, ?_, ?_, ?_, ?_, trivial⟩ ?_
  · exact DX.loadck (k := KJ (x)) rfl rfl rfl rfl rfl rfl rfl hX (KJ.st _)
  · exact DX.loadck (k := KJ (x)) rfl rfl rfl rfl rfl rfl rfl hX (KJ.st _)
  · exact DX.call (r := .vl (.int .i64 (wid (pat x) : Int))) rfl rfl rfl rfl rfl rfl (KV.st _) rfl (k_jlen X (by first | decide | omega))
  · exact DX.move rfl rfl rfl rfl rfl rfl
  · exact DX.move rfl rfl rfl rfl rfl rfl
  · exact DX.q2 (x := .tmp 25) (y := .tmp 26) (.int .i64 ((p + k : Nat))) rfl rfl rfl rfl rfl (fun ρ W h1 h2 => by exact r_add h1 h2 (by omega) (by omega))
  · exact DX.qn [(.tmp 24, .int .i64 (wid (pat x) : Int)), (.tmp 27, .int .i64 ((p + k : Nat)))] (.int .i64 (n : Int)) rfl rfl rfl ⟨rfl, rfl, trivial⟩ (fun ρ W h => by obtain ⟨h1, h2, _⟩ := h; exact r_max h1 h2 (by omega))
  · exact DX.callR rfl rfl rfl rfl rfl rfl (k_bits X (by omega) (by omega))
  refine PW.openx (s := 29) 51 rfl rfl ?_
  rintro vx3 _ rfl
  refine PW.assign rfl rfl rfl rfl rfl ?_
  refine PW.nil ?_
  refine SX.then ?_
  refine SC.seq ?_
  refine SC.region ?_
  refine PW.loadck (k := KJ (y)) rfl rfl rfl rfl rfl rfl rfl hY (KJ.st _) ?_
  refine PW.move rfl rfl rfl rfl rfl ?_
  refine PW.callRow (f := bv) (e := 4) (p := fun zs => zs = lof (tb y) k) 52 rfl rfl rfl rfl rfl rfl (k_bits Y (by omega) (by omega)) ?_
  rintro vx4 _ rfl
  refine PW.more _ (fun a W h => h) ?_
  refine PW.assign rfl rfl rfl rfl rfl ?_
  refine PW.nil ?_
  refine SX.then ?_
  refine SC.seq ?_
  refine SC.seq ?_
  refine SC.region ?_
  refine PW.assign rfl rfl rfl rfl rfl ?_
  refine PW.nil ?_
  refine SX.then ?_
  refine SC.block ?_
  refine SC.loop (S := Nat × List Int) (fun ⟨i, zs⟩ => [(2, .vl (.int .i64 (k : Int))), (3, .vl (.int .i64 (p : Int))), (4, .bc (BI 31) pb1 (.agg #[.bool (decide (x < 0)), .slice A1 l1 c1])), (5, .bc (BI 31) pb2 (.agg #[.bool (decide (y < 0)), .slice A2 l2 c2])), (8, .nb (BI 31)), (9, .vl (.int .i64 0)), (10, .vl (vx3)), (11, .vl (vx4)), (12, .vl (.int .i64 (i : Int))), (51, .ro (vx3) 4 (bv) (zs)), (52, .ro (vx4) 4 (bv) (lof (tb y) k))]) (fun ⟨i, zs⟩ => DpI x y k p n i zs) (fun ⟨i, zs⟩ => k - i) (0, lof (tb x) n) (DpI.start x y k p n) ⟨rfl, rfl, rfl, rfl, rfl, rfl, rfl, rfl, rfl, rfl, rfl, trivial⟩ ?_
  rintro ⟨i, zs⟩ hD
  show SC _ _ _ _ [(2, .vl (.int .i64 (k : Int))), (3, .vl (.int .i64 (p : Int))), (4, .bc (BI 31) pb1 (.agg #[.bool (decide (x < 0)), .slice A1 l1 c1])), (5, .bc (BI 31) pb2 (.agg #[.bool (decide (y < 0)), .slice A2 l2 c2])), (8, .nb (BI 31)), (9, .vl (.int .i64 0)), (10, .vl (vx3)), (11, .vl (vx4)), (12, .vl (.int .i64 (i : Int))), (51, .ro (vx3) 4 (bv) (zs)), (52, .ro (vx4) 4 (bv) (lof (tb y) k))] _
  refine SC.seq ?_
  refine SC.seq ?_
  by_cases hk2 : (i : Int) < (k : Int)
  · refine SC.region ?_
    refine PW.move rfl rfl rfl rfl rfl ?_
    refine PW.move rfl rfl rfl rfl rfl ?_
    refine PW.q2 (x := .tmp 33) (y := .tmp 34) (.bool true) rfl rfl rfl rfl rfl (fun ρ W h1 h2 => by exact r_lt h1 h2 (decide_eq_true hk2)) ?_
    refine PW.nil ?_
    refine SX.then ?_
    refine SC.cond (t := true) rfl ?_
    refine SC.skip ?_
    refine SX.then ?_
    refine SC.seq ?_
    refine SC.block ?_
    refine SC.region ?_
    refine PW.move rfl rfl rfl rfl rfl ?_
    refine PW.move rfl rfl rfl rfl rfl ?_
    refine PW.move rfl rfl rfl rfl rfl ?_
    refine PW.q2 (x := .tmp 39) (y := .tmp 40) (.int .i64 ((p + i : Nat))) rfl rfl rfl rfl rfl (fun ρ W h1 h2 => by exact r_add h1 h2 (by omega) (by omega)) ?_
    refine PW.move rfl rfl rfl rfl rfl ?_
    refine PW.move rfl rfl rfl rfl rfl ?_
    refine PW.ridx (i := i) 52 rfl rfl rfl rfl rfl rfl rfl (by rw [lof_len]; omega) (fun ρ W g c h1 h2 => r_idxB h1 h2 (by rw [lof_len]; omega)) ?_
    refine PW.rget (i := i) 52 rfl rfl rfl rfl rfl rfl (by rw [lof_len]; omega) r_lBv ?_
    refine PW.ridx (i := p + i) 51 rfl rfl rfl rfl rfl rfl rfl (by rw [hD.2, lof_len]; omega) (fun ρ W g c h1 h2 => r_idxB h1 h2 (by rw [hD.2, lof_len]; omega)) ?_
    refine PW.rput (i := p + i) (x := .tmp 45) (at0 (lof (tb y) k) i) 51 rfl rfl rfl rfl rfl (by rw [hD.2, lof_len]; omega) rfl rfl r_sBv ?_
    refine PW.nil ?_
    refine SX.blockN ?_
    refine SX.then ?_
    refine SC.region ?_
    refine PW.move rfl rfl rfl rfl rfl ?_
    refine PW.q2 (x := .tmp 36) (y := .const (.int .i64 1)) (.int .i64 ((i + 1 : Nat))) rfl rfl rfl rfl rfl (fun ρ W h1 h2 => by exact r_add h1 h2 (by omega) (by omega)) ?_
    refine PW.assign rfl rfl rfl rfl rfl ?_
    refine PW.nil ?_
    refine SX.back (i + 1, zs.set (p + i) (at0 (lof (tb y) k) i)) ?_ ?_ ?_
    · exact (hD.step (by omega) (by omega))
    · exact (show k - (i + 1) < k - i by omega)
    · exact ⟨rfl, rfl, rfl, rfl, rfl, rfl, rfl, rfl, rfl, rfl, rfl, trivial⟩
  · obtain rfl : k = i := by have := hD.1; omega
    refine SC.region ?_
    refine PW.move rfl rfl rfl rfl rfl ?_
    refine PW.move rfl rfl rfl rfl rfl ?_
    refine PW.q2 (x := .tmp 33) (y := .tmp 34) (.bool false) rfl rfl rfl rfl rfl (fun ρ W h1 h2 => by exact r_lt h1 h2 (decide_eq_false hk2)) ?_
    refine PW.nil ?_
    refine SX.then ?_
    refine SC.cond (t := false) rfl ?_
    refine SC.exit ?_
    refine SX.thenE ?_
    refine SX.thenE ?_
    refine SX.blockE ?_
    refine SX.then ?_
    refine SC.seq ?_
    refine SC.region ?_
    refine PW.move rfl rfl rfl rfl rfl ?_
    refine PW.fac ⟨pb1, 0, none⟩ rfl rfl rfl rfl rfl facJ0 ?_
    refine PW.flc (s := 4) (.bool (decide (x < 0))) rfl rfl rfl rfl rfl rfl flcJ0 ?_
    refine PW.callG (r := .kw (KJ (dep x y k p))) ce_of2 rfl rfl rfl rfl rfl (KJ.st _) rfl (fun a W hf => by have h1 := hf.vl (s := 47) rfl; have own : OwF W _ _ bv (vx3) (zs) := hf.ho 51 _ rfl; obtain ⟨A4, c4, e4, hc4, rd4⟩ := OwF.rdB own; show Calls Try.prog _ #[a.tmps.getD 47 undef, a.tmps.getD 49 undef] W _; have h2 := hf.vl (s := 49) rfl; rw [h2]; rw [h1, e4]; exact rof_c rd4 (by rw [hD.2, lof_len]; omega) (hD.fin (by omega) (by omega))) ?_
    refine PW.store (x := .tmp 50) (r := .kw (KJ (dep x y k p))) rfl rfl rfl rfl rfl rfl sh_J ?_
    refine PW.assign rfl rfl rfl rfl rfl ?_
    refine PW.nil ?_
    refine SX.then ?_
    refine SC.ret ?_
    exact SX.done2 (s := 8) (t := 9) (r := .vl (.int .i64 0)) (.inl rfl) rfl rfl rfl rfl

theorem k_jdep {x y : Int} {a b k p : Nat} (X : bd a x) (Y : bd b y) (ha : a ≤ 100000) (hb : b ≤ 100000) (hk : k ≤ 65536) (hp : p ≤ 65536) : CallOk 61 [KJ x, KJ y, KV (.int .i64 (k : Int)), KV (.int .i64 (p : Int))] (K2 (KJ (dep x y k p)) (KV (.int .i64 0))) :=
  call4 ce_k_jdep_bad fun W u v u2 v2 h1 h2 e e2 => by
    obtain rfl : u2 = _ := e
    obtain rfl : v2 = _ := e2
    obtain ⟨A1, l1, c1, rfl⟩ := signed h1
    obtain ⟨A2, l2, c2, rfl⟩ := signed h2
    exact rdep_c h1 h2 X Y ha hb hk hp

end Go.Proofs.Ytcgkgcciogibkaa.Sy
