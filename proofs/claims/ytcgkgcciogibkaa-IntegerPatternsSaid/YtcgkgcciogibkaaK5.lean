/- Contracts and words, parts B0, Mi, F1, F2, F0, F4, F5, F6, F3, Syd, Sye, in one file. -/
import Derived.Deep.CutRange
import Derived.Deep.DeepCutAuto
import Derived.IntWalk
import Derived.Test.YtcgkgcciogibkaaK3
import Derived.Test.YtcgkgcciogibkaaK4
/- The contract of the program's shift. -/
set_option linter.unusedVariables false
set_option linter.unusedSimpArgs false
namespace Go.Proofs.Ytcgkgcciogibkaa
open Go.RowKit Ma

/-- x times 2^n, rounded down. -/
def sh (x n : Int) : Int := if 0 ≤ n then x * 2 ^ n.toNat else x / 2 ^ (-n).toNat
theorem shr_neg (x : Int) (k : Nat) : -1 - ((-1 - x) / 2 ^ k) = x / 2 ^ k := by
  have hp : (0 : Int) < 2 ^ k := Int.pow_pos (by decide)
  have a := Int.mul_ediv_add_emod x (2 ^ k)
  have b := Int.emod_nonneg x (Int.ne_of_gt hp)
  have c := Int.emod_lt_of_pos x hp
  have d : -1 - x = (2 ^ k - 1 - x % 2 ^ k) + 2 ^ k * (-1 - x / 2 ^ k) := by rw [Int.mul_sub, Int.mul_neg]; omega
  rw [d, Int.add_mul_ediv_left _ _ (Int.ne_of_gt hp), Int.ediv_eq_zero_of_lt (by omega) (by omega)]
  omega
theorem sg_mul (n : Bool) (a p : Int) : sg n (a * p) = sg n a * p := by cases n <;> simp [sg, Int.neg_mul]

set_option maxHeartbeats 3200000 in
set_option maxRecDepth 100000 in
theorem shl_c {x : Int} {n : Bool} {A : Option Addr} {l c k : Nat} {w : World} (hx : RI w n A l c x) (hl : l ≤ 400000) (hk : k ≤ 1000000) :
    Calls Try.prog 103 #[.agg #[.bool n, .slice A l c], .int .i64 k] w (Ret w (KI (x * 2 ^ k))) := by
  have nw1 : Nw w ((w.alloc (.cells #[.bool n, .slice A l c] 28)).alloc (.cells #[.bool false, .slice none 0 0] 28)) := ((Nw.refl w).alloc _).alloc _
  have sg0 : Sg [(w.heap.size, 0, Value.bool n), (w.heap.size, 1, Value.slice A l c)] (w.heap.size + 1) 2 ((w.alloc (.cells #[.bool n, .slice A l c] 28)).alloc (.cells #[.bool false, .slice none 0 0] 28)) := by
    refine ⟨⟨by go_simp, by go_simp, trivial⟩, ?_, by go_simp⟩
    have := box_two (w.alloc (.cells #[.bool n, .slice A l c] 28)) 28 false none 0 0
    simpa using this
  obtain ⟨xs, rfl, hc, rA, dx, tx, nx, rfl⟩ := hx
  have RA := Lib.hid (rA.kept nw1.kept)
  have SG := Lib.hid sg0
  clear rA
  go_enter Try.func103, Try.ntmps103
  go_wp2
  have n1 : Nw w _ := (nw1).drew
  have hw : w.heap.size ≤ w.heap.size + 1 := by omega
  refine region_std [(w.heap.size, 0, Value.bool n), (w.heap.size, 1, Value.slice A xs.length c)] (w.heap.size + 1) 2 7 [(5, KL .u32 (fun zs => dg b32 zs ∧ lv b32 zs = lv b32 xs * 2 ^ k ∧ zs.length ≤ xs.length + k / 32 + 1)), (6, KI (sg n (lv b32 xs * 2 ^ k))), (7, KB (w.heap.size + 1) (sg n (lv b32 xs * 2 ^ k)))] (by kernel_rfl) (by kernel_rfl) (by kernel_rfl) (by kernel_rfl) ?_ ⟨.inr (KL.st _ _), .inr (KI.st _), .inl rfl, trivial⟩ (SG.out.nw (Nw.refl _).drew) ?_
  · first | trivial | (simp only [Low, and_true]; omega)
  repeat
    apply Rg.wpK_quiet rfl rfl
    case hq => intro W hS; obtain ⟨⟨q1, q2, _⟩, _⟩ := hS; go_simp; exact rfl
    case he => exact (by simp only [Act.put, List.setIfInBounds_toArray, List.set_cons_zero, List.set_cons_succ]; exact rfl)
  apply Rg.wpK_know rfl rfl
  case ha =>
    intro W hR hS hF
    have hn := n1.rr hR hw
    obtain ⟨⟨q1, q2, _⟩, hB, hr⟩ := hS
    unfold Rg.gives
    go_simp
    exact Rg.gives_enter (call_inr (raised_c rfl ((RA.out.kept (Nw.refl _).drew.kept).kept hR.2.1) dx (by omega) hk) hr)
  intro u hu
  obtain ⟨W0, hw1, hw2, hf⟩ := hu
  obtain ⟨zs, C5, c5, e0, hx⟩ := Rg.upd_at rfl (hf 5)
  obtain ⟨l5, e1⟩ : ∃ n, n = zs.length := ⟨_, rfl⟩
  rw [← e1] at e0
  subst e0
  clear hx e1
  have hx := trivial
  refine ⟨_, (by simp only [Act.put, List.setIfInBounds_toArray, List.set_cons_zero, List.set_cons_succ]; exact rfl), ?_⟩
  clear hf hw1 hw2 hx W0
  repeat
    apply Rg.wpK_quiet rfl rfl
    case hq => intro W hS; obtain ⟨⟨q1, q2, _⟩, _⟩ := hS; go_simp; exact rfl
    case he => exact (by simp only [Act.put, List.setIfInBounds_toArray, List.set_cons_zero, List.set_cons_succ]; exact rfl)
  apply Rg.wpK_know rfl rfl
  case ha =>
    intro W hR hS hF
    have hn := n1.rr hR hw
    obtain ⟨⟨q1, q2, _⟩, hB, hr⟩ := hS
    have h5 := KL.slice (Rg.upd_at rfl (hF 5 (by kernel_rfl)))
    obtain ⟨z5, e5, hc5, r5, p5⟩ := h5
    subst e5
    unfold Rg.gives
    go_simp
    exact Rg.gives_enter (call_inr (ret_eq (made_l rfl n r5 hc5 p5.1) (by rw [p5.2.1])) hr)
  intro u hu
  obtain ⟨W0, hw1, hw2, hf⟩ := hu
  obtain ⟨m6, D6, l6, c6, rfl, hx⟩ := Rg.upd_at rfl (hf 6)
  refine ⟨_, (by simp only [Act.put, List.setIfInBounds_toArray, List.set_cons_zero, List.set_cons_succ]; exact rfl), ?_⟩
  clear hf hw1 hw2 hx W0
  repeat
    apply Rg.wpK_quiet rfl rfl
    case hq => intro W hS; obtain ⟨⟨q1, q2, _⟩, _⟩ := hS; go_simp; exact rfl
    case he => exact (by simp only [Act.put, List.setIfInBounds_toArray, List.set_cons_zero, List.set_cons_succ]; exact rfl)
  apply Rg.wpK_know rfl rfl
  case ha =>
    intro W hR hS hF
    have hn := n1.rr hR hw
    obtain ⟨⟨q1, q2, _⟩, hB, hr⟩ := hS
    have i6 := KI.agg (Rg.upd_at rfl (hF 6 (by kernel_rfl)))
    obtain ⟨⟨v0, hv0, hn0⟩, hf0⟩ := hB 0 (by omega)
    obtain ⟨⟨v1, hv1, hn1⟩, hf1⟩ := hB 1 (by omega)
    unfold Rg.gives
    go_simp
    exact Rg.gives_skip (store_I hB i6)
  intro u hu
  obtain ⟨W0, hw1, hw2, hf⟩ := hu
  have hx := trivial
  refine ⟨_, (by simp only [Act.put, List.setIfInBounds_toArray, List.set_cons_zero, List.set_cons_succ]; exact rfl), ?_⟩
  clear hf hw1 hw2 hx W0
  repeat
    apply Rg.wpK_quiet rfl rfl
    case hq => intro W hS; obtain ⟨⟨q1, q2, _⟩, _⟩ := hS; go_simp; exact rfl
    case he => exact (by simp only [Act.put, List.setIfInBounds_toArray, List.set_cons_zero, List.set_cons_succ]; exact rfl)
  refine Rg.wpK_end fun w9 hR hS hF => ?_
  have hn := n1.rr hR hw
  obtain ⟨m', D', l', c', hc0, hc1, hi⟩ := Rg.upd_at rfl (hF 7)
  go_wp2
  exact bodyPost_ret (v := .agg #[.bool m', .slice D' l' c']) (by simp [results, Try.results103, go_sem, hc0, hc1]) rfl (Ret.I (RI.eq hi (sg_mul _ _ _)) hn)
end Go.Proofs.Ytcgkgcciogibkaa
/- Bits of whole numbers: sums, fields and deposits (no program in sight). -/
set_option linter.unusedVariables false
set_option linter.unusedSimpArgs false
namespace Go.Proofs.Ytcgkgcciogibkaa
open Go.RowKit Ma

theorem tb_zero (i : Nat) : tb 0 i = false := by unfold tb; simp
theorem tb_compl (z : Int) (i : Nat) : tb (-1 - z) i = !tb z i := by
  unfold tb
  have h : (-1 - z) / 2 ^ i = -1 - z / 2 ^ i := by have := shr_neg (-1 - z) i; rw [show -1 - (-1 - z) = z by omega] at this; omega
  rw [h]
  by_cases e : z / 2 ^ i % 2 = 1
  · rw [decide_eq_true e, decide_eq_false (by omega)]; rfl
  · rw [decide_eq_false e, decide_eq_true (by omega)]; rfl
theorem tb_negone (i : Nat) : tb (-1) i = true := by have := tb_compl 0 i; rw [tb_zero] at this; simpa using this
theorem tb_bit0 (z : Int) (b : Bool) : tb (2 * z + (if b then 1 else 0)) 0 = b := by
  unfold tb
  cases b <;> simp <;> omega
theorem tb_bits (z : Int) (b : Bool) (i : Nat) : tb (2 * z + (if b then 1 else 0)) (i + 1) = tb z i := by
  rw [Nat.add_comm, tb_shift]
  congr 1
  cases b <;> simp <;> omega
/-- Bits that are all alike from somewhere on are those of a number. -/
theorem ex_bits : ∀ (m : Nat) (c : Nat → Bool), (∀ i, m ≤ i → c i = c m) → ∃ z : Int, ∀ i, tb z i = c i
  | 0, c, h => by
    cases hc : c 0
    · exact ⟨0, fun i => by rw [tb_zero, h i (Nat.zero_le _), hc]⟩
    · exact ⟨-1, fun i => by rw [tb_negone, h i (Nat.zero_le _), hc]⟩
  | m + 1, c, h => by
    obtain ⟨z, hz⟩ := ex_bits m (fun i => c (i + 1)) (fun i hi => h (i + 1) (by omega))
    refine ⟨2 * z + (if c 0 then 1 else 0), fun i => ?_⟩
    cases i with
    | zero => exact tb_bit0 z (c 0)
    | succ i => rw [tb_bits]; exact hz i
theorem tb_const (z : Int) : ∃ m : Nat, ∀ i, m ≤ i → tb z i = decide (z < 0) := by
  have h := nat_lt_pow2 z.natAbs
  exact ⟨z.natAbs, fun i hi => tb_high (by omega) (by omega) hi⟩
theorem bo_tb (op x y : Int) (i : Nat) : tb (bo op x y) i = ch op (tb x i) (tb y i) := by
  obtain ⟨m, hm⟩ := tb_const x
  obtain ⟨k, hk⟩ := tb_const y
  obtain ⟨z, hz⟩ := ex_bits (max m k) (fun i => ch op (tb x i) (tb y i)) (fun i hi => by
    show ch op _ _ = ch op _ _
    rw [hm i (by omega), hk i (by omega), hm (max m k) (by omega), hk (max m k) (by omega)])
  rw [← bo_eq hz]
  exact hz i
theorem ch6 (a b : Bool) : ch 6 a b = (a ^^ b) := by cases a <;> cases b <;> decide
theorem ch8 (a b : Bool) : ch 8 a b = (a && b) := by cases a <;> cases b <;> decide
theorem zero_of_mods {d : Int} (h : ∀ n : Nat, d % 2 ^ n = 0) : d = 0 := by
  have h1 := nat_lt_pow2 d.natAbs
  have h2 := Int.dvd_of_emod_eq_zero (h d.natAbs)
  by_cases h0 : d = 0
  · exact h0
  · obtain ⟨q, hq⟩ := h2
    have hq0 : q ≠ 0 := by intro e; rw [e, Int.mul_zero] at hq; exact h0 hq
    have h3 : d.natAbs = (2 ^ d.natAbs : Int).natAbs * q.natAbs := by
      have := congrArg Int.natAbs hq
      rw [Int.natAbs_mul] at this
      exact this
    have h4 : 1 ≤ q.natAbs := by omega
    have h5 : (2 ^ d.natAbs : Int).natAbs * 1 ≤ (2 ^ d.natAbs : Int).natAbs * q.natAbs := Nat.mul_le_mul_left _ h4
    omega
theorem bits_sum (x y : Int) : x + y = bo 6 x y + 2 * bo 8 x y := by
  have key : ∀ n : Nat, x % 2 ^ n + y % 2 ^ n = bo 6 x y % 2 ^ n + 2 * (bo 8 x y % 2 ^ n) := by
    intro n
    induction n with
    | zero => simp
    | succ n ih =>
      rw [mod_succ x, mod_succ y, mod_succ (bo 6 x y), mod_succ (bo 8 x y), bo_tb, bo_tb, ch6, ch8]
      cases tb x n <;> cases tb y n <;> simp <;> omega
  have : x + y - (bo 6 x y + 2 * bo 8 x y) = 0 := by
    apply zero_of_mods
    intro n
    have hp : (0 : Int) < 2 ^ n := Int.pow_pos (by decide)
    have k := key n
    have e1 := Int.mul_ediv_add_emod x (2 ^ n)
    have e2 := Int.mul_ediv_add_emod y (2 ^ n)
    have e3 := Int.mul_ediv_add_emod (bo 6 x y) (2 ^ n)
    have e4 := Int.mul_ediv_add_emod (bo 8 x y) (2 ^ n)
    have : x + y - (bo 6 x y + 2 * bo 8 x y) = 2 ^ n * (x / 2 ^ n + y / 2 ^ n - bo 6 x y / 2 ^ n - 2 * (bo 8 x y / 2 ^ n)) := by
      rw [Int.mul_sub, Int.mul_sub, Int.mul_add, ← Int.mul_assoc, Int.mul_comm _ 2, Int.mul_assoc]
      omega
    rw [this]
    exact Int.mul_emod_right _ _
  omega
/-- The sum of numbers that share no bit. -/
theorem tb_or {a b : Int} (h : ∀ i, (tb a i && tb b i) = false) (i : Nat) : tb (a + b) i = (tb a i || tb b i) := by
  have h0 : bo 8 a b = 0 := tb_ext fun i => by rw [bo_tb, ch8, h, tb_zero]
  rw [bits_sum, h0, Int.mul_zero, Int.add_zero, bo_tb, ch6]
  have := h i
  clear h h0
  revert this
  cases tb a i <;> cases tb b i <;> simp
theorem tb_mul_pow (z : Int) (p i : Nat) : tb (z * 2 ^ p) i = if i < p then false else tb z (i - p) := by
  by_cases h : i < p
  · rw [if_pos h, Int.mul_comm]
    have := tb_add_mul 0 z h
    rw [Int.zero_add, tb_zero] at this
    exact this
  · rw [if_neg h]
    have e : i = p + (i - p) := by omega
    have hp : (2 : Int) ^ p ≠ 0 := Int.ne_of_gt (Int.pow_pos (by decide))
    rw [e, tb_shift, Int.mul_ediv_cancel _ hp, show p + (i - p) - p = i - p by omega]
theorem tb_ones (k i : Nat) : tb (2 ^ k - 1) i = decide (i < k) := by
  by_cases h : i < k
  · have e : (2 : Int) ^ k - 1 = -1 + 2 ^ k * 1 := by omega
    rw [e, tb_add_mul _ _ h, tb_negone, decide_eq_true h]
  · have hp : (0 : Int) < 2 ^ k := Int.pow_pos (by decide)
    rw [tb_high (m := k) (by omega) (by omega) (by omega), decide_eq_false (by omega), decide_eq_false h]
theorem sh_up (x : Int) (p : Nat) : sh x (p : Int) = x * 2 ^ p := by unfold sh; rw [if_pos (by omega)]; rfl
theorem sh_down (x : Int) (p : Nat) : sh x (-(p : Int)) = x / 2 ^ p := by
  unfold sh
  by_cases h : p = 0
  · subst h; simp
  · rw [if_neg (by omega)]; simp
theorem sh_back (x : Int) (k : Nat) : sh (sh x k) (-(k : Int)) = x := by
  rw [sh_up, sh_down, Int.mul_ediv_cancel _ (Int.ne_of_gt (Int.pow_pos (by decide)))]
theorem tb_sh_up (x : Int) (p i : Nat) : tb (sh x (p : Int)) i = if i < p then false else tb x (i - p) := by rw [sh_up, tb_mul_pow]
theorem tb_sh_down (x : Int) (p i : Nat) : tb (sh x (-(p : Int))) i = tb x (p + i) := by rw [sh_down, ← tb_shift]

/-- Field and Deposit. -/
noncomputable def fld (x : Int) (k p : Nat) : Int := bo 8 (sh x (-(p : Int))) (2 ^ k - 1)
noncomputable def dep (x y : Int) (k p : Nat) : Int := bo 8 x (-1 - sh (2 ^ k - 1) (p : Int)) + sh (bo 8 y (2 ^ k - 1)) (p : Int)
theorem tb_fld (x : Int) (k p i : Nat) : tb (fld x k p) i = (decide (i < k) && tb x (p + i)) := by
  unfold fld; rw [bo_tb, ch8, tb_sh_down, tb_ones, Bool.and_comm]
theorem tb_dep (x y : Int) (k p i : Nat) : tb (dep x y k p) i = if p ≤ i ∧ i < p + k then tb y (i - p) else tb x i := by
  have hA : ∀ i, tb (bo 8 x (-1 - sh (2 ^ k - 1) (p : Int))) i = if p ≤ i ∧ i < p + k then false else tb x i := by
    intro i
    rw [bo_tb, ch8, tb_compl, tb_sh_up]
    by_cases h1 : i < p
    · rw [if_pos h1, if_neg (by omega)]; simp
    · rw [if_neg h1, tb_ones]
      by_cases h2 : i < p + k
      · rw [if_pos ⟨by omega, h2⟩, decide_eq_true (by omega)]; simp
      · rw [if_neg (by omega), decide_eq_false (by omega)]; simp
  have hB : ∀ i, tb (sh (bo 8 y (2 ^ k - 1)) (p : Int)) i = if p ≤ i ∧ i < p + k then tb y (i - p) else false := by
    intro i
    rw [tb_sh_up]
    by_cases h1 : i < p
    · rw [if_pos h1, if_neg (by omega)]
    · rw [if_neg h1, bo_tb, ch8, tb_ones]
      by_cases h2 : i < p + k
      · rw [if_pos ⟨by omega, h2⟩, decide_eq_true (by omega)]; simp
      · rw [if_neg (by omega), decide_eq_false (by omega)]; simp
  unfold dep
  rw [tb_or (fun i => by rw [hA, hB]; split <;> simp), hA, hB]
  split <;> simp
theorem fld_dep (x y : Int) (k p : Nat) : fld (dep x y k p) k p = fld y k 0 := tb_ext fun i => by
  rw [tb_fld, tb_fld, tb_dep]
  by_cases h : i < k
  · rw [if_pos ⟨by omega, by omega⟩]; simp [h]
  · simp [h]
theorem dep_fld (x : Int) (k p : Nat) : dep x (fld x k p) k p = x := tb_ext fun i => by
  rw [tb_dep]
  by_cases h : p ≤ i ∧ i < p + k
  · rw [if_pos h, tb_fld, show p + (i - p) = i by omega, decide_eq_true (by omega)]; simp
  · rw [if_neg h]
theorem dep_off (x y : Int) (k p i : Nat) (h : i < p ∨ p + k ≤ i) : tb (dep x y k p) i = tb x i := by rw [tb_dep, if_neg (by omega)]
theorem sum_twice (x y : Int) : bo 6 x y + bo 8 x y + bo 8 x y = x + y := by have := bits_sum x y; omega
end Go.Proofs.Ytcgkgcciogibkaa
/- The contract of the program's shift, every way. -/
set_option linter.unusedVariables false
set_option linter.unusedSimpArgs false
namespace Go.Proofs.Ytcgkgcciogibkaa
open Go.RowKit Ma

set_option maxHeartbeats 1600000 in
set_option maxRecDepth 100000 in
theorem shr0_c {x i : Int} {A : Option Addr} {l c : Nat} {w : World} (hx : RI w false A l c x) (hl : l ≤ 400000) (h0 : i < 0) (h1 : -9223372036854775808 ≤ i) :
    Calls Try.prog 103 #[.agg #[.bool false, .slice A l c], .int .i64 i] w (Ret w (KI (x / 2 ^ (-i).toNat))) := by
  have nw1 : Nw w ((w.alloc (.cells #[.bool false, .slice A l c] 28)).alloc (.cells #[.bool false, .slice none 0 0] 28)) := ((Nw.refl w).alloc _).alloc _
  have sg0 : Sg [(w.heap.size, 0, Value.bool false), (w.heap.size, 1, Value.slice A l c)] (w.heap.size + 1) 2 ((w.alloc (.cells #[.bool false, .slice A l c] 28)).alloc (.cells #[.bool false, .slice none 0 0] 28)) := by
    refine ⟨⟨by go_simp, by go_simp, trivial⟩, ?_, by go_simp⟩
    have := box_two (w.alloc (.cells #[.bool false, .slice A l c] 28)) 28 false none 0 0
    simpa using this
  have SG := Lib.hid sg0
  obtain ⟨xs, rfl, hc, rA, dx, tx, nx, rfl⟩ := hx
  have hn := lv_nonneg (b := b32) (by decide) dx
  have hlt := lv_lt (b := b32) (by decide) dx
  have hw3 : IntKind.i64.wrap (-32 * (xs.length : Int)) = -32 * (xs.length : Int) := IntWalk.i64_in _ (by omega)
  have RA := Lib.hid (rA.kept nw1.kept)
  have HD := Lib.hid (⟨dx, hc⟩ : _ ∧ _)
  by_cases hbig : i < -32 * (xs.length : Int)
  · have hz : (0 : Int) = sg false (lv b32 xs) / 2 ^ (-i).toNat := (low_zero hn hlt (by omega)).symm
    have HZ := Lib.hid hz
    clear rA hn hlt hz dx tx nx hc
    go_enter Try.func103, Try.ntmps103
    go_wp2
    exact bodyPost_ret (v := .agg #[.bool false, .slice none 0 0]) (by simp [results, Try.results103, go_sem]) rfl ⟨_, rfl, ⟨_, _, _, _, rfl, (RI.zero _).eq HZ.out⟩, nw1⟩
  · obtain ⟨k, hk⟩ : ∃ k : Nat, (k : Int) = -i := ⟨(-i).toNat, by omega⟩
    have hw : IntKind.i64.wrap (-i) = k := by rw [IntWalk.i64_in _ (by omega)]; exact hk.symm
    have ek : (-i).toNat = k := by omega
    have hkb : k ≤ 1000000000 := by omega
    rw [ek]
    clear rA hn hlt dx tx nx hc hk ek
    go_enter Try.func103, Try.ntmps103
    go_wp2_with (first
      | (go_at_call 123; refine (lowered_c rfl RA.out HD.out.2 HD.out.1 (by omega) hkb).mono ?_; rintro e w1 ⟨_, rfl, ⟨zs, C, cc, rfl, hcc, rC, dz, ez, lz⟩, hb⟩; have EZ := Lib.hid ez; clear ez)
      | (go_at_call 81; refine (made_c false C cc zs _ rC hcc dz).mono ?_; rintro e w2 ⟨_, rfl, ⟨m, D, l2, c2, rfl, hi⟩, hb2⟩; have b2 := ((SG.out.nw hb).nw hb2).2.1; obtain ⟨⟨v0, hv0, hn0⟩, hf0⟩ := b2 0 (by omega); obtain ⟨⟨v1, hv1, hn1⟩, hf1⟩ := b2 1 (by omega)))
    have hi' := hi.eq (z' := sg false (lv b32 xs) / 2 ^ k) EZ.out
    exact bodyPost_ret (v := .agg #[.bool m, .slice D l2 c2]) (by simp [results, Try.results103, go_sem, hv0, hv1]) rfl (Ret.I (hi'.kept (store_I b2 hi').1.2.1) (((nw1.trans hb).trans hb2).rr (store_I b2 hi').1 (by omega)))

set_option maxHeartbeats 1600000 in
set_option maxRecDepth 100000 in
theorem shr1_c {x i : Int} {A : Option Addr} {l c : Nat} {w : World} (hx : RI w true A l c x) (hl : l ≤ 400000) (h0 : i < 0) (h1 : -9223372036854775808 ≤ i) :
    Calls Try.prog 103 #[.agg #[.bool true, .slice A l c], .int .i64 i] w (Ret w (KI (x / 2 ^ (-i).toNat))) := by
  have nw1 : Nw w ((w.alloc (.cells #[.bool true, .slice A l c] 28)).alloc (.cells #[.bool false, .slice none 0 0] 28)) := ((Nw.refl w).alloc _).alloc _
  have sg0 : Sg [(w.heap.size, 0, Value.bool true), (w.heap.size, 1, Value.slice A l c)] (w.heap.size + 1) 2 ((w.alloc (.cells #[.bool true, .slice A l c] 28)).alloc (.cells #[.bool false, .slice none 0 0] 28)) := by
    refine ⟨⟨by go_simp, by go_simp, trivial⟩, ?_, by go_simp⟩
    have := box_two (w.alloc (.cells #[.bool true, .slice A l c] 28)) 28 false none 0 0
    simpa using this
  have SG := Lib.hid sg0
  have hx2 := hx.abs_lt
  have hs := hx.sign
  have hxn : x < 0 := by simpa using hs.symm
  have HX := Lib.hid (hx.kept nw1.kept)
  have hp : (0 : Int) < 2 ^ (-i).toNat := Int.pow_pos (by decide)
  have hb0 : 0 ≤ (-1 - x) / 2 ^ (-i).toNat := Int.ediv_nonneg (by omega) (by omega)
  have hb1 : (-1 - x) / 2 ^ (-i).toNat ≤ -1 - x := Int.ediv_le_self _ (by omega)
  have HB := Lib.hid (⟨hx2, hb0, hb1⟩ : _ ∧ _ ∧ _)
  have HE := Lib.hid (shr_neg x (-i).toNat)
  clear hx hx2 hs hp hb0 hb1
  go_enter Try.func103, Try.ntmps103
  go_wp2_with fail
  refine (complement_c HX.out hl).mono ?_
  rintro e w1 ⟨_, rfl, ⟨m1, D1, l1, c1, rfl, i1⟩, hb1⟩
  have hm1 : m1 = false := by rw [i1.sign]; simp; omega
  subst hm1
  have hl1 := i1.len_le l (by have := HB.out; omega) (by have := HB.out; omega)
  go_wp2_with fail
  refine (shr0_c i1 (by omega) h0 h1).mono ?_
  rintro e w2 ⟨_, rfl, ⟨m2, D2, l2, c2, rfl, i2⟩, hb2⟩
  have hl2 := i2.len_le l (by have := HB.out; omega) (by have := HB.out; omega)
  go_wp2_with fail
  refine (complement_c i2 (by omega)).mono ?_
  rintro e w3 ⟨_, rfl, ⟨m3, D3, l3, c3, rfl, i3⟩, hb3⟩
  have b2 := (((SG.out.nw hb1).nw hb2).nw hb3).2.1
  obtain ⟨⟨v0, hv0, hn0⟩, hf0⟩ := b2 0 (by omega)
  obtain ⟨⟨v1, hv1, hn1⟩, hf1⟩ := b2 1 (by omega)
  go_wp2
  have hi' := i3.eq HE.out
  exact bodyPost_ret (v := .agg #[.bool m3, .slice D3 l3 c3]) (by simp [results, Try.results103, go_sem, hv0, hv1]) rfl (Ret.I (hi'.kept (store_I b2 hi').1.2.1) ((((nw1.trans hb1).trans hb2).trans hb3).rr (store_I b2 hi').1 (by omega)))

/-- shift. -/
theorem shift_c {x i : Int} {n : Bool} {A : Option Addr} {l c : Nat} {w : World} (hx : RI w n A l c x) (hl : l ≤ 400000) (h1 : -9223372036854775808 ≤ i) (h2 : i ≤ 1000000) :
    Calls Try.prog 103 #[.agg #[.bool n, .slice A l c], .int .i64 i] w (Ret w (KI (sh x i))) := by
  by_cases h0 : 0 ≤ i
  · obtain ⟨k, rfl⟩ : ∃ k : Nat, i = k := ⟨i.toNat, by omega⟩
    have e : sh x (k : Int) = x * 2 ^ k := by unfold sh; rw [if_pos h0]; rfl
    rw [e]
    exact shl_c hx hl (by omega)
  · have e : sh x i = x / 2 ^ (-i).toNat := by unfold sh; rw [if_neg h0]
    rw [e]
    cases n
    · exact shr0_c hx hl (by omega) h1
    · exact shr1_c hx hl (by omega) h1
end Go.Proofs.Ytcgkgcciogibkaa
/- The contracts of the program's sized, ones, and, Field, Shift. -/
set_option linter.unusedVariables false
set_option linter.unusedSimpArgs false
namespace Go.Proofs.Ytcgkgcciogibkaa
open Go.RowKit Ma

/-- A number of so many bits has so many limbs. -/
theorem RI.bits_le {w : World} {n : Bool} {A : Option Addr} {l c : Nat} {z : Int} (h : RI w n A l c z) (m : Nat) (h1 : -(2 ^ m) ≤ z) (h2 : z ≤ 2 ^ m) : l ≤ m / 32 + 1 := by
  have e : (b32 : Int) ^ (m / 32 + 1) = 2 ^ (32 * (m / 32 + 1)) := by rw [b32_eq, Int.pow_mul]; rfl
  have p : (0 : Int) < 2 ^ m := Int.pow_pos (by decide)
  have q := pow_le (b := 2) (by decide) (show m + 1 ≤ 32 * (m / 32 + 1) by omega)
  rw [Int.pow_succ] at q
  exact h.len_le _ (by rw [e]; omega) (by rw [e]; omega)
/-- Are a size and a position right. -/
def sz (a b : Int) : Bool := decide (0 ≤ a) && decide (a ≤ 65536) && decide (0 ≤ b) && decide (b ≤ 65536)
set_option maxHeartbeats 800000 in
theorem sized_c {a b : Int} {w : World} : Calls Try.prog 106 #[.int .i64 a, .int .i64 b] w fun e w' => e = .returned (.bool (sz a b)) ∧ w = w' := by
  by_cases h1 : 0 ≤ a
  · by_cases h2 : a ≤ 65536
    · by_cases h3 : 0 ≤ b
      · by_cases h4 : b ≤ 65536
        · have HZ := Lib.hid (show sz a b = true by simp [sz, h1, h2, h3, h4])
          go_enter Try.func106, Try.ntmps106
          go_wp2
          go_ret
          exact ⟨ret_val (by rw [HZ.out]; rfl), rfl⟩
        · have HZ := Lib.hid (show sz a b = false by simp [sz, h1, h2, h3, h4])
          go_enter Try.func106, Try.ntmps106
          go_wp2
          go_ret
          exact ⟨ret_val (by rw [HZ.out]; rfl), rfl⟩
      · have HZ := Lib.hid (show sz a b = false by simp [sz, h1, h2, h3])
        go_enter Try.func106, Try.ntmps106
        go_wp2
        go_ret
        exact ⟨ret_val (by rw [HZ.out]; rfl), rfl⟩
    · have HZ := Lib.hid (show sz a b = false by simp [sz, h1, h2])
      go_enter Try.func106, Try.ntmps106
      go_wp2
      go_ret
      exact ⟨ret_val (by rw [HZ.out]; rfl), rfl⟩
  · have HZ := Lib.hid (show sz a b = false by simp [sz, h1])
    go_enter Try.func106, Try.ntmps106
    go_wp2
    go_ret
    exact ⟨ret_val (by rw [HZ.out]; rfl), rfl⟩

set_option maxHeartbeats 1600000 in
set_option maxRecDepth 100000 in
theorem ones_c {k : Nat} {w : World} (hk : k ≤ 65536) :
    Calls Try.prog 108 #[.int .i64 k] w (Ret w (KI (2 ^ k - 1))) := by
  have nw1 : Nw w (w.alloc (.cells #[.bool false, .slice none 0 0] 28)) := (Nw.refl w).alloc _
  have sg0 : Sg [] w.heap.size 2 (w.alloc (.cells #[.bool false, .slice none 0 0] 28)) := ⟨trivial, box_two w 28 false none 0 0, by go_simp⟩
  have hsh : sh 1 (k : Int) = 2 ^ k := by unfold sh; rw [if_pos (by omega), Int.one_mul]; rfl
  have hp : (0 : Int) < 2 ^ k := Int.pow_pos (by decide)
  have HP := Lib.hid (⟨hsh, hp⟩ : _ ∧ _)
  clear hsh hp
  go_enter Try.func108, Try.ntmps108
  go_wp2_with fail
  refine (new_c (x := 1) (by omega)).mono ?_
  rintro e w1 ⟨_, rfl, ⟨m1, D1, l1, c1, rfl, i1⟩, hb1⟩
  have hl1 := i1.len_le 1 (by decide) (by decide)
  go_wp2_with fail
  refine (shift_c i1 (by omega) (by omega) (by omega)).mono ?_
  rintro e w2 ⟨_, rfl, ⟨m2, D2, l2, c2, rfl, i2⟩, hb2⟩
  have hl2 := (i2.eq HP.out.1).bits_le k (by have := HP.out.2; omega) (Int.le_refl _)
  go_wp2_with fail
  refine (new_c (x := 1) (by omega)).mono ?_
  rintro e w3 ⟨_, rfl, ⟨m3, D3, l3, c3, rfl, i3⟩, hb3⟩
  have hl3 := i3.len_le 1 (by decide) (by decide)
  go_wp2_with fail
  refine (sub_c (i2.kept hb3.kept) i3 (by omega) (by omega)).mono ?_
  rintro e w4 ⟨_, rfl, ⟨m4, D4, l4, c4, rfl, i4⟩, hb4⟩
  have b2 := ((((sg0.nw hb1).nw hb2).nw hb3).nw hb4).2.1
  obtain ⟨⟨v0, hv0, hn0⟩, hf0⟩ := b2 0 (by omega)
  obtain ⟨⟨v1, hv1, hn1⟩, hf1⟩ := b2 1 (by omega)
  go_wp2
  have hi' := i4.eq (z' := 2 ^ k - 1) (by rw [HP.out.1])
  exact bodyPost_ret (v := .agg #[.bool m4, .slice D4 l4 c4]) (by simp [results, Try.results108, go_sem, hv0, hv1]) rfl (Ret.I (hi'.kept (store_I b2 hi').1.2.1) (((((nw1.trans hb1).trans hb2).trans hb3).trans hb4).rr (store_I b2 hi').1 (by omega)))
end Go.Proofs.Ytcgkgcciogibkaa
/- Boole's contract with a bound for its answer. -/
set_option linter.unusedVariables false
set_option linter.unusedSimpArgs false
namespace Go.Proofs.Ytcgkgcciogibkaa
open Go.RowKit Ma

theorem sx_bd (m : Nat) (v : Int) (h0 : 0 ≤ v) (h1 : v < b32 ^ m) : -(b32 ^ m) < sx m v ∧ sx m v < b32 ^ m := by
  have p := pos_pow (b := b32) (by decide) m
  unfold sx
  split <;> omega
theorem boole_b {x y : Int} {n m : Bool} {A B : Option Addr} {l l' c d : Nat} {w : World} {op : Int} (hx : RI w n A l c x) (hy : RI w m B l' d y) (hl : l ≤ 300000) (hl' : l' ≤ 300000) (ho : 0 ≤ op) (ho2 : op ≤ 15) :
    Calls Try.prog 17 #[.agg #[.bool n, .slice A l c], .int .i64 op, .agg #[.bool m, .slice B l' d]] w (Ret w (K2 (fun v W => KI (bo op x y) v W ∧ -(b32 ^ (max l l' + 1)) < bo op x y ∧ bo op x y < b32 ^ (max l l' + 1)) (KV (.int .i64 0)))) := by
  have bx := hx.abs_lt
  have by' := hy.abs_lt
  refine (boole_w hx hy hl hl' ho ho2).mono fun e w' ⟨v, e1, ⟨v1, v2, e2, ⟨us, vs, ts, N, hN, lu, lv', lt, du, dv, dt, eu, ev, ht, hk⟩, h2⟩, hb⟩ => ⟨v, e1, ⟨v1, v2, e2, ?_, h2⟩, hb⟩
  have p1 := pow_le (b := b32) (by decide) (show l ≤ N - 1 by omega)
  have p2 := pow_le (b := b32) (by decide) (show l' ≤ N - 1 by omega)
  have t0 := lv_nonneg (show (0 : Int) < b32 by decide) dt
  have t1 := lv_lt (show (0 : Int) < b32 by decide) dt
  rw [lt] at t1
  rw [← bo_eq (boole_law ho ho2 (by omega) lu lv' lt du dv dt eu ev ht (by omega) (by omega) (by omega) (by omega)), ← hN]
  exact ⟨hk, sx_bd N _ t0 t1⟩
end Go.Proofs.Ytcgkgcciogibkaa
/- The contracts of the program's and, Field, Shift. -/
set_option linter.unusedVariables false
set_option linter.unusedSimpArgs false
namespace Go.Proofs.Ytcgkgcciogibkaa
open Go.RowKit Ma

theorem sh_dn {x n : Int} (hn : n ≤ 0) : (0 ≤ x → 0 ≤ sh x n ∧ sh x n ≤ x) ∧ (x < 0 → x ≤ sh x n ∧ sh x n < 0) := by
  by_cases h0 : 0 ≤ n
  · have : n = 0 := by omega
    subst this
    have : sh x 0 = x := by unfold sh; simp
    rw [this]; omega
  · have e : sh x n = x / 2 ^ (-n).toNat := by unfold sh; rw [if_neg h0]
    rw [e]
    have hp : (0 : Int) < 2 ^ (-n).toNat := Int.pow_pos (by decide)
    refine ⟨fun h => ⟨Int.ediv_nonneg h (by omega), Int.ediv_le_self _ h⟩, fun h => ?_⟩
    have a := shr_neg x (-n).toNat
    have b : 0 ≤ (-1 - x) / 2 ^ (-n).toNat := Int.ediv_nonneg (by omega) (by omega)
    have c : (-1 - x) / 2 ^ (-n).toNat ≤ -1 - x := Int.ediv_le_self _ (by omega)
    omega
theorem sh_dn_len {w w' : World} {x n : Int} {a b : Bool} {A B : Option Addr} {l l' c d : Nat} (hx : RI w a A l c x) (hy : RI w' b B l' d (sh x n)) (hn : n ≤ 0) : l' ≤ l := by
  have h := hx.abs_lt
  obtain ⟨p, q⟩ := sh_dn (x := x) hn
  by_cases h0 : 0 ≤ x
  · have := p h0
    exact hy.len_le l (by omega) (by omega)
  · have := q (by omega)
    exact hy.len_le l (by omega) (by omega)
set_option maxHeartbeats 1600000 in
set_option maxRecDepth 100000 in
theorem and_b {x y : Int} {n m : Bool} {A B : Option Addr} {l l' c d : Nat} {w : World} (hx : RI w n A l c x) (hy : RI w m B l' d y) (hl : l ≤ 300000) (hl' : l' ≤ 300000) :
    Calls Try.prog 107 #[.agg #[.bool n, .slice A l c], .agg #[.bool m, .slice B l' d]] w (Ret w (fun v W => KI (bo 8 x y) v W ∧ -(b32 ^ (max l l' + 1)) < bo 8 x y ∧ bo 8 x y < b32 ^ (max l l' + 1))) := by
  have nw1 : Nw w (((w.alloc (.cells #[.bool n, .slice A l c] 28)).alloc (.cells #[.bool m, .slice B l' d] 28)).alloc (.cells #[.bool false, .slice none 0 0] 28)) := (((Nw.refl w).alloc _).alloc _).alloc _
  have bx0 : Box (w.heap.size + 1 + 1) 2 (((w.alloc (.cells #[.bool n, .slice A l c] 28)).alloc (.cells #[.bool m, .slice B l' d] 28)).alloc (.cells #[.bool false, .slice none 0 0] 28)) := by
    have := box_two ((w.alloc (.cells #[.bool n, .slice A l c] 28)).alloc (.cells #[.bool m, .slice B l' d] 28)) 28 false none 0 0
    simpa using this
  have HX := Lib.hid (hx.kept nw1.kept)
  have HY := Lib.hid (hy.kept nw1.kept)
  go_enter Try.func107, Try.ntmps107
  go_wp2_with fail
  refine (boole_b HX.out HY.out hl hl' (by decide) (by decide)).mono ?_
  rintro e w1 ⟨_, rfl, ⟨v1, v2, rfl, ⟨⟨m1, D1, l1, c1, rfl, i1⟩, hbd⟩, rfl⟩, hb1⟩
  have HBD := Lib.hid hbd
  clear hbd
  have na : Nw w1 (w1.alloc (.cells #[.bool m1, .slice D1 l1 c1] 28)) := (Nw.refl w1).alloc _
  have b2 := (bx0.below hb1).below na
  have I1 := Lib.hid (i1.kept na.kept)
  have NW := Lib.hid ((nw1.trans hb1).trans na)
  obtain ⟨⟨v0, hv0, hn0⟩, hf0⟩ := b2 0 (by omega)
  obtain ⟨⟨v1, hv1, hn1⟩, hf1⟩ := b2 1 (by omega)
  go_wp2
  exact bodyPost_ret (v := .agg #[.bool m1, .slice D1 l1 c1]) (by simp [results, Try.results107, go_sem, hv0, hv1]) rfl ⟨_, rfl, ⟨⟨_, _, _, _, rfl, I1.out.kept (store_I b2 I1.out).1.2.1⟩, HBD.out⟩, NW.out.rr (store_I b2 I1.out).1 (by omega)⟩

theorem and_c {x y : Int} {n m : Bool} {A B : Option Addr} {l l' c d : Nat} {w : World} (hx : RI w n A l c x) (hy : RI w m B l' d y) (hl : l ≤ 300000) (hl' : l' ≤ 300000) :
    Calls Try.prog 107 #[.agg #[.bool n, .slice A l c], .agg #[.bool m, .slice B l' d]] w (Ret w (KI (bo 8 x y))) :=
  (and_b hx hy hl hl').mono fun e w' ⟨v, e1, h, hb⟩ => ⟨v, e1, h.1, hb⟩

set_option maxHeartbeats 1600000 in
set_option maxRecDepth 100000 in
theorem field_1 {x a b : Int} {n : Bool} {A : Option Addr} {l c : Nat} {w : World} (hx : RI w n A l c x) (hs : sz a b = false) :
    Calls Try.prog 58 #[.agg #[.bool n, .slice A l c], .int .i64 a, .int .i64 b] w (Ret w (K2 (KI 0) (KV (.int .i64 1)))) := by
  have nw1 : Nw w ((w.alloc (.cells #[.bool n, .slice A l c] 28)).alloc (.cells #[.bool false, .slice none 0 0] 28)) := ((Nw.refl w).alloc _).alloc _
  have sg0 : Sg [(w.heap.size, 0, Value.bool n), (w.heap.size, 1, Value.slice A l c)] (w.heap.size + 1) 2 ((w.alloc (.cells #[.bool n, .slice A l c] 28)).alloc (.cells #[.bool false, .slice none 0 0] 28)) := by
    refine ⟨⟨by go_simp, by go_simp, trivial⟩, ?_, by go_simp⟩
    have := box_two (w.alloc (.cells #[.bool n, .slice A l c] 28)) 28 false none 0 0
    simpa using this
  have HS := Lib.hid hs
  clear hs
  go_enter Try.func58, Try.ntmps58
  go_wp2_with (go_at_call 106; refine (sized_c).mono ?_; rintro e w' ⟨rfl, rfl⟩; rw [HS.out])
  exact bodyPost_ret (v := .tuple #[.agg #[.bool false, .slice none 0 0], .int .i64 1]) (by simp [results, Try.results58, go_sem]) rfl ⟨_, rfl, ⟨_, _, rfl, ⟨_, _, _, _, rfl, RI.zero _⟩, rfl⟩, nw1⟩

theorem sz_bd {a b : Int} (h : sz a b = true) : 0 ≤ a ∧ a ≤ 65536 ∧ 0 ≤ b ∧ b ≤ 65536 := by
  simp [sz] at h; omega
set_option maxHeartbeats 1600000 in
set_option maxRecDepth 100000 in
theorem field_0 {x a b : Int} {n : Bool} {A : Option Addr} {l c : Nat} {w : World} (hx : RI w n A l c x) (hl : l ≤ 300000) (hs : sz a b = true) :
    Calls Try.prog 58 #[.agg #[.bool n, .slice A l c], .int .i64 a, .int .i64 b] w (Ret w (K2 (KI (bo 8 (sh x (-b)) (2 ^ a.toNat - 1))) (KV (.int .i64 0)))) := by
  have nw1 : Nw w ((w.alloc (.cells #[.bool n, .slice A l c] 28)).alloc (.cells #[.bool false, .slice none 0 0] 28)) := ((Nw.refl w).alloc _).alloc _
  have sg0 : Sg [(w.heap.size, 0, Value.bool n), (w.heap.size, 1, Value.slice A l c)] (w.heap.size + 1) 2 ((w.alloc (.cells #[.bool n, .slice A l c] 28)).alloc (.cells #[.bool false, .slice none 0 0] 28)) := by
    refine ⟨⟨by go_simp, by go_simp, trivial⟩, ?_, by go_simp⟩
    have := box_two (w.alloc (.cells #[.bool n, .slice A l c] 28)) 28 false none 0 0
    simpa using this
  have SG := Lib.hid sg0
  have HS := Lib.hid hs
  have HX := Lib.hid (hx.kept nw1.kept)
  have hbd := sz_bd hs
  have hw : IntKind.i64.wrap (-b) = -b := IntWalk.i64_in _ (by omega)
  obtain ⟨k, rfl⟩ : ∃ k : Nat, a = k := ⟨a.toNat, by omega⟩
  have hk : k ≤ 65536 := by omega
  have hb9 : -9223372036854775808 ≤ -b ∧ -b ≤ 0 := by omega
  have HB9 := Lib.hid hb9
  clear hs hx hbd hb9
  rw [Int.toNat_natCast]
  go_enter Try.func58, Try.ntmps58
  go_wp2_with (go_at_call 106; refine (sized_c).mono ?_; rintro e w' ⟨rfl, rfl⟩; rw [HS.out])
  refine (shift_c HX.out (by omega) HB9.out.1 (by have := HB9.out; omega)).mono ?_
  rintro e w1 ⟨_, rfl, ⟨m1, D1, l1, c1, rfl, i1⟩, hb1⟩
  have hl1 := sh_dn_len HX.out i1 HB9.out.2
  have I1 := Lib.hid i1
  clear i1
  go_wp2_with fail
  refine (ones_c hk).mono ?_
  rintro e w2 ⟨_, rfl, ⟨m2, D2, l2, c2, rfl, i2⟩, hb2⟩
  have hp : (0 : Int) < 2 ^ k := Int.pow_pos (by decide)
  have hl2 := i2.bits_le k (by omega) (by omega)
  clear hp
  have I2 := Lib.hid i2
  clear i2
  go_wp2_with fail
  refine (and_c (I1.out.kept hb2.kept) I2.out (by omega) (by omega)).mono ?_
  rintro e w3 ⟨_, rfl, ⟨m3, D3, l3, c3, rfl, i3⟩, hb3⟩
  have b2 := (((SG.out.nw hb1).nw hb2).nw hb3).2.1
  have I3 := Lib.hid i3
  have NW := Lib.hid (((nw1.trans hb1).trans hb2).trans hb3)
  clear i3
  obtain ⟨⟨v0, hv0, hn0⟩, hf0⟩ := b2 0 (by omega)
  obtain ⟨⟨v1, hv1, hn1⟩, hf1⟩ := b2 1 (by omega)
  go_wp2
  exact bodyPost_ret (v := .tuple #[.agg #[.bool m3, .slice D3 l3 c3], .int .i64 0]) (by simp [results, Try.results58, go_sem, hv0, hv1]) rfl ⟨_, rfl, ⟨_, _, rfl, ⟨_, _, _, _, rfl, I3.out.kept (store_I b2 I3.out).1.2.1⟩, rfl⟩, NW.out.rr (store_I b2 I3.out).1 (by omega)⟩
end Go.Proofs.Ytcgkgcciogibkaa
/- The contract of the program's Shift. -/
set_option linter.unusedVariables false
set_option linter.unusedSimpArgs false
namespace Go.Proofs.Ytcgkgcciogibkaa
open Go.RowKit Ma

theorem wid_len {w : World} {x : Int} {n : Bool} {A : Option Addr} {l c : Nat} (hx : RI w n A l c x) : wid (pat x) ≤ 32 * l := by
  have hb := hx.abs_lt
  apply wid_le_of
  rw [show (b32 : Int) ^ l = 2 ^ (32 * l) by rw [b32_eq, Int.pow_mul]; rfl] at hb
  unfold pat
  split <;> omega
/-- May x be shifted so far. -/
def shOk (x i : Int) : Prop := i ≤ 0 ∨ x = 0 ∨ (wid (pat x) : Int) + i ≤ 65536
set_option maxHeartbeats 1600000 in
set_option maxRecDepth 100000 in
theorem Shift_0 {x i : Int} {n : Bool} {A : Option Addr} {l c : Nat} {w : World} (hx : RI w n A l c x) (hl : l ≤ 300000) (h1 : -9223372036854775808 ≤ i) (h2 : i ≤ 9223372036854775807) (hs : shOk x i) :
    Calls Try.prog 56 #[.agg #[.bool n, .slice A l c], .int .i64 i] w (Ret w (K2 (KI (sh x i)) (KV (.int .i64 0)))) := by
  have nw1 : Nw w ((w.alloc (.cells #[.bool n, .slice A l c] 28)).alloc (.cells #[.bool false, .slice none 0 0] 28)) := ((Nw.refl w).alloc _).alloc _
  have sg0 : Sg [(w.heap.size, 0, Value.bool n), (w.heap.size, 1, Value.slice A l c)] (w.heap.size + 1) 2 ((w.alloc (.cells #[.bool n, .slice A l c] 28)).alloc (.cells #[.bool false, .slice none 0 0] 28)) := by
    refine ⟨⟨by go_simp, by go_simp, trivial⟩, ?_, by go_simp⟩
    have := box_two (w.alloc (.cells #[.bool n, .slice A l c] 28)) 28 false none 0 0
    simpa using this
  have SG := Lib.hid sg0
  have HX := Lib.hid (hx.kept nw1.kept)
  by_cases hi : i ≤ 0
  · have hm : min i 0 = i := by omega
    clear hs hx
    go_enter Try.func56, Try.ntmps56
    go_wp2_with fail
    refine (shift_c HX.out (by omega) (by omega) (by omega)).mono ?_
    rintro e w1 ⟨_, rfl, ⟨m1, D1, l1, c1, rfl, i1⟩, hb1⟩
    have hi := i1.eq (z' := sh x i) rfl
    have b2 := (SG.out.nw hb1).2.1
    have I1 := Lib.hid hi
    have NW := Lib.hid (nw1.trans hb1)
    clear i1 hi
    obtain ⟨⟨v0, hv0, hn0⟩, hf0⟩ := b2 0 (by omega)
    obtain ⟨⟨v1, hv1, hn1⟩, hf1⟩ := b2 1 (by omega)
    go_wp2
    exact bodyPost_ret (v := .tuple #[.agg #[.bool m1, .slice D1 l1 c1], .int .i64 0]) (by simp [results, Try.results56, go_sem, hv0, hv1]) rfl ⟨_, rfl, ⟨_, _, rfl, ⟨_, _, _, _, rfl, I1.out.kept (store_I b2 I1.out).1.2.1⟩, rfl⟩, NW.out.rr (store_I b2 I1.out).1 (by omega)⟩
  · have hi' : 0 < i := by omega
    by_cases h0 : x = 0
    · have hsg : sgn x = 0 := by rw [h0]; rfl
      have HSG := Lib.hid hsg
      have hm : min i 0 = 0 := by omega
      have hz : sh x 0 = sh x i := by rw [h0]; unfold sh; simp
      have HZ := Lib.hid hz
      clear hs hx h0 hsg hi hz
      go_enter Try.func56, Try.ntmps56
      go_wp2_with fail
      refine (sign_c HX.out).mono ?_
      rintro e w2 ⟨_, rfl, rfl, hb2⟩
      rw [HSG.out]
      obtain ⟨q1, q2, _⟩ := (SG.out.nw hb2).1
      go_wp2_with fail
      refine (shift_c (HX.out.kept hb2.kept) (by omega) (by omega) (by omega)).mono ?_
      rintro e w1 ⟨_, rfl, ⟨m1, D1, l1, c1, rfl, i1⟩, hb1⟩
      have hi := i1.eq (z' := sh x i) HZ.out
      have b2 := ((SG.out.nw hb2).nw hb1).2.1
      have I1 := Lib.hid hi
      have NW := Lib.hid ((nw1.trans hb2).trans hb1)
      clear i1 hi
      obtain ⟨⟨v0, hv0, hn0⟩, hf0⟩ := b2 0 (by omega)
      obtain ⟨⟨v1, hv1, hn1⟩, hf1⟩ := b2 1 (by omega)
      go_wp2
      exact bodyPost_ret (v := .tuple #[.agg #[.bool m1, .slice D1 l1 c1], .int .i64 0]) (by simp [results, Try.results56, go_sem, hv0, hv1]) rfl ⟨_, rfl, ⟨_, _, rfl, ⟨_, _, _, _, rfl, I1.out.kept (store_I b2 I1.out).1.2.1⟩, rfl⟩, NW.out.rr (store_I b2 I1.out).1 (by omega)⟩
    · have hsg : sgn x ≠ 0 := by unfold sgn; split <;> (try split) <;> omega
      have hsz : (sgn x == 0) = false := by rw [beq_eq_false_iff_ne]; exact hsg
      have hw := wid_len hx
      have hsum : (wid (pat x) : Int) + i ≤ 65536 := by unfold shOk at hs; omega
      have hi6 : i ≤ 65536 := by omega
      have hwr : IntKind.i64.wrap ((wid (pat x) : Int) + i) = (wid (pat x) : Int) + i := IntWalk.i64_in _ (by omega)
      clear hs hx h0 hsg hi hw
      go_enter Try.func56, Try.ntmps56
      go_wp2_with fail
      refine (sign_c HX.out).mono ?_
      rintro e w2 ⟨_, rfl, rfl, hb2⟩
      obtain ⟨q1, q2, _⟩ := (SG.out.nw hb2).1
      go_wp2_with fail
      refine (len_c (HX.out.kept hb2.kept) (by omega)).mono ?_
      rintro e w3 ⟨_, rfl, rfl, hb3⟩
      obtain ⟨q1, q2, _⟩ := ((SG.out.nw hb2).nw hb3).1
      go_wp2_with fail
      refine (shift_c ((HX.out.kept hb2.kept).kept hb3.kept) (by omega) (by omega) (by omega)).mono ?_
      rintro e w1 ⟨_, rfl, ⟨m1, D1, l1, c1, rfl, i1⟩, hb1⟩
      have hi := i1.eq (z' := sh x i) rfl
      have b2 := (((SG.out.nw hb2).nw hb3).nw hb1).2.1
      have I1 := Lib.hid hi
      have NW := Lib.hid (((nw1.trans hb2).trans hb3).trans hb1)
      clear i1 hi
      obtain ⟨⟨v0, hv0, hn0⟩, hf0⟩ := b2 0 (by omega)
      obtain ⟨⟨v1, hv1, hn1⟩, hf1⟩ := b2 1 (by omega)
      go_wp2
      exact bodyPost_ret (v := .tuple #[.agg #[.bool m1, .slice D1 l1 c1], .int .i64 0]) (by simp [results, Try.results56, go_sem, hv0, hv1]) rfl ⟨_, rfl, ⟨_, _, rfl, ⟨_, _, _, _, rfl, I1.out.kept (store_I b2 I1.out).1.2.1⟩, rfl⟩, NW.out.rr (store_I b2 I1.out).1 (by omega)⟩
set_option maxHeartbeats 1600000 in
set_option maxRecDepth 100000 in
theorem Shift_1 {x i : Int} {n : Bool} {A : Option Addr} {l c : Nat} {w : World} (hx : RI w n A l c x) (hl : l ≤ 300000) (h1 : -9223372036854775808 ≤ i) (h2 : i ≤ 9223372036854775807) (hs : ¬ shOk x i) :
    Calls Try.prog 56 #[.agg #[.bool n, .slice A l c], .int .i64 i] w (Ret w (K2 (KI 0) (KV (.int .i64 14)))) := by
  have nw1 : Nw w ((w.alloc (.cells #[.bool n, .slice A l c] 28)).alloc (.cells #[.bool false, .slice none 0 0] 28)) := ((Nw.refl w).alloc _).alloc _
  have sg0 : Sg [(w.heap.size, 0, Value.bool n), (w.heap.size, 1, Value.slice A l c)] (w.heap.size + 1) 2 ((w.alloc (.cells #[.bool n, .slice A l c] 28)).alloc (.cells #[.bool false, .slice none 0 0] 28)) := by
    refine ⟨⟨by go_simp, by go_simp, trivial⟩, ?_, by go_simp⟩
    have := box_two (w.alloc (.cells #[.bool n, .slice A l c] 28)) 28 false none 0 0
    simpa using this
  have SG := Lib.hid sg0
  have HX := Lib.hid (hx.kept nw1.kept)
  have hw := wid_len hx
  have hi' : 0 < i := by unfold shOk at hs; omega
  have h0 : x ≠ 0 := by intro e; exact hs (.inr (.inl e))
  have hsg : sgn x ≠ 0 := by unfold sgn; split <;> (try split) <;> omega
  have hsz : (sgn x == 0) = false := by rw [beq_eq_false_iff_ne]; exact hsg
  have hsum : 65536 < (wid (pat x) : Int) + i := by unfold shOk at hs; omega
  clear hs hx h0 hsg
  by_cases hi6 : i ≤ 65536
  · have hwr : IntKind.i64.wrap ((wid (pat x) : Int) + i) = (wid (pat x) : Int) + i := IntWalk.i64_in _ (by omega)
    clear hw
    go_enter Try.func56, Try.ntmps56
    go_wp2_with fail
    refine (sign_c HX.out).mono ?_
    rintro e w2 ⟨_, rfl, rfl, hb2⟩
    obtain ⟨q1, q2, _⟩ := (SG.out.nw hb2).1
    go_wp2_with fail
    refine (len_c (HX.out.kept hb2.kept) (by omega)).mono ?_
    rintro e w3 ⟨_, rfl, rfl, hb3⟩
    have b2 := ((SG.out.nw hb2).nw hb3).2.1
    have NW := Lib.hid ((nw1.trans hb2).trans hb3)
    obtain ⟨⟨v0, hv0, hn0⟩, hf0⟩ := b2 0 (by omega)
    obtain ⟨⟨v1, hv1, hn1⟩, hf1⟩ := b2 1 (by omega)
    go_wp2
    exact bodyPost_ret (v := .tuple #[.agg #[.bool false, .slice none 0 0], .int .i64 14]) (by simp [results, Try.results56, go_sem, hv0, hv1]) rfl ⟨_, rfl, ⟨_, _, rfl, ⟨_, _, _, _, rfl, RI.zero _⟩, rfl⟩, NW.out.rr (store_I b2 (RI.zero _)).1 (by omega)⟩
  · clear hw hsum
    go_enter Try.func56, Try.ntmps56
    go_wp2_with fail
    refine (sign_c HX.out).mono ?_
    rintro e w2 ⟨_, rfl, rfl, hb2⟩
    have b2 := (SG.out.nw hb2).2.1
    have NW := Lib.hid (nw1.trans hb2)
    obtain ⟨⟨v0, hv0, hn0⟩, hf0⟩ := b2 0 (by omega)
    obtain ⟨⟨v1, hv1, hn1⟩, hf1⟩ := b2 1 (by omega)
    go_wp2
    exact bodyPost_ret (v := .tuple #[.agg #[.bool false, .slice none 0 0], .int .i64 14]) (by simp [results, Try.results56, go_sem, hv0, hv1]) rfl ⟨_, rfl, ⟨_, _, rfl, ⟨_, _, _, _, rfl, RI.zero _⟩, rfl⟩, NW.out.rr (store_I b2 (RI.zero _)).1 (by omega)⟩
end Go.Proofs.Ytcgkgcciogibkaa
/- The contract of the program's Deposit. -/
set_option linter.unusedVariables false
set_option linter.unusedSimpArgs false
namespace Go.Proofs.Ytcgkgcciogibkaa
open Go.RowKit Ma

theorem sh_up_len {w w' : World} {z : Int} {p : Nat} {a b : Bool} {A B : Option Addr} {l l' c d : Nat} (hx : RI w a A l c z) (hy : RI w' b B l' d (sh z (p : Int))) : l' ≤ l + p / 32 + 1 := by
  have h := hx.abs_lt
  rw [pow32] at h
  have e : sh z (p : Int) = z * 2 ^ p := by unfold sh; rw [if_pos (by omega)]; rfl
  have q : (0 : Int) < 2 ^ p := Int.pow_pos (by decide)
  have e2 : (2 : Int) ^ (32 * l + p) = 2 ^ (32 * l) * 2 ^ p := Int.pow_add _ _ _
  have u1 : z * 2 ^ p ≤ 2 ^ (32 * l) * 2 ^ p := Int.mul_le_mul_of_nonneg_right (by omega) (by omega)
  have u2 : -(2 ^ (32 * l)) * 2 ^ p ≤ z * 2 ^ p := Int.mul_le_mul_of_nonneg_right (by omega) (by omega)
  rw [Int.neg_mul] at u2
  have := hy.bits_le (32 * l + p) (by rw [e, e2]; exact u2) (by rw [e, e2]; exact u1)
  omega
theorem Box.drewN1 {r n : Nat} {W : World} (h : Box r n W) : Box r n W.drew := fun o ho => h o ho
set_option maxHeartbeats 1600000 in
set_option maxRecDepth 100000 in
theorem deposit_1 {x y a b : Int} {n m : Bool} {A B : Option Addr} {l l' c d : Nat} {w : World} (hx : RI w n A l c x) (hy : RI w m B l' d y) (hs : sz a b = false) :
    Calls Try.prog 60 #[.agg #[.bool n, .slice A l c], .agg #[.bool m, .slice B l' d], .int .i64 a, .int .i64 b] w (Ret w (K2 (KI 0) (KV (.int .i64 1)))) := by
  have nw1 : Nw w (((w.alloc (.cells #[.bool n, .slice A l c] 28)).alloc (.cells #[.bool m, .slice B l' d] 28)).alloc (.cells #[.bool false, .slice none 0 0] 28)) := (((Nw.refl w).alloc _).alloc _).alloc _
  have sg0 : Sg [(w.heap.size, 0, Value.bool n), (w.heap.size, 1, Value.slice A l c), (w.heap.size + 1, 0, Value.bool m), (w.heap.size + 1, 1, Value.slice B l' d)] (w.heap.size + 1 + 1) 2 (((w.alloc (.cells #[.bool n, .slice A l c] 28)).alloc (.cells #[.bool m, .slice B l' d] 28)).alloc (.cells #[.bool false, .slice none 0 0] 28)) := by
    refine ⟨⟨by go_simp, by go_simp, by go_simp, by go_simp, trivial⟩, ?_, by go_simp⟩
    have := box_two ((w.alloc (.cells #[.bool n, .slice A l c] 28)).alloc (.cells #[.bool m, .slice B l' d] 28)) 28 false none 0 0
    simpa using this
  have HS := Lib.hid hs
  clear hs
  go_enter Try.func60, Try.ntmps60
  go_wp2_with (go_at_call 106; refine (sized_c).mono ?_; rintro e w' ⟨rfl, rfl⟩; rw [HS.out])
  exact bodyPost_ret (v := .tuple #[.agg #[.bool false, .slice none 0 0], .int .i64 1]) (by simp [results, Try.results60, go_sem]) rfl ⟨_, rfl, ⟨_, _, rfl, ⟨_, _, _, _, rfl, RI.zero _⟩, rfl⟩, nw1⟩
set_option maxHeartbeats 3200000 in
set_option maxRecDepth 100000 in
theorem deposit_0 {x y a b : Int} {n m : Bool} {A B : Option Addr} {l l' c d : Nat} {w : World} (hx : RI w n A l c x) (hy : RI w m B l' d y) (hl : l ≤ 100000) (hl' : l' ≤ 100000) (hs : sz a b = true) :
    Calls Try.prog 60 #[.agg #[.bool n, .slice A l c], .agg #[.bool m, .slice B l' d], .int .i64 a, .int .i64 b] w (Ret w (K2 (KI (bo 8 x (-1 - sh (2 ^ a.toNat - 1) b) + sh (bo 8 y (2 ^ a.toNat - 1)) b)) (KV (.int .i64 0)))) := by
  have nw1 : Nw w (((w.alloc (.cells #[.bool n, .slice A l c] 28)).alloc (.cells #[.bool m, .slice B l' d] 28)).alloc (.cells #[.bool false, .slice none 0 0] 28)) := (((Nw.refl w).alloc _).alloc _).alloc _
  have sg0 : Sg [(w.heap.size, 0, Value.bool n), (w.heap.size, 1, Value.slice A l c), (w.heap.size + 1, 0, Value.bool m), (w.heap.size + 1, 1, Value.slice B l' d)] (w.heap.size + 1 + 1) 2 (((w.alloc (.cells #[.bool n, .slice A l c] 28)).alloc (.cells #[.bool m, .slice B l' d] 28)).alloc (.cells #[.bool false, .slice none 0 0] 28)) := by
    refine ⟨⟨by go_simp, by go_simp, by go_simp, by go_simp, trivial⟩, ?_, by go_simp⟩
    have := box_two ((w.alloc (.cells #[.bool n, .slice A l c] 28)).alloc (.cells #[.bool m, .slice B l' d] 28)) 28 false none 0 0
    simpa using this
  have SG := Lib.hid sg0
  have HS := Lib.hid hs
  have HX := Lib.hid (hx.kept nw1.kept)
  have HY := Lib.hid (hy.kept nw1.kept)
  have hbd := sz_bd hs
  obtain ⟨k, rfl⟩ : ∃ k : Nat, a = k := ⟨a.toNat, by omega⟩
  obtain ⟨p, rfl⟩ : ∃ p : Nat, b = p := ⟨b.toNat, by omega⟩
  have hk : k ≤ 65536 := by omega
  have hp : p ≤ 65536 := by omega
  have hsh : ∀ z : Int, sh z (p : Int) = z * 2 ^ p := fun z => by unfold sh; rw [if_pos (by omega)]; rfl
  have HSH := Lib.hid hsh
  clear hs hx hy hbd hsh
  rw [Int.toNat_natCast]
  go_enter Try.func60, Try.ntmps60
  go_wp2_with (go_at_call 106; refine (sized_c).mono ?_; rintro e w' ⟨rfl, rfl⟩; rw [HS.out])
  refine (ones_c hk).mono ?_
  rintro e w1 ⟨_, rfl, ⟨m1, D1, l1, c1, rfl, i1⟩, hb1⟩
  have h2 : (0 : Int) < 2 ^ k := Int.pow_pos (by decide)
  have hl1 := i1.bits_le k (by omega) (by omega)
  clear h2
  have I1 := Lib.hid i1
  clear i1
  go_wp2_with fail
  refine (shift_c I1.out (by omega) (by omega) (by omega)).mono ?_
  rintro e w2 ⟨_, rfl, ⟨m2, D2, l2, c2, rfl, i2⟩, hb2⟩
  have hl2 : l2 ≤ 5000 := by
    have h3 : (2 : Int) ^ (k + p) = 2 ^ k * 2 ^ p := Int.pow_add _ _ _
    have h4 : (0 : Int) < 2 ^ p := Int.pow_pos (by decide)
    have h5 : (0 : Int) < 2 ^ k := Int.pow_pos (by decide)
    have h6 : (0 : Int) ≤ (2 ^ k - 1) * 2 ^ p := Int.mul_nonneg (by omega) (by omega)
    have h7 : ((2 : Int) ^ k - 1) * 2 ^ p ≤ 2 ^ (k + p) := by rw [h3, Int.sub_mul]; omega
    have := i2.bits_le (k + p) (by rw [HSH.out]; have : (0 : Int) < 2 ^ (k + p) := Int.pow_pos (by decide); omega) (by rw [HSH.out]; exact h7)
    omega
  have nm : Nw w2 (w2.alloc (.cells #[.bool m2, .slice D2 l2 c2] 28)) := (Nw.refl w2).alloc _
  have SGM := Lib.hid (((SG.out.nw hb1).nw hb2).nw nm)
  have NWM := Lib.hid (((nw1.trans hb1).trans hb2).trans nm)
  have I2 := Lib.hid (i2.kept nm.kept)
  have K1 := Lib.hid (hb1.trans (hb2.trans nm))
  clear i2
  have hcm : -(b32 ^ (l2 + 1)) < -1 - sh (2 ^ k - 1) (p : Int) ∧ -1 - sh (2 ^ k - 1) (p : Int) < b32 ^ (l2 + 1) := by
    have q := I2.out.abs_lt
    have r := pos_pow (b := b32) (by decide) l2
    have s : b32 ^ l2 * 2 ≤ b32 ^ (l2 + 1) := by rw [Int.pow_succ]; exact Int.mul_le_mul_of_nonneg_left (by decide) (Int.le_of_lt r)
    omega
  have HCM := Lib.hid hcm
  clear hcm
  go_upto_region 4 with (fail)
  obtain ⟨wm, hwm⟩ : ∃ wm, wm = w2.alloc (.cells #[.bool m2, .slice D2 l2 c2] 28) := ⟨_, rfl⟩
  have p1 : wm.cell? ⟨w2.heap.size, 0, none⟩ = some (.bool m2) := by rw [hwm]; go_simp
  have p2 : wm.cell? ⟨w2.heap.size, 1, none⟩ = some (.slice D2 l2 c2) := by rw [hwm]; go_simp
  rw [← hwm] at SGM NWM I2 K1 ⊢
  clear hwm nm
  obtain ⟨q1, q2, q3, q4, _⟩ := SGM.out.1
  have XM := Lib.hid (HX.out.kept K1.out.kept)
  go_cut [11] (fun v11 wx => ∃ (P : Nat) (m3 : Bool) (D3 : Option Addr) (l3 c3 : Nat), v11 = .pointer (some ⟨P, 0, none⟩) ∧ l3 ≤ 400000 ∧ wm.heap.size ≤ P ∧ Nw wm wx ∧ wx.cell? ⟨P, 0, none⟩ = some (.bool m3) ∧ wx.cell? ⟨P, 1, none⟩ = some (.slice D3 l3 c3) ∧ RI wx m3 D3 l3 c3 (bo 8 x (-1 - sh (2 ^ k - 1) (p : Int))))
  case first =>
    go_region_held3 (fun w' => w'.cell? ⟨w.heap.size, 0, none⟩ = some (.bool n) ∧ w'.cell? ⟨w.heap.size, 1, none⟩ = some (.slice A l c) ∧ w'.cell? ⟨w2.heap.size, 0, none⟩ = some (.bool m2) ∧ w'.cell? ⟨w2.heap.size, 1, none⟩ = some (.slice D2 l2 c2))
      (exact ⟨Nw.c (by repeat (first | exact Nw.refl _ | apply Nw.drew | apply Nw.alloc | (refine Nw.trans ?_ (by assumption)) | (refine Nw.set ?_ ?_ _) | (refine Nw.size ?_))) q1, Nw.c (by repeat (first | exact Nw.refl _ | apply Nw.drew | apply Nw.alloc | (refine Nw.trans ?_ (by assumption)) | (refine Nw.set ?_ ?_ _) | (refine Nw.size ?_))) q2, Nw.c (by repeat (first | exact Nw.refl _ | apply Nw.drew | apply Nw.alloc | (refine Nw.trans ?_ (by assumption)) | (refine Nw.set ?_ ?_ _) | (refine Nw.size ?_))) p1, Nw.c (by repeat (first | exact Nw.refl _ | apply Nw.drew | apply Nw.alloc | (refine Nw.trans ?_ (by assumption)) | (refine Nw.set ?_ ?_ _) | (refine Nw.size ?_))) p2⟩)
      (first
        | (go_at_call 110; refine (complement_c (I2.out.kept (Nw.kept (by repeat (first | exact Nw.refl _ | apply Nw.drew | apply Nw.alloc)))) (by omega)).mono ?_; rintro e w4 ⟨_, rfl, ⟨m4, D4, l4, c4, rfl, i4⟩, hb4⟩; have hl4 := i4.len_le (l2 + 1) HCM.out.1 HCM.out.2; have I4 := Lib.hid i4; clear i4)
        | (go_at_call 107; refine (and_b (XM.out.kept (Nw.kept (by repeat (first | exact Nw.refl _ | apply Nw.drew | apply Nw.alloc | (refine Nw.trans ?_ (by assumption)) | (refine Nw.set ?_ ?_ _) | (refine Nw.size ?_))))) (I4.out.kept (Nw.kept (by repeat (first | exact Nw.refl _ | apply Nw.drew | apply Nw.alloc)))) (by omega) (by omega)).mono ?_; rintro e w5 ⟨_, rfl, ⟨⟨m5, D5, l5, c5, rfl, i5⟩, hz5⟩, hb5⟩; have hl5 := i5.len_le _ hz5.1 hz5.2; clear hz5; have I5 := Lib.hid i5; clear i5; first | (have bb := Box.below (Box.below (box_two _ _ _ _ _ _) hb4) hb5; obtain ⟨⟨v0, hv0, hn0⟩, hf0⟩ := bb 0 (by omega); obtain ⟨⟨v1, hv1, hn1⟩, hf1⟩ := bb 1 (by omega)) | (have bb := Box.below (box_two _ _ _ _ _ _) hb5; obtain ⟨⟨v0, hv0, hn0⟩, hf0⟩ := bb 0 (by omega); obtain ⟨⟨v1, hv1, hn1⟩, hf1⟩ := bb 1 (by omega)) | (have bb := Box.below (Box.below (Box.drewN1 (box_two _ _ _ _ _ _)) hb4) hb5; obtain ⟨⟨v0, hv0, hn0⟩, hf0⟩ := bb 0 (by omega); obtain ⟨⟨v1, hv1, hn1⟩, hf1⟩ := bb 1 (by omega)) | (have bb := Box.below (Box.drewN1 (box_two _ _ _ _ _ _)) hb5; obtain ⟨⟨v0, hv0, hn0⟩, hf0⟩ := bb 0 (by omega); obtain ⟨⟨v1, hv1, hn1⟩, hf1⟩ := bb 1 (by omega)) | skip))
    all_goals (go_wp2_with fail; go_meet; exact ⟨_, m5, D5, l5, c5, rfl, (by omega), (by first | exact Nat.le_refl _ | (refine Nw.size ?_; repeat (first | exact Nw.refl _ | apply Nw.drew | apply Nw.alloc | (refine Nw.trans ?_ (by assumption))))), (by repeat (first | exact Nw.refl _ | apply Nw.drew | apply Nw.alloc | (refine Nw.trans ?_ (by assumption)) | (refine Nw.set ?_ ?_ _) | (refine Nw.size ?_))), by go_simp, by go_simp, (by first | exact I5.out.kept (store_I bb I5.out).1.2.1 | exact I5.out.kept (Nw.kept ((Nw.refl _).alloc _)))⟩)
  case rest =>
    obtain ⟨P, m3, D3, l3, c3, rfl, hl3, hP, n5, s1, s2, i3⟩ := hcut
    have s3 := n5.c q3
    have s4 := n5.c q4
    have bR := SGM.out.2.1.below n5
    have hR : w.heap.size + 1 + 1 < wm.heap.size := by
      obtain ⟨⟨v, hv, _⟩, _⟩ := SGM.out.2.1 0 (by omega)
      exact World.block_lt_of_cell? wm ⟨w.heap.size + 1 + 1, 0, none⟩ hv
    have BR := Lib.hid bR
    have I3 := Lib.hid i3
    have YM := Lib.hid ((HY.out.kept K1.out.kept).kept n5.kept)
    have NW5 := Lib.hid (NWM.out.trans n5)
    clear i3 bR p1 p2 q1 q2 q3 q4 n5
    go_upto_region 5 with (fail)
    go_region_held3 (fun w' => w'.cell? ⟨w.heap.size + 1, 0, none⟩ = some (.bool m) ∧ w'.cell? ⟨w.heap.size + 1, 1, none⟩ = some (.slice B l' d) ∧ w'.cell? ⟨P, 0, none⟩ = some (.bool m3) ∧ w'.cell? ⟨P, 1, none⟩ = some (.slice D3 l3 c3))
      (first | (exact ⟨((two_off (by omega) _).1).trans (Nw.c (by repeat (first | exact Nw.refl _ | apply Nw.drew | apply Nw.alloc | (refine Nw.trans ?_ (by assumption)) | (refine Nw.set ?_ ?_ _) | (refine Nw.size ?_))) s3), ((two_off (by omega) _).1).trans (Nw.c (by repeat (first | exact Nw.refl _ | apply Nw.drew | apply Nw.alloc | (refine Nw.trans ?_ (by assumption)) | (refine Nw.set ?_ ?_ _) | (refine Nw.size ?_))) s4), ((two_off (by omega) _).1).trans (Nw.c (by repeat (first | exact Nw.refl _ | apply Nw.drew | apply Nw.alloc | (refine Nw.trans ?_ (by assumption)) | (refine Nw.set ?_ ?_ _) | (refine Nw.size ?_))) s1), ((two_off (by omega) _).1).trans (Nw.c (by repeat (first | exact Nw.refl _ | apply Nw.drew | apply Nw.alloc | (refine Nw.trans ?_ (by assumption)) | (refine Nw.set ?_ ?_ _) | (refine Nw.size ?_))) s2)⟩) | (exact ⟨Nw.c (by repeat (first | exact Nw.refl _ | apply Nw.drew | apply Nw.alloc | (refine Nw.trans ?_ (by assumption)) | (refine Nw.set ?_ ?_ _) | (refine Nw.size ?_))) s3, Nw.c (by repeat (first | exact Nw.refl _ | apply Nw.drew | apply Nw.alloc | (refine Nw.trans ?_ (by assumption)) | (refine Nw.set ?_ ?_ _) | (refine Nw.size ?_))) s4, Nw.c (by repeat (first | exact Nw.refl _ | apply Nw.drew | apply Nw.alloc | (refine Nw.trans ?_ (by assumption)) | (refine Nw.set ?_ ?_ _) | (refine Nw.size ?_))) s1, Nw.c (by repeat (first | exact Nw.refl _ | apply Nw.drew | apply Nw.alloc | (refine Nw.trans ?_ (by assumption)) | (refine Nw.set ?_ ?_ _) | (refine Nw.size ?_))) s2⟩))
      (first
        | (go_at_call 108; refine (ones_c hk).mono ?_; rintro e w6 ⟨_, rfl, ⟨m6, D6, l6, c6, rfl, i6⟩, hb6⟩; have h26 : (0 : Int) < 2 ^ k := (Int.pow_pos (by decide)); have hl6 := i6.bits_le k (by omega) (by omega); have I6 := Lib.hid i6; clear i6 h26)
        | (go_at_call 107; refine (and_b (YM.out.kept (Nw.kept (by repeat (first | exact Nw.refl _ | apply Nw.drew | apply Nw.alloc | (refine Nw.trans ?_ (by assumption)) | (refine Nw.set ?_ ?_ _) | (refine Nw.size ?_))))) (I6.out.kept (Nw.kept (by repeat (first | exact Nw.refl _ | apply Nw.drew | apply Nw.alloc | (refine Nw.trans ?_ (by assumption)) | (refine Nw.set ?_ ?_ _) | (refine Nw.size ?_))))) (by omega) (by omega)).mono ?_; rintro e w7 ⟨_, rfl, ⟨⟨m7, D7, l7, c7, rfl, i7⟩, hz7⟩, hb7⟩; have hl7 := i7.len_le _ hz7.1 hz7.2; have I7 := Lib.hid i7; clear i7 hz7)
        | (go_at_call 103; refine (shift_c I7.out (by omega) (by omega) (by omega)).mono ?_; rintro e w8 ⟨_, rfl, ⟨m8, D8, l8, c8, rfl, i8⟩, hb8⟩; have hl8 := sh_up_len I7.out i8; have I8 := Lib.hid i8; clear i8)
        | (go_at_call 24; refine (add_c (I3.out.kept (Nw.kept (by repeat (first | exact Nw.refl _ | apply Nw.drew | apply Nw.alloc | (refine Nw.trans ?_ (by assumption)) | (refine Nw.set ?_ ?_ _) | (refine Nw.size ?_))))) I8.out (by omega) (by omega)).mono ?_; rintro e w9 ⟨_, rfl, ⟨m9, D9, l9, c9, rfl, i9⟩, hb9⟩; have bb : Box (w.heap.size + 1 + 1) 2 w9 := Box.below BR.out (by repeat (first | exact Nw.refl _ | apply Nw.drew | apply Nw.alloc | (refine Nw.trans ?_ (by assumption)) | (refine Nw.set ?_ ?_ _) | (refine Nw.size ?_))); obtain ⟨⟨v0, hv0, hn0⟩, hf0⟩ := bb 0 (by omega); obtain ⟨⟨v1, hv1, hn1⟩, hf1⟩ := bb 1 (by omega); have I9 := Lib.hid i9; clear i9))
    all_goals
      go_wp2
      exact bodyPost_ret (v := .tuple #[.agg #[.bool m9, .slice D9 l9 c9], .int .i64 0]) (by simp [results, Try.results60, go_sem, hv0, hv1]) rfl ⟨_, rfl, ⟨_, _, rfl, ⟨_, _, _, _, rfl, I9.out.kept (store_I bb I9.out).1.2.1⟩, rfl⟩, (NW5.out.trans (by repeat (first | exact Nw.refl _ | apply Nw.drew | apply Nw.alloc | (refine Nw.trans ?_ (by assumption)) | (refine Nw.set ?_ ?_ _) | (refine Nw.size ?_)))).rr (store_I bb I9.out).1 (by omega)⟩
end Go.Proofs.Ytcgkgcciogibkaa
/- The contracts of bits.OnesCount32 and of the program's Count. -/
set_option linter.unusedVariables false
set_option linter.unusedSimpArgs false
namespace Go.Proofs.Ytcgkgcciogibkaa
open Go.RowKit Ma

theorem pc_bytes (n : Nat) : pc n = pc (n / 16777216) + pc (n / 65536 % 256) + pc (n / 256 % 256) + pc (n % 256) := by
  have a := pc_add 8 (n % 256) (n / 256) (by omega)
  have b := pc_add 8 (n / 256 % 256) (n / 65536) (by omega)
  have c := pc_add 8 (n / 65536 % 256) (n / 16777216) (by omega)
  rw [show n % 256 + 2 ^ 8 * (n / 256) = n by omega] at a
  rw [show n / 256 % 256 + 2 ^ 8 * (n / 65536) = n / 256 by omega] at b
  rw [show n / 65536 % 256 + 2 ^ 8 * (n / 16777216) = n / 65536 by omega] at c
  omega
theorem pop8_pc (b : Int) (h0 : 0 ≤ b) (h1 : b ≤ 255) : Lib.pop8 b = pc b.toNat := by
  have e := Lib.pop8_eq ⟨b.toNat, by omega⟩
  simp only [Int.toNat_of_nonneg h0] at e
  rw [e]
  unfold Lib.onesCount
  rw [popAux_pc 64 b.toNat (by omega)]
theorem pop8_bd (b : Int) (h0 : 0 ≤ b) (h1 : b ≤ 255) : 0 ≤ Lib.pop8 b ∧ Lib.pop8 b ≤ 8 := by
  have e := Lib.pop8_eq ⟨b.toNat, by omega⟩
  have l := Lib.onesCount_le8 ⟨b.toNat, by omega⟩
  simp only [Int.toNat_of_nonneg h0] at e
  rw [e]
  simp only at l
  omega
theorem and_255 (a : Int) (h : 0 ≤ a) (h2 : a < 4294967296) : bits .and .u32 a 255 = a % 256 := by
  obtain ⟨A, rfl⟩ := Int.eq_ofNat_of_zero_le h
  have := u32_and_nat A 255 (by omega) (by decide)
  rw [show ((255 : Nat) : Int) = 255 from rfl] at this
  rw [this, show (255 : Nat) = 2 ^ 8 - 1 from rfl, Nat.and_two_pow_sub_one_eq_mod]
  omega
theorem pc_le32 (n : Nat) (h : n < 4294967296) : pc n ≤ 32 := by
  have e := pc_bytes n
  have f : ∀ b : Nat, b ≤ 255 → pc b ≤ 8 := fun b hb => by
    have a := pop8_pc (b : Int) (by omega) (by omega)
    have c := pop8_bd (b : Int) (by omega) (by omega)
    rw [Int.toNat_natCast] at a
    omega
  have := f (n / 16777216) (by omega)
  have := f (n / 65536 % 256) (by omega)
  have := f (n / 256 % 256) (by omega)
  have := f (n % 256) (by omega)
  omega
set_option maxHeartbeats 3200000 in
set_option maxRecDepth 100000 in
theorem ones32_c (x : Int) (w : World) (h0 : 0 ≤ x) (h1 : x < 4294967296) :
    Calls Try.prog 96 #[.int .u32 x] w (Ret w (KV (.int .i64 (pc x.toNat)))) := by
  have a1 := and_255 (x / 65536) (by omega) (by omega)
  have a2 := and_255 (x / 256) (by omega) (by omega)
  have a3 := and_255 x h0 h1
  have b0 := pop8_bd (x / 16777216) (by omega) (by omega)
  have b1 := pop8_bd (x / 65536 % 256) (by omega) (by omega)
  have b2 := pop8_bd (x / 256 % 256) (by omega) (by omega)
  have b3 := pop8_bd (x % 256) (by omega) (by omega)
  have hp : Lib.pop8 (x / 16777216) + Lib.pop8 (x / 65536 % 256) + Lib.pop8 (x / 256 % 256) + Lib.pop8 (x % 256) = (pc x.toNat : Int) := by
    rw [pop8_pc _ (by omega) (by omega), pop8_pc _ (by omega) (by omega), pop8_pc _ (by omega) (by omega), pop8_pc _ (by omega) (by omega), pc_bytes x.toNat]
    rw [show (x / 16777216).toNat = x.toNat / 16777216 by omega, show (x / 65536 % 256).toNat = x.toNat / 65536 % 256 by omega, show (x / 256 % 256).toNat = x.toNat / 256 % 256 by omega, show (x % 256).toNat = x.toNat % 256 by omega]
    push_cast
    rfl
  have HP := Lib.hid hp
  have HB := Lib.hid (⟨b0, b1, b2, b3⟩ : _ ∧ _ ∧ _ ∧ _)
  clear hp
  have c0 : 0 ≤ x / 65536 % 256 ∧ x / 65536 % 256 ≤ 255 := by omega
  have c1 : 0 ≤ x / 256 % 256 ∧ x / 256 % 256 ≤ 255 := by omega
  have c2 : 0 ≤ x % 256 ∧ x % 256 ≤ 255 := by omega
  have c3 : 0 ≤ x / 16777216 ∧ x / 16777216 ≤ 255 := by omega
  obtain ⟨b00, b01⟩ := b0
  obtain ⟨b10, b11⟩ := b1
  obtain ⟨b20, b21⟩ := b2
  obtain ⟨b30, b31⟩ := b3
  obtain ⟨c00, c01⟩ := c0
  obtain ⟨c10, c11⟩ := c1
  obtain ⟨c20, c21⟩ := c2
  obtain ⟨c30, c31⟩ := c3
  go_enter Try.func96, Try.ntmps96
  go_wp2
  go_quiet (fail)
  go_wp2
  go_ret
  exact Ret.Veq (congrArg (Value.int .i64) (by have := HP.out; omega)) ((Nw.refl w).drewN _)
/-- The ones of the first so many digits. -/
def cn (zs : List Int) : Nat → Nat
  | 0 => 0
  | k + 1 => cn zs k + pc (at0 zs k).toNat
theorem cn_cons (x : Int) (t : List Int) : ∀ k, cn (x :: t) (k + 1) = pc x.toNat + cn t k
  | 0 => by simp [cn, at0]
  | k + 1 => by
    have h := cn_cons x t k
    show cn (x :: t) (k + 1) + pc (at0 (x :: t) (k + 1)).toNat = pc x.toNat + (cn t k + pc (at0 t k).toNat)
    rw [h, show at0 (x :: t) (k + 1) = at0 t k by simp [at0]]
    omega
theorem cn_lv : ∀ (zs : List Int), dg b32 zs → cn zs zs.length = pc (lv b32 zs).toNat
  | [], _ => by simp [cn, lv, pc_zero]
  | x :: t, d => by
    have dt : dg b32 t := fun y hy => d y (List.mem_cons_of_mem _ hy)
    have dx := d x List.mem_cons_self
    have h := cn_lv t dt
    have h0 := lv_nonneg (b := b32) (by decide) dt
    rw [b32_eq] at dx h h0
    rw [List.length_cons, cn_cons, b32_eq, h]
    obtain ⟨X, hX⟩ := Int.eq_ofNat_of_zero_le dx.1
    obtain ⟨T, hT⟩ := Int.eq_ofNat_of_zero_le h0
    have a := pc_add 32 X T (by omega)
    have e : (lv 4294967296 (x :: t)).toNat = X + 2 ^ 32 * T := by
      show (x + 4294967296 * lv 4294967296 t).toNat = _
      rw [hT, hX]; omega
    rw [e, a, hX, hT]
    rfl
theorem cn_le {zs : List Int} (d : dg b32 zs) : ∀ k, cn zs k ≤ 32 * k
  | 0 => Nat.le_refl _
  | k + 1 => by
    have h := cn_le d k
    obtain ⟨a, b⟩ := dg_at d (by decide) k
    rw [b32_eq] at b
    have := pc_le32 (at0 zs k).toNat (by omega)
    show cn zs k + pc (at0 zs k).toNat ≤ _
    omega
set_option maxHeartbeats 3200000 in
set_option maxRecDepth 100000 in
theorem count_c {x : Int} {n : Bool} {A : Option Addr} {l c : Nat} {w : World} (hx : RI w n A l c x) (hl : l ≤ 400000) :
    Calls Try.prog 50 #[.agg #[.bool n, .slice A l c]] w (Ret w (KV (.int .i64 (pc (pat x).toNat)))) := by
  have nw1 : Nw w (w.alloc (.cells #[.bool n, .slice A l c] 28)) := (Nw.refl w).alloc _
  have HX := Lib.hid (hx.kept nw1.kept)
  have hb := hx.abs_lt
  have hp : pat x < b32 ^ l := by unfold pat; split <;> omega
  have HP := Lib.hid hp
  clear hx hb hp
  go_enter Try.func50, Try.ntmps50
  go_wp2_with fail
  refine (pattern_c HX.out hl).mono ?_
  rintro e w1 ⟨_, rfl, ⟨zs, C, cc, rfl, hcc, rC, dz, tz, ez⟩, hb1⟩
  have EZ := Lib.hid ez
  have hzl : zs.length ≤ l := by
    have := HP.out
    rw [← EZ.out] at this
    by_cases h0 : zs = []
    · subst h0; simp
    · have h1 := top_le (b := b32) (by decide) dz tz h0
      by_cases h2 : zs.length ≤ l
      · omega
      · have := pow_le (b := b32) (by decide) (show l ≤ zs.length - 1 by omega)
        omega
  have n1 := nw1.trans hb1
  have RC := Lib.hid rC
  have TZ := Lib.hid tz
  clear ez nw1 hb1 rC tz
  go_wp2
  go_loopw [3, 5, 9] (fun cs _ ci wr => ∃ k : Nat, ci = .int .i64 k ∧ cs = .int .i64 (cn zs k) ∧ k ≤ zs.length ∧ Nw w1 wr)
    (fun _ _ ci _ => zs.length - (intOf ci).toNat)
  case atStart => exact ⟨0, rfl, rfl, Nat.zero_le _, Nw.refl _⟩
  case round =>
    obtain ⟨k, rfl, rfl, hk, hn⟩ := hrel
    by_cases hlt : k < zs.length
    · obtain ⟨ad, hA, hcell⟩ := RC.out.2 k hlt
      have hq := hn.c hcell
      obtain ⟨a, b⟩ := dg_at dz (by decide) k
      rw [b32_eq] at b
      have hc1 := cn_le dz k
      have hc2 := pc_le32 (at0 zs k).toNat (by omega)
      have hw1 : IntKind.i64.wrap ((k : Int) + 1) = (k : Int) + 1 := IntWalk.i64_in _ (by omega)
      have hw2 : IntKind.i64.wrap ((cn zs k : Int) + (pc (at0 zs k).toNat : Int)) = (cn zs k : Int) + (pc (at0 zs k).toNat : Int) := IntWalk.i64_in _ (by omega)
      subst hA
      go_wp2_with (go_at_call 96; refine (ones32_c (at0 zs k) _ a b).mono ?_; rintro e w2 ⟨_, rfl, rfl, hb2⟩)
      exact ⟨⟨k + 1, by go_num, by show Value.int _ _ = _; rw [show cn zs (k + 1) = cn zs k + pc (at0 zs k).toNat from rfl]; push_cast; rfl, by omega, hn.trans hb2⟩, by simp [intOf]; omega⟩
    · have hke : k = zs.length := by omega
      subst hke
      have hf : (cn zs zs.length : Int) = (pc (pat x).toNat : Int) := by rw [cn_lv zs dz, EZ.out]
      have HF := Lib.hid hf
      clear hf
      go_wp2
      go_ret
      exact Ret.Veq (congrArg (Value.int .i64) HF.out) (n1.trans hn)
end Go.Proofs.Ytcgkgcciogibkaa
/- Contracts in the form that the rules want. -/
set_option linter.unusedVariables false
set_option linter.unusedSimpArgs false
namespace Go.Proofs.Ytcgkgcciogibkaa.Sy
open Go Go.RowKit Ma
theorem ce_add : CE 24 := fun args W => by go_simp
theorem ce_sub : CE 26 := fun args W => by go_simp
theorem ce_mul : CE 25 := fun args W => by go_simp
theorem ce_neg : CE 32 := fun args W => by go_simp
theorem ce_abs : CE 34 := fun args W => by go_simp
theorem ce_cmp : CE 27 := fun args W => by go_simp
theorem ce_sign : CE 28 := fun args W => by go_simp
theorem ce_new : CE 41 := fun args W => by go_simp
theorem ce_boole : CE 17 := fun args W => by go_simp
theorem ce_same : CE 23 := fun args W => by go_simp
theorem ce_is : CE 19 := fun args W => by go_simp
theorem ce_awake : CE 15 := fun args W => by go_simp
theorem ce_len : CE 48 := fun args W => by go_simp
theorem ce_count : CE 50 := fun args W => by go_simp
theorem ce_bit : CE 20 := fun args W => by go_simp
theorem ce_Shift : CE 56 := fun args W => by go_simp
theorem ce_field : CE 58 := fun args W => by go_simp
theorem ce_dep : CE 60 := fun args W => by go_simp
theorem all0 {us : List Value} {W : World} (h : All [] us W) : us = [] := by cases us with | nil => rfl | cons _ _ => exact h.elim
theorem all1 {k1 : Know} {us : List Value} {W : World} (h : All [k1] us W) : ∃ u, us = [u] ∧ k1 u W := by
  match us, h with
  | [u], h => exact ⟨u, rfl, h.1⟩
theorem all2 {k1 k2 : Know} {us : List Value} {W : World} (h : All [k1, k2] us W) : ∃ u v, us = [u, v] ∧ k1 u W ∧ k2 v W := by
  match us, h with
  | [u, v], h => exact ⟨u, v, rfl, h.1, h.2.1⟩
theorem all3 {k1 k2 k3 : Know} {us : List Value} {W : World} (h : All [k1, k2, k3] us W) : ∃ u v x, us = [u, v, x] ∧ k1 u W ∧ k2 v W ∧ k3 x W := by
  match us, h with
  | [u, v, x], h => exact ⟨u, v, x, rfl, h.1, h.2.1, h.2.2.1⟩
theorem all4 {k1 k2 k3 k4 : Know} {us : List Value} {W : World} (h : All [k1, k2, k3, k4] us W) : ∃ u v x y, us = [u, v, x, y] ∧ k1 u W ∧ k2 v W ∧ k3 x W ∧ k4 y W := by
  match us, h with
  | [u, v, x, y], h => exact ⟨u, v, x, y, rfl, h.1, h.2.1, h.2.2.1, h.2.2.2.1⟩
theorem call1 {f : FuncId} {k1 r : Know} (ce : CE f) (h : ∀ W u, k1 u W → Calls Try.prog f #[u] W (Ret W r)) : CallOk f [k1] r := ⟨ce, fun W us hu => by obtain ⟨u, rfl, h1⟩ := all1 hu; exact h W u h1⟩
theorem call2 {f : FuncId} {k1 k2 r : Know} (ce : CE f) (h : ∀ W u v, k1 u W → k2 v W → Calls Try.prog f #[u, v] W (Ret W r)) : CallOk f [k1, k2] r := ⟨ce, fun W us hu => by obtain ⟨u, v, rfl, h1, h2⟩ := all2 hu; exact h W u v h1 h2⟩
theorem call3 {f : FuncId} {k1 k2 k3 r : Know} (ce : CE f) (h : ∀ W u v x, k1 u W → k2 v W → k3 x W → Calls Try.prog f #[u, v, x] W (Ret W r)) : CallOk f [k1, k2, k3] r := ⟨ce, fun W us hu => by obtain ⟨u, v, x, rfl, h1, h2, h3⟩ := all3 hu; exact h W u v x h1 h2 h3⟩
theorem call4 {f : FuncId} {k1 k2 k3 k4 r : Know} (ce : CE f) (h : ∀ W u v x y, k1 u W → k2 v W → k3 x W → k4 y W → Calls Try.prog f #[u, v, x, y] W (Ret W r)) : CallOk f [k1, k2, k3, k4] r := ⟨ce, fun W us hu => by obtain ⟨u, v, x, y, rfl, h1, h2, h3, h4⟩ := all4 hu; exact h W u v x y h1 h2 h3 h4⟩
theorem callI {f : FuncId} {x : Int} {r : Know} (ce : CE f) (h : ∀ W n A l c, RI W n A l c x → Calls Try.prog f #[.agg #[.bool n, .slice A l c]] W (Ret W r)) : CallOk f [KI x] r := call1 ce fun W u ⟨n, A, l, c, e, hx⟩ => by subst e; exact h W n A l c hx
theorem callII {f : FuncId} {x y : Int} {r : Know} (ce : CE f) (h : ∀ W n A l c m B l' d, RI W n A l c x → RI W m B l' d y → Calls Try.prog f #[.agg #[.bool n, .slice A l c], .agg #[.bool m, .slice B l' d]] W (Ret W r)) : CallOk f [KI x, KI y] r :=
  call2 ce fun W u v ⟨n, A, l, c, e, hx⟩ ⟨m, B, l', d, e', hy⟩ => by subst e e'; exact h W n A l c m B l' d hx hy
theorem callIV {f : FuncId} {x : Int} {v : Value} {r : Know} (ce : CE f) (h : ∀ W n A l c, RI W n A l c x → Calls Try.prog f #[.agg #[.bool n, .slice A l c], v] W (Ret W r)) : CallOk f [KI x, KV v] r :=
  call2 ce fun W u u' ⟨n, A, l, c, e, hx⟩ e' => by subst e; obtain rfl : u' = v := e'; exact h W n A l c hx
variable {x y : Int} {a b : Nat}
theorem k_add (hx : bd a x) (hy : bd b y) (ha : a ≤ 300000) (hb : b ≤ 300000) : CallOk 24 [KI x, KI y] (KI (x + y)) := callII ce_add fun W n A l c m B l' d h1 h2 => add_c h1 h2 (h1.le5 hx (by omega)) (h2.le5 hy (by omega))
theorem k_sub (hx : bd a x) (hy : bd b y) (ha : a ≤ 300000) (hb : b ≤ 300000) : CallOk 26 [KI x, KI y] (KI (x - y)) := callII ce_sub fun W n A l c m B l' d h1 h2 => sub_c h1 h2 (h1.le5 hx (by omega)) (h2.le5 hy (by omega))
theorem k_mul (hx : bd a x) (hy : bd b y) (ha : a ≤ 300000) (hb : b ≤ 300000) : CallOk 25 [KI x, KI y] (KI (x * y)) := callII ce_mul fun W n A l c m B l' d h1 h2 => mul_c h1 h2 (h1.le5 hx (by omega)) (h2.le5 hy (by omega))
theorem k_neg : CallOk 32 [KI x] (KI (-x)) := callI ce_neg fun W n A l c h => neg_c h
theorem k_abs : CallOk 34 [KI x] (KI (x.natAbs : Int)) := callI ce_abs fun W n A l c h => abs_c h
theorem k_cmp {z : Int} (e : cmp x y = z) : CallOk 27 [KI x, KI y] (KV (.int .i64 z)) := callII ce_cmp fun W n A l c m B l' d h1 h2 => e ▸ cmp_c h1 h2
theorem k_sign {z : Int} (e : sgn x = z) : CallOk 28 [KI x] (KV (.int .i64 z)) := callI ce_sign fun W n A l c h => e ▸ sign_c h
theorem k_new (h : -9223372036854775808 ≤ x ∧ x < 9223372036854775808) : CallOk 41 [KV (.int .i64 x)] (KI x) := call1 ce_new fun W u e => by obtain rfl : u = _ := e; exact new_c h
theorem k_same (e : x = y) : CallOk 23 [KI x, KI y] (KV (.bool true)) := callII ce_same fun W n A l c m B l' d h1 h2 => same_c h1 h2 e
theorem k_awake : CallOk 15 [] (KV (.bool true)) := ⟨ce_awake, fun W us hu => by rw [all0 hu]; exact awake_c⟩
theorem k_boole {op : Int} (hx : bd a x) (hy : bd b y) (ha : a ≤ 300000) (hb : b ≤ 300000) (h0 : 0 ≤ op) (h1 : op ≤ 15) : CallOk 17 [KI x, KV (.int .i64 op), KI y] (K2 (KI (bo op x y)) (KV (.int .i64 0))) :=
  call3 ce_boole fun W u v u' ⟨n, A, l, c, e, i1⟩ e2 ⟨m, B, l', d, e', i2⟩ => by subst e e'; obtain rfl : v = _ := e2; exact boole_c i1 i2 (i1.le hx ha) (i2.le hy hb) h0 h1
theorem k_len {z : Int} (hx : bd a x) (ha : a ≤ 300000) (e : (wid (pat x) : Int) = z) : CallOk 48 [KI x] (KV (.int .i64 z)) := callI ce_len fun W n A l c h => e ▸ len_c h (by have := h.le hx ha; omega)
theorem k_count {z : Int} (hx : bd a x) (ha : a ≤ 300000) (e : (pc (pat x).toNat : Int) = z) : CallOk 50 [KI x] (KV (.int .i64 z)) := callI ce_count fun W n A l c h => e ▸ count_c h (by have := h.le hx ha; omega)
theorem k_bit {i : Int} {z : Bool} (hx : bd a x) (ha : a ≤ 300000) (h0 : -9223372036854775808 ≤ i) (h1 : i ≤ 9223372036854775807) (e : bt x i = z) : CallOk 20 [KI x, KV (.int .i64 i)] (KV (.bool z)) := callIV ce_bit fun W n A l c h => e ▸ bit_c h (by have := h.le hx ha; omega) h0 h1
theorem k_Shift {i : Int} (hx : bd a x) (ha : a ≤ 300000) (h0 : -9223372036854775808 ≤ i) (h1 : i ≤ 9223372036854775807) (hs : shOk x i) : CallOk 56 [KI x, KV (.int .i64 i)] (K2 (KI (sh x i)) (KV (.int .i64 0))) := callIV ce_Shift fun W n A l c h => Shift_0 h (h.le hx ha) h0 h1 hs
theorem sz_ok {k p : Nat} (hk : k ≤ 65536) (hp : p ≤ 65536) : sz (k : Int) (p : Int) = true := by unfold sz; simp; omega
theorem k_field {k p : Nat} (hx : bd a x) (ha : a ≤ 300000) (hk : k ≤ 65536) (hp : p ≤ 65536) : CallOk 58 [KI x, KV (.int .i64 k), KV (.int .i64 p)] (K2 (KI (fld x k p)) (KV (.int .i64 0))) :=
  call3 ce_field fun W u v u' ⟨n, A, l, c, e, i1⟩ e2 e3 => by subst e; obtain rfl : v = _ := e2; obtain rfl : u' = _ := e3; exact field_0 i1 (i1.le hx ha) (sz_ok hk hp)
theorem k_dep {k p : Nat} (hx : bd a x) (hy : bd b y) (ha : a ≤ 100000) (hb : b ≤ 100000) (hk : k ≤ 65536) (hp : p ≤ 65536) : CallOk 60 [KI x, KI y, KV (.int .i64 k), KV (.int .i64 p)] (K2 (KI (dep x y k p)) (KV (.int .i64 0))) :=
  call4 ce_dep fun W u v u' v' ⟨n, A, l, c, e, i1⟩ ⟨m, B, l', d, e', i2⟩ e2 e3 => by
    subst e e'; obtain rfl : u' = _ := e2; obtain rfl : v' = _ := e3
    exact deposit_0 i1 i2 (i1.len_le _ (hx.mono ha).1 (hx.mono ha).2) (i2.len_le _ (hy.mono hb).1 (hy.mono hb).2) (sz_ok hk hp)
end Go.Proofs.Ytcgkgcciogibkaa.Sy
/-! ### Bounds -/
namespace Go.Proofs.Ytcgkgcciogibkaa
open Go Go.RowKit Ma
variable {x y : Int} {a b : Nat}
theorem bd2 {n : Nat} {z : Int} : bd n z ↔ -(2 ^ (32 * n)) < z ∧ z < 2 ^ (32 * n) := by unfold bd; rw [pow32]
theorem range_of_tb {z : Int} {m : Nat} {t : Bool} (h : ∀ i, m ≤ i → tb z i = t) : -(2 ^ m) ≤ z ∧ z < 2 ^ m := by
  have hp : (0 : Int) < 2 ^ m := Int.pow_pos (by decide)
  have e := Int.mul_ediv_add_emod z (2 ^ m)
  have r0 := Int.emod_nonneg z (Int.ne_of_gt hp)
  have r1 := Int.emod_lt_of_pos z hp
  have q : z / 2 ^ m = if t then -1 else 0 := by
    apply tb_ext
    intro i
    rw [← tb_shift, h (m + i) (by omega)]
    cases t
    · simp [tb_zero]
    · simp [tb_negone]
  rw [q] at e
  cases t <;> simp at e <;> omega
theorem bd.bo {op : Int} (h : bd a x) (k : bd b y) : bd (max a b + 1) (bo op x y) := by
  have h1 := bd2.1 (h.mono (Nat.le_max_left a b))
  have k1 := bd2.1 (k.mono (Nat.le_max_right a b))
  have := range_of_tb (z := Go.Proofs.Ytcgkgcciogibkaa.bo op x y) (m := 32 * max a b) (t := ch op (decide (x < 0)) (decide (y < 0))) fun i hi => by rw [bo_tb, tb_high (by omega) h1.2 hi, tb_high (by omega) k1.2 hi]
  rw [bd2]
  have e : (2 : Int) ^ (32 * (max a b + 1)) = 2 ^ (32 * max a b) * 4294967296 := by rw [show 32 * (max a b + 1) = 32 * max a b + 32 by omega, Int.pow_add]; rfl
  rw [e]
  have hp : (0 : Int) < 2 ^ (32 * max a b) := Int.pow_pos (by decide)
  omega
theorem bd.up {k m : Nat} (h : bd a x) (hk : k ≤ 32 * m) : bd (a + m) (sh x k) := by
  rw [sh_up]
  have h1 := bd2.1 h
  rw [bd2]
  have e : (2 : Int) ^ (32 * (a + m)) = 2 ^ (32 * a) * 2 ^ (32 * m) := by rw [Nat.mul_add, Int.pow_add]
  have p1 : (0 : Int) < 2 ^ k := Int.pow_pos (by decide)
  have p2 := pow_le (b := 2) (by decide) hk
  have p3 : (0 : Int) < 2 ^ (32 * a) := Int.pow_pos (by decide)
  rw [e]
  have q1 : x * 2 ^ k < 2 ^ (32 * a) * 2 ^ k := Int.mul_lt_mul_of_pos_right h1.2 p1
  have q2 : -(2 ^ (32 * a)) * 2 ^ k < x * 2 ^ k := Int.mul_lt_mul_of_pos_right h1.1 p1
  have q3 : (2 : Int) ^ (32 * a) * 2 ^ k ≤ 2 ^ (32 * a) * 2 ^ (32 * m) := Int.mul_le_mul_of_nonneg_left p2 (Int.le_of_lt p3)
  rw [Int.neg_mul] at q2
  omega
theorem bd.down {k : Nat} (h : bd a x) : bd a (sh x (-(k : Int))) := by
  have := sh_dn (x := x) (n := -(k : Int)) (by omega)
  unfold bd at *
  omega
theorem bd.ones {k m : Nat} (hk : k ≤ 32 * m) : bd (m + 1) (2 ^ k - 1 : Int) := by
  rw [bd2]
  have p1 : (0 : Int) < 2 ^ k := Int.pow_pos (by decide)
  have p2 := pow_le (b := 2) (by decide) (show k ≤ 32 * (m + 1) by omega)
  omega
theorem bd.fld {k p m : Nat} (h : bd a x) (hk : k ≤ 32 * m) : bd (max a (m + 1) + 1) (fld x k p) := h.down.bo (bd.ones hk)
theorem bd.lit (h : -4294967296 < x ∧ x < 4294967296) : bd 1 x := by unfold bd; have e : b32 ^ 1 = 4294967296 := rfl; rw [e]; exact h
theorem bd.one : bd 1 1 := by unfold bd; decide
theorem bd.small {m : Nat} (h : bd a x) (hm : a ≤ m) : bd m x := h.mono hm
theorem bd.compl (h : bd a x) : bd (a + 1) (-1 - x) := by
  unfold bd at *
  rw [Int.pow_succ]
  have := pos_pow (b := b32) (by decide) a
  have e : b32 ^ a * b32 = b32 ^ a * 4294967296 := rfl
  omega
theorem bd.dep {k p m q : Nat} (h : bd a x) (h2 : bd b y) (hk : k ≤ 32 * m) (hp : p ≤ 32 * q) : bd (max (max a (m + 1 + q + 1) + 1) (max b (m + 1) + 1 + q) + 1) (dep x y k p) :=
  (h.bo ((bd.ones hk).up hp).compl).add ((h2.bo (bd.ones hk)).up hp)
end Go.Proofs.Ytcgkgcciogibkaa
/- Ends of a walk by rules; a function's text behind a statement. -/
set_option linter.unusedVariables false
set_option linter.unusedSimpArgs false
namespace Go.Proofs.Ytcgkgcciogibkaa.Sy
open Go Go.RowKit Ma
/-- What follows the statement number k. -/
def restIn (k : Nat) : Code → Option Code
  | .seq a b => match a with
    | .region id _ _ => match Nat.beq id k with
      | true => some b
      | false => restIn k b
    | _ => match restIn k a with
      | some c => some c
      | none => restIn k b
  | .block _ c => restIn k c
  | .scope c => restIn k c
  | .loop c => restIn k c
  | .cond _ a b => match restIn k a with
    | some c => some c
    | none => restIn k b
  | _ => none
noncomputable def restOf (k : Nat) (f : Func) : Code := (f.body.bind (restIn k)).getD .skip
section
variable {B N : Nat} {w0 : World} {fr : List (Nat × AV)} {Q : Exit → Act → World → Prop} {fn : Func}
theorem run_res1 {s : Nat} (hr : fn.results = #[.tmp s]) (ts : Array Value) (W : World) : (results fn ts).run Try.prog W = .ok (ts.getD s undef) W := by
  simp [results, hr, go_sem]
theorem SX.done {s : Nat} {r : AV} (hr : fn.results = #[.tmp s]) (hs : opv fr (.tmp s) = some r) (hB : B = w0.heap.size) : SX B N w0 .ret fr (bodyPost Try.prog fn (Ret w0 r.of)) := fun a W hf =>
  bodyPost_ret (run_res1 hr _ _) hf.df ⟨_, rfl, ((opv_spec hf hs).1.of (opv_spec hf hs).2).1, by have := hf.be; rw [hB] at this; exact this⟩
theorem SX.doneN {s : Nat} {r : AV} (hr : fn.results = #[.tmp s]) (hs : opv fr (.tmp s) = some r) (hB : B = w0.heap.size) : SX B N w0 .normal fr (bodyPost Try.prog fn (Ret w0 r.of)) := fun a W hf =>
  ⟨hf.df, _, run_res1 hr _ _, ⟨_, rfl, ((opv_spec hf hs).1.of (opv_spec hf hs).2).1, by have := hf.be; rw [hB] at this; exact this⟩⟩
theorem SX.blockX {id id' : Nat} (hne : (id' == id) = false) (h : SX B N w0 (.exit id') fr Q) : SX B N w0 (.exit id') fr (Exit.inBlock id Q) := fun a W hf => by
  show (if id' = id then _ else _)
  rw [if_neg (by simpa using hne)]
  exact h a W hf
theorem Fr.base {a : Act} {W : World} (h1 : a.defers = []) (h2 : a.tmps.size = N) (hb : Below B w0 W) (hB : B ≤ W.heap.size) : Fr B N w0 [] a W :=
  ⟨h1, h2, hb, hB, fun i v h => (by cases h), fun i j b k b' k' p _ h => (by cases h)⟩
theorem Fr.bxs {i : Nat} {b : BT} {k : Know} {a : Act} {W : World} (h : Fr B N w0 fr a W) (hu : Ho B (.bx b k) (a.tmps.getD i undef) W) (hn : ∀ j b' k', look fr j = some (.bx b' k') → a.tmps.getD i undef ≠ a.tmps.getD j undef) : Fr B N w0 ((i, .bx b k) :: fr) a W := by
  refine ⟨h.df, h.sz, h.be, h.bs, fun j x hj => ?_, fun j l b1 k1 b2 k2 p hjl hj hl => ?_⟩
  · rw [look_cons] at hj
    by_cases e : i = j
    · rw [if_pos e] at hj; injection hj with hj; subst hj; subst e; exact hu
    · rw [if_neg e] at hj; exact h.ho j x hj
  · rw [look_cons] at hj hl
    by_cases e : i = j
    · have e' : i ≠ l := fun x => hjl (e.symm.trans x)
      rw [if_neg e'] at hl
      subst e
      exact fun h1 h2 => hn l _ _ hl (h1.trans h2.symm)
    · rw [if_neg e] at hj
      by_cases e' : i = l
      · subst e'; exact fun h1 h2 => hn j _ _ hj (h2.trans h1.symm)
      · rw [if_neg e'] at hl; exact h.di j l b1 k1 b2 k2 p hjl hj hl
/-- A box of a sign and a slice, by its cells. -/
theorem Ho.two {T : TypeId} {z : Int} {m : Bool} {D : Option Addr} {l c p : Nat} {W : World} (ok : (BI T).Ok) (hp : B ≤ p) (h0 : W.cell? ⟨p, 0, none⟩ = some (.bool m)) (h1 : W.cell? ⟨p, 1, none⟩ = some (.slice D l c)) (f0 : W.frozen? ⟨p, 0, none⟩ = false) (f1 : W.frozen? ⟨p, 1, none⟩ = false) (hi : RI W m D l c z) : Ho B (.bx (BI T) (KI z)) (ptr p) W :=
  ⟨p, _, rfl, hp, ⟨_, ⟨m, D, l, c, rfl, rfl⟩, fun i x hx => by rcases two_at hx with ⟨rfl, rfl⟩ | ⟨rfl, rfl⟩ <;> exact ⟨by assumption, by assumption⟩⟩, ⟨m, D, l, c, rfl, hi⟩, KI.st z, ok⟩
/-- From a place in a walk on. -/
theorem SC.run {c : Code} {a : Act} {W : World} (h : SC B N w0 c fr Q) (hf : Fr B N w0 fr a W) : c.wp Try.prog Q a W := h a W hf
def OpsAre (fr : List (Nat × AV)) : List (Operand × Value) → Prop
  | [] => True
  | (x, v) :: l => opv fr x = some (.vl v) ∧ OpsAre fr l
def RhoAre (ρ : Operand → Value) : List (Operand × Value) → Prop
  | [] => True
  | (x, v) :: l => ρ x = v ∧ RhoAre ρ l
theorem rho_of {a : Act} {W : World} (hf : Fr B N w0 fr a W) : ∀ {l : List (Operand × Value)}, OpsAre fr l → RhoAre a.eval l
  | [], _ => trivial
  | (x, v) :: l, h => ⟨opv_vl hf h.1, rho_of hf h.2⟩
theorem PW.qn {ops : Array Oper} {o : Oper} {rest : List Oper} {d : Nat} (l : List (Operand × Value)) (v : Value) (hw : wantB ops fr o = some true) (hd : o.dst = some d) (hN : Nat.blt d N = true) (hx : OpsAre fr l) (h : ∀ (ρ : Operand → Value) (W : World), RhoAre ρ l → (execOp ρ o).run Try.prog W = .ok (.value v) W) (hk : PW B N w0 ops rest ((d, .vl v) :: fr) Q) : PW B N w0 ops (o :: rest) fr Q :=
  PW.val (r := .vl v) hw hd hN rfl (fun a W hf => ⟨v, h _ W (rho_of hf hx), rfl⟩) hk
end
end Go.Proofs.Ytcgkgcciogibkaa.Sy
