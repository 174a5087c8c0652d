/- Parts Ld, Pwm, Sd, Gc, Pw, Pk, Rt, Ra2, Rb2, in one file. -/
import Derived.Lib.RabinKarpLaws
import Derived.Deep.CutRange
import Derived.Deep.DeepCutAuto
import Derived.Test.YtcgkgcciogibkaaK3
import Derived.Test.YtcgkgcciogibkaaK5
import Derived.Test.YtcgkgcciogibkaaLRoots1
import Derived.Test.YtcgkgcciogibkaaLRoots2
/- The contract of the program's Divide, whole. -/
set_option linter.unusedVariables false
set_option linter.unusedSimpArgs false
namespace Go.Proofs.Ytcgkgcciogibkaa
open Go.RowKit Ma

theorem long_l {A B : Option Addr} {l l' c d : Nat} {xs ys : List Int} {w : World} (e : l = xs.length) (e' : l' = ys.length) (rA : Rd w .u32 A xs) (rB : Rd w .u32 B ys) (dx : dg b32 xs) (dy : dg b32 ys) (hl : xs.length ≤ 500000) (hn : 2 ≤ ys.length) (hle : ys.length ≤ xs.length) (ht : top ys) :
    Calls Try.prog 86 #[.slice A l c, .slice B l' d] w (Ret w (K2 (KL .u32 fun zs => dg b32 zs ∧ lv b32 zs = lv b32 xs / lv b32 ys ∧ zs.length ≤ xs.length) (KL .u32 fun zs => dg b32 zs ∧ lv b32 zs = lv b32 xs % lv b32 ys ∧ zs.length = ys.length))) := by
  subst e e'
  exact Sy.long_c rA rB dx dy hl hn hle ht
set_option maxHeartbeats 3200000 in
set_option maxRecDepth 100000 in
theorem divide_2 {x y : Int} {n m : Bool} {A B : Option Addr} {l l' c d : Nat} {w : World} (hx : RI w n A l c x) (hy : RI w m B l' d y) (hl : l ≤ 500000) (h2 : 2 ≤ l') (h1 : y.natAbs ≤ x.natAbs) :
    Calls Try.prog 29 #[.agg #[.bool n, .slice A l c], .agg #[.bool m, .slice B l' d]] w (Ret w (K3 (KI (x.tdiv y)) (KI (x.tmod y)) (KV (.int .i64 0)))) := by
  obtain ⟨xs, rfl, hc, rA, dx, tx, nx, rfl⟩ := hx
  obtain ⟨ys, rfl, hd, rB, dy, ty, ny, rfl⟩ := hy
  have hxn := lv_nonneg (show (0 : Int) < b32 by decide) dx
  have hyn := lv_nonneg (show (0 : Int) < b32 by decide) dy
  have e1 := sg_natAbs n _ hxn
  have e2 := sg_natAbs m _ hyn
  have HQ := Lib.hid (sg_tdiv n m _ _ hxn hyn)
  have HR := Lib.hid (sg_tmod n m _ _ hxn hyn)
  have hge : lv b32 ys ≤ lv b32 xs := by omega
  have hle := length_le (show (1 : Int) < b32 by decide) dy dx ty hge
  have hcm := Lib.hid (cmp_ge hge)
  have nw1 : Nw w ((((w.alloc (.cells #[.bool n, .slice A xs.length c] 28)).alloc (.cells #[.bool m, .slice B ys.length d] 28)).alloc (.cells #[.bool false, .slice none 0 0] 28)).alloc (.cells #[.bool false, .slice none 0 0] 28)) := ((((Nw.refl w).alloc _).alloc _).alloc _).alloc _
  have sg0 : Sg2 [(w.heap.size, 0, Value.bool n), (w.heap.size, 1, Value.slice A xs.length c), (w.heap.size + 1, 0, Value.bool m), (w.heap.size + 1, 1, Value.slice B ys.length d)] (w.heap.size + 1 + 1) (w.heap.size + 1 + 1 + 1) ((((w.alloc (.cells #[.bool n, .slice A xs.length c] 28)).alloc (.cells #[.bool m, .slice B ys.length d] 28)).alloc (.cells #[.bool false, .slice none 0 0] 28)).alloc (.cells #[.bool false, .slice none 0 0] 28)) := by
    refine ⟨⟨by go_simp, by go_simp, by go_simp, by go_simp, trivial⟩, ?_, ?_, by go_simp⟩
    · have h1 := box_two ((w.alloc (.cells #[.bool n, .slice A xs.length c] 28)).alloc (.cells #[.bool m, .slice B ys.length d] 28)) 28 false none 0 0
      have h2 := h1.below ((Nw.refl _).alloc (.cells #[.bool false, .slice none 0 0] 28))
      simpa using h2
    · have h1 := box_two (((w.alloc (.cells #[.bool n, .slice A xs.length c] 28)).alloc (.cells #[.bool m, .slice B ys.length d] 28)).alloc (.cells #[.bool false, .slice none 0 0] 28)) 28 false none 0 0
      simpa using h1
  have SG := Lib.hid sg0
  have RA := Lib.hid (rA.kept nw1.kept)
  have RB := Lib.hid (rB.kept nw1.kept)
  clear rA rB e1 e2 h1 hge hxn hyn
  go_enter Try.func29, Try.ntmps29
  go_wp2_with (go_at_call 83; refine (compared_c A B c d xs ys _ RA.out RB.out dx dy tx ty).mono ?_; rintro e w1 ⟨_, rfl, hk, hb⟩; have hcm1 := hcm.out; generalize cmp (lv b32 xs) (lv b32 ys) = cm at hcm1 hk; subst hk; obtain ⟨⟨q1, q2, q3, q4, _⟩, B1, B2, _⟩ := SG.out.nw hb; obtain ⟨⟨u0, hu0, hm0⟩, hf0⟩ := B1 0 (by omega); obtain ⟨⟨u1, hu1, hm1⟩, hf1⟩ := B1 1 (by omega); obtain ⟨⟨t0, ht0, hk0⟩, hg0⟩ := B2 0 (by omega); obtain ⟨⟨t1, ht1, hk1⟩, hg1⟩ := B2 1 (by omega))
  clear q1 q2 q3 q4 B1 B2 hu0 hu1 ht0 ht1 hf0 hf1 hg0 hg1 hm0 hm1 hk0 hk1
  refine (long_l rfl rfl (RA.out.kept hb.kept) (RB.out.kept hb.kept) dx dy hl h2 hle ty).mono ?_
  rintro e w2 ⟨_, rfl, ⟨v1, v2, rfl, ⟨zq, A1, c1, rfl, hq1, rq, dq, eq, lq⟩, ⟨zr, A2, c2, rfl, hr1, rr, dr, er, lr⟩⟩, hb2⟩
  have nw2 := nw1.trans (hb.trans hb2)
  have S2 := Lib.hid (SG.out.nw (hb.trans hb2))
  have RQ := Lib.hid rq
  have RR := Lib.hid rr
  have HQ1 := Lib.hid hq1
  have HR1 := Lib.hid hr1
  have EQ := Lib.hid eq
  have ER := Lib.hid er
  clear rq rr hq1 hr1 eq er lq lr
  go_wp2
  have n1 : Nw w _ := (nw2).drew
  have hw : w.heap.size ≤ w.heap.size + 1 + 1 := by omega
  refine region_two [(w.heap.size, 0, Value.bool n), (w.heap.size, 1, Value.slice A xs.length c), (w.heap.size + 1, 0, Value.bool m), (w.heap.size + 1, 1, Value.slice B ys.length d)] (w.heap.size + 1 + 1) (w.heap.size + 1 + 1 + 1) 1000 (KB (w.heap.size + 1 + 1) (sg (!(n == m)) (lv b32 xs / lv b32 ys)) undef) (KB (w.heap.size + 1 + 1 + 1) (sg n (lv b32 xs % lv b32 ys)) undef) [(2, KI (sg (!(n == m)) (lv b32 xs / lv b32 ys))), (6, KI (sg n (lv b32 xs % lv b32 ys))), (7, fun _ W => (KB (w.heap.size + 1 + 1) (sg (!(n == m)) (lv b32 xs / lv b32 ys)) undef) W), (8, fun _ W => (KB (w.heap.size + 1 + 1 + 1) (sg n (lv b32 xs % lv b32 ys)) undef) W)] (by kernel_rfl) (by kernel_rfl) (by kernel_rfl) (by kernel_rfl) ?_ ⟨St2.st (KI.st _), St2.st (KI.st _), St2.r, St2.s, trivial⟩ ((S2.out.nw (Nw.refl _).drew)) ?_
  · first | trivial | (simp only [Low, and_true]; omega)
  repeat
    apply Rg.wpK_quiet rfl rfl
    case hq => intro W hS; obtain ⟨⟨q1, q2, q3, q4, _⟩, _⟩ := hS; go_simp; exact rfl
    case he => exact (by simp only [Act.put, List.setIfInBounds_toArray, List.set_cons_zero, List.set_cons_succ]; exact rfl)
  apply Rg.wpK_know rfl rfl
  case ha =>
    intro W hR hS hF
    have hn := n1.r2 hR hw
    obtain ⟨⟨q1, q2, q3, q4, _⟩, hB1, hB2, hr⟩ := hS
    unfold Rg.gives
    go_simp
    exact Rg.gives_enter (call_r2 (KB.nwst _ _) (KB.nwst _ _) (ret_eq (made_l rfl (!(n == m)) ((RQ.out.kept (Nw.refl _).drew.kept).kept hR.2.1) HQ1.out dq) (by rw [EQ.out])) hr)
  intro u hu
  obtain ⟨W0, hw1, hw2, hf⟩ := hu
  obtain ⟨m2, D2, l2, c2, rfl, hx⟩ := Rg.upd_at rfl (hf 2)
  refine ⟨_, rfl, ?_⟩
  (first | (rw [put_list]; dsimp only [List.set_cons_zero, List.set_cons_succ]) | rw [put_none])
  clear hf hw1 hw2 hx W0
  repeat
    apply Rg.wpK_quiet rfl rfl
    case hq => intro W hS; obtain ⟨⟨q1, q2, q3, q4, _⟩, _⟩ := hS; go_simp; exact rfl
    case he => exact (by simp only [Act.put, List.setIfInBounds_toArray, List.set_cons_zero, List.set_cons_succ]; exact rfl)
  apply Rg.wpK_know rfl rfl
  case ha =>
    intro W hR hS hF
    have hn := n1.r2 hR hw
    obtain ⟨⟨q1, q2, q3, q4, _⟩, hB1, hB2, hr⟩ := hS
    unfold Rg.gives
    go_simp
    exact Rg.gives_enter (call_r2 (KB.nwst _ _) (KB.nwst _ _) (ret_eq (made_l rfl n ((RR.out.kept (Nw.refl _).drew.kept).kept hR.2.1) HR1.out dr) (by rw [ER.out])) hr)
  intro u hu
  obtain ⟨W0, hw1, hw2, hf⟩ := hu
  obtain ⟨m6, D6, l6, c6, rfl, hx⟩ := Rg.upd_at rfl (hf 6)
  refine ⟨_, rfl, ?_⟩
  (first | (rw [put_list]; dsimp only [List.set_cons_zero, List.set_cons_succ]) | rw [put_none])
  clear hf hw1 hw2 hx W0
  repeat
    apply Rg.wpK_quiet rfl rfl
    case hq => intro W hS; obtain ⟨⟨q1, q2, q3, q4, _⟩, _⟩ := hS; go_simp; exact rfl
    case he => exact (by simp only [Act.put, List.setIfInBounds_toArray, List.set_cons_zero, List.set_cons_succ]; exact rfl)
  apply Rg.wpK_know rfl rfl
  case ha =>
    intro W hR hS hF
    have hn := n1.r2 hR hw
    obtain ⟨⟨q1, q2, q3, q4, _⟩, hB1, hB2, hr⟩ := hS
    have i2 := KI.agg (Rg.upd_at rfl (Rg.upd_off rfl (hF 2 (by kernel_rfl))))
    obtain ⟨⟨v0, hv0, hn0⟩, hf0⟩ := hB1 0 (by omega)
    obtain ⟨⟨v1, hv1, hn1⟩, hf1⟩ := hB1 1 (by omega)
    unfold Rg.gives
    go_simp
    exact Rg.gives_skip (store_I1 (by omega) hB1 i2)
  intro u hu
  obtain ⟨W0, hw1, hw2, hf⟩ := hu
  have hx := trivial
  refine ⟨_, rfl, ?_⟩
  (first | (rw [put_list]; dsimp only [List.set_cons_zero, List.set_cons_succ]) | rw [put_none])
  clear hf hw1 hw2 hx W0
  repeat
    apply Rg.wpK_quiet rfl rfl
    case hq => intro W hS; obtain ⟨⟨q1, q2, q3, q4, _⟩, _⟩ := hS; go_simp; exact rfl
    case he => exact (by simp only [Act.put, List.setIfInBounds_toArray, List.set_cons_zero, List.set_cons_succ]; exact rfl)
  apply Rg.wpK_know rfl rfl
  case ha =>
    intro W hR hS hF
    have hn := n1.r2 hR hw
    obtain ⟨⟨q1, q2, q3, q4, _⟩, hB1, hB2, hr⟩ := hS
    have i6 := KI.agg (Rg.upd_at rfl (Rg.upd_off rfl (hF 6 (by kernel_rfl))))
    obtain ⟨⟨v0, hv0, hn0⟩, hf0⟩ := hB2 0 (by omega)
    obtain ⟨⟨v1, hv1, hn1⟩, hf1⟩ := hB2 1 (by omega)
    unfold Rg.gives
    go_simp
    exact Rg.gives_skip (store_I2 (by omega) hB2 i6)
  intro u hu
  obtain ⟨W0, hw1, hw2, hf⟩ := hu
  have hx := trivial
  refine ⟨_, rfl, ?_⟩
  (first | (rw [put_list]; dsimp only [List.set_cons_zero, List.set_cons_succ]) | rw [put_none])
  clear hf hw1 hw2 hx W0
  repeat
    apply Rg.wpK_quiet rfl rfl
    case hq => intro W hS; obtain ⟨⟨q1, q2, q3, q4, _⟩, _⟩ := hS; go_simp; exact rfl
    case he => exact (by simp only [Act.put, List.setIfInBounds_toArray, List.set_cons_zero, List.set_cons_succ]; exact rfl)
  refine Rg.wpK_end fun w9 hR hS hF => ?_
  have hn := n1.r2 hR hw
  have b1 := Rg.upd_at rfl (Rg.upd_off rfl (hF 7))
  have b2 := Rg.upd_at rfl (hF 8)
  obtain ⟨m1, D1, l1, c1, p0, p1, i1⟩ := b1
  obtain ⟨m2, D2, l2, c2, p2, p3, i2⟩ := b2
  go_wp2
  exact bodyPost_ret (v := .tuple #[.agg #[.bool m1, .slice D1 l1 c1], .agg #[.bool m2, .slice D2 l2 c2], .int .i64 0]) (by simp [results, Try.results29, go_sem, p0, p1, p2, p3]) rfl ⟨_, rfl, ⟨_, _, _, rfl, ⟨_, _, _, _, rfl, i1.eq HQ.out.symm⟩, ⟨_, _, _, _, rfl, i2.eq HR.out.symm⟩, rfl⟩, hn⟩
end Go.Proofs.Ytcgkgcciogibkaa
/- Powers: what their loop keeps, and how long they are. No program in sight. -/
set_option linter.unusedVariables false
set_option linter.unusedSimpArgs false
namespace Go.Proofs.Ytcgkgcciogibkaa
open Go Go.RowKit Ma
theorem natAbs_pow' (x : Int) (n : Nat) : (x ^ n).natAbs = x.natAbs ^ n := by
  induction n with
  | zero => simp
  | succ n ih => rw [Int.pow_succ, Int.natAbs_mul, ih, Nat.pow_succ]
theorem pw_bd {o b X : Int} {k m : Nat} (h : o * b ^ k = X) (hX : X ≠ 0) (hk : 1 ≤ k) (hb : bd m X) : bd m o ∧ bd m b := by
  have h1 : o.natAbs * b.natAbs ^ k = X.natAbs := by rw [← h, Int.natAbs_mul, natAbs_pow']
  have h2 : 0 < X.natAbs := by omega
  have h3 : 0 < o.natAbs := by
    rcases Nat.eq_zero_or_pos o.natAbs with e | e
    · rw [e, Nat.zero_mul] at h1; omega
    · exact e
  have h4 : 0 < b.natAbs ^ k := by
    rcases Nat.eq_zero_or_pos (b.natAbs ^ k) with e | e
    · rw [e, Nat.mul_zero] at h1; omega
    · exact e
  have h5 : o.natAbs ≤ X.natAbs := by rw [← h1]; exact Nat.le_mul_of_pos_right _ h4
  have h6 : b.natAbs ^ k ≤ X.natAbs := by rw [← h1]; exact Nat.le_mul_of_pos_left _ h3
  have h7 : b.natAbs ≤ b.natAbs ^ k := by
    obtain ⟨j, rfl⟩ : ∃ j, k = j + 1 := ⟨k - 1, by omega⟩
    rw [Nat.pow_succ]
    have h8 : 0 < b.natAbs := by
      rcases Nat.eq_zero_or_pos b.natAbs with e | e
      · rw [e, Nat.pow_succ, Nat.mul_zero] at h4; omega
      · exact e
    exact Nat.le_mul_of_pos_left _ (Nat.pow_pos h8)
  unfold bd at *
  omega
theorem pw_odd {o b X : Int} {k : Nat} (h : o * b ^ k = X) (hk : k % 2 = 1) : o * b * (b * b) ^ (k / 2) = X := by
  have e : k = 2 * (k / 2) + 1 := by omega
  rw [← h]
  conv => rhs; rw [e, Int.pow_succ, Int.pow_mul]
  rw [show b ^ 2 = b * b by rw [Int.pow_succ, Int.pow_succ, Int.pow_zero, Int.one_mul]]
  grind
theorem pw_even {o b X : Int} {k : Nat} (h : o * b ^ k = X) (hk : k % 2 = 0) : o * (b * b) ^ (k / 2) = X := by
  have e : k = 2 * (k / 2) := by omega
  rw [← h]
  conv => rhs; rw [e, Int.pow_mul]
  rw [show b ^ 2 = b * b by rw [Int.pow_succ, Int.pow_succ, Int.pow_zero, Int.one_mul]]
theorem pw_end {o b X : Int} {k : Nat} (h : o * b ^ k = X) (hk : k = 1) : o * b = X := by
  rw [hk] at h
  simpa [Int.pow_succ] using h
/-- How long a power is. -/
theorem wid_nat (z : Int) (h : 0 ≤ z) : pat z = z := by unfold pat; rw [if_neg (by omega)]
theorem pw_size {x : Int} {s : Nat} (hx : 2 ≤ x.natAbs) (hs : wid (pat (x.natAbs : Int)) = s + 1) : 2 ^ s ≤ x.natAbs ∧ x.natAbs < 2 ^ (s + 1) := by
  rw [wid_nat _ (by omega)] at hs
  have h1 := wid_le (z := (x.natAbs : Int)) (by omega)
  have h2 := wid_lt (x.natAbs : Int)
  rw [hs] at h1 h2
  rw [Nat.add_sub_cancel] at h1
  exact ⟨by exact_mod_cast h1, by exact_mod_cast h2⟩
theorem wid_big {z : Int} {M : Nat} (h : 2 ^ (M + 1) ≤ z.natAbs) : M < wid (pat z) := by
  have h5 : 2 ^ (M + 1) = 2 * 2 ^ M := by rw [Nat.pow_succ, Nat.mul_comm]
  have h6 : 0 < 2 ^ M := Nat.pow_pos (by decide)
  apply Classical.byContradiction
  intro hc
  have h7 := wid_lt (pat z)
  have h8 : (2 : Int) ^ wid (pat z) ≤ 2 ^ M := pow_le (by decide) (by omega)
  have h9 : pat z < ((2 ^ M : Nat) : Int) := by
    have : ((2 ^ M : Nat) : Int) = 2 ^ M := by rw [Int.natCast_pow]; rfl
    omega
  rw [h5] at h
  generalize (2 ^ M : Nat) = P at *
  unfold pat at h9
  split at h9 <;> omega
theorem bd_small {z : Int} {m : Nat} (h : z.natAbs ≤ 2 ^ (32 * m)) : bd (m + 1) z := by
  have h6 : (2 : Nat) ^ (32 * (m + 1)) = 2 ^ (32 * m) * 4294967296 := by rw [Nat.mul_add, Nat.pow_add]
  have h7 : 0 < 2 ^ (32 * m) := Nat.pow_pos (by decide)
  rw [bd2]
  have e : (2 : Int) ^ (32 * (m + 1)) = ((2 ^ (32 * (m + 1)) : Nat) : Int) := by rw [Int.natCast_pow]; rfl
  rw [e, h6]
  generalize (2 : Nat) ^ (32 * m) = P at *
  omega
theorem pw_large {x : Int} {n s : Nat} (hx : 2 ≤ x.natAbs) (hs : wid (pat (x.natAbs : Int)) = s + 1) (hs1 : 1 ≤ s) (hq : 65536 / s < n) : 65536 < wid (pat (x ^ n)) := by
  have h1 := (pw_size hx hs).1
  have h2 : 2 ^ (s * n) ≤ (x ^ n).natAbs := by rw [natAbs_pow', Nat.pow_mul]; exact Nat.pow_le_pow_left h1 n
  have h3 : 65536 < s * n := by
    have := Nat.lt_mul_of_div_lt hq hs1
    rwa [Nat.mul_comm] at this
  have key : ∀ M : Nat, M < s * n → M < wid (pat (x ^ n)) := fun M h => wid_big (Nat.le_trans (Nat.pow_le_pow_right (by decide) h) h2)
  exact key _ h3
theorem pw_bits {x : Int} {n s : Nat} (hx : 2 ≤ x.natAbs) (hs : wid (pat (x.natAbs : Int)) = s + 1) (hs1 : 1 ≤ s) (hq : ¬ 65536 / s < n) : bd 4097 (x ^ n) ∧ x ^ n ≠ 0 := by
  have h1 := (pw_size hx hs).2
  have h2 : (x ^ n).natAbs ≤ 2 ^ ((s + 1) * n) := by rw [natAbs_pow', Nat.pow_mul]; exact Nat.pow_le_pow_left (by omega) n
  have h3 : s * n ≤ 65536 := by
    have h4 : n ≤ 65536 / s := by omega
    have := (Nat.le_div_iff_mul_le hs1).1 h4
    rwa [Nat.mul_comm] at this
  have h4 : (s + 1) * n ≤ 32 * 4096 := by
    rw [Nat.add_mul, Nat.one_mul]
    have : n ≤ s * n := Nat.le_mul_of_pos_left n hs1
    omega
  have key : ∀ m : Nat, (s + 1) * n ≤ 32 * m → bd (m + 1) (x ^ n) := fun m h => bd_small (Nat.le_trans h2 (Nat.pow_le_pow_right (by decide) h))
  refine ⟨key _ h4, ?_⟩
  intro e
  have h8 : 0 < (x ^ n).natAbs := by rw [natAbs_pow']; exact Nat.pow_pos (by omega)
  rw [e] at h8
  simp at h8
theorem bd.zero {a : Nat} : bd a 0 := by
  have := pos_pow (b := b32) (by decide) a
  unfold bd; omega
theorem bd.abs {a : Nat} {x : Int} (h : bd a x) : bd a (x.natAbs : Int) := by unfold bd at *; omega
end Go.Proofs.Ytcgkgcciogibkaa
/- Divide, in the form that the rules want. -/
set_option linter.unusedVariables false
set_option linter.unusedSimpArgs false
namespace Go.Proofs.Ytcgkgcciogibkaa
open Go.RowKit Ma
theorem divide_c {x y : Int} {n m : Bool} {A B : Option Addr} {l l' c d : Nat} {w : World} (hx : RI w n A l c x) (hy : RI w m B l' d y) (hl : l ≤ 500000) (hy0 : y ≠ 0) :
    Calls Try.prog 29 #[.agg #[.bool n, .slice A l c], .agg #[.bool m, .slice B l' d]] w (Ret w (K3 (KI (x.tdiv y)) (KI (x.tmod y)) (KV (.int .i64 0)))) := by
  by_cases h : l' ≤ 1 ∨ x.natAbs < y.natAbs
  · exact divide_1 hx hy hl hy0 h
  · exact divide_2 hx hy hl (by omega) (by omega)
namespace Sy
open Go
theorem ce_div : CE 29 := fun args W => by go_simp
variable {x y : Int} {a b : Nat}
theorem k_div (hx : bd a x) (ha : a ≤ 300000) (hy : y ≠ 0) : CallOk 29 [KI x, KI y] (K3 (KI (x.tdiv y)) (KI (x.tmod y)) (KV (.int .i64 0))) := callII ce_div fun W n A l c m B l' d h1 h2 => divide_c h1 h2 (by have := h1.le hx ha; omega) hy
theorem k_div0 : CallOk 29 [KI x, KI 0] (K3 (KI 0) (KI 0) (KV (.int .i64 6))) := callII ce_div fun W n A l c m B l' d h1 h2 => divide_0 h1 h2
end Sy
/-! ### Bounds of quotients -/
theorem bd.tdiv {a : Nat} {x y : Int} (h : bd a x) : bd a (x.tdiv y) := by
  have h1 : (x.tdiv y).natAbs ≤ x.natAbs := by rw [Int.natAbs_tdiv]; exact Nat.div_le_self _ _
  unfold bd at *
  omega
theorem bd.tmod {a : Nat} {x y : Int} (h : bd a x) : bd a (x.tmod y) := by
  have h1 : (x.tmod y).natAbs ≤ x.natAbs := by rw [Int.natAbs_tmod]; exact Nat.mod_le _ _
  unfold bd at *
  omega
theorem bd.tmod2 {b : Nat} {x y : Int} (h : bd b y) (hy : y ≠ 0) : bd b (x.tmod y) := by
  have h1 : (x.tmod y).natAbs < y.natAbs := by rw [Int.natAbs_tmod]; exact Nat.mod_lt _ (by omega)
  unfold bd at *
  omega
end Go.Proofs.Ytcgkgcciogibkaa
/- The contract of the program's Gcd, by rules. -/
set_option linter.unusedVariables false
set_option linter.unusedSimpArgs false
namespace Go.Proofs.Ytcgkgcciogibkaa.Sy
open Go Go.RowKit Ma
theorem ce_gcd : CE 39 := fun args W => by go_simp
theorem sgn_one {x : Int} (h : 0 < x) : sgn x = 1 := by unfold sgn; rw [if_neg (by omega), if_neg (by omega)]
set_option maxHeartbeats 1600000 in
theorem k_gcd0 {x y : Int} {n g : Nat} (X : bd n x) (Y : bd n y) (hn : n ≤ 300000) (hg : Nat.gcd x.natAbs y.natAbs = g) : CallOk 39 [KI x, KI y] (KI (g : Int)) := by
  refine CallOk.enter (l := [.kw (KI x), .kw (KI y)]) 25 ce_gcd Try.func39 rfl Try.ntmps39 (by simp) ⟨KI.st _, rfl, KI.st _, rfl, trivial⟩ fun w => ?_
  refine SC.seq ?_
  refine SC.region ?_
  refine PW.box (x := .tmp 0) (r := .kw (KI (x))) (BI 28) rfl rfl rfl rfl rfl bI rfl sh_I ?_
  refine PW.box (x := .tmp 1) (r := .kw (KI (y))) (BI 28) rfl rfl rfl rfl rfl bI rfl sh_I ?_
  refine PW.alloc (BI 28) rfl rfl rfl rfl rfl bI ?_
  refine PW.nil ?_
  refine SX.then ?_
  refine SC.seq ?_
  refine SC.dx [.val 8 (.kw (KI (x))), .val 9 (.kw (KI ((x.natAbs : Int)))), .val 10 (.kw (KI (y))), .val 11 (.kw (KI ((y.natAbs : Int)))), .put 2 (BI 28) (.kw (KI ((x.natAbs : Int)))), .put 3 (BI 28) (.kw (KI ((y.natAbs : Int))))] [([], [2]), ([0], []), ([], [3]), ([2], []), ([1], [2]), ([3], [3])] rfl (by kernel_rfl) (by kernel_rfl) (by kernel_rfl) rfl ⟨?_, ?_, ?_, ?_, ?_, ?_, trivial⟩ ?_
  · exact DX.load rfl rfl rfl rfl rfl rfl
  · exact DX.call (r := .kw (KI ((x.natAbs : Int)))) rfl rfl rfl rfl rfl rfl (KI.st _) rfl (k_abs)
  · exact DX.load rfl rfl rfl rfl rfl rfl
  · exact DX.call (r := .kw (KI ((y.natAbs : Int)))) rfl rfl rfl rfl rfl rfl (KI.st _) rfl (k_abs)
  · exact DX.store (x := .tmp 9) (r := .kw (KI ((x.natAbs : Int)))) rfl rfl rfl rfl rfl rfl sh_I
  · exact DX.store (x := .tmp 11) (r := .kw (KI ((y.natAbs : Int)))) rfl rfl rfl rfl rfl rfl sh_I
  refine SX.then ?_
  refine SC.seq ?_
  refine SC.block ?_
  refine SC.loop (S := Nat × Nat) (fun ⟨a, b⟩ => [(2, .bx (BI 28) (KI ((a : Int)))), (3, .bx (BI 28) (KI ((b : Int)))), (4, .nb (BI 28))]) (fun ⟨a, b⟩ => Nat.gcd a b = g ∧ bd n (a : Int) ∧ bd n (b : Int)) (fun ⟨a, b⟩ => b) (x.natAbs, y.natAbs) ⟨hg, X.abs, Y.abs⟩ ⟨rfl, rfl, rfl, trivial⟩ ?_
  rintro ⟨a, b⟩ ⟨hi, A, B⟩
  show SC _ _ _ _ [(2, .bx (BI 28) (KI ((a : Int)))), (3, .bx (BI 28) (KI ((b : Int)))), (4, .nb (BI 28))] _
  refine SC.seq ?_
  refine SC.seq ?_
  by_cases hb : (b : Int) = 0
  · obtain rfl : b = 0 := by omega
    obtain rfl : a = g := by simpa using hi
    refine SC.region ?_
    refine PW.load rfl rfl rfl rfl rfl rfl ?_
    refine PW.call (r := .vl (.int .i64 0)) rfl rfl rfl rfl rfl rfl (KV.st _) rfl (k_sign (by rw [hb]; rfl)) ?_
    refine PW.q2 (x := .tmp 13) (y := .const (.int .i64 0)) (.bool false) rfl rfl rfl rfl rfl (fun ρ W h1 h2 => by go_simp) ?_
    refine PW.nil ?_
    refine SX.then ?_
    refine SC.cond (t := false) rfl ?_
    refine SC.exit ?_
    refine SX.thenE ?_
    refine SX.thenE ?_
    refine SX.blockE ?_
    refine SX.then ?_
    refine SC.seq ?_
    refine SC.region ?_
    refine PW.load rfl rfl rfl rfl rfl rfl ?_
    refine PW.store (x := .tmp 24) (r := .kw (KI ((a : Int)))) rfl rfl rfl rfl rfl rfl sh_I ?_
    refine PW.nil ?_
    refine SX.then ?_
    refine SC.ret ?_
    exact SX.doneC (s := 4) (.inl rfl) rfl rfl rfl
  · refine SC.region ?_
    refine PW.load rfl rfl rfl rfl rfl rfl ?_
    refine PW.call (r := .vl (.int .i64 1)) rfl rfl rfl rfl rfl rfl (KV.st _) rfl (k_sign (sgn_one (by omega))) ?_
    refine PW.q2 (x := .tmp 13) (y := .const (.int .i64 0)) (.bool true) rfl rfl rfl rfl rfl (fun ρ W h1 h2 => by go_simp) ?_
    refine PW.nil ?_
    refine SX.then ?_
    refine SC.cond (t := true) rfl ?_
    refine SC.skip ?_
    refine SX.then ?_
    refine SC.block ?_
    refine SC.seq ?_
    refine SC.region ?_
    refine PW.load rfl rfl rfl rfl rfl rfl ?_
    refine PW.load rfl rfl rfl rfl rfl rfl ?_
    refine PW.call (r := .kw (K3 (KI (((a : Int)).tdiv ((b : Int)))) (KI (((a : Int)).tmod ((b : Int)))) (KV (.int .i64 0)))) rfl rfl rfl rfl rfl rfl (K3.st (KI.st _) (KI.st _) (KV.st _)) rfl (k_div A (by first | decide | omega) hb) ?_
    refine PW.move rfl rfl rfl rfl rfl ?_
    refine PW.ext (r := .kw (KI (((a : Int)).tdiv ((b : Int))))) rfl rfl rfl rfl rfl ex30 (KI.st _) rfl ?_
    refine PW.ext (r := .kw (KI (((a : Int)).tmod ((b : Int))))) rfl rfl rfl rfl rfl ex31 (KI.st _) rfl ?_
    refine PW.ext (r := .vl (.int .i64 0)) rfl rfl rfl rfl rfl ex32v (KV.st _) rfl ?_
    refine PW.alloc (BI 28) rfl rfl rfl rfl rfl bI ?_
    refine PW.alloc (BI 28) rfl rfl rfl rfl rfl bI ?_
    refine PW.store (x := .tmp 19) (r := .kw (KI (((a : Int)).tdiv ((b : Int))))) rfl rfl rfl rfl rfl rfl sh_I ?_
    refine PW.store (x := .tmp 20) (r := .kw (KI (((a : Int)).tmod ((b : Int))))) rfl rfl rfl rfl rfl rfl sh_I ?_
    refine PW.assign rfl rfl rfl rfl rfl ?_
    refine PW.nil ?_
    refine SX.then ?_
    refine SC.dx [.val 22 (.kw (KI ((b : Int)))), .val 23 (.kw (KI (((a : Int)).tmod ((b : Int))))), .put 2 (BI 28) (.kw (KI ((b : Int)))), .put 3 (BI 28) (.kw (KI (((a : Int)).tmod ((b : Int)))))] [([], [3]), ([], [6]), ([0], [2]), ([1], [3])] rfl (by kernel_rfl) (by kernel_rfl) (by kernel_rfl) rfl ⟨?_, ?_, ?_, ?_, trivial⟩ ?_
    · exact DX.load rfl rfl rfl rfl rfl rfl
    · exact DX.load rfl rfl rfl rfl rfl rfl
    · exact DX.store (x := .tmp 22) (r := .kw (KI ((b : Int)))) rfl rfl rfl rfl rfl rfl sh_I
    · exact DX.store (x := .tmp 23) (r := .kw (KI (((a : Int)).tmod ((b : Int))))) rfl rfl rfl rfl rfl rfl sh_I
    refine SX.blockN ?_
    refine SX.back (b, a % b) ?_ ?_ ?_
    · exact ⟨by rw [← hi, Nat.gcd_comm a b, Nat.gcd_rec b a, Nat.gcd_comm], B, (A.tmod (y := (b : Int)) : bd n ((a : Int).tmod (b : Int)))⟩
    · exact (show a % b < b from Nat.mod_lt _ (by omega))
    · exact ⟨rfl, rfl, rfl, trivial⟩
theorem k_gcd {x y : Int} {a b : Nat} (X : bd a x) (Y : bd b y) (ha : a ≤ 300000) (hb : b ≤ 300000) : CallOk 39 [KI x, KI y] (KI (Int.gcd x y : Int)) := k_gcd0 (X.mono (Nat.le_max_left a b)) (Y.mono (Nat.le_max_right a b)) (by omega) rfl
end Go.Proofs.Ytcgkgcciogibkaa.Sy
/- The contract of the program's Power, by rules. -/
set_option linter.unusedVariables false
set_option linter.unusedSimpArgs false
namespace Go.Proofs.Ytcgkgcciogibkaa.Sy
open Go Go.RowKit Ma
theorem ce_power : CE 62 := fun args W => by go_simp
theorem and1_run {k : Nat} {x y : Operand} {dst : Option Tmp} {ty : TypeId} {pos : String} {after : Array Edge} {guard : Option (Nat × Bool)} {ρ : Operand → Value} {W : World} (h1 : ρ x = .int .i64 (k : Int)) (h2 : ρ y = .int .i64 1) (hk : k < 9223372036854775808) :
    (execOp ρ ⟨dst, .binOp .and 3 x y 3, ty, pos, after, guard⟩).run Try.prog W = .ok (.value (.int .i64 ((k % 2 : Nat) : Int))) W := by
  rw [← Go.Proofs.and_one k hk]
  go_simp
theorem quo_run {s m : Nat} {x y : Operand} {dst : Option Tmp} {ty : TypeId} {pos : String} {after : Array Edge} {guard : Option (Nat × Bool)} {ρ : Operand → Value} {W : World} (h1 : ρ x = .int .i64 65536) (h2 : ρ y = .int .i64 (s : Int)) (hs : 1 ≤ s) (hm : 65536 / s = m) :
    (execOp ρ ⟨dst, .binOp .quo 3 x y 3, ty, pos, after, guard⟩).run Try.prog W = .ok (.value (.int .i64 (m : Int))) W := by
  have h3 : ¬ (s : Int) = 0 := by omega
  have e : (m : Int) = 65536 / (s : Int) := by rw [← hm]; exact Int.natCast_ediv _ _
  have b1 : (0 : Int) ≤ 65536 / (s : Int) := Int.ediv_nonneg (by decide) (by omega)
  have b2 : (65536 : Int) / (s : Int) ≤ 65536 := Int.ediv_le_self _ (by decide)
  rw [e]
  clear e hm
  go_simp
  rw [if_neg (by omega), show Int.tdiv 65536 (s : Int) = 65536 / (s : Int) from Int.tdiv_eq_ediv_of_nonneg (by decide), IntWalk.i64_in _ ⟨by omega, by omega⟩]
set_option maxHeartbeats 1600000 in
theorem power_neg {x n : Int} (hn : n < 0) : CallOk 62 [KI x, KV (.int .i64 n)] (K2 (KI 0) (KV (.int .i64 1))) := by
  refine CallOk.enter (l := [.kw (KI x), .vl (.int .i64 n)]) 72 ce_power Try.func62 rfl Try.ntmps62 (by simp) ⟨KI.st _, rfl, KV.st _, rfl, trivial⟩ fun w => ?_
  refine SC.seq ?_
  refine SC.region ?_
  refine PW.box (x := .tmp 0) (r := .kw (KI (x))) (BI 28) rfl rfl rfl rfl rfl bI rfl sh_I ?_
  refine PW.alloc (BI 28) rfl rfl rfl rfl rfl bI ?_
  refine PW.assign rfl rfl rfl rfl rfl ?_
  refine PW.nil ?_
  refine SX.then ?_
  refine SC.seq ?_
  refine SC.seq ?_
  refine SC.region ?_
  refine PW.move rfl rfl rfl rfl rfl ?_
  refine PW.q2 (x := .tmp 11) (y := .const (.int .i64 0)) (.bool true) rfl rfl rfl rfl rfl (fun ρ W h1 h2 => by first | (go_simp; done) | (go_simp; rw [Int.tmod_eq_emod_of_nonneg (by omega)]; exact IntWalk.i64_in _ (by omega)) | (go_simp; omega)) ?_
  refine PW.nil ?_
  refine SX.then ?_
  refine SC.cond (t := true) rfl ?_
  refine SC.seq ?_
  refine SC.region ?_
  refine PW.val (r := .kw (KI (0))) rfl rfl rfl rfl (fun a W hf => ⟨.agg #[.bool false, .slice none 0 0], by go_simp, zeroI _ W W⟩) ?_
  refine PW.store (x := .tmp 13) (r := .kw (KI (0))) rfl rfl rfl rfl rfl rfl sh_I ?_
  refine PW.assign rfl rfl rfl rfl rfl ?_
  refine PW.nil ?_
  refine SX.then ?_
  refine SC.ret ?_
  refine SX.thenR ?_
  exact SX.done2 (s := 4) (t := 5) (r := .vl (.int .i64 1)) (.inl rfl) rfl rfl rfl rfl

set_option maxHeartbeats 1600000 in
theorem power_zero {x : Int} : CallOk 62 [KI x, KV (.int .i64 0)] (K2 (KI 1) (KV (.int .i64 0))) := by
  refine CallOk.enter (l := [.kw (KI x), .vl (.int .i64 0)]) 72 ce_power Try.func62 rfl Try.ntmps62 (by simp) ⟨KI.st _, rfl, KV.st _, rfl, trivial⟩ fun w => ?_
  refine SC.seq ?_
  refine SC.region ?_
  refine PW.box (x := .tmp 0) (r := .kw (KI (x))) (BI 28) rfl rfl rfl rfl rfl bI rfl sh_I ?_
  refine PW.alloc (BI 28) rfl rfl rfl rfl rfl bI ?_
  refine PW.assign rfl rfl rfl rfl rfl ?_
  refine PW.nil ?_
  refine SX.then ?_
  refine SC.seq ?_
  refine SC.seq ?_
  refine SC.region ?_
  refine PW.move rfl rfl rfl rfl rfl ?_
  refine PW.q2 (x := .tmp 11) (y := .const (.int .i64 0)) (.bool false) rfl rfl rfl rfl rfl (fun ρ W h1 h2 => by first | (go_simp; done) | (go_simp; rw [Int.tmod_eq_emod_of_nonneg (by omega)]; exact IntWalk.i64_in _ (by omega)) | (go_simp; omega)) ?_
  refine PW.nil ?_
  refine SX.then ?_
  refine SC.cond (t := false) rfl ?_
  refine SC.skip ?_
  refine SX.then ?_
  refine SC.seq ?_
  refine SC.region ?_
  refine PW.call (r := .kw (KI (1))) rfl rfl rfl rfl rfl rfl (KI.st _) rfl (k_new (by decide)) ?_
  refine PW.alloc (BI 28) rfl rfl rfl rfl rfl bI ?_
  refine PW.store (x := .tmp 14) (r := .kw (KI (1))) rfl rfl rfl rfl rfl rfl sh_I ?_
  refine PW.nil ?_
  refine SX.then ?_
  refine SC.seq ?_
  refine SC.seq ?_
  refine SC.dx [.val 15 (.vl (.int .i64 0)), .val 16 (.vl (.bool true)), .val 17 (.vl (.bool true)), .val 18 (.vl (undef)), .val 19 (.vl (undef)), .val 20 (.vl (undef)), .val 21 (.vl (undef)), .val 22 (.vl (undef)), .val 23 (.vl (.bool true))] [([], [1]), ([0], []), ([1], []), ([2], []), ([2], []), ([2], []), ([2], []), ([2], []), ([2], [])] rfl (by kernel_rfl) (by kernel_rfl) (by kernel_rfl) rfl ⟨?_, ?_, ?_, ?_, ?_, ?_, ?_, ?_, ?_, trivial⟩ ?_
  · exact DX.move rfl rfl rfl rfl rfl rfl
  · exact DX.q2 (x := .tmp 15) (y := .const (.int .i64 0)) (.bool true) rfl rfl rfl rfl rfl (fun ρ W h1 h2 => by first | (go_simp; done) | (go_simp; rw [Int.tmod_eq_emod_of_nonneg (by omega)]; exact IntWalk.i64_in _ (by omega)) | (go_simp; omega))
  · exact DX.move rfl rfl rfl rfl rfl rfl
  · exact DX.skip rfl rfl rfl
  · exact DX.skip rfl rfl rfl
  · exact DX.skip rfl rfl rfl
  · exact DX.skip rfl rfl rfl
  · exact DX.skip rfl rfl rfl
  · exact DX.pick (t := true) rfl rfl rfl rfl rfl rfl rfl
  refine SX.then ?_
  refine SC.cond (t := true) rfl ?_
  refine SC.seq ?_
  refine SC.block ?_
  refine SC.seq ?_
  refine SC.region ?_
  refine PW.move rfl rfl rfl rfl rfl ?_
  refine PW.q2 (x := .tmp 25) (y := .const (.int .i64 0)) (.bool true) rfl rfl rfl rfl rfl (fun ρ W h1 h2 => by first | (go_simp; done) | (go_simp; rw [Int.tmod_eq_emod_of_nonneg (by omega)]; exact IntWalk.i64_in _ (by omega)) | (go_simp; omega)) ?_
  refine PW.move rfl rfl rfl rfl rfl ?_
  refine PW.skip rfl rfl rfl ?_
  refine PW.skip rfl rfl rfl ?_
  refine PW.skip rfl rfl rfl ?_
  refine PW.skip rfl rfl rfl ?_
  refine PW.skip rfl rfl rfl ?_
  refine PW.skip rfl rfl rfl ?_
  refine PW.skip rfl rfl rfl ?_
  refine PW.pick (t := true) rfl rfl rfl rfl rfl rfl ?_
  refine PW.assign rfl rfl rfl rfl rfl ?_
  refine PW.nil ?_
  refine SX.then ?_
  refine SC.cond (t := true) rfl ?_
  refine SC.seq ?_
  refine SC.region ?_
  refine PW.load rfl rfl rfl rfl rfl rfl ?_
  refine PW.store (x := .tmp 36) (r := .kw (KI (1))) rfl rfl rfl rfl rfl rfl sh_I ?_
  refine PW.assign rfl rfl rfl rfl rfl ?_
  refine PW.nil ?_
  refine SX.then ?_
  refine SC.ret ?_
  refine SX.blockR ?_
  refine SX.thenR ?_
  refine SX.thenR ?_
  exact SX.done2 (s := 4) (t := 5) (r := .vl (.int .i64 0)) (.inl rfl) rfl rfl rfl rfl

set_option maxHeartbeats 1600000 in
theorem power_01 {x n : Int} (hx : 0 ≤ x) (hc : cmp (x.natAbs : Int) 1 ≤ 0) (hn : 1 ≤ n) (hn2 : n ≤ 9223372036854775807) : CallOk 62 [KI x, KV (.int .i64 n)] (K2 (KI x) (KV (.int .i64 0))) := by
  refine CallOk.enter (l := [.kw (KI x), .vl (.int .i64 n)]) 72 ce_power Try.func62 rfl Try.ntmps62 (by simp) ⟨KI.st _, rfl, KV.st _, rfl, trivial⟩ fun w => ?_
  refine SC.seq ?_
  refine SC.region ?_
  refine PW.box (x := .tmp 0) (r := .kw (KI (x))) (BI 28) rfl rfl rfl rfl rfl bI rfl sh_I ?_
  refine PW.alloc (BI 28) rfl rfl rfl rfl rfl bI ?_
  refine PW.assign rfl rfl rfl rfl rfl ?_
  refine PW.nil ?_
  refine SX.then ?_
  refine SC.seq ?_
  refine SC.seq ?_
  refine SC.region ?_
  refine PW.move rfl rfl rfl rfl rfl ?_
  refine PW.q2 (x := .tmp 11) (y := .const (.int .i64 0)) (.bool false) rfl rfl rfl rfl rfl (fun ρ W h1 h2 => by first | (go_simp; done) | (go_simp; rw [Int.tmod_eq_emod_of_nonneg (by omega)]; exact IntWalk.i64_in _ (by omega)) | (go_simp; omega)) ?_
  refine PW.nil ?_
  refine SX.then ?_
  refine SC.cond (t := false) rfl ?_
  refine SC.skip ?_
  refine SX.then ?_
  refine SC.seq ?_
  refine SC.region ?_
  refine PW.call (r := .kw (KI (1))) rfl rfl rfl rfl rfl rfl (KI.st _) rfl (k_new (by decide)) ?_
  refine PW.alloc (BI 28) rfl rfl rfl rfl rfl bI ?_
  refine PW.store (x := .tmp 14) (r := .kw (KI (1))) rfl rfl rfl rfl rfl rfl sh_I ?_
  refine PW.nil ?_
  refine SX.then ?_
  refine SC.seq ?_
  refine SC.seq ?_
  refine SC.dx [.val 15 (.vl (.int .i64 n)), .val 16 (.vl (.bool false)), .val 17 (.vl (.bool false)), .val 18 (.kw (KI (x))), .val 19 (.kw (KI ((x.natAbs : Int)))), .val 20 (.kw (KI (1))), .val 21 (.vl (.int .i64 (cmp (x.natAbs : Int) 1))), .val 22 (.vl (.bool true)), .val 23 (.vl (.bool true))] [([], [1]), ([0], []), ([1], []), ([2], [2]), ([3, 2], []), ([2], [6]), ([4, 5, 2], []), ([6, 2], []), ([2, 7], [])] rfl (by kernel_rfl) (by kernel_rfl) (by kernel_rfl) rfl ⟨?_, ?_, ?_, ?_, ?_, ?_, ?_, ?_, ?_, trivial⟩ ?_
  · exact DX.move rfl rfl rfl rfl rfl rfl
  · exact DX.q2 (x := .tmp 15) (y := .const (.int .i64 0)) (.bool false) rfl rfl rfl rfl rfl (fun ρ W h1 h2 => by first | (go_simp; done) | (go_simp; rw [Int.tmod_eq_emod_of_nonneg (by omega)]; exact IntWalk.i64_in _ (by omega)) | (go_simp; omega))
  · exact DX.move rfl rfl rfl rfl rfl rfl
  · exact DX.load rfl rfl rfl rfl rfl rfl
  · exact DX.call (r := .kw (KI ((x.natAbs : Int)))) rfl rfl rfl rfl rfl rfl (KI.st _) rfl (k_abs)
  · exact DX.load rfl rfl rfl rfl rfl rfl
  · exact DX.call (r := .vl (.int .i64 (cmp (x.natAbs : Int) 1))) rfl rfl rfl rfl rfl rfl (KV.st _) rfl (k_cmp (rfl))
  · exact DX.q2 (x := .tmp 21) (y := .const (.int .i64 0)) (.bool true) rfl rfl rfl rfl rfl (fun ρ W h1 h2 => by first | (go_simp; done) | (go_simp; exact hc))
  · exact DX.pick (t := false) rfl rfl rfl rfl rfl rfl rfl
  refine SX.then ?_
  refine SC.cond (t := true) rfl ?_
  refine SC.seq ?_
  refine SC.block ?_
  refine SC.seq ?_
  refine SC.region ?_
  refine PW.move rfl rfl rfl rfl rfl ?_
  refine PW.q2 (x := .tmp 25) (y := .const (.int .i64 0)) (.bool false) rfl rfl rfl rfl rfl (fun ρ W h1 h2 => by first | (go_simp; done) | (go_simp; rw [Int.tmod_eq_emod_of_nonneg (by omega)]; exact IntWalk.i64_in _ (by omega)) | (go_simp; omega)) ?_
  refine PW.move rfl rfl rfl rfl rfl ?_
  refine PW.fld (r := .vl (.bool false)) rfl rfl rfl rfl rfl rfl rfl rfl rfl rfl rfl (fun v W p hh hk => by obtain ⟨q, u, h1, h2, h3⟩ := fldI0 v W p hh hk; exact ⟨q, u, h1, h2, by rw [h3]; show Value.bool _ = _; rw [decide_eq_false (by omega)]⟩) (KV.st _) ?_
  refine PW.move rfl rfl rfl rfl rfl ?_
  refine PW.skip rfl rfl rfl ?_
  refine PW.skip rfl rfl rfl ?_
  refine PW.skip rfl rfl rfl ?_
  refine PW.pick (t := false) rfl rfl rfl rfl rfl rfl ?_
  refine PW.pick (t := false) rfl rfl rfl rfl rfl rfl ?_
  refine PW.assign rfl rfl rfl rfl rfl ?_
  refine PW.nil ?_
  refine SX.then ?_
  refine SC.cond (t := false) rfl ?_
  refine SC.skip ?_
  refine SX.blockN ?_
  refine SX.then ?_
  refine SC.seq ?_
  refine SC.region ?_
  refine PW.load rfl rfl rfl rfl rfl rfl ?_
  refine PW.store (x := .tmp 37) (r := .kw (KI (x))) rfl rfl rfl rfl rfl rfl sh_I ?_
  refine PW.assign rfl rfl rfl rfl rfl ?_
  refine PW.nil ?_
  refine SX.then ?_
  refine SC.ret ?_
  refine SX.thenR ?_
  exact SX.done2 (s := 4) (t := 5) (r := .vl (.int .i64 0)) (.inl rfl) rfl rfl rfl rfl

set_option maxHeartbeats 1600000 in
theorem power_m1e {x n : Int} (hx : x < 0) (hc : cmp (x.natAbs : Int) 1 ≤ 0) (hn : 1 ≤ n) (hn2 : n ≤ 9223372036854775807) (hp : n % 2 = 0) : CallOk 62 [KI x, KV (.int .i64 n)] (K2 (KI 1) (KV (.int .i64 0))) := by
  refine CallOk.enter (l := [.kw (KI x), .vl (.int .i64 n)]) 72 ce_power Try.func62 rfl Try.ntmps62 (by simp) ⟨KI.st _, rfl, KV.st _, rfl, trivial⟩ fun w => ?_
  refine SC.seq ?_
  refine SC.region ?_
  refine PW.box (x := .tmp 0) (r := .kw (KI (x))) (BI 28) rfl rfl rfl rfl rfl bI rfl sh_I ?_
  refine PW.alloc (BI 28) rfl rfl rfl rfl rfl bI ?_
  refine PW.assign rfl rfl rfl rfl rfl ?_
  refine PW.nil ?_
  refine SX.then ?_
  refine SC.seq ?_
  refine SC.seq ?_
  refine SC.region ?_
  refine PW.move rfl rfl rfl rfl rfl ?_
  refine PW.q2 (x := .tmp 11) (y := .const (.int .i64 0)) (.bool false) rfl rfl rfl rfl rfl (fun ρ W h1 h2 => by first | (go_simp; done) | (go_simp; rw [Int.tmod_eq_emod_of_nonneg (by omega)]; exact IntWalk.i64_in _ (by omega)) | (go_simp; omega)) ?_
  refine PW.nil ?_
  refine SX.then ?_
  refine SC.cond (t := false) rfl ?_
  refine SC.skip ?_
  refine SX.then ?_
  refine SC.seq ?_
  refine SC.region ?_
  refine PW.call (r := .kw (KI (1))) rfl rfl rfl rfl rfl rfl (KI.st _) rfl (k_new (by decide)) ?_
  refine PW.alloc (BI 28) rfl rfl rfl rfl rfl bI ?_
  refine PW.store (x := .tmp 14) (r := .kw (KI (1))) rfl rfl rfl rfl rfl rfl sh_I ?_
  refine PW.nil ?_
  refine SX.then ?_
  refine SC.seq ?_
  refine SC.seq ?_
  refine SC.dx [.val 15 (.vl (.int .i64 n)), .val 16 (.vl (.bool false)), .val 17 (.vl (.bool false)), .val 18 (.kw (KI (x))), .val 19 (.kw (KI ((x.natAbs : Int)))), .val 20 (.kw (KI (1))), .val 21 (.vl (.int .i64 (cmp (x.natAbs : Int) 1))), .val 22 (.vl (.bool true)), .val 23 (.vl (.bool true))] [([], [1]), ([0], []), ([1], []), ([2], [2]), ([3, 2], []), ([2], [6]), ([4, 5, 2], []), ([6, 2], []), ([2, 7], [])] rfl (by kernel_rfl) (by kernel_rfl) (by kernel_rfl) rfl ⟨?_, ?_, ?_, ?_, ?_, ?_, ?_, ?_, ?_, trivial⟩ ?_
  · exact DX.move rfl rfl rfl rfl rfl rfl
  · exact DX.q2 (x := .tmp 15) (y := .const (.int .i64 0)) (.bool false) rfl rfl rfl rfl rfl (fun ρ W h1 h2 => by first | (go_simp; done) | (go_simp; rw [Int.tmod_eq_emod_of_nonneg (by omega)]; exact IntWalk.i64_in _ (by omega)) | (go_simp; omega))
  · exact DX.move rfl rfl rfl rfl rfl rfl
  · exact DX.load rfl rfl rfl rfl rfl rfl
  · exact DX.call (r := .kw (KI ((x.natAbs : Int)))) rfl rfl rfl rfl rfl rfl (KI.st _) rfl (k_abs)
  · exact DX.load rfl rfl rfl rfl rfl rfl
  · exact DX.call (r := .vl (.int .i64 (cmp (x.natAbs : Int) 1))) rfl rfl rfl rfl rfl rfl (KV.st _) rfl (k_cmp (rfl))
  · exact DX.q2 (x := .tmp 21) (y := .const (.int .i64 0)) (.bool true) rfl rfl rfl rfl rfl (fun ρ W h1 h2 => by first | (go_simp; done) | (go_simp; exact hc))
  · exact DX.pick (t := false) rfl rfl rfl rfl rfl rfl rfl
  refine SX.then ?_
  refine SC.cond (t := true) rfl ?_
  refine SC.seq ?_
  refine SC.block ?_
  refine SC.seq ?_
  refine SC.region ?_
  refine PW.move rfl rfl rfl rfl rfl ?_
  refine PW.q2 (x := .tmp 25) (y := .const (.int .i64 0)) (.bool false) rfl rfl rfl rfl rfl (fun ρ W h1 h2 => by first | (go_simp; done) | (go_simp; rw [Int.tmod_eq_emod_of_nonneg (by omega)]; exact IntWalk.i64_in _ (by omega)) | (go_simp; omega)) ?_
  refine PW.move rfl rfl rfl rfl rfl ?_
  refine PW.fld (r := .vl (.bool true)) rfl rfl rfl rfl rfl rfl rfl rfl rfl rfl rfl (fun v W p hh hk => by obtain ⟨q, u, h1, h2, h3⟩ := fldI0 v W p hh hk; exact ⟨q, u, h1, h2, by rw [h3]; show Value.bool _ = _; rw [decide_eq_true (by omega)]⟩) (KV.st _) ?_
  refine PW.move rfl rfl rfl rfl rfl ?_
  refine PW.move rfl rfl rfl rfl rfl ?_
  refine PW.q2 (x := .tmp 31) (y := .const (.int .i64 2)) (.int .i64 0) rfl rfl rfl rfl rfl (fun ρ W h1 h2 => by have ht : n.tmod 2 = n % 2 := Int.tmod_eq_emod_of_nonneg (by omega); rw [hp] at ht; go_simp; first | done | exact IntWalk.i64_in _ (by omega)) ?_
  refine PW.q2 (x := .tmp 32) (y := .const (.int .i64 0)) (.bool true) rfl rfl rfl rfl rfl (fun ρ W h1 h2 => by go_simp) ?_
  refine PW.pick (t := true) rfl rfl rfl rfl rfl rfl ?_
  refine PW.pick (t := false) rfl rfl rfl rfl rfl rfl ?_
  refine PW.assign rfl rfl rfl rfl rfl ?_
  refine PW.nil ?_
  refine SX.then ?_
  refine SC.cond (t := true) rfl ?_
  refine SC.seq ?_
  refine SC.region ?_
  refine PW.load rfl rfl rfl rfl rfl rfl ?_
  refine PW.store (x := .tmp 36) (r := .kw (KI (1))) rfl rfl rfl rfl rfl rfl sh_I ?_
  refine PW.assign rfl rfl rfl rfl rfl ?_
  refine PW.nil ?_
  refine SX.then ?_
  refine SC.ret ?_
  refine SX.blockR ?_
  refine SX.thenR ?_
  refine SX.thenR ?_
  exact SX.done2 (s := 4) (t := 5) (r := .vl (.int .i64 0)) (.inl rfl) rfl rfl rfl rfl

set_option maxHeartbeats 1600000 in
theorem power_m1o {x n : Int} (hx : x < 0) (hc : cmp (x.natAbs : Int) 1 ≤ 0) (hn : 1 ≤ n) (hn2 : n ≤ 9223372036854775807) (hp : n % 2 = 1) : CallOk 62 [KI x, KV (.int .i64 n)] (K2 (KI x) (KV (.int .i64 0))) := by
  refine CallOk.enter (l := [.kw (KI x), .vl (.int .i64 n)]) 72 ce_power Try.func62 rfl Try.ntmps62 (by simp) ⟨KI.st _, rfl, KV.st _, rfl, trivial⟩ fun w => ?_
  refine SC.seq ?_
  refine SC.region ?_
  refine PW.box (x := .tmp 0) (r := .kw (KI (x))) (BI 28) rfl rfl rfl rfl rfl bI rfl sh_I ?_
  refine PW.alloc (BI 28) rfl rfl rfl rfl rfl bI ?_
  refine PW.assign rfl rfl rfl rfl rfl ?_
  refine PW.nil ?_
  refine SX.then ?_
  refine SC.seq ?_
  refine SC.seq ?_
  refine SC.region ?_
  refine PW.move rfl rfl rfl rfl rfl ?_
  refine PW.q2 (x := .tmp 11) (y := .const (.int .i64 0)) (.bool false) rfl rfl rfl rfl rfl (fun ρ W h1 h2 => by first | (go_simp; done) | (go_simp; rw [Int.tmod_eq_emod_of_nonneg (by omega)]; exact IntWalk.i64_in _ (by omega)) | (go_simp; omega)) ?_
  refine PW.nil ?_
  refine SX.then ?_
  refine SC.cond (t := false) rfl ?_
  refine SC.skip ?_
  refine SX.then ?_
  refine SC.seq ?_
  refine SC.region ?_
  refine PW.call (r := .kw (KI (1))) rfl rfl rfl rfl rfl rfl (KI.st _) rfl (k_new (by decide)) ?_
  refine PW.alloc (BI 28) rfl rfl rfl rfl rfl bI ?_
  refine PW.store (x := .tmp 14) (r := .kw (KI (1))) rfl rfl rfl rfl rfl rfl sh_I ?_
  refine PW.nil ?_
  refine SX.then ?_
  refine SC.seq ?_
  refine SC.seq ?_
  refine SC.dx [.val 15 (.vl (.int .i64 n)), .val 16 (.vl (.bool false)), .val 17 (.vl (.bool false)), .val 18 (.kw (KI (x))), .val 19 (.kw (KI ((x.natAbs : Int)))), .val 20 (.kw (KI (1))), .val 21 (.vl (.int .i64 (cmp (x.natAbs : Int) 1))), .val 22 (.vl (.bool true)), .val 23 (.vl (.bool true))] [([], [1]), ([0], []), ([1], []), ([2], [2]), ([3, 2], []), ([2], [6]), ([4, 5, 2], []), ([6, 2], []), ([2, 7], [])] rfl (by kernel_rfl) (by kernel_rfl) (by kernel_rfl) rfl ⟨?_, ?_, ?_, ?_, ?_, ?_, ?_, ?_, ?_, trivial⟩ ?_
  · exact DX.move rfl rfl rfl rfl rfl rfl
  · exact DX.q2 (x := .tmp 15) (y := .const (.int .i64 0)) (.bool false) rfl rfl rfl rfl rfl (fun ρ W h1 h2 => by first | (go_simp; done) | (go_simp; rw [Int.tmod_eq_emod_of_nonneg (by omega)]; exact IntWalk.i64_in _ (by omega)) | (go_simp; omega))
  · exact DX.move rfl rfl rfl rfl rfl rfl
  · exact DX.load rfl rfl rfl rfl rfl rfl
  · exact DX.call (r := .kw (KI ((x.natAbs : Int)))) rfl rfl rfl rfl rfl rfl (KI.st _) rfl (k_abs)
  · exact DX.load rfl rfl rfl rfl rfl rfl
  · exact DX.call (r := .vl (.int .i64 (cmp (x.natAbs : Int) 1))) rfl rfl rfl rfl rfl rfl (KV.st _) rfl (k_cmp (rfl))
  · exact DX.q2 (x := .tmp 21) (y := .const (.int .i64 0)) (.bool true) rfl rfl rfl rfl rfl (fun ρ W h1 h2 => by first | (go_simp; done) | (go_simp; exact hc))
  · exact DX.pick (t := false) rfl rfl rfl rfl rfl rfl rfl
  refine SX.then ?_
  refine SC.cond (t := true) rfl ?_
  refine SC.seq ?_
  refine SC.block ?_
  refine SC.seq ?_
  refine SC.region ?_
  refine PW.move rfl rfl rfl rfl rfl ?_
  refine PW.q2 (x := .tmp 25) (y := .const (.int .i64 0)) (.bool false) rfl rfl rfl rfl rfl (fun ρ W h1 h2 => by first | (go_simp; done) | (go_simp; rw [Int.tmod_eq_emod_of_nonneg (by omega)]; exact IntWalk.i64_in _ (by omega)) | (go_simp; omega)) ?_
  refine PW.move rfl rfl rfl rfl rfl ?_
  refine PW.fld (r := .vl (.bool true)) rfl rfl rfl rfl rfl rfl rfl rfl rfl rfl rfl (fun v W p hh hk => by obtain ⟨q, u, h1, h2, h3⟩ := fldI0 v W p hh hk; exact ⟨q, u, h1, h2, by rw [h3]; show Value.bool _ = _; rw [decide_eq_true (by omega)]⟩) (KV.st _) ?_
  refine PW.move rfl rfl rfl rfl rfl ?_
  refine PW.move rfl rfl rfl rfl rfl ?_
  refine PW.q2 (x := .tmp 31) (y := .const (.int .i64 2)) (.int .i64 1) rfl rfl rfl rfl rfl (fun ρ W h1 h2 => by have ht : n.tmod 2 = n % 2 := Int.tmod_eq_emod_of_nonneg (by omega); rw [hp] at ht; go_simp; first | done | exact IntWalk.i64_in _ (by omega)) ?_
  refine PW.q2 (x := .tmp 32) (y := .const (.int .i64 0)) (.bool false) rfl rfl rfl rfl rfl (fun ρ W h1 h2 => by go_simp) ?_
  refine PW.pick (t := true) rfl rfl rfl rfl rfl rfl ?_
  refine PW.pick (t := false) rfl rfl rfl rfl rfl rfl ?_
  refine PW.assign rfl rfl rfl rfl rfl ?_
  refine PW.nil ?_
  refine SX.then ?_
  refine SC.cond (t := false) rfl ?_
  refine SC.skip ?_
  refine SX.blockN ?_
  refine SX.then ?_
  refine SC.seq ?_
  refine SC.region ?_
  refine PW.load rfl rfl rfl rfl rfl rfl ?_
  refine PW.store (x := .tmp 37) (r := .kw (KI (x))) rfl rfl rfl rfl rfl rfl sh_I ?_
  refine PW.assign rfl rfl rfl rfl rfl ?_
  refine PW.nil ?_
  refine SX.then ?_
  refine SC.ret ?_
  refine SX.thenR ?_
  exact SX.done2 (s := 4) (t := 5) (r := .vl (.int .i64 0)) (.inl rfl) rfl rfl rfl rfl

set_option maxHeartbeats 1600000 in
theorem power_big {x : Int} {n s m : Nat} (hm : 65536 / s = m) (hx : 2 ≤ x.natAbs) (hc : 0 < cmp (x.natAbs : Int) 1) {a : Nat} (X : bd a x) (ha : a ≤ 100000) (hn : 1 ≤ n) (hn2 : n ≤ 9223372036854775807) (hs : wid (pat (x.natAbs : Int)) = s + 1) (hs1 : 1 ≤ s) (hs2 : s ≤ 9223372036854775806) : CallOk 62 [KI x, KV (.int .i64 (n : Int))] (if wid (pat (x ^ n)) ≤ 65536 then K2 (KI (x ^ n)) (KV (.int .i64 0)) else K2 (KI 0) (KV (.int .i64 14))) := by
  refine CallOk.enter (l := [.kw (KI x), .vl (.int .i64 (n : Int))]) 72 ce_power Try.func62 rfl Try.ntmps62 (by simp) ⟨KI.st _, rfl, KV.st _, rfl, trivial⟩ fun w => ?_
  refine SC.seq ?_
  refine SC.region ?_
  refine PW.box (x := .tmp 0) (r := .kw (KI (x))) (BI 28) rfl rfl rfl rfl rfl bI rfl sh_I ?_
  refine PW.alloc (BI 28) rfl rfl rfl rfl rfl bI ?_
  refine PW.assign rfl rfl rfl rfl rfl ?_
  refine PW.nil ?_
  refine SX.then ?_
  refine SC.seq ?_
  refine SC.seq ?_
  refine SC.region ?_
  refine PW.move rfl rfl rfl rfl rfl ?_
  refine PW.q2 (x := .tmp 11) (y := .const (.int .i64 0)) (.bool false) rfl rfl rfl rfl rfl (fun ρ W h1 h2 => by first | (go_simp; done) | (go_simp; rw [Int.tmod_eq_emod_of_nonneg (by omega)]; exact IntWalk.i64_in _ (by omega)) | (go_simp; omega)) ?_
  refine PW.nil ?_
  refine SX.then ?_
  refine SC.cond (t := false) rfl ?_
  refine SC.skip ?_
  refine SX.then ?_
  refine SC.seq ?_
  refine SC.region ?_
  refine PW.call (r := .kw (KI (1))) rfl rfl rfl rfl rfl rfl (KI.st _) rfl (k_new (by decide)) ?_
  refine PW.alloc (BI 28) rfl rfl rfl rfl rfl bI ?_
  refine PW.store (x := .tmp 14) (r := .kw (KI (1))) rfl rfl rfl rfl rfl rfl sh_I ?_
  refine PW.nil ?_
  refine SX.then ?_
  refine SC.seq ?_
  refine SC.seq ?_
  refine SC.dx [.val 15 (.vl (.int .i64 (n : Int))), .val 16 (.vl (.bool false)), .val 17 (.vl (.bool false)), .val 18 (.kw (KI (x))), .val 19 (.kw (KI ((x.natAbs : Int)))), .val 20 (.kw (KI (1))), .val 21 (.vl (.int .i64 (cmp (x.natAbs : Int) 1))), .val 22 (.vl (.bool false)), .val 23 (.vl (.bool false))] [([], [1]), ([0], []), ([1], []), ([2], [2]), ([3, 2], []), ([2], [6]), ([4, 5, 2], []), ([6, 2], []), ([2, 7], [])] rfl (by kernel_rfl) (by kernel_rfl) (by kernel_rfl) rfl ⟨?_, ?_, ?_, ?_, ?_, ?_, ?_, ?_, ?_, trivial⟩ ?_
  · exact DX.move rfl rfl rfl rfl rfl rfl
  · exact DX.q2 (x := .tmp 15) (y := .const (.int .i64 0)) (.bool false) rfl rfl rfl rfl rfl (fun ρ W h1 h2 => by first | (go_simp; done) | (go_simp; rw [Int.tmod_eq_emod_of_nonneg (by omega)]; exact IntWalk.i64_in _ (by omega)) | (go_simp; omega))
  · exact DX.move rfl rfl rfl rfl rfl rfl
  · exact DX.load rfl rfl rfl rfl rfl rfl
  · exact DX.call (r := .kw (KI ((x.natAbs : Int)))) rfl rfl rfl rfl rfl rfl (KI.st _) rfl (k_abs)
  · exact DX.load rfl rfl rfl rfl rfl rfl
  · exact DX.call (r := .vl (.int .i64 (cmp (x.natAbs : Int) 1))) rfl rfl rfl rfl rfl rfl (KV.st _) rfl (k_cmp (rfl))
  · exact DX.q2 (x := .tmp 21) (y := .const (.int .i64 0)) (.bool false) rfl rfl rfl rfl rfl (fun ρ W h1 h2 => by first | (go_simp; done) | (go_simp; exact hc))
  · exact DX.pick (t := false) rfl rfl rfl rfl rfl rfl rfl
  refine SX.then ?_
  refine SC.cond (t := false) rfl ?_
  refine SC.skip ?_
  refine SX.then ?_
  refine SC.seq ?_
  refine SC.seq ?_
  refine SC.region ?_
  refine PW.load rfl rfl rfl rfl rfl rfl ?_
  refine PW.call (r := .kw (KI ((x.natAbs : Int)))) rfl rfl rfl rfl rfl rfl (KI.st _) rfl (k_abs) ?_
  refine PW.call (r := .vl (.int .i64 ((s : Int) + 1))) rfl rfl rfl rfl rfl rfl (KV.st _) rfl (k_len X.abs (by first | decide | omega) (by rw [hs]; rfl)) ?_
  refine PW.q2 (x := .tmp 40) (y := .const (.int .i64 1)) (.int .i64 (s : Int)) rfl rfl rfl rfl rfl (fun ρ W h1 h2 => by first | (go_simp; done) | (go_simp; exact IntWalk.i64_in _ (by omega)) | (go_simp; exact Int.tmod_eq_emod_of_nonneg (by omega)) | (go_simp; exact Int.tdiv_eq_ediv_of_nonneg (by omega)) | (go_simp; exact (IntWalk.i64_in _ (by omega)).trans (by omega)) | (go_simp; rw [Int.tmod_eq_emod_of_nonneg (by omega)]; exact IntWalk.i64_in _ (by omega)) | (go_simp; omega)) ?_
  refine PW.assign rfl rfl rfl rfl rfl ?_
  refine PW.nil ?_
  refine SX.then ?_
  refine SC.seq ?_
  by_cases hq : m < n
  · refine SC.region ?_
    refine PW.move rfl rfl rfl rfl rfl ?_
    refine PW.q2 (x := .tmp 42) (y := .const (.int .i64 0)) (.bool true) rfl rfl rfl rfl rfl (fun ρ W h1 h2 => by first | (go_simp; done) | (go_simp; rw [Int.tmod_eq_emod_of_nonneg (by omega)]; exact IntWalk.i64_in _ (by omega)) | (go_simp; omega)) ?_
    refine PW.move rfl rfl rfl rfl rfl ?_
    refine PW.move rfl rfl rfl rfl rfl ?_
    refine PW.move rfl rfl rfl rfl rfl ?_
    refine PW.q2 (x := .const (.int .i64 65536)) (y := .tmp 46) (.int .i64 (m : Int)) rfl rfl rfl rfl rfl (fun ρ W h1 h2 => by exact quo_run h1 h2 hs1 hm) ?_
    refine PW.q2 (x := .tmp 45) (y := .tmp 47) (.bool true) rfl rfl rfl rfl rfl (fun ρ W h1 h2 => by first | (go_simp; done) | (go_simp; rw [Int.tmod_eq_emod_of_nonneg (by omega)]; exact IntWalk.i64_in _ (by omega)) | (go_simp; omega)) ?_
    refine PW.pick (t := true) rfl rfl rfl rfl rfl rfl ?_
    refine PW.nil ?_
    refine SX.then ?_
    refine SC.cond (t := true) rfl ?_
    refine SC.seq ?_
    refine SC.region ?_
    refine PW.val (r := .kw (KI (0))) rfl rfl rfl rfl (fun a W hf => ⟨.agg #[.bool false, .slice none 0 0], by go_simp, zeroI _ W W⟩) ?_
    refine PW.store (x := .tmp 50) (r := .kw (KI (0))) rfl rfl rfl rfl rfl rfl sh_I ?_
    refine PW.assign rfl rfl rfl rfl rfl ?_
    refine PW.nil ?_
    refine SX.then ?_
    refine SC.ret ?_
    refine SX.thenR ?_
    rw [if_neg (by have := pw_large (n := n) hx hs hs1 (by rw [hm]; exact hq); omega)]
    exact SX.done2 (s := 4) (t := 5) (r := .vl (.int .i64 14)) (.inl rfl) rfl rfl rfl rfl
  · obtain ⟨hX, hX0⟩ := pw_bits (n := n) hx hs hs1 (by rw [hm]; exact hq)
    refine SC.region ?_
    refine PW.move rfl rfl rfl rfl rfl ?_
    refine PW.q2 (x := .tmp 42) (y := .const (.int .i64 0)) (.bool true) rfl rfl rfl rfl rfl (fun ρ W h1 h2 => by first | (go_simp; done) | (go_simp; rw [Int.tmod_eq_emod_of_nonneg (by omega)]; exact IntWalk.i64_in _ (by omega)) | (go_simp; omega)) ?_
    refine PW.move rfl rfl rfl rfl rfl ?_
    refine PW.move rfl rfl rfl rfl rfl ?_
    refine PW.move rfl rfl rfl rfl rfl ?_
    refine PW.q2 (x := .const (.int .i64 65536)) (y := .tmp 46) (.int .i64 (m : Int)) rfl rfl rfl rfl rfl (fun ρ W h1 h2 => by exact quo_run h1 h2 hs1 hm) ?_
    refine PW.q2 (x := .tmp 45) (y := .tmp 47) (.bool false) rfl rfl rfl rfl rfl (fun ρ W h1 h2 => by first | (go_simp; done) | (go_simp; rw [Int.tmod_eq_emod_of_nonneg (by omega)]; exact IntWalk.i64_in _ (by omega)) | (go_simp; omega)) ?_
    refine PW.pick (t := true) rfl rfl rfl rfl rfl rfl ?_
    refine PW.nil ?_
    refine SX.then ?_
    refine SC.cond (t := false) rfl ?_
    refine SC.skip ?_
    refine SX.then ?_
    refine SC.seq ?_
    refine SC.dx [.val 51 (.kw (KI (1))), .val 52 (.kw (KI (x))), .new 8 (BI 28), .new 9 (BI 28), .put 8 (BI 28) (.kw (KI (1))), .put 9 (BI 28) (.kw (KI (x)))] [([], [6]), ([], [2]), ([], []), ([], []), ([2, 0], []), ([3, 1], [])] rfl (by kernel_rfl) (by kernel_rfl) (by kernel_rfl) rfl ⟨?_, ?_, ?_, ?_, ?_, ?_, trivial⟩ ?_
    · exact DX.load rfl rfl rfl rfl rfl rfl
    · exact DX.load rfl rfl rfl rfl rfl rfl
    · exact DX.alloc (BI 28) rfl rfl rfl rfl bI rfl
    · exact DX.alloc (BI 28) rfl rfl rfl rfl bI rfl
    · exact DX.store (x := .tmp 51) (r := .kw (KI (1))) rfl rfl rfl rfl rfl rfl sh_I
    · exact DX.store (x := .tmp 52) (r := .kw (KI (x))) rfl rfl rfl rfl rfl rfl sh_I
    refine SX.then ?_
    refine SC.seq ?_
    refine SC.seq ?_
    refine SC.region ?_
    refine PW.move rfl rfl rfl rfl rfl ?_
    refine PW.assign rfl rfl rfl rfl rfl ?_
    refine PW.nil ?_
    refine SX.then ?_
    refine SC.block ?_
    refine SC.loop (S := Int × Int × Nat) (fun ⟨o, b, k⟩ => [(4, .nb (BI 28)), (5, .vl (.int .i64 0)), (8, .bx (BI 28) (KI (o))), (9, .bx (BI 28) (KI (b))), (10, .vl (.int .i64 (k : Int)))]) (fun ⟨o, b, k⟩ => o * b ^ k = x ^ n ∧ 1 ≤ k ∧ k ≤ n) (fun ⟨o, b, k⟩ => k) (1, x, n) ⟨Int.one_mul _, hn, Nat.le_refl _⟩ ⟨rfl, rfl, rfl, rfl, rfl, trivial⟩ ?_
    rintro ⟨o, b, k⟩ ⟨hi, hk1, hkn⟩
    obtain ⟨bo, bb⟩ := pw_bd hi hX0 hk1 hX
    refine SC.seq ?_
    refine SC.block ?_
    refine SC.seq ?_
    refine SC.seq ?_
    by_cases ho : k % 2 = 1
    · refine SC.region ?_
      refine PW.move rfl rfl rfl rfl rfl ?_
      refine PW.q2 (x := .tmp 56) (y := .const (.int .i64 1)) (.int .i64 ((k % 2 : Nat) : Int)) rfl rfl rfl rfl rfl (fun ρ W h1 h2 => by exact and1_run h1 h2 (by omega)) ?_
      refine PW.q2 (x := .tmp 57) (y := .const (.int .i64 1)) (.bool true) rfl rfl rfl rfl rfl (fun ρ W h1 h2 => by first | (go_simp; done) | (go_simp; rw [Int.tmod_eq_emod_of_nonneg (by omega)]; exact IntWalk.i64_in _ (by omega)) | (go_simp; omega)) ?_
      refine PW.nil ?_
      refine SX.then ?_
      refine SC.cond (t := true) rfl ?_
      refine SC.region ?_
      refine PW.load rfl rfl rfl rfl rfl rfl ?_
      refine PW.load rfl rfl rfl rfl rfl rfl ?_
      refine PW.call (r := .kw (KI (o * b))) rfl rfl rfl rfl rfl rfl (KI.st _) rfl (k_mul bo bb (by first | decide | omega) (by first | decide | omega)) ?_
      refine PW.store (x := .tmp 61) (r := .kw (KI (o * b))) rfl rfl rfl rfl rfl rfl sh_I ?_
      refine PW.nil ?_
      refine SX.then ?_
      refine SC.seq ?_
      refine SC.seq ?_
      by_cases he : k = 1
      · refine SC.region ?_
        refine PW.move rfl rfl rfl rfl rfl ?_
        refine PW.q2 (x := .tmp 62) (y := .const (.int .i64 1)) (.bool true) rfl rfl rfl rfl rfl (fun ρ W h1 h2 => by first | (go_simp; done) | (go_simp; rw [Int.tmod_eq_emod_of_nonneg (by omega)]; exact IntWalk.i64_in _ (by omega)) | (go_simp; omega)) ?_
        refine PW.nil ?_
        refine SX.then ?_
        refine SC.cond (t := true) rfl ?_
        refine SC.exit ?_
        have e8 : o * b = x ^ n := pw_end hi he
        rw [e8]
        refine SX.thenE ?_
        refine SX.blockX rfl ?_
        refine SX.thenE ?_
        refine SX.thenE ?_
        refine SX.blockE ?_
        refine SX.then ?_
        refine SC.seq ?_
        refine SC.seq ?_
        by_cases hl : 65536 < wid (pat (x ^ n))
        · refine SC.region ?_
          refine PW.load rfl rfl rfl rfl rfl rfl ?_
          refine PW.call (r := .vl (.int .i64 (wid (pat (x ^ n)) : Int))) rfl rfl rfl rfl rfl rfl (KV.st _) rfl (k_len hX (by first | decide | omega) (rfl)) ?_
          refine PW.q2 (x := .tmp 68) (y := .const (.int .i64 65536)) (.bool true) rfl rfl rfl rfl rfl (fun ρ W h1 h2 => by first | (go_simp; done) | (go_simp; rw [Int.tmod_eq_emod_of_nonneg (by omega)]; exact IntWalk.i64_in _ (by omega)) | (go_simp; omega)) ?_
          refine PW.nil ?_
          refine SX.then ?_
          refine SC.cond (t := true) rfl ?_
          refine SC.seq ?_
          refine SC.region ?_
          refine PW.val (r := .kw (KI (0))) rfl rfl rfl rfl (fun a W hf => ⟨.agg #[.bool false, .slice none 0 0], by go_simp, zeroI _ W W⟩) ?_
          refine PW.store (x := .tmp 70) (r := .kw (KI (0))) rfl rfl rfl rfl rfl rfl sh_I ?_
          refine PW.assign rfl rfl rfl rfl rfl ?_
          refine PW.nil ?_
          refine SX.then ?_
          refine SC.ret ?_
          refine SX.thenR ?_
          rw [if_neg (by omega)]
          exact SX.done2 (s := 4) (t := 5) (r := .vl (.int .i64 14)) (.inl rfl) rfl rfl rfl rfl
        · refine SC.region ?_
          refine PW.load rfl rfl rfl rfl rfl rfl ?_
          refine PW.call (r := .vl (.int .i64 (wid (pat (x ^ n)) : Int))) rfl rfl rfl rfl rfl rfl (KV.st _) rfl (k_len hX (by first | decide | omega) (rfl)) ?_
          refine PW.q2 (x := .tmp 68) (y := .const (.int .i64 65536)) (.bool false) rfl rfl rfl rfl rfl (fun ρ W h1 h2 => by first | (go_simp; done) | (go_simp; rw [Int.tmod_eq_emod_of_nonneg (by omega)]; exact IntWalk.i64_in _ (by omega)) | (go_simp; omega)) ?_
          refine PW.nil ?_
          refine SX.then ?_
          refine SC.cond (t := false) rfl ?_
          refine SC.skip ?_
          refine SX.then ?_
          refine SC.seq ?_
          refine SC.region ?_
          refine PW.load rfl rfl rfl rfl rfl rfl ?_
          refine PW.store (x := .tmp 71) (r := .kw (KI (x ^ n))) rfl rfl rfl rfl rfl rfl sh_I ?_
          refine PW.assign rfl rfl rfl rfl rfl ?_
          refine PW.nil ?_
          refine SX.then ?_
          refine SC.ret ?_
          rw [if_pos (by omega)]
          exact SX.done2 (s := 4) (t := 5) (r := .vl (.int .i64 0)) (.inl rfl) rfl rfl rfl rfl
      · refine SC.region ?_
        refine PW.move rfl rfl rfl rfl rfl ?_
        refine PW.q2 (x := .tmp 62) (y := .const (.int .i64 1)) (.bool false) rfl rfl rfl rfl rfl (fun ρ W h1 h2 => by first | (go_simp; done) | (go_simp; rw [Int.tmod_eq_emod_of_nonneg (by omega)]; exact IntWalk.i64_in _ (by omega)) | (go_simp; omega)) ?_
        refine PW.nil ?_
        refine SX.then ?_
        refine SC.cond (t := false) rfl ?_
        refine SC.skip ?_
        refine SX.then ?_
        refine SC.region ?_
        refine PW.load rfl rfl rfl rfl rfl rfl ?_
        refine PW.load rfl rfl rfl rfl rfl rfl ?_
        refine PW.call (r := .kw (KI (b * b))) rfl rfl rfl rfl rfl rfl (KI.st _) rfl (k_mul bb bb (by first | decide | omega) (by first | decide | omega)) ?_
        refine PW.store (x := .tmp 66) (r := .kw (KI (b * b))) rfl rfl rfl rfl rfl rfl sh_I ?_
        refine PW.nil ?_
        refine SX.blockN ?_
        refine SX.then ?_
        refine SC.region ?_
        refine PW.move rfl rfl rfl rfl rfl ?_
        refine PW.q2 (x := .tmp 54) (y := .const (.int .u64 1)) (.int .i64 ((k / 2 : Nat) : Int)) rfl rfl rfl rfl rfl (fun ρ W h1 h2 => by first | (go_simp; done) | (go_simp; omega)) ?_
        refine PW.assign rfl rfl rfl rfl rfl ?_
        refine PW.nil ?_
        refine SX.back (o * b, b * b, k / 2) ?_ ?_ ?_
        · exact ⟨pw_odd hi (by omega), by omega, by omega⟩
        · exact (show k / 2 < k by omega)
        · exact ⟨rfl, rfl, rfl, rfl, rfl, trivial⟩
    · refine SC.region ?_
      refine PW.move rfl rfl rfl rfl rfl ?_
      refine PW.q2 (x := .tmp 56) (y := .const (.int .i64 1)) (.int .i64 ((k % 2 : Nat) : Int)) rfl rfl rfl rfl rfl (fun ρ W h1 h2 => by exact and1_run h1 h2 (by omega)) ?_
      refine PW.q2 (x := .tmp 57) (y := .const (.int .i64 1)) (.bool false) rfl rfl rfl rfl rfl (fun ρ W h1 h2 => by first | (go_simp; done) | (go_simp; rw [Int.tmod_eq_emod_of_nonneg (by omega)]; exact IntWalk.i64_in _ (by omega)) | (go_simp; omega)) ?_
      refine PW.nil ?_
      refine SX.then ?_
      refine SC.cond (t := false) rfl ?_
      refine SC.skip ?_
      refine SX.then ?_
      refine SC.seq ?_
      refine SC.seq ?_
      refine SC.region ?_
      refine PW.move rfl rfl rfl rfl rfl ?_
      refine PW.q2 (x := .tmp 62) (y := .const (.int .i64 1)) (.bool false) rfl rfl rfl rfl rfl (fun ρ W h1 h2 => by first | (go_simp; done) | (go_simp; rw [Int.tmod_eq_emod_of_nonneg (by omega)]; exact IntWalk.i64_in _ (by omega)) | (go_simp; omega)) ?_
      refine PW.nil ?_
      refine SX.then ?_
      refine SC.cond (t := false) rfl ?_
      refine SC.skip ?_
      refine SX.then ?_
      refine SC.region ?_
      refine PW.load rfl rfl rfl rfl rfl rfl ?_
      refine PW.load rfl rfl rfl rfl rfl rfl ?_
      refine PW.call (r := .kw (KI (b * b))) rfl rfl rfl rfl rfl rfl (KI.st _) rfl (k_mul bb bb (by first | decide | omega) (by first | decide | omega)) ?_
      refine PW.store (x := .tmp 66) (r := .kw (KI (b * b))) rfl rfl rfl rfl rfl rfl sh_I ?_
      refine PW.nil ?_
      refine SX.blockN ?_
      refine SX.then ?_
      refine SC.region ?_
      refine PW.move rfl rfl rfl rfl rfl ?_
      refine PW.q2 (x := .tmp 54) (y := .const (.int .u64 1)) (.int .i64 ((k / 2 : Nat) : Int)) rfl rfl rfl rfl rfl (fun ρ W h1 h2 => by first | (go_simp; done) | (go_simp; omega)) ?_
      refine PW.assign rfl rfl rfl rfl rfl ?_
      refine PW.nil ?_
      refine SX.back (o, b * b, k / 2) ?_ ?_ ?_
      · exact ⟨pw_even hi (by omega), by omega, by omega⟩
      · exact (show k / 2 < k by omega)
      · exact ⟨rfl, rfl, rfl, rfl, rfl, trivial⟩

end Go.Proofs.Ytcgkgcciogibkaa.Sy
/- The contract of the program's Power, in one; powers of powers of two. -/
set_option linter.unusedVariables false
set_option linter.unusedSimpArgs false
namespace Go.Proofs.Ytcgkgcciogibkaa.Sy
open Go Go.RowKit Ma
/-- What Power hands back. -/
def KP (x : Int) (n : Nat) : Know := if wid (pat (x ^ n)) ≤ 65536 then K2 (KI (x ^ n)) (KV (.int .i64 0)) else K2 (KI 0) (KV (.int .i64 14))
theorem k_power {x : Int} {n a : Nat} (X : bd a x) (ha : a ≤ 100000) (hn2 : n ≤ 9223372036854775807) : CallOk 62 [KI x, KV (.int .i64 (n : Int))] (KP x n) := by
  unfold KP
  by_cases h0 : n = 0
  · subst h0
    rw [Int.pow_zero, if_pos (by decide)]
    exact power_zero
  · by_cases h1 : x.natAbs ≤ 1
    · have hc : cmp (x.natAbs : Int) 1 ≤ 0 := by unfold cmp; split <;> (try split) <;> omega
      by_cases hx : 0 ≤ x
      · have e : x ^ n = x := by
          rcases (show x = 0 ∨ x = 1 by omega) with rfl | rfl
          · exact Int.zero_pow h0
          · exact Int.one_pow
        rw [e, if_pos (by rcases (show x = 0 ∨ x = 1 by omega) with rfl | rfl <;> decide)]
        exact power_01 hx hc (by omega) (by omega)
      · obtain rfl : x = -1 := by omega
        by_cases hp : n % 2 = 0
        · have e : (-1 : Int) ^ n = 1 := by
            obtain ⟨m, rfl⟩ : ∃ m, n = 2 * m := ⟨n / 2, by omega⟩
            rw [Int.pow_mul, show (-1 : Int) ^ 2 = 1 by decide, Int.one_pow]
          rw [e, if_pos (by decide)]
          exact power_m1e (by decide) hc (by omega) (by omega) (by omega)
        · have e : (-1 : Int) ^ n = -1 := by
            obtain ⟨m, rfl⟩ : ∃ m, n = 2 * m + 1 := ⟨n / 2, by omega⟩
            rw [Int.pow_succ, Int.pow_mul, show (-1 : Int) ^ 2 = 1 by decide, Int.one_pow]
            decide
          rw [e, if_pos (by decide)]
          exact power_m1o (by decide) hc (by omega) (by omega) (by omega)
    · have hc : 0 < cmp (x.natAbs : Int) 1 := by unfold cmp; rw [if_neg (by omega), if_neg (by omega)]; decide
      have hw : 2 ≤ wid (pat (x.natAbs : Int)) := by
        rw [wid_nat _ (by omega)]
        apply Classical.byContradiction
        intro hq
        have := wid_lt (x.natAbs : Int)
        have h3 : (2 : Int) ^ wid (x.natAbs : Int) ≤ 2 ^ 1 := pow_le (by decide) (by omega)
        omega
      have hw2 : wid (pat (x.natAbs : Int)) ≤ 32 * a := by
        rw [wid_nat _ (by omega)]
        apply wid_le_of
        have := bd2.1 X
        omega
      exact power_big rfl (s := wid (pat (x.natAbs : Int)) - 1) (by omega) hc X ha (by omega) hn2 (by omega) (by omega) (by omega)
theorem KP.st (x : Int) (n : Nat) : St (KP x n) := by unfold KP; split <;> exact K2.st (KI.st _) (KV.st _)
theorem KP.ok {x : Int} {n : Nat} (h : wid (pat (x ^ n)) ≤ 65536) : KP x n = K2 (KI (x ^ n)) (KV (.int .i64 0)) := if_pos h
theorem KP.large {x : Int} {n : Nat} (h : 65536 < wid (pat (x ^ n))) : KP x n = K2 (KI 0) (KV (.int .i64 14)) := if_neg (by omega)
theorem k_power_ok {x : Int} {n a : Nat} (X : bd a x) (ha : a ≤ 100000) (hn2 : n ≤ 9223372036854775807) (h : wid (pat (x ^ n)) ≤ 65536) : CallOk 62 [KI x, KV (.int .i64 (n : Int))] (K2 (KI (x ^ n)) (KV (.int .i64 0))) := KP.ok h ▸ k_power X ha hn2
theorem k_power_large {x : Int} {n a : Nat} (X : bd a x) (ha : a ≤ 100000) (hn2 : n ≤ 9223372036854775807) (h : 65536 < wid (pat (x ^ n))) : CallOk 62 [KI x, KV (.int .i64 (n : Int))] (K2 (KI 0) (KV (.int .i64 14))) := KP.large h ▸ k_power X ha hn2
/-! ### Powers of powers of two -/
theorem wid_pow2 (j : Nat) : wid (2 ^ j) = j + 1 := by
  have hp : (0 : Int) < 2 ^ j := Int.pow_pos (by decide)
  exact wid_of (by rw [Int.pow_succ]; omega) (by omega) (by rw [Nat.add_sub_cancel]; exact Int.le_refl _)
theorem wid_pow2m (j : Nat) : wid (2 ^ j - 1) = j := by
  have hp : (0 : Int) < 2 ^ j := Int.pow_pos (by decide)
  cases j with
  | zero => decide
  | succ i =>
    have hi : (0 : Int) < 2 ^ i := Int.pow_pos (by decide)
    exact wid_of (by omega) (by omega) (by rw [Nat.add_sub_cancel, Int.pow_succ]; omega)
theorem pat_pow2 (j : Nat) : wid (pat (2 ^ j)) = j + 1 := by
  have hp : (0 : Int) < 2 ^ j := Int.pow_pos (by decide)
  rw [wid_nat _ (by omega), wid_pow2]
theorem pat_npow2 (j : Nat) : wid (pat (-(2 ^ j))) = j := by
  have hp : (0 : Int) < 2 ^ j := Int.pow_pos (by decide)
  have : pat (-(2 ^ j)) = 2 ^ j - 1 := by unfold pat; rw [if_pos (by omega)]; omega
  rw [this, wid_pow2m]
theorem npow_even {x : Int} {m : Nat} (h : m % 2 = 0) : (-x) ^ m = x ^ m := by
  obtain ⟨k, rfl⟩ : ∃ k, m = 2 * k := ⟨m / 2, by omega⟩
  rw [Int.pow_mul, Int.pow_mul, show (-x) ^ 2 = x ^ 2 by grind]
theorem npow_odd {x : Int} {m : Nat} (h : m % 2 = 1) : (-x) ^ m = -(x ^ m) := by
  obtain ⟨k, rfl⟩ : ∃ k, m = 2 * k + 1 := ⟨m / 2, by omega⟩
  rw [Int.pow_succ, Int.pow_succ, npow_even (by omega), Int.mul_neg]
end Go.Proofs.Ytcgkgcciogibkaa.Sy
/- The contract of the program's Root, by rules. -/
set_option linter.unusedVariables false
set_option linter.unusedSimpArgs false
namespace Go.Proofs.Ytcgkgcciogibkaa.Sy
open Go Go.RowKit Ma
theorem ce_root : CE 64 := fun args W => by go_simp
theorem ce_shift : CE 103 := fun args W => by go_simp
theorem k_shift {x i : Int} {a : Nat} (X : bd a x) (ha : a ≤ 300000) (h1 : -9223372036854775808 ≤ i) (h2 : i ≤ 1000000) : CallOk 103 [KI x, KV (.int .i64 i)] (KI (sh x i)) := callIV ce_shift fun W n A l c h => shift_c h (by have := h.le X ha; omega) h1 h2
theorem sh1 (k : Nat) : sh 1 (k : Int) = 2 ^ k := by rw [sh_up, Int.one_mul]
theorem half_eq (y : Int) : sh y (-1) = y / 2 := by have := sh_down y 1; simpa using this
theorem cmp_ge0 {a b : Int} (h : b ≤ a) : cmp a b ≥ 0 := by unfold cmp; rw [if_neg (by omega)]; split <;> decide
theorem sq_mono {a b : Int} (h0 : 0 ≤ a) (h : a ≤ b) : a * a ≤ b * b := Int.mul_le_mul h h h0 (by omega)
section
variable {x q r : Int}
theorem tq (hx : 0 < x) : x.tdiv q = x / q := Int.tdiv_eq_ediv_of_nonneg (by omega)
theorem nwt_nn (hx : 0 < x) (hq : 1 ≤ q) : 0 ≤ x.tdiv q := by rw [tq hx]; exact Int.ediv_nonneg (by omega) (by omega)
theorem nwt_end (hx : 0 < x) (h0 : 0 ≤ r) (hr : r ≤ q) (hq : 1 ≤ q) (h2 : x < (r + 1) * (r + 1)) (hc : q ≤ (q + x.tdiv q) / 2) : q = r := by
  apply Classical.byContradiction
  intro hne
  have h3 : r + 1 ≤ q := by omega
  have h4 : x / q < q := by
    apply Int.ediv_lt_of_lt_mul (by omega)
    have := sq_mono (show 0 ≤ r + 1 by omega) h3
    omega
  rw [tq hx] at hc
  omega
theorem nwt_step (hx : 0 < x) (h0 : 0 ≤ r) (h1 : r * r ≤ x) (hr : r ≤ q) (hq : 1 ≤ q) : r ≤ (q + x.tdiv q) / 2 := by
  rw [tq hx]
  have h3 : 2 * r - q ≤ x / q := by
    apply Int.le_ediv_of_mul_le (by omega)
    have h4 : 0 ≤ (r - q) * (r - q) := by
      have e : (r - q) * (r - q) = (q - r) * (q - r) := by grind
      rw [e]; exact Int.mul_nonneg (by omega) (by omega)
    have e : (2 * r - q) * q = r * r - (r - q) * (r - q) := by grind
    omega
  omega
theorem nwt_pos (hx : 0 < x) (hr : r ≤ q) (hq : 1 ≤ q) (h0 : 0 ≤ r) (h1 : r * r ≤ x) (h2 : x < (r + 1) * (r + 1)) : 1 ≤ (q + x.tdiv q) / 2 := by
  have h3 := nwt_step hx h0 h1 hr hq
  have : 1 ≤ r := by
    apply Classical.byContradiction
    intro hne
    have e : r = 0 := by omega
    subst e
    omega
  omega
end
theorem bd.down2 {n : Nat} {q z : Int} (A : bd n q) (h1 : z < q) (h0 : 0 ≤ z) : bd n z := by
  unfold bd at *
  omega
set_option maxHeartbeats 1600000 in
theorem root_neg {x : Int} (hx : x < 0) : CallOk 64 [KI x] (K2 (KI 0) (KV (.int .i64 1))) := by
  refine CallOk.enter (l := [.kw (KI x)]) 39 ce_root Try.func64 rfl Try.ntmps64 (by simp) ⟨KI.st _, rfl, trivial⟩ fun w => ?_
  refine SC.seq ?_
  refine SC.region ?_
  refine PW.box (x := .tmp 0) (r := .kw (KI (x))) (BI 28) rfl rfl rfl rfl rfl bI rfl sh_I ?_
  refine PW.alloc (BI 28) rfl rfl rfl rfl rfl bI ?_
  refine PW.assign rfl rfl rfl rfl rfl ?_
  refine PW.nil ?_
  refine SX.then ?_
  refine SC.seq ?_
  refine SC.seq ?_
  refine SC.region ?_
  refine PW.fld (r := .vl (.bool true)) rfl rfl rfl rfl rfl rfl rfl rfl rfl rfl rfl (fun v W p hh hk => by obtain ⟨q, u, h1, h2, h3⟩ := fldI0 v W p hh hk; exact ⟨q, u, h1, h2, by rw [h3]; show Value.bool _ = _; rw [decide_eq_true (by omega)]⟩) (KV.st _) ?_
  refine PW.nil ?_
  refine SX.then ?_
  refine SC.cond (t := true) rfl ?_
  refine SC.seq ?_
  refine SC.region ?_
  refine PW.val (r := .kw (KI (0))) rfl rfl rfl rfl (fun a W hf => ⟨.agg #[.bool false, .slice none 0 0], by go_simp, zeroI _ W W⟩) ?_
  refine PW.store (x := .tmp 11) (r := .kw (KI (0))) rfl rfl rfl rfl rfl rfl sh_I ?_
  refine PW.assign rfl rfl rfl rfl rfl ?_
  refine PW.nil ?_
  refine SX.then ?_
  refine SC.ret ?_
  refine SX.thenR ?_
  exact SX.done2 (s := 2) (t := 3) (r := .vl (.int .i64 1)) (.inl rfl) rfl rfl rfl rfl

set_option maxHeartbeats 1600000 in
theorem root_zero {x : Int} (hx : x = 0) : CallOk 64 [KI x] (K2 (KI x) (KV (.int .i64 0))) := by
  refine CallOk.enter (l := [.kw (KI x)]) 39 ce_root Try.func64 rfl Try.ntmps64 (by simp) ⟨KI.st _, rfl, trivial⟩ fun w => ?_
  refine SC.seq ?_
  refine SC.region ?_
  refine PW.box (x := .tmp 0) (r := .kw (KI (x))) (BI 28) rfl rfl rfl rfl rfl bI rfl sh_I ?_
  refine PW.alloc (BI 28) rfl rfl rfl rfl rfl bI ?_
  refine PW.assign rfl rfl rfl rfl rfl ?_
  refine PW.nil ?_
  refine SX.then ?_
  refine SC.seq ?_
  refine SC.seq ?_
  refine SC.region ?_
  refine PW.fld (r := .vl (.bool false)) rfl rfl rfl rfl rfl rfl rfl rfl rfl rfl rfl (fun v W p hh hk => by obtain ⟨q, u, h1, h2, h3⟩ := fldI0 v W p hh hk; exact ⟨q, u, h1, h2, by rw [h3]; show Value.bool _ = _; rw [decide_eq_false (by omega)]⟩) (KV.st _) ?_
  refine PW.nil ?_
  refine SX.then ?_
  refine SC.cond (t := false) rfl ?_
  refine SC.skip ?_
  refine SX.then ?_
  refine SC.seq ?_
  refine SC.seq ?_
  refine SC.region ?_
  refine PW.load rfl rfl rfl rfl rfl rfl ?_
  refine PW.call (r := .vl (.int .i64 0)) rfl rfl rfl rfl rfl rfl (KV.st _) rfl (k_sign (by subst hx; rfl)) ?_
  refine PW.q2 (x := .tmp 13) (y := .const (.int .i64 0)) (.bool true) rfl rfl rfl rfl rfl (fun ρ W h1 h2 => by go_simp) ?_
  refine PW.nil ?_
  refine SX.then ?_
  refine SC.cond (t := true) rfl ?_
  refine SC.seq ?_
  refine SC.region ?_
  refine PW.load rfl rfl rfl rfl rfl rfl ?_
  refine PW.store (x := .tmp 15) (r := .kw (KI (x))) rfl rfl rfl rfl rfl rfl sh_I ?_
  refine PW.assign rfl rfl rfl rfl rfl ?_
  refine PW.nil ?_
  refine SX.then ?_
  refine SC.ret ?_
  refine SX.thenR ?_
  exact SX.done2 (s := 2) (t := 3) (r := .vl (.int .i64 0)) (.inl rfl) rfl rfl rfl rfl

set_option maxHeartbeats 1600000 in
theorem root_pos {x r : Int} {n wl h : Nat} (X : bd n x) (hn : n ≤ 50000) (hx : 0 < x) (h0 : 0 ≤ r) (h1 : r * r ≤ x) (h2 : x < (r + 1) * (r + 1)) (hw : wid (pat x) = wl) (hh : (wl + 1) / 2 = h) (hwl : wl ≤ 32 * n) (hG : bd (n + 1) ((2 : Int) ^ h)) (hGr : r ≤ 2 ^ h) (hG1 : (1 : Int) ≤ 2 ^ h) : CallOk 64 [KI x] (K2 (KI r) (KV (.int .i64 0))) := by
  refine CallOk.enter (l := [.kw (KI x)]) 39 ce_root Try.func64 rfl Try.ntmps64 (by simp) ⟨KI.st _, rfl, trivial⟩ fun w => ?_
  refine SC.seq ?_
  refine SC.region ?_
  refine PW.box (x := .tmp 0) (r := .kw (KI (x))) (BI 28) rfl rfl rfl rfl rfl bI rfl sh_I ?_
  refine PW.alloc (BI 28) rfl rfl rfl rfl rfl bI ?_
  refine PW.assign rfl rfl rfl rfl rfl ?_
  refine PW.nil ?_
  refine SX.then ?_
  refine SC.seq ?_
  refine SC.seq ?_
  refine SC.region ?_
  refine PW.fld (r := .vl (.bool false)) rfl rfl rfl rfl rfl rfl rfl rfl rfl rfl rfl (fun v W p hh hk => by obtain ⟨q, u, h1, h2, h3⟩ := fldI0 v W p hh hk; exact ⟨q, u, h1, h2, by rw [h3]; show Value.bool _ = _; rw [decide_eq_false (by omega)]⟩) (KV.st _) ?_
  refine PW.nil ?_
  refine SX.then ?_
  refine SC.cond (t := false) rfl ?_
  refine SC.skip ?_
  refine SX.then ?_
  refine SC.seq ?_
  refine SC.seq ?_
  refine SC.region ?_
  refine PW.load rfl rfl rfl rfl rfl rfl ?_
  refine PW.call (r := .vl (.int .i64 1)) rfl rfl rfl rfl rfl rfl (KV.st _) rfl (k_sign (sgn_one hx)) ?_
  refine PW.q2 (x := .tmp 13) (y := .const (.int .i64 0)) (.bool false) rfl rfl rfl rfl rfl (fun ρ W h1 h2 => by go_simp) ?_
  refine PW.nil ?_
  refine SX.then ?_
  refine SC.cond (t := false) rfl ?_
  refine SC.skip ?_
  refine SX.then ?_
  refine SC.seq ?_
  refine SC.dx [.val 16 (.kw (KI (1))), .val 17 (.kw (KI (x))), .val 18 (.vl (.int .i64 (wl : Int))), .val 19 (.vl (.int .i64 ((wl : Int) + 1))), .val 20 (.vl (.int .i64 (h : Int))), .val 21 (.kw (KI ((2 : Int) ^ h))), .new 4 (BI 28), .put 4 (BI 28) (.kw (KI ((2 : Int) ^ h)))] [([], []), ([], [1]), ([1], []), ([2], []), ([3], []), ([0, 4], []), ([], []), ([6, 5], [])] rfl (by kernel_rfl) (by kernel_rfl) (by kernel_rfl) rfl ⟨?_, ?_, ?_, ?_, ?_, ?_, ?_, ?_, trivial⟩ ?_
  · exact DX.call (r := .kw (KI (1))) rfl rfl rfl rfl rfl rfl (KI.st _) rfl (k_new (by decide))
  · exact DX.load rfl rfl rfl rfl rfl rfl
  · exact DX.call (r := .vl (.int .i64 (wl : Int))) rfl rfl rfl rfl rfl rfl (KV.st _) rfl (k_len X (by first | decide | omega) (by rw [hw]))
  · exact DX.q2 (x := .tmp 18) (y := .const (.int .i64 1)) (.int .i64 ((wl : Int) + 1)) rfl rfl rfl rfl rfl (fun ρ W h1 h2 => by first | (go_simp; done) | (go_simp; exact IntWalk.i64_in _ (by omega)) | (go_simp; exact Int.tmod_eq_emod_of_nonneg (by omega)) | (go_simp; exact Int.tdiv_eq_ediv_of_nonneg (by omega)) | (go_simp; exact (IntWalk.i64_in _ (by omega)).trans (by omega)) | (go_simp; rw [Int.tmod_eq_emod_of_nonneg (by omega)]; exact IntWalk.i64_in _ (by omega)) | (go_simp; omega))
  · exact DX.q2 (x := .tmp 19) (y := .const (.int .i64 2)) (.int .i64 (h : Int)) rfl rfl rfl rfl rfl (fun ρ W h1 h2 => by exact r_quo h1 h2 (by omega) (by omega) (by decide))
  · exact DX.call (r := .kw (KI ((2 : Int) ^ h))) rfl rfl rfl rfl rfl rfl (KI.st _) rfl (sh1 h ▸ k_shift (bd.lit (by decide)) (by decide) (by omega) (by omega))
  · exact DX.alloc (BI 28) rfl rfl rfl rfl bI rfl
  · exact DX.store (x := .tmp 21) (r := .kw (KI ((2 : Int) ^ h))) rfl rfl rfl rfl rfl rfl sh_I
  refine SX.then ?_
  refine SC.block ?_
  refine SC.loop (S := Int) (fun q => [(1, .bx (BI 28) (KI (x))), (2, .nb (BI 28)), (3, .vl (.int .i64 0)), (4, .bx (BI 28) (KI (q)))]) (fun q => r ≤ q ∧ 1 ≤ q ∧ bd (n + 1) q) (fun q => q.toNat) ((2 : Int) ^ h) ⟨hGr, hG1, hG⟩ ⟨rfl, rfl, rfl, rfl, trivial⟩ ?_
  rintro q ⟨hi1, hi2, A⟩
  refine SC.block ?_
  refine SC.seq ?_
  refine SC.region ?_
  refine PW.load rfl rfl rfl rfl rfl rfl ?_
  refine PW.load rfl rfl rfl rfl rfl rfl ?_
  refine PW.call (r := .kw (K3 (KI (x.tdiv q)) (KI (x.tmod q)) (KV (.int .i64 0)))) rfl rfl rfl rfl rfl rfl (K3.st (KI.st _) (KI.st _) (KV.st _)) rfl (k_div X (by omega) (by omega)) ?_
  refine PW.move rfl rfl rfl rfl rfl ?_
  refine PW.ext (r := .kw (KI (x.tdiv q))) rfl rfl rfl rfl rfl ex30 (KI.st _) rfl ?_
  refine PW.ext (r := .kw (KI (x.tmod q))) rfl rfl rfl rfl rfl ex31 (KI.st _) rfl ?_
  refine PW.ext (r := .vl (.int .i64 0)) rfl rfl rfl rfl rfl ex32v (KV.st _) rfl ?_
  refine PW.alloc (BI 28) rfl rfl rfl rfl rfl bI ?_
  refine PW.alloc (BI 28) rfl rfl rfl rfl rfl bI ?_
  refine PW.store (x := .tmp 26) (r := .kw (KI (x.tdiv q))) rfl rfl rfl rfl rfl rfl sh_I ?_
  refine PW.store (x := .tmp 27) (r := .kw (KI (x.tmod q))) rfl rfl rfl rfl rfl rfl sh_I ?_
  refine PW.assign rfl rfl rfl rfl rfl ?_
  refine PW.nil ?_
  refine SX.then ?_
  refine SC.seq ?_
  refine SC.region ?_
  refine PW.load rfl rfl rfl rfl rfl rfl ?_
  refine PW.load rfl rfl rfl rfl rfl rfl ?_
  refine PW.call (r := .kw (KI (q + (x.tdiv q)))) rfl rfl rfl rfl rfl rfl (KI.st _) rfl (k_add A X.tdiv (by first | decide | omega) (by first | decide | omega)) ?_
  refine PW.call (r := .kw (KI ((q + x.tdiv q) / 2))) rfl rfl rfl rfl rfl rfl (KI.st _) rfl (half_eq (q + x.tdiv q) ▸ k_shift (A.add X.tdiv) (by omega) (by omega) (by omega)) ?_
  refine PW.alloc (BI 28) rfl rfl rfl rfl rfl bI ?_
  refine PW.store (x := .tmp 32) (r := .kw (KI ((q + x.tdiv q) / 2))) rfl rfl rfl rfl rfl rfl sh_I ?_
  refine PW.nil ?_
  refine SX.then ?_
  refine SC.seq ?_
  refine SC.seq ?_
  by_cases hc : q ≤ (q + x.tdiv q) / 2
  · obtain rfl : q = r := nwt_end hx h0 hi1 hi2 h2 hc
    refine SC.region ?_
    refine PW.load rfl rfl rfl rfl rfl rfl ?_
    refine PW.load rfl rfl rfl rfl rfl rfl ?_
    refine PW.call (r := .vl (.int .i64 (cmp ((q + x.tdiv q) / 2) q))) rfl rfl rfl rfl rfl rfl (KV.st _) rfl (k_cmp (rfl)) ?_
    refine PW.q2 (x := .tmp 35) (y := .const (.int .i64 0)) (.bool true) rfl rfl rfl rfl rfl (fun ρ W h1 h2 => by exact r_ge h1 h2 (decide_eq_true (cmp_ge0 hc))) ?_
    refine PW.nil ?_
    refine SX.then ?_
    refine SC.cond (t := true) rfl ?_
    refine SC.seq ?_
    refine SC.region ?_
    refine PW.load rfl rfl rfl rfl rfl rfl ?_
    refine PW.store (x := .tmp 37) (r := .kw (KI (q))) rfl rfl rfl rfl rfl rfl sh_I ?_
    refine PW.assign rfl rfl rfl rfl rfl ?_
    refine PW.nil ?_
    refine SX.then ?_
    refine SC.ret ?_
    refine SX.thenR ?_
    refine SX.blockR ?_
    refine SX.thenR ?_
    refine SX.blockR ?_
    exact SX.done2 (s := 2) (t := 3) (r := .vl (.int .i64 0)) (.inl rfl) rfl rfl rfl rfl
  · refine SC.region ?_
    refine PW.load rfl rfl rfl rfl rfl rfl ?_
    refine PW.load rfl rfl rfl rfl rfl rfl ?_
    refine PW.call (r := .vl (.int .i64 (-1))) rfl rfl rfl rfl rfl rfl (KV.st _) rfl (k_cmp (cmp_lt (by omega))) ?_
    refine PW.q2 (x := .tmp 35) (y := .const (.int .i64 0)) (.bool false) rfl rfl rfl rfl rfl (fun ρ W h1 h2 => by go_simp) ?_
    refine PW.nil ?_
    refine SX.then ?_
    refine SC.cond (t := false) rfl ?_
    refine SC.skip ?_
    refine SX.then ?_
    refine SC.region ?_
    refine PW.load rfl rfl rfl rfl rfl rfl ?_
    refine PW.store (x := .tmp 38) (r := .kw (KI ((q + x.tdiv q) / 2))) rfl rfl rfl rfl rfl rfl sh_I ?_
    refine PW.nil ?_
    refine SX.blockN ?_
    refine SX.back ((q + x.tdiv q) / 2) ?_ ?_ ?_
    · exact ⟨nwt_step hx h0 h1 hi1 hi2, nwt_pos hx hi1 hi2 h0 h1 h2, bd.down2 A (by omega) (Int.le_trans h0 (nwt_step hx h0 h1 hi1 hi2))⟩
    · exact (show ((q + x.tdiv q) / 2).toNat < q.toNat by omega)
    · exact ⟨rfl, rfl, rfl, rfl, trivial⟩

/-- Root, with the number that it gives. -/
theorem k_root {x r : Int} {n : Nat} (X : bd n x) (hn : n ≤ 50000) (h0 : 0 ≤ r) (h1 : r * r ≤ x) (h2 : x < (r + 1) * (r + 1)) : CallOk 64 [KI x] (K2 (KI r) (KV (.int .i64 0))) := by
  have hrr := Int.mul_nonneg h0 h0
  by_cases hx : x = 0
  · have hr : r = 0 := by
      apply Classical.byContradiction
      intro hne
      have := Int.mul_pos (show 0 < r by omega) (show 0 < r by omega)
      omega
    have := root_zero hx
    rw [hx] at this ⊢
    rw [hr]
    exact this
  · have hx' : 0 < x := by omega
    have hp : pat x = x := by unfold pat; rw [if_neg (by omega)]
    have hb := bd2.1 X
    have hwl : wid (pat x) ≤ 32 * n := by rw [hp]; exact wid_le_of hb.2
    have hlt := wid_lt x
    have hG1 : (1 : Int) ≤ 2 ^ ((wid (pat x) + 1) / 2) := Int.pow_pos (by decide)
    refine root_pos X hn hx' h0 h1 h2 rfl rfl hwl ?_ ?_ hG1
    · rw [bd2]
      have a1 := pow_le (b := 2) (by decide) (show (wid (pat x) + 1) / 2 + 1 ≤ 32 * (n + 1) by omega)
      rw [Int.pow_succ] at a1
      omega
    · apply Classical.byContradiction
      intro hne
      have a1 := sq_mono (show (0 : Int) ≤ 2 ^ ((wid (pat x) + 1) / 2) by omega) (show (2 : Int) ^ ((wid (pat x) + 1) / 2) ≤ r by omega)
      rw [← Int.pow_add] at a1
      have a2 := pow_le (b := 2) (by decide) (show wid x ≤ (wid (pat x) + 1) / 2 + (wid (pat x) + 1) / 2 by rw [hp]; omega)
      omega
/-- There is such a number. -/
theorem root_ex : ∀ (m : Nat), ∃ r : Int, 0 ≤ r ∧ r * r ≤ (m : Int) ∧ (m : Int) < (r + 1) * (r + 1)
  | 0 => ⟨0, by decide, by decide, by decide⟩
  | m + 1 => by
    obtain ⟨r, h0, h1, h2⟩ := root_ex m
    by_cases h : ((m + 1 : Nat) : Int) < (r + 1) * (r + 1)
    · exact ⟨r, h0, by omega, h⟩
    · refine ⟨r + 1, by omega, by omega, ?_⟩
      have : (r + 1 + 1) * (r + 1 + 1) = (r + 1) * (r + 1) + 2 * r + 3 := by grind
      omega
end Go.Proofs.Ytcgkgcciogibkaa.Sy
/- IntegerRoots: the law behind its first statements, by rules. -/
set_option linter.unusedVariables false
set_option linter.unusedSimpArgs false
namespace Go.Proofs.Ytcgkgcciogibkaa.Sy
open Go Go.RowKit Ma
theorem bd.pw {x : Int} (X : bd 6 x) {n : Nat} (hn : n ≤ 14) : bd 85 (x ^ n) := by
  have h0 : x.natAbs ≤ 4294967296 ^ 6 := by
    have e : (b32 : Int) ^ 6 = ((4294967296 ^ 6 : Nat) : Int) := by rw [Int.natCast_pow]; rfl
    unfold bd at X
    rw [e] at X
    omega
  have h1 : x.natAbs ^ n ≤ (4294967296 ^ 6) ^ n := Nat.pow_le_pow_left h0 n
  have h2 : (4294967296 ^ 6) ^ n ≤ 4294967296 ^ 84 := by rw [← Nat.pow_mul]; exact Nat.pow_le_pow_right (by decide) (by omega)
  have h3 : 4294967296 ^ 84 < 4294967296 ^ 85 := Nat.pow_lt_pow_right (by decide) (by decide)
  have h4 : (x ^ n).natAbs < 4294967296 ^ 85 := by rw [Int.natAbs_pow]; omega
  have e : (b32 : Int) ^ 85 = ((4294967296 ^ 85 : Nat) : Int) := by rw [Int.natCast_pow]; rfl
  unfold bd
  rw [e]
  omega
theorem wid_bd {z : Int} {a m : Nat} (h : bd a z) (hm : 32 * a ≤ m) : wid (pat z) ≤ m := by
  have := wid_le_of (z := pat z) (n := 32 * a) (by have := bd2.1 h; unfold pat; split <;> omega)
  omega
theorem sq_abs (x : Int) : (x.natAbs : Int) * (x.natAbs : Int) ≤ x * x ∧ x * x < ((x.natAbs : Int) + 1) * ((x.natAbs : Int) + 1) := by
  have e : (x.natAbs : Int) * (x.natAbs : Int) = x * x := Int.natAbs_mul_self
  rw [← e]
  refine ⟨Int.le_refl _, ?_⟩
  have : ((x.natAbs : Int) + 1) * ((x.natAbs : Int) + 1) = (x.natAbs : Int) * (x.natAbs : Int) + 2 * (x.natAbs : Int) + 1 := by grind
  omega
theorem bd.root {x r : Int} {n : Nat} (X : bd n x) (h0 : 0 ≤ r) (h1 : r * r ≤ x) : bd n r := by
  have h2 : r ≤ r * r := by
    by_cases h : r = 0
    · subst h; decide
    · have := Int.mul_le_mul_of_nonneg_right (show 1 ≤ r by omega) h0
      omega
  unfold bd at *
  omega
theorem sgn_m1 {x : Int} (h : x < 0) : sgn x = -1 := by unfold sgn; rw [if_pos h]
theorem sgn_nn {x : Int} (h : ¬ x < 0) : ¬ sgn x < 0 := by unfold sgn; rw [if_neg h]; split <;> decide
theorem cmp_le0 {a b : Int} (h : a ≤ b) : cmp a b ≤ 0 := by
  unfold cmp
  by_cases h1 : a < b
  · rw [if_pos h1]; decide
  · rw [if_neg h1, if_pos (by omega)]; decide
set_option maxHeartbeats 6400000 in
set_option maxRecDepth 100000 in
theorem roots_body {x : Int} {mm nn i k : Nat} {w0 : World} (X : bd 6 x) (hm : mm ≤ 255) (hn : nn ≤ 255) (hi : mm % 8 = i) (hk : nn % 8 = k) :
    SC w0.heap.size 120 w0 (restOf 3 Try.f13) [(1, .vl (.int .u8 (mm : Int))), (2, .vl (.int .u8 (nn : Int))), (6, .vl (.bool false)), (7, .bx (BI 28) (KI (x)))] (bodyPost Try.prog Try.f13 (Ret w0 (KV (.bool true)))) := by
  conv => arg 4; whnf
  refine SC.seq ?_
  refine SC.region ?_
  refine PW.move rfl rfl rfl rfl rfl ?_
  refine PW.q2 (x := .tmp 29) (y := .const (.int .u8 8)) (.int .u8 (i : Int)) rfl rfl rfl rfl rfl (fun ρ W h1 h2 => by have ht : Int.tmod (mm : Int) 8 = (i : Int) := (by (rw [Int.tmod_eq_emod_of_nonneg (by omega)]; omega)); go_simp; first | done | exact IntWalk.u8_in _ (by omega)) ?_
  refine PW.q1 (x := .tmp 30) (.int .i64 (i : Int)) rfl rfl rfl rfl (fun ρ W h1 => by first | (go_simp; done) | (go_simp; exact IntWalk.i64_in _ (by omega)) | (go_simp; exact Int.tmod_eq_emod_of_nonneg (by omega)) | (go_simp; exact Int.tdiv_eq_ediv_of_nonneg (by omega)) | (go_simp; exact (IntWalk.i64_in _ (by omega)).trans (by omega)) | (go_simp; rw [Int.tmod_eq_emod_of_nonneg (by omega)]; exact IntWalk.i64_in _ (by omega)) | (go_simp; omega)) ?_
  refine PW.move rfl rfl rfl rfl rfl ?_
  refine PW.q2 (x := .tmp 32) (y := .const (.int .u8 8)) (.int .u8 (k : Int)) rfl rfl rfl rfl rfl (fun ρ W h1 h2 => by have ht : Int.tmod (nn : Int) 8 = (k : Int) := (by (rw [Int.tmod_eq_emod_of_nonneg (by omega)]; omega)); go_simp; first | done | exact IntWalk.u8_in _ (by omega)) ?_
  refine PW.q1 (x := .tmp 33) (.int .i64 (k : Int)) rfl rfl rfl rfl (fun ρ W h1 => by first | (go_simp; done) | (go_simp; exact IntWalk.i64_in _ (by omega)) | (go_simp; exact Int.tmod_eq_emod_of_nonneg (by omega)) | (go_simp; exact Int.tdiv_eq_ediv_of_nonneg (by omega)) | (go_simp; exact (IntWalk.i64_in _ (by omega)).trans (by omega)) | (go_simp; rw [Int.tmod_eq_emod_of_nonneg (by omega)]; exact IntWalk.i64_in _ (by omega)) | (go_simp; omega)) ?_
  refine PW.assign rfl rfl rfl rfl rfl ?_
  refine PW.assign rfl rfl rfl rfl rfl ?_
  refine PW.nil ?_
  refine SX.then ?_
  refine SC.seq ?_
  refine SC.region ?_
  refine PW.load rfl rfl rfl rfl rfl rfl ?_
  refine PW.move rfl rfl rfl rfl rfl ?_
  refine PW.call (r := .kw (K2 (KI (x ^ i)) (KV (.int .i64 0)))) rfl rfl rfl rfl rfl rfl (K2.st (KI.st _) (KV.st _)) rfl (k_power_ok (n := i) X (by decide) (by omega) (wid_bd (bd.pw X (by omega)) (by decide))) ?_
  refine PW.move rfl rfl rfl rfl rfl ?_
  refine PW.ext (r := .kw (KI (x ^ i))) rfl rfl rfl rfl rfl ex20 (KI.st _) rfl ?_
  refine PW.ext (r := .vl (.int .i64 0)) rfl rfl rfl rfl rfl ex21v (KV.st _) rfl ?_
  refine PW.alloc (BI 28) rfl rfl rfl rfl rfl bI ?_
  refine PW.store (x := .tmp 39) (r := .kw (KI (x ^ i))) rfl rfl rfl rfl rfl rfl sh_I ?_
  refine PW.assign rfl rfl rfl rfl rfl ?_
  refine PW.nil ?_
  refine SX.then ?_
  refine SC.seq ?_
  refine SC.region ?_
  refine PW.load rfl rfl rfl rfl rfl rfl ?_
  refine PW.move rfl rfl rfl rfl rfl ?_
  refine PW.call (r := .kw (K2 (KI (x ^ k)) (KV (.int .i64 0)))) rfl rfl rfl rfl rfl rfl (K2.st (KI.st _) (KV.st _)) rfl (k_power_ok (n := k) X (by decide) (by omega) (wid_bd (bd.pw X (by omega)) (by decide))) ?_
  refine PW.move rfl rfl rfl rfl rfl ?_
  refine PW.ext (r := .kw (KI (x ^ k))) rfl rfl rfl rfl rfl ex20 (KI.st _) rfl ?_
  refine PW.ext (r := .vl (.int .i64 0)) rfl rfl rfl rfl rfl ex21v (KV.st _) rfl ?_
  refine PW.alloc (BI 28) rfl rfl rfl rfl rfl bI ?_
  refine PW.store (x := .tmp 45) (r := .kw (KI (x ^ k))) rfl rfl rfl rfl rfl rfl sh_I ?_
  refine PW.assign rfl rfl rfl rfl rfl ?_
  refine PW.nil ?_
  refine SX.then ?_
  refine SC.seq ?_
  refine SC.region ?_
  refine PW.load rfl rfl rfl rfl rfl rfl ?_
  refine PW.move rfl rfl rfl rfl rfl ?_
  refine PW.move rfl rfl rfl rfl rfl ?_
  refine PW.q2 (x := .tmp 49) (y := .tmp 50) (.int .i64 ((i + k : Nat) : Int)) rfl rfl rfl rfl rfl (fun ρ W h1 h2 => by exact r_add h1 h2 (by omega) (by omega)) ?_
  refine PW.call (r := .kw (K2 (KI (x ^ (i + k))) (KV (.int .i64 0)))) rfl rfl rfl rfl rfl rfl (K2.st (KI.st _) (KV.st _)) rfl (k_power_ok (n := i + k) X (by decide) (by omega) (wid_bd (bd.pw X (by omega)) (by decide))) ?_
  refine PW.move rfl rfl rfl rfl rfl ?_
  refine PW.ext (r := .kw (KI (x ^ (i + k)))) rfl rfl rfl rfl rfl ex20 (KI.st _) rfl ?_
  refine PW.ext (r := .vl (.int .i64 0)) rfl rfl rfl rfl rfl ex21v (KV.st _) rfl ?_
  refine PW.alloc (BI 28) rfl rfl rfl rfl rfl bI ?_
  refine PW.store (x := .tmp 53) (r := .kw (KI (x ^ (i + k)))) rfl rfl rfl rfl rfl rfl sh_I ?_
  refine PW.assign rfl rfl rfl rfl rfl ?_
  refine PW.nil ?_
  refine SX.then ?_
  refine SC.seq ?_
  refine SC.region ?_
  refine PW.load rfl rfl rfl rfl rfl rfl ?_
  refine PW.load rfl rfl rfl rfl rfl rfl ?_
  refine PW.call (r := .kw (KI (x * x))) rfl rfl rfl rfl rfl rfl (KI.st _) rfl (k_mul X X (by first | decide | omega) (by first | decide | omega)) ?_
  refine PW.call (r := .kw (K2 (KI ((x.natAbs : Int))) (KV (.int .i64 0)))) rfl rfl rfl rfl rfl rfl (K2.st (KI.st _) (KV.st _)) rfl (k_root (X.mul X) (by decide) (by omega) (sq_abs x).1 (sq_abs x).2) ?_
  refine PW.move rfl rfl rfl rfl rfl ?_
  refine PW.ext (r := .kw (KI ((x.natAbs : Int)))) rfl rfl rfl rfl rfl ex20 (KI.st _) rfl ?_
  refine PW.ext (r := .vl (.int .i64 0)) rfl rfl rfl rfl rfl ex21v (KV.st _) rfl ?_
  refine PW.alloc (BI 28) rfl rfl rfl rfl rfl bI ?_
  refine PW.store (x := .tmp 60) (r := .kw (KI ((x.natAbs : Int)))) rfl rfl rfl rfl rfl rfl sh_I ?_
  refine PW.assign rfl rfl rfl rfl rfl ?_
  refine PW.nil ?_
  refine SX.then ?_
  refine SC.seq ?_
  refine SC.seq ?_
  refine SC.dx [.val 62 (.vl (.int .i64 0)), .val 63 (.vl (.int .i64 0)), .val 64 (.vl (.int .i64 0)), .val 65 (.vl (.int .i64 0)), .val 66 (.vl (.int .i64 0)), .val 67 (.vl (.bool false)), .val 68 (.vl (.bool false)), .val 69 (.kw (KI (x ^ i))), .val 70 (.kw (KI (x ^ k))), .val 71 (.kw (KI ((x ^ i) * (x ^ k)))), .val 72 (.kw (KI (x ^ (i + k)))), .val 73 (.vl (.bool true)), .val 74 (.vl (.bool false)), .val 75 (.vl (.bool false)), .val 76 (.vl (.bool false)), .val 77 (.kw (KI ((x.natAbs : Int)))), .val 78 (.kw (KI (x))), .val 79 (.kw (KI ((x.natAbs : Int)))), .val 80 (.vl (.bool true)), .val 81 (.vl (.bool false)), .val 82 (.vl (.bool false))] [([], [11]), ([], [13]), ([], [15]), ([], [17]), ([0, 1, 2, 3], []), ([4], []), ([5], []), ([6], [10]), ([6], [12]), ([7, 8, 6], []), ([6], [14]), ([9, 10, 6], []), ([11, 6], []), ([6, 12], []), ([13], []), ([14], [16]), ([14], [7]), ([16, 14], []), ([15, 17, 14], []), ([18, 14], []), ([14, 19], [])] rfl (by kernel_rfl) (by kernel_rfl) (by kernel_rfl) rfl ⟨?_, ?_, ?_, ?_, ?_, ?_, ?_, ?_, ?_, ?_, ?_, ?_, ?_, ?_, ?_, ?_, ?_, ?_, ?_, ?_, ?_, trivial⟩ ?_
  · exact DX.move rfl rfl rfl rfl rfl rfl
  · exact DX.move rfl rfl rfl rfl rfl rfl
  · exact DX.move rfl rfl rfl rfl rfl rfl
  · exact DX.move rfl rfl rfl rfl rfl rfl
  · exact DX.qn [(.tmp 62, .int .i64 0), (.tmp 63, .int .i64 0), (.tmp 64, .int .i64 0), (.tmp 65, .int .i64 0)] (.int .i64 0) rfl rfl rfl ⟨rfl, rfl, rfl, rfl, trivial⟩ (fun ρ W h => by obtain ⟨h1, h2, h3, h4, _⟩ := h; go_simp; kernel_rfl)
  · exact DX.q2 (x := .tmp 66) (y := .const (.int .i64 0)) (.bool false) rfl rfl rfl rfl rfl (fun ρ W h1 h2 => by go_simp)
  · exact DX.move rfl rfl rfl rfl rfl rfl
  · exact DX.load rfl rfl rfl rfl rfl rfl
  · exact DX.load rfl rfl rfl rfl rfl rfl
  · exact DX.call (r := .kw (KI ((x ^ i) * (x ^ k)))) rfl rfl rfl rfl rfl rfl (KI.st _) rfl (k_mul (bd.pw X (n := i) (by omega)) (bd.pw X (n := k) (by omega)) (by first | decide | omega) (by first | decide | omega))
  · exact DX.load rfl rfl rfl rfl rfl rfl
  · exact DX.call (r := .vl (.bool true)) rfl rfl rfl rfl rfl rfl (KV.st _) rfl (k_same (Int.pow_add x i k).symm)
  · exact DX.q1 (x := .tmp 73) (.bool false) rfl rfl rfl rfl (fun ρ W h1 => by go_simp)
  · exact DX.pick (t := false) rfl rfl rfl rfl rfl rfl rfl
  · exact DX.move rfl rfl rfl rfl rfl rfl
  · exact DX.load rfl rfl rfl rfl rfl rfl
  · exact DX.load rfl rfl rfl rfl rfl rfl
  · exact DX.call (r := .kw (KI ((x.natAbs : Int)))) rfl rfl rfl rfl rfl rfl (KI.st _) rfl (k_abs)
  · exact DX.call (r := .vl (.bool true)) rfl rfl rfl rfl rfl rfl (KV.st _) rfl (k_same rfl)
  · exact DX.q1 (x := .tmp 80) (.bool false) rfl rfl rfl rfl (fun ρ W h1 => by go_simp)
  · exact DX.pick (t := false) rfl rfl rfl rfl rfl rfl rfl
  refine SX.then ?_
  refine SC.cond (t := false) rfl ?_
  refine SC.skip ?_
  refine SX.then ?_
  refine SC.seq ?_
  by_cases hx : x < 0
  · refine SC.region ?_
    refine PW.load rfl rfl rfl rfl rfl rfl ?_
    refine PW.call (r := .kw (K2 (KI (0)) (KV (.int .i64 1)))) rfl rfl rfl rfl rfl rfl (K2.st (KI.st _) (KV.st _)) rfl (root_neg hx) ?_
    refine PW.move rfl rfl rfl rfl rfl ?_
    refine PW.ext (r := .kw (KI (0))) rfl rfl rfl rfl rfl ex20 (KI.st _) rfl ?_
    refine PW.ext (r := .vl (.int .i64 1)) rfl rfl rfl rfl rfl ex21v (KV.st _) rfl ?_
    refine PW.store (x := .tmp 86) (r := .kw (KI (0))) rfl rfl rfl rfl rfl rfl sh_I ?_
    refine PW.assign rfl rfl rfl rfl rfl ?_
    refine PW.nil ?_
    refine SX.then ?_
    refine SC.seq ?_
    refine SC.seq ?_
    refine SC.region ?_
    refine PW.load rfl rfl rfl rfl rfl rfl ?_
    refine PW.call (r := .vl (.int .i64 (-1))) rfl rfl rfl rfl rfl rfl (KV.st _) rfl (k_sign (sgn_m1 hx)) ?_
    refine PW.q2 (x := .tmp 89) (y := .const (.int .i64 0)) (.bool true) rfl rfl rfl rfl rfl (fun ρ W h1 h2 => by go_simp) ?_
    refine PW.nil ?_
    refine SX.then ?_
    refine SC.cond (t := true) rfl ?_
    refine SC.seq ?_
    refine SC.region ?_
    refine PW.move rfl rfl rfl rfl rfl ?_
    refine PW.q2 (x := .tmp 91) (y := .const (.int .i64 1)) (.bool true) rfl rfl rfl rfl rfl (fun ρ W h1 h2 => by go_simp) ?_
    refine PW.move rfl rfl rfl rfl rfl ?_
    refine PW.call (r := .vl (.bool true)) rfl rfl rfl rfl rfl rfl (KV.st _) rfl (k_awake) ?_
    refine PW.pick (t := true) rfl rfl rfl rfl rfl rfl ?_
    refine PW.assign rfl rfl rfl rfl rfl ?_
    refine PW.nil ?_
    refine SX.then ?_
    refine SC.ret ?_
    refine SX.thenR ?_
    exact SX.done (r := .vl (.bool true)) rfl rfl rfl
  · obtain ⟨r, r0, r1, r2⟩ := root_ex x.toNat
    rw [Int.toNat_of_nonneg (by omega)] at r1 r2
    refine SC.region ?_
    refine PW.load rfl rfl rfl rfl rfl rfl ?_
    refine PW.call (r := .kw (K2 (KI (r)) (KV (.int .i64 0)))) rfl rfl rfl rfl rfl rfl (K2.st (KI.st _) (KV.st _)) rfl (k_root X (by decide) r0 r1 r2) ?_
    refine PW.move rfl rfl rfl rfl rfl ?_
    refine PW.ext (r := .kw (KI (r))) rfl rfl rfl rfl rfl ex20 (KI.st _) rfl ?_
    refine PW.ext (r := .vl (.int .i64 0)) rfl rfl rfl rfl rfl ex21v (KV.st _) rfl ?_
    refine PW.store (x := .tmp 86) (r := .kw (KI (r))) rfl rfl rfl rfl rfl rfl sh_I ?_
    refine PW.assign rfl rfl rfl rfl rfl ?_
    refine PW.nil ?_
    refine SX.then ?_
    refine SC.seq ?_
    refine SC.seq ?_
    refine SC.region ?_
    refine PW.load rfl rfl rfl rfl rfl rfl ?_
    refine PW.call (r := .vl (.int .i64 (sgn x))) rfl rfl rfl rfl rfl rfl (KV.st _) rfl (k_sign (rfl)) ?_
    refine PW.q2 (x := .tmp 89) (y := .const (.int .i64 0)) (.bool false) rfl rfl rfl rfl rfl (fun ρ W h1 h2 => by exact r_lt h1 h2 (decide_eq_false (sgn_nn hx))) ?_
    refine PW.nil ?_
    refine SX.then ?_
    refine SC.cond (t := false) rfl ?_
    refine SC.skip ?_
    refine SX.then ?_
    refine SC.seq ?_
    refine SC.dx [.val 96 (.kw (KI (r))), .val 97 (.kw (KI (1))), .val 98 (.kw (KI (r + 1))), .new 18 (BI 28), .put 18 (BI 28) (.kw (KI (r + 1)))] [([], [16]), ([], []), ([0, 1], []), ([], []), ([3, 2], [])] rfl (by kernel_rfl) (by kernel_rfl) (by kernel_rfl) rfl ⟨?_, ?_, ?_, ?_, ?_, trivial⟩ ?_
    · exact DX.load rfl rfl rfl rfl rfl rfl
    · exact DX.call (r := .kw (KI (1))) rfl rfl rfl rfl rfl rfl (KI.st _) rfl (k_new (by decide))
    · exact DX.call (r := .kw (KI (r + 1))) rfl rfl rfl rfl rfl rfl (KI.st _) rfl (k_add (bd.root X r0 r1) (bd.lit (by decide)) (by first | decide | omega) (by first | decide | omega))
    · exact DX.alloc (BI 28) rfl rfl rfl rfl bI rfl
    · exact DX.store (x := .tmp 98) (r := .kw (KI (r + 1))) rfl rfl rfl rfl rfl rfl sh_I
    refine SX.then ?_
    refine SC.seq ?_
    refine SC.dx [.val 99 (.vl (.int .i64 0)), .val 100 (.vl (.bool true)), .val 101 (.vl (.bool true)), .val 102 (.kw (KI (r))), .val 103 (.kw (KI (r))), .val 104 (.kw (KI (r * r))), .val 105 (.kw (KI (x))), .val 106 (.vl (.int .i64 (cmp (r * r) x))), .val 107 (.vl (.bool true)), .val 108 (.vl (.bool true)), .val 109 (.vl (.bool true)), .val 110 (.kw (KI (x))), .val 111 (.kw (KI (r + 1))), .val 112 (.kw (KI (r + 1))), .val 113 (.kw (KI ((r + 1) * (r + 1)))), .val 114 (.vl (.int .i64 (-1))), .val 115 (.vl (.bool true)), .val 116 (.vl (.bool true)), .val 117 (.vl (.bool true)), .val 118 (.vl (.bool true)), .val 119 (.vl (.bool true)), .val 6 (.vl (.bool true))] [([], [11]), ([0], []), ([1], []), ([2], [16]), ([2], [16]), ([3, 4, 2], []), ([2], [7]), ([5, 6, 2], []), ([7, 2], []), ([2, 8], []), ([9], []), ([10], [7]), ([10], [18]), ([10], [18]), ([12, 13, 10], []), ([11, 14, 10], []), ([15, 10], []), ([10, 16], []), ([17], []), ([18], []), ([18, 19], []), ([20], [])] rfl (by kernel_rfl) (by kernel_rfl) (by kernel_rfl) rfl ⟨?_, ?_, ?_, ?_, ?_, ?_, ?_, ?_, ?_, ?_, ?_, ?_, ?_, ?_, ?_, ?_, ?_, ?_, ?_, ?_, ?_, ?_, trivial⟩ ?_
    · exact DX.move rfl rfl rfl rfl rfl rfl
    · exact DX.q2 (x := .tmp 99) (y := .const (.int .i64 0)) (.bool true) rfl rfl rfl rfl rfl (fun ρ W h1 h2 => by go_simp)
    · exact DX.move rfl rfl rfl rfl rfl rfl
    · exact DX.load rfl rfl rfl rfl rfl rfl
    · exact DX.load rfl rfl rfl rfl rfl rfl
    · exact DX.call (r := .kw (KI (r * r))) rfl rfl rfl rfl rfl rfl (KI.st _) rfl (k_mul (bd.root X r0 r1) (bd.root X r0 r1) (by first | decide | omega) (by first | decide | omega))
    · exact DX.load rfl rfl rfl rfl rfl rfl
    · exact DX.call (r := .vl (.int .i64 (cmp (r * r) x))) rfl rfl rfl rfl rfl rfl (KV.st _) rfl (k_cmp (rfl))
    · exact DX.q2 (x := .tmp 106) (y := .const (.int .i64 0)) (.bool true) rfl rfl rfl rfl rfl (fun ρ W h1 h2 => by exact r_le h1 h2 (decide_eq_true (cmp_le0 r1)))
    · exact DX.pick (t := true) rfl rfl rfl rfl rfl rfl rfl
    · exact DX.move rfl rfl rfl rfl rfl rfl
    · exact DX.load rfl rfl rfl rfl rfl rfl
    · exact DX.load rfl rfl rfl rfl rfl rfl
    · exact DX.load rfl rfl rfl rfl rfl rfl
    · exact DX.call (r := .kw (KI ((r + 1) * (r + 1)))) rfl rfl rfl rfl rfl rfl (KI.st _) rfl (k_mul ((bd.root X r0 r1).add (bd.lit (by decide))) ((bd.root X r0 r1).add (bd.lit (by decide))) (by first | decide | omega) (by first | decide | omega))
    · exact DX.call (r := .vl (.int .i64 (-1))) rfl rfl rfl rfl rfl rfl (KV.st _) rfl (k_cmp (cmp_lt r2))
    · exact DX.q2 (x := .tmp 114) (y := .const (.int .i64 0)) (.bool true) rfl rfl rfl rfl rfl (fun ρ W h1 h2 => by go_simp)
    · exact DX.pick (t := true) rfl rfl rfl rfl rfl rfl rfl
    · exact DX.move rfl rfl rfl rfl rfl rfl
    · exact DX.call (r := .vl (.bool true)) rfl rfl rfl rfl rfl rfl (KV.st _) rfl (k_awake)
    · exact DX.pick (t := true) rfl rfl rfl rfl rfl rfl rfl
    · exact DX.assign rfl rfl rfl rfl rfl rfl
    refine SX.then ?_
    refine SC.ret ?_
    exact SX.done (r := .vl (.bool true)) rfl rfl rfl
end Go.Proofs.Ytcgkgcciogibkaa.Sy
/- IntegerRoots: the walk. -/
set_option linter.unusedVariables false
set_option linter.unusedSimpArgs false
namespace Go.Proofs.Ytcgkgcciogibkaa
open Go.RowKit Ma Sy

theorem wf_u8 {n : Int} (h : (Lit.int .u8 n).wf = true) : 0 ≤ n ∧ n ≤ 255 := by
  simp only [Lit.wf, Bool.and_eq_true, decide_eq_true_eq] at h
  have hm : IntKind.u8.max = 255 := by simp [IntKind.max, IntKind.bits, IntKind.signed]
  have hn : IntKind.u8.min = 0 := by simp [IntKind.min, IntKind.signed]
  rw [hm, hn] at h
  exact h
set_option maxHeartbeats 25600000 in
set_option maxRecDepth 100000 in
theorem roots_w {n1 : Bool} {A1 : Option Addr} {l1 c1 : Nat} {xs1 : List Int} {mm : Nat} {nn : Nat} {w : World} (h1 : In w A1 l1 c1 xs1) (hm : mm ≤ 255) (hn : nn ≤ 255) :
    Calls Try.prog 13 #[.agg #[.bool n1, .slice A1 l1 c1], .int .u8 (mm : Int), .int .u8 (nn : Int)] w (Ret w (KV (.bool true))) := by
  have H1 := Lib.hid h1
  have b1 : l1 ≤ 9223372036854775807 := h1.1 ▸ h1.2.2.1.1
  clear h1
  obtain ⟨ns, hns⟩ : ∃ ns : List Nn, ns = [(n1, A1, l1, c1)] := ⟨_, rfl⟩
  have hL : ∀ x ∈ ns, x.2.2.1 ≤ 9223372036854775807 := by
    intro x hx
    rw [hns] at hx
    simp at hx
    subst hx; assumption
  have hlen : ns.length = 1 := by rw [hns]; rfl
  have HNS := Lib.hid hns
  have HL := Lib.hid hL
  have HLEN := Lib.hid hlen
  clear hns hL hlen
  go_enter Try.func13, Try.ntmps13
  go_wp2_with fail
  obtain ⟨W0, hW0⟩ : ∃ W0, W0 = (w.alloc (.cells #[.bool n1, .slice A1 l1 c1] 24)) := ⟨_, rfl⟩
  have nw0 : Nw w W0 := by rw [hW0]; exact (Nw.refl w).alloc _
  have cw0 : Has [(w.heap.size, 0, Value.bool n1), (w.heap.size, 1, Value.slice A1 l1 c1)] W0 := by
    rw [hW0]; exact ⟨by go_simp, by go_simp, trivial⟩
  have sz0 : W0.heap.size = w.heap.size + 1 := by rw [hW0]; go_simp
  rw [← hW0, ← sz0]
  clear hW0 sz0
  obtain ⟨q1, q2, _⟩ := cw0
  have lit : ∀ (W : World), Ns (W.alloc (.cells #[.bool n1, .slice A1 l1 c1] 24)) W.heap.size ns := by
    intro W i n A l c e
    rw [HNS.out] at e
    match i, e with
    | 0, e => simp at e; obtain ⟨rfl, rfl, rfl, rfl⟩ := e; exact ⟨by go_simp, by go_simp⟩
    | i + 1, e => simp at e
  have LIT := Lib.hid lit
  clear lit
  refine (short_l 6 ns rfl HLEN.out.symm (LIT.out W0) (by decide) (by have := HLEN.out; omega) HL.out).mono ?_
  rintro e w1 ⟨_, rfl, hsv, hb1⟩
  have na : Nw W0 w1 := ((Nw.refl W0).alloc _).trans hb1
  by_cases hs : shB 6 ns = true
  · rw [hs] at hsv
    obtain rfl := hsv
    have q1 := na.c q1
    have q2 := na.c q2
    go_upto_region 3 with (fail)
    obtain ⟨z1, hz1⟩ : ∃ z, z = sg n1 (lv b32 xs1) := ⟨_, rfl⟩
    have hle : l1 ≤ 6 := by
      have h9 := hs
      rw [HNS.out] at h9
      simpa [shB] using h9
    have Z1 : bd 6 z1 := hz1 ▸ bd_sg H1.out.2.2.2 (by have := H1.out.1; omega)
    go_cut [7] (fun v7 wx => ∃ (P1 : Nat) (m1 : Bool) (D1 : Option Addr) (k1 e1 : Nat), v7 = .pointer (some ⟨P1, 0, none⟩) ∧ w1.heap.size ≤ P1 ∧ Nw w1 wx ∧ wx.cell? ⟨P1, 0, none⟩ = some (.bool m1) ∧ wx.cell? ⟨P1, 1, none⟩ = some (.slice D1 k1 e1) ∧ wx.frozen? ⟨P1, 0, none⟩ = false ∧ wx.frozen? ⟨P1, 1, none⟩ = false ∧ RI wx m1 D1 k1 e1 z1)
    case first =>
      have nal : Nw w (w1.alloc (.cells #[.bool n1, .slice A1 l1 c1] 24)) := (nw0.trans na).alloc _
      have hin : Ins (w1.alloc (.cells #[.bool n1, .slice A1 l1 c1] 24)) ns [z1] := by
        refine ⟨HLEN.out, fun i n A l c e => ?_⟩
        rw [HNS.out] at e
        have J1 := H1.out.nw nal
        match i, e with
        | 0, e => simp at e; obtain ⟨rfl, rfl, rfl, rfl⟩ := e; exact ⟨xs1, J1.1, J1.2.1, by have := J1.1; omega, J1.2.2.1, J1.2.2.2, hz1⟩
        | i + 1, e => simp at e
      clear hz1 hle
      go_wp2_with fail
      refine (mades_l ns [z1] HLEN.out.symm (LIT.out w1) hin (by have := HLEN.out; omega) (by have := HLEN.out; omega)).mono ?_
      rintro e w2 ⟨_, rfl, hk, hb2⟩
      obtain ⟨g, c, rs, rfl, hc3, hcn, hcl, hcr⟩ := hk
      obtain ⟨m1, D1, k1, e1, rfl⟩ : ∃ m1 D1 k1 e1, rs = [(m1, D1, k1, e1)] := by
        match rs, hcl with
        | [⟨m1, D1, k1, e1⟩], _ => exact ⟨m1, D1, k1, e1, rfl⟩
      have ⟨p1, p2⟩ := hcn 0 _ _ _ _ rfl
      have i1 := hcr 0 _ _ _ _ rfl
      have nX : Nw w1 w2 := ((Nw.refl w1).alloc _).trans hb2
      have hsz : w1.heap.size ≤ w2.heap.size := nX.size
      clear hcn hcr hcl hin nal q1 q2
      have I1 := Lib.hid i1
      clear i1
      have hgs : g < w2.heap.size := World.block_lt_of_cell? w2 ⟨g, 0, none⟩ p1
      go_wp2_with fail
      go_meet
      exact ⟨_, _, _, _, _, rfl, (by first | exact Nat.le_refl _ | (simp; done) | (simp; omega) | omega), (by repeat (first | exact Nw.refl _ | exact nX | apply Nw.drew | apply Nw.alloc | refine Nw.set ?_ (by first | exact Nat.le_refl _ | (simp; done) | (simp; omega) | omega) _)), by go_simp, by go_simp, by go_simp, by go_simp, I1.out.kept (Nw.kept (by repeat (first | exact Nw.refl _ | exact nX | apply Nw.drew | apply Nw.alloc | refine Nw.set ?_ (by first | exact Nat.le_refl _ | (simp; done) | (simp; omega) | omega) _)))⟩
    case rest =>
      obtain ⟨P1, m1, D1, k1, e1, rfl, g1, nc, p1, p2, f1, f2, X1⟩ := hcut
      have ne := (nw0.trans na).trans nc
      have hwz : w.heap.size ≤ w1.heap.size := (nw0.trans na).size
      clear LIT na hb1 nw0
      apply_assumption
      refine SC.run (roots_body Z1 hm hn rfl rfl) ?_
      refine Fr.know ?_ rfl rfl
      refine Fr.know ?_ rfl rfl
      refine Fr.know ?_ rfl rfl
      refine Fr.bxs ?_ (Ho.two bI (by omega) p1 p2 f1 f2 X1) ?_
      rotate_left
      · intro j v' hj hv
        cases hj
      exact Fr.base rfl rfl ne ne.size
  · have hs : shB 6 ns = false := by simpa using hs
    rw [hs] at hsv
    obtain rfl := hsv
    go_wp2_with (go_at_call 15; refine (awake_c).mono ?_; rintro e w2 ⟨_, rfl, rfl, hb2⟩)
    go_ret
    exact Ret.V ((nw0.trans na).trans hb2)
theorem roots_walk {n1 : Bool} {A1 : Option Addr} {l1 c1 : Nat} {xs1 : List Int} {a b : Int} {w : World} (h1 : In w A1 l1 c1 xs1) (ha : (Lit.int .u8 a).wf = true) (hb : (Lit.int .u8 b).wf = true) :
    Calls Try.prog 13 #[.agg #[.bool n1, .slice A1 l1 c1], .int .u8 a, .int .u8 b] w (Ret w (KV (.bool true))) := by
  have a1 := wf_u8 ha
  have a2 := wf_u8 hb
  obtain ⟨k, rfl⟩ : ∃ k : Nat, a = k := ⟨a.toNat, by omega⟩
  obtain ⟨p, rfl⟩ : ∃ k : Nat, b = k := ⟨b.toNat, by omega⟩
  exact roots_w h1 (by omega) (by omega)
end Go.Proofs.Ytcgkgcciogibkaa
