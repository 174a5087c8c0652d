/- The contract of the program's Divide, but for divisors of two limbs and more. -/
import Derived.Test.YtcgkgcciogibkaaW4
set_option linter.unusedVariables false
set_option linter.unusedSimpArgs false
namespace Go.Proofs.Ytcgkgcciogibkaa
open Go.RowKit Ma

theorem K2L {k : IntKind} {p : List Int → Prop} {x y : Value} {A : Option Addr} {l c : Nat} {w : World} (h : K2 (KL k p) (KV x) (.tuple #[.slice A l c, y]) w) : y = x ∧ ∃ zs, l = zs.length ∧ l ≤ c ∧ Rd w k A zs ∧ p zs := by
  obtain ⟨v1, v2, e, h1, h2⟩ := h
  simp only [Value.tuple.injEq, Array.mk.injEq, List.cons.injEq, and_true] at e
  obtain ⟨rfl, rfl⟩ := e
  exact ⟨h2, h1.slice⟩
theorem divided_l (A : Option Addr) (l c : Nat) (xs : List Int) (y : Int) (w : World) (e : l = xs.length) (rA : Rd w .u32 A xs) (dx : dg b32 xs) (hl : xs.length ≤ 1000000) (hy0 : 0 < y) (hy1 : y < 4294967296) :
    Calls Try.prog 85 #[.slice A l c, .int .u32 y] w (Ret w (K2 (KL .u32 fun zs => dg b32 zs ∧ lv b32 zs = lv b32 xs / y ∧ top zs) (KV (.int .u32 (lv b32 xs % y))))) := by
  subst e
  exact (divided_c A c xs y w rA dx hl hy0 hy1).mono fun e w' ⟨v, e1, ⟨v1, v2, e2, h1, h2⟩, hb⟩ => ⟨v, e1, ⟨v1, v2, e2, h1.l, h2⟩, hb⟩
theorem sg_nz {n : Bool} {z : Int} (h : sg n z ≠ 0) : z ≠ 0 := by intro e; subst e; cases n <;> simp [sg] at h
theorem sg_tdiv (n m : Bool) (a b : Int) (ha : 0 ≤ a) (hb : 0 ≤ b) : (sg n a).tdiv (sg m b) = sg (n != m) (a / b) := by
  have e : a.tdiv b = a / b := Int.tdiv_eq_ediv_of_nonneg ha
  cases n <;> cases m <;> simp [sg, Int.neg_tdiv, Int.tdiv_neg, e]
theorem sg_tmod (n m : Bool) (a b : Int) (ha : 0 ≤ a) (hb : 0 ≤ b) : (sg n a).tmod (sg m b) = sg n (a % b) := by
  have e : a.tmod b = a % b := Int.tmod_eq_emod_of_nonneg ha
  cases n <;> cases m <;> simp [sg, Int.neg_tmod, Int.tmod_neg, e]

theorem RI.zero (w : World) : RI w false none 0 0 0 := ⟨[], rfl, Nat.le_refl _, Rd.nil _ _ _, dg_nil _, top_nil, (fun h => nomatch h), by simp [sg, lv]⟩
set_option maxHeartbeats 1600000 in
set_option maxRecDepth 100000 in
theorem divide_0 {x : Int} {n m : Bool} {A B : Option Addr} {l l' c d : Nat} {w : World} (hx : RI w n A l c x) (hy : RI w m B l' d 0) :
    Calls Try.prog 29 #[.agg #[.bool n, .slice A l c], .agg #[.bool m, .slice B l' d]] w (Ret w (K3 (KI 0) (KI 0) (KV (.int .i64 6)))) := by
  obtain rfl : l' = 0 := Nat.le_zero.1 (hy.len_le 0 (by decide) (by decide))
  obtain ⟨xs, rfl, hc, rA, dx, tx, nx, rfl⟩ := hx
  obtain ⟨ys, hy0, hd, rB, dy, ty, ny, ey⟩ := hy
  have RA := Lib.hid rA
  clear rA rB ey dx dy tx ty nx ny hy0 ys
  go_enter Try.func29, Try.ntmps29
  go_wp2
  exact bodyPost_ret (v := .tuple #[.agg #[.bool false, .slice none 0 0], .agg #[.bool false, .slice none 0 0], .int .i64 6]) (by simp [results, Try.results29, go_sem]) rfl ⟨_, rfl, ⟨_, _, _, rfl, ⟨_, _, _, _, rfl, RI.zero _⟩, ⟨_, _, _, _, rfl, RI.zero _⟩, rfl⟩, ((((Nw.refl w).alloc _).alloc _).alloc _).alloc _⟩
theorem cmp_lt {a b : Int} (h : a < b) : cmp a b = -1 := by unfold cmp; rw [if_pos h]
theorem cmp_ge {a b : Int} (h : b ≤ a) : decide (cmp a b < 0) = false := by unfold cmp; rw [if_neg (by omega)]; split <;> decide
theorem sg_natAbs (n : Bool) (z : Int) (h : 0 ≤ z) : ((sg n z).natAbs : Int) = z := by cases n <;> simp [sg] <;> omega
theorem lv_of_one {z : List Int} {x : Int} (h : z = [x]) : lv b32 z = x := by subst h; simp [lv]
theorem dg_of_one {z : List Int} {x : Int} (h : z = [x]) (d : dg b32 [x]) : dg b32 z := h ▸ d
theorem bd_zero (bd : Addr) : bd.add 0 = bd := by cases bd; unfold Addr.add; split <;> simp_all
set_option maxHeartbeats 3200000 in
set_option maxRecDepth 100000 in
theorem divide_1 {x y : Int} {n m : Bool} {A B : Option Addr} {l l' c d : Nat} {w : World} (hx : RI w n A l c x) (hy : RI w m B l' d y) (hl : l ≤ 500000) (hy0 : y ≠ 0) (h1 : l' ≤ 1 ∨ x.natAbs < y.natAbs) :
    Calls Try.prog 29 #[.agg #[.bool n, .slice A l c], .agg #[.bool m, .slice B l' d]] w (Ret w (K3 (KI (x.tdiv y)) (KI (x.tmod y)) (KV (.int .i64 0)))) := by
  have hx0 := hx
  obtain ⟨xs, rfl, hc, rA, dx, tx, nx, rfl⟩ := hx
  obtain ⟨ys, rfl, hd, rB, dy, ty, ny, rfl⟩ := hy
  have hxn := lv_nonneg (show (0 : Int) < b32 by decide) dx
  have hyn := lv_nonneg (show (0 : Int) < b32 by decide) dy
  have hyz := sg_nz hy0
  have hyl : 0 < ys.length := by
    cases ys with
    | nil => exact absurd (by simp [lv]) hyz
    | cons a t => simp
  have e1 := sg_natAbs n _ hxn
  have e2 := sg_natAbs m _ hyn
  have HT := Lib.hid (sg_tdiv n m _ _ hxn hyn)
  have HM := Lib.hid (sg_tmod n m _ _ hxn hyn)
  have nw1 : Nw w ((((w.alloc (.cells #[.bool n, .slice A xs.length c] 28)).alloc (.cells #[.bool m, .slice B ys.length d] 28)).alloc (.cells #[.bool false, .slice none 0 0] 28)).alloc (.cells #[.bool false, .slice none 0 0] 28)) := ((((Nw.refl w).alloc _).alloc _).alloc _).alloc _
  have sg0 : Sg2 [(w.heap.size, 0, Value.bool n), (w.heap.size, 1, Value.slice A xs.length c), (w.heap.size + 1, 0, Value.bool m), (w.heap.size + 1, 1, Value.slice B ys.length d)] (w.heap.size + 1 + 1) (w.heap.size + 1 + 1 + 1) ((((w.alloc (.cells #[.bool n, .slice A xs.length c] 28)).alloc (.cells #[.bool m, .slice B ys.length d] 28)).alloc (.cells #[.bool false, .slice none 0 0] 28)).alloc (.cells #[.bool false, .slice none 0 0] 28)) := by
    refine ⟨⟨by go_simp, by go_simp, by go_simp, by go_simp, trivial⟩, ?_, ?_, by go_simp⟩
    · have h1 := box_two ((w.alloc (.cells #[.bool n, .slice A xs.length c] 28)).alloc (.cells #[.bool m, .slice B ys.length d] 28)) 28 false none 0 0
      have h2 := h1.below ((Nw.refl _).alloc (.cells #[.bool false, .slice none 0 0] 28))
      simpa using h2
    · have h1 := box_two (((w.alloc (.cells #[.bool n, .slice A xs.length c] 28)).alloc (.cells #[.bool m, .slice B ys.length d] 28)).alloc (.cells #[.bool false, .slice none 0 0] 28)) 28 false none 0 0
      simpa using h1
  have SG := Lib.hid sg0
  have HX0 := Lib.hid hx0
  have RA := Lib.hid (rA.kept nw1.kept)
  have RB := Lib.hid (rB.kept nw1.kept)
  by_cases hlt : lv b32 xs < lv b32 ys
  · have hcm := Lib.hid (cmp_lt hlt)
    clear rA rB e1 e2 h1 hy0 hx0
    have e3 : sg n (lv b32 xs / lv b32 ys) = sg n 0 := by rw [Int.ediv_eq_zero_of_lt hxn hlt]
    have HQ : (sg n (lv b32 xs)).tdiv (sg m (lv b32 ys)) = 0 := by rw [HT.out, Int.ediv_eq_zero_of_lt hxn hlt]; cases (n != m) <;> simp [sg]
    have HR : (sg n (lv b32 xs)).tmod (sg m (lv b32 ys)) = sg n (lv b32 xs) := by rw [HM.out, Int.emod_eq_of_lt hxn hlt]
    have HQ := Lib.hid HQ
    have HR := Lib.hid HR
    clear e3 hlt hyz hxn hyn
    go_enter Try.func29, Try.ntmps29
    go_wp2_with (go_at_call 83; refine (compared_c A B c d xs ys _ RA.out RB.out dx dy tx ty).mono ?_; rintro e w1 ⟨_, rfl, hk, hb⟩; rw [hcm.out] at hk; subst hk; obtain ⟨⟨q1, q2, q3, q4, _⟩, B1, B2, _⟩ := SG.out.nw hb; obtain ⟨⟨u0, hu0, hm0⟩, hf0⟩ := B1 0 (by omega); obtain ⟨⟨u1, hu1, hm1⟩, hf1⟩ := B1 1 (by omega); obtain ⟨⟨t0, ht0, hk0⟩, hg0⟩ := B2 0 (by omega); obtain ⟨⟨t1, ht1, hk1⟩, hg1⟩ := B2 1 (by omega))
    go_region
    have r1 := store_I1 (z := 0) (z' := sg n (lv b32 xs)) (show w.heap.size + 1 + 1 < w.heap.size + 1 + 1 + 1 by omega) B1 (RI.zero w1)
    have r2 := store_I2 (z := 0) (z' := sg n (lv b32 xs)) (show w.heap.size + 1 + 1 < w.heap.size + 1 + 1 + 1 by omega) (r1.1.2.2.2.2.1 B2) (((HX0.out.kept nw1.kept).kept hb.kept).kept r1.1.2.1)
    have b2 := (KB.nwst _ _ _ _ (Nw.refl _).drew) r2.2
    have b1 := (KB.nwst _ _ _ _ (Nw.refl _).drew) (r2.1.2.2.2.2.2.1 r1.2)
    have hn := (((nw1.trans hb).r2 r1.1 (by omega)).r2 r2.1 (by omega)).drew
    generalize World.drew _ = w9 at *
    obtain ⟨m1, D1, l1, c1, p0, p1, i1⟩ := b1
    obtain ⟨m2, D2, l2, c2, p2, p3, i2⟩ := b2
    go_wp2
    exact bodyPost_ret (v := .tuple #[.agg #[.bool m1, .slice D1 l1 c1], .agg #[.bool m2, .slice D2 l2 c2], .int .i64 0]) (by simp [results, Try.results29, go_sem, p0, p1, p2, p3]) rfl ⟨_, rfl, ⟨_, _, _, rfl, ⟨_, _, _, _, rfl, i1.eq (by rw [HQ.out])⟩, ⟨_, _, _, _, rfl, i2.eq (by rw [HR.out])⟩, rfl⟩, hn⟩
  · have hge : lv b32 ys ≤ lv b32 xs := by omega
    have hcm := Lib.hid (cmp_ge hge)
    have hl1 : ys.length = 1 := by omega
    obtain ⟨y0, hys⟩ := List.length_eq_one_iff.1 hl1
    subst hys
    have ely : lv b32 [y0] = y0 := by simp [lv]
    have hy1 := dy y0 (by simp)
    rw [b32_eq] at hy1
    obtain ⟨y1, y2⟩ := hy1
    have y3 : 0 < y0 := by rw [ely] at hyz; omega
    have HQ : (sg n (lv b32 xs)).tdiv (sg m (lv b32 [y0])) = sg (n != m) (lv b32 xs / y0) := by rw [HT.out, ely]
    have HR : (sg n (lv b32 xs)).tmod (sg m (lv b32 [y0])) = sg n (lv b32 xs % y0) := by rw [HM.out, ely]
    have HQ := Lib.hid HQ
    have HR := Lib.hid HR
    obtain ⟨bd, hB, hcellb⟩ := RB.out.2 0 (by simp)
    subst hB
    clear rA rB e1 e2 h1 hy0 hx0 hlt hge hyz hxn hyn hyl hl1
    go_enter Try.func29, Try.ntmps29
    go_wp2_with (go_at_call 83; refine (compared_c A _ c d xs [y0] _ RA.out RB.out dx dy tx ty).mono ?_; rintro e w1 ⟨_, rfl, hk, hb⟩; have hcm1 := hcm.out; generalize cmp (lv b32 xs) (lv b32 [y0]) = cm at hcm1 hk; subst hk; obtain ⟨⟨q1, q2, q3, q4, _⟩, B1, B2, _⟩ := SG.out.nw hb; obtain ⟨⟨u0, hu0, hm0⟩, hf0⟩ := B1 0 (by omega); obtain ⟨⟨u1, hu1, hm1⟩, hf1⟩ := B1 1 (by omega); obtain ⟨⟨t0, ht0, hk0⟩, hg0⟩ := B2 0 (by omega); obtain ⟨⟨t1, ht1, hk1⟩, hg1⟩ := B2 1 (by omega); have hcb := hb.kept _ _ _ hcellb; simp only [at0, List.getD_cons_zero] at hcb; have hcb0 := hcb; rw [bd_zero] at hcb0)
    have n1 : Nw w _ := nw1.trans hb
    refine region_nw [(6, K2 (KL .u32 (fun zs => dg b32 zs ∧ lv b32 zs = lv b32 xs / y0 ∧ top zs)) (KV (.int .u32 (lv b32 xs % y0))))] (by kernel_rfl) (by kernel_rfl) (by kernel_rfl) (by kernel_rfl) ⟨SN.st (K2.st (KL.st _ _) (KV.st _)), trivial⟩ ?_
    repeat
      apply Rg.wpK_quiet rfl rfl
      case hq => intro W hS; have q0 := hS.c q1; have q1 := hS.c q2; have q2 := hS.c q3; have q3 := hS.c q4; have q4 := hS.c hcb; have q5 := hS.c hcb0; go_simp; exact rfl
      case he => exact (by simp only [Act.put, List.setIfInBounds_toArray, List.set_cons_zero, List.set_cons_succ]; exact rfl)
    apply Rg.wpK_know rfl rfl
    case ha =>
      intro W hR hS hF
      have hn := n1.trans hS
      have q0 := hS.c q1
      have q1 := hS.c q2
      have q2 := hS.c q3
      have q3 := hS.c q4
      have q4 := hS.c hcb
      have q5 := hS.c hcb0
      unfold Rg.gives
      go_simp
      exact Rg.gives_enter (call_nw (divided_l A _ c xs y0 W rfl ((RA.out.kept hb.kept).kept hS.kept) dx (by omega) y3 y2))
    intro u hu
    obtain ⟨W0, hw1, hw2, hf⟩ := hu
    obtain ⟨_, _, rfl, ⟨zs, C6, c6, e0, hx⟩, rfl⟩ := Rg.upd_at rfl (hf 6)
    obtain ⟨l6, e1⟩ : ∃ n, n = zs.length := ⟨_, rfl⟩
    rw [← e1] at e0
    subst e0
    clear hx e1
    have hx := trivial
    refine ⟨_, (by simp only [Act.put, List.setIfInBounds_toArray, List.set_cons_zero, List.set_cons_succ]; exact rfl), ?_⟩
    clear hf hw1 hw2 hx W0
    repeat
      apply Rg.wpK_quiet rfl rfl
      case hq => intro W hS; have q0 := hS.c q1; have q1 := hS.c q2; have q2 := hS.c q3; have q3 := hS.c q4; have q4 := hS.c hcb; have q5 := hS.c hcb0; go_simp; exact rfl
      case he => exact (by simp only [Act.put, List.setIfInBounds_toArray, List.set_cons_zero, List.set_cons_succ]; exact rfl)
    refine Rg.wpK_end fun w9 hR hS hF => ?_
    have hn := n1.trans hS
    have h6 := Rg.upd_at rfl (hF 6)
    clear hF hR
    obtain ⟨_, us, e8, hc8, r8, p81, p82, _⟩ := K2L h6
    obtain ⟨qr, hqr⟩ : ∃ qr, qr = lv b32 xs % y0 := ⟨_, rfl⟩
    have hr0 : 0 ≤ qr := by rw [hqr]; exact Int.emod_nonneg _ (by omega)
    have hr1 : qr < b32 := by have := Int.emod_lt_of_pos (lv b32 xs) y3; rw [← hqr] at this; rw [b32_eq]; omega
    have dqr : dg b32 [qr] := by intro x hx; simp at hx; rw [hx]; exact ⟨hr0, hr1⟩
    rw [← hqr] at HR ⊢
    have S2 := Lib.hid ((SG.out.nw hb).nw hS)
    have HC8 := Lib.hid hc8
    have E8 := Lib.hid e8
    clear h6 hqr hc8 e8 q1 q2 q3 q4
    go_wp2
    have n1 : Nw w _ := (hn).drew
    have hw : w.heap.size ≤ w.heap.size + 1 + 1 := by omega
    refine region_two [(w.heap.size, 0, Value.bool n), (w.heap.size, 1, Value.slice A xs.length c), (w.heap.size + 1, 0, Value.bool m), (w.heap.size + 1, 1, Value.slice (some bd) [y0].length d)] (w.heap.size + 1 + 1) (w.heap.size + 1 + 1 + 1) 1000 (KB (w.heap.size + 1 + 1) (sg (!(n == m)) (lv b32 xs / y0)) undef) (KB (w.heap.size + 1 + 1 + 1) (sg n qr) undef) [(2, KI (sg (!(n == m)) (lv b32 xs / y0))), (6, KL .u32 (fun zs => zs = [qr])), (7, KI (sg n qr)), (8, fun _ W => (KB (w.heap.size + 1 + 1) (sg (!(n == m)) (lv b32 xs / y0)) undef) W), (9, fun _ W => (KB (w.heap.size + 1 + 1 + 1) (sg n qr) undef) W)] (by kernel_rfl) (by kernel_rfl) (by kernel_rfl) (by kernel_rfl) ?_ ⟨St2.st (KI.st _), St2.st (KL.st _ _), St2.st (KI.st _), St2.r, St2.s, trivial⟩ ((S2.out.nw (Nw.refl _).drew)) ?_
    · first | trivial | (simp only [Low, and_true]; omega)
    repeat
      apply Rg.wpK_quiet rfl rfl
      case hq => intro W hS; obtain ⟨⟨q1, q2, q3, q4, _⟩, _⟩ := hS; go_simp; exact rfl
      case he => exact (by simp only [Act.put, List.setIfInBounds_toArray, List.set_cons_zero, List.set_cons_succ]; exact rfl)
    apply Rg.wpK_know rfl rfl
    case ha =>
      intro W hR hS hF
      have hn := n1.r2 hR hw
      obtain ⟨⟨q1, q2, q3, q4, _⟩, hB1, hB2, hr⟩ := hS
      unfold Rg.gives
      go_simp
      exact Rg.gives_enter (call_r2 (KB.nwst _ _) (KB.nwst _ _) (ret_eq (made_l E8.out (!(n == m)) ((r8.kept (Nw.refl _).drew.kept).kept hR.2.1) (by rw [← E8.out]; exact HC8.out) p81) (by rw [p82])) hr)
    intro u hu
    obtain ⟨W0, hw1, hw2, hf⟩ := hu
    obtain ⟨m2, D2, l2, c2, rfl, hx⟩ := Rg.upd_at rfl (hf 2)
    refine ⟨_, (by simp only [Act.put, List.setIfInBounds_toArray, List.set_cons_zero, List.set_cons_succ]; exact rfl), ?_⟩
    clear hf hw1 hw2 hx W0
    repeat
      apply Rg.wpK_quiet rfl rfl
      case hq => intro W hS; obtain ⟨⟨q1, q2, q3, q4, _⟩, _⟩ := hS; go_simp; exact rfl
      case he => exact (by simp only [Act.put, List.setIfInBounds_toArray, List.set_cons_zero, List.set_cons_succ]; exact rfl)
    apply Rg.wpK_know rfl rfl
    case ha =>
      intro W hR hS hF
      have hn := n1.r2 hR hw
      obtain ⟨⟨q1, q2, q3, q4, _⟩, hB1, hB2, hr⟩ := hS
      unfold Rg.gives
      go_simp
      exact Rg.gives_value ⟨R2.nw hr (KB.nwst _ _) (KB.nwst _ _) ((Nw.refl W).alloc _), [qr], _, _, rfl, by simp, Rd.new1 _ _ _ _, rfl⟩
    intro u hu
    obtain ⟨W0, hw1, hw2, hf⟩ := hu
    obtain ⟨zs, C6, c6, e0, hx⟩ := Rg.upd_at rfl (hf 6)
    obtain ⟨l6, e1⟩ : ∃ n, n = zs.length := ⟨_, rfl⟩
    rw [← e1] at e0
    subst e0
    clear hx e1
    have hx := trivial
    refine ⟨_, (by simp only [Act.put, List.setIfInBounds_toArray, List.set_cons_zero, List.set_cons_succ]; exact rfl), ?_⟩
    clear hf hw1 hw2 hx W0
    repeat
      apply Rg.wpK_quiet rfl rfl
      case hq => intro W hS; obtain ⟨⟨q1, q2, q3, q4, _⟩, _⟩ := hS; go_simp; exact rfl
      case he => exact (by simp only [Act.put, List.setIfInBounds_toArray, List.set_cons_zero, List.set_cons_succ]; exact rfl)
    apply Rg.wpK_know rfl rfl
    case ha =>
      intro W hR hS hF
      have hn := n1.r2 hR hw
      obtain ⟨⟨q1, q2, q3, q4, _⟩, hB1, hB2, hr⟩ := hS
      have h6 := KL.slice (Rg.upd_at rfl (hF 6 (by kernel_rfl)))
      obtain ⟨z6, e6, hc6, r6, p6⟩ := h6
      subst e6
      unfold Rg.gives
      go_simp
      exact Rg.gives_enter (call_r2 (KB.nwst _ _) (KB.nwst _ _) (ret_eq (made_l (show 1 = z6.length by rw [p6]; rfl) n r6 hc6 (dg_of_one p6 dqr)) (congrArg (fun t => KI (sg n t)) (lv_of_one p6))) hr)
    intro u hu
    obtain ⟨W0, hw1, hw2, hf⟩ := hu
    obtain ⟨m7, D7, l7, c7, rfl, hx⟩ := Rg.upd_at rfl (hf 7)
    refine ⟨_, (by simp only [Act.put, List.setIfInBounds_toArray, List.set_cons_zero, List.set_cons_succ]; exact rfl), ?_⟩
    clear hf hw1 hw2 hx W0
    repeat
      apply Rg.wpK_quiet rfl rfl
      case hq => intro W hS; obtain ⟨⟨q1, q2, q3, q4, _⟩, _⟩ := hS; go_simp; exact rfl
      case he => exact (by simp only [Act.put, List.setIfInBounds_toArray, List.set_cons_zero, List.set_cons_succ]; exact rfl)
    apply Rg.wpK_know rfl rfl
    case ha =>
      intro W hR hS hF
      have hn := n1.r2 hR hw
      obtain ⟨⟨q1, q2, q3, q4, _⟩, hB1, hB2, hr⟩ := hS
      have i2 := KI.agg (Rg.upd_at rfl (Rg.upd_off rfl (Rg.upd_off rfl (hF 2 (by kernel_rfl)))))
      obtain ⟨⟨v0, hv0, hn0⟩, hf0⟩ := hB1 0 (by omega)
      obtain ⟨⟨v1, hv1, hn1⟩, hf1⟩ := hB1 1 (by omega)
      unfold Rg.gives
      go_simp
      exact Rg.gives_skip (store_I1 (by omega) hB1 i2)
    intro u hu
    obtain ⟨W0, hw1, hw2, hf⟩ := hu
    have hx := trivial
    refine ⟨_, (by simp only [Act.put, List.setIfInBounds_toArray, List.set_cons_zero, List.set_cons_succ]; exact rfl), ?_⟩
    clear hf hw1 hw2 hx W0
    repeat
      apply Rg.wpK_quiet rfl rfl
      case hq => intro W hS; obtain ⟨⟨q1, q2, q3, q4, _⟩, _⟩ := hS; go_simp; exact rfl
      case he => exact (by simp only [Act.put, List.setIfInBounds_toArray, List.set_cons_zero, List.set_cons_succ]; exact rfl)
    apply Rg.wpK_know rfl rfl
    case ha =>
      intro W hR hS hF
      have hn := n1.r2 hR hw
      obtain ⟨⟨q1, q2, q3, q4, _⟩, hB1, hB2, hr⟩ := hS
      have i7 := KI.agg (Rg.upd_at rfl (Rg.upd_off rfl (hF 7 (by kernel_rfl))))
      obtain ⟨⟨v0, hv0, hn0⟩, hf0⟩ := hB2 0 (by omega)
      obtain ⟨⟨v1, hv1, hn1⟩, hf1⟩ := hB2 1 (by omega)
      unfold Rg.gives
      go_simp
      exact Rg.gives_skip (store_I2 (by omega) hB2 i7)
    intro u hu
    obtain ⟨W0, hw1, hw2, hf⟩ := hu
    have hx := trivial
    refine ⟨_, (by simp only [Act.put, List.setIfInBounds_toArray, List.set_cons_zero, List.set_cons_succ]; exact rfl), ?_⟩
    clear hf hw1 hw2 hx W0
    repeat
      apply Rg.wpK_quiet rfl rfl
      case hq => intro W hS; obtain ⟨⟨q1, q2, q3, q4, _⟩, _⟩ := hS; go_simp; exact rfl
      case he => exact (by simp only [Act.put, List.setIfInBounds_toArray, List.set_cons_zero, List.set_cons_succ]; exact rfl)
    refine Rg.wpK_end fun w9 hR hS hF => ?_
    have hn := n1.r2 hR hw
    have b1 := Rg.upd_at rfl (Rg.upd_off rfl (hF 8))
    have b2 := Rg.upd_at rfl (hF 9)
    obtain ⟨m1, D1, l1, c1, p0, p1, i1⟩ := b1
    obtain ⟨m2, D2, l2, c2, p2, p3, i2⟩ := b2
    go_wp2
    exact bodyPost_ret (v := .tuple #[.agg #[.bool m1, .slice D1 l1 c1], .agg #[.bool m2, .slice D2 l2 c2], .int .i64 0]) (by simp [results, Try.results29, go_sem, p0, p1, p2, p3]) rfl ⟨_, rfl, ⟨_, _, _, rfl, ⟨_, _, _, _, rfl, i1.eq HQ.out.symm⟩, ⟨_, _, _, _, rfl, i2.eq HR.out.symm⟩, rfl⟩, hn⟩
end Go.Proofs.Ytcgkgcciogibkaa
