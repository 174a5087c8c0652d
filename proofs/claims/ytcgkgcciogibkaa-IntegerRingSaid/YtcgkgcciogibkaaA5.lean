/- The contracts of the program's Add, Neg, Sub, Cmp, Abs, Sign, Odd, Make, Limbs, small and New. -/
import Derived.Test.YtcgkgcciogibkaaA4
set_option linter.unusedVariables false
set_option linter.unusedSimpArgs false
namespace Go.Proofs.Ytcgkgcciogibkaa
open Go.RowKit Ma

theorem sg_neg (n : Bool) (z : Int) : sg (!n) z = - sg n z := by cases n <;> simp [sg]
theorem RI.len_le {w : World} {n : Bool} {A : Option Addr} {l c : Nat} {z : Int} (h : RI w n A l c z) (k : Nat) (h1 : -(b32 ^ k) < z) (h2 : z < b32 ^ k) : l ≤ k := by
  obtain ⟨xs, rfl, _, _, d, t, nz, rfl⟩ := h
  by_cases hne : xs = []
  · subst hne; simp
  · have h3 := top_le (b := b32) (by decide) d t hne
    have h4 : lv b32 xs < b32 ^ k := by cases n <;> simp [sg] at h1 h2 <;> omega
    by_cases hk : xs.length ≤ k
    · exact hk
    · have := pow_le (b := b32) (by decide) (show k ≤ xs.length - 1 by omega)
      omega
theorem RI.abs_lt {w : World} {n : Bool} {A : Option Addr} {l c : Nat} {z : Int} (h : RI w n A l c z) : -(b32 ^ l) < z ∧ z < b32 ^ l := by
  obtain ⟨xs, rfl, _, _, d, t, nz, rfl⟩ := h
  have h1 := lv_lt (b := b32) (by decide) d
  have h2 := lv_nonneg (b := b32) (by decide) d
  have h3 := pos_pow (b := b32) (by decide) xs.length
  unfold sg
  split <;> omega

/-- One statement 'return made(sign, f(limbs, limbs))' of Add. -/
theorem ret_L {P : Program} {f : FuncId} {args : Array Value} {w : World} {k : IntKind} {p q : List Int → Prop} (h : Calls P f args w (Ret w (KL k p))) (hpq : ∀ zs, p zs → q zs) : Calls P f args w (Ret w (KL k q)) :=
  h.mono fun _ _ ⟨v, e, ⟨zs, A, c, e2, h1, h2, h3⟩, hb⟩ => ⟨v, e, ⟨zs, A, c, e2, h1, h2, hpq zs h3⟩, hb⟩

set_option maxHeartbeats 1600000 in
theorem add_c {x y : Int} {n m : Bool} {A B : Option Addr} {l l' c d : Nat} {w : World} (hx : RI w n A l c x) (hy : RI w m B l' d y) (hl : l ≤ 500000) (hl' : l' ≤ 500000) :
    Calls Try.prog 24 #[.agg #[.bool n, .slice A l c], .agg #[.bool m, .slice B l' d]] w (Ret w (KI (x + y))) := by
  obtain ⟨xs, rfl, hc, rA, dx, tx, nx, rfl⟩ := hx
  obtain ⟨ys, rfl, hd, rB, dy, ty, ny, rfl⟩ := hy
  have nw1 : Nw w (((w.alloc (.cells #[.bool n, .slice A xs.length c] 28)).alloc (.cells #[.bool m, .slice B ys.length d] 28)).alloc (.cells #[.bool false, .slice none 0 0] 28)) := (((Nw.refl w).alloc _).alloc _).alloc _
  have sg0 : Sg [(w.heap.size, 0, Value.bool n), (w.heap.size, 1, Value.slice A xs.length c), (w.heap.size + 1, 0, Value.bool m), (w.heap.size + 1, 1, Value.slice B ys.length d)] (w.heap.size + 1 + 1) 2 (((w.alloc (.cells #[.bool n, .slice A xs.length c] 28)).alloc (.cells #[.bool m, .slice B ys.length d] 28)).alloc (.cells #[.bool false, .slice none 0 0] 28)) := by
    refine ⟨⟨by go_simp, by go_simp, by go_simp, by go_simp, trivial⟩, ?_, by go_simp⟩
    have := box_two ((w.alloc (.cells #[.bool n, .slice A xs.length c] 28)).alloc (.cells #[.bool m, .slice B ys.length d] 28)) 28 false none 0 0
    simpa using this
  have RA := Lib.hid rA
  have RB := Lib.hid rB
  clear rA rB
  by_cases hnm : n = m
  · subst hnm
    have hnn : (n == n) = true := by simp
    have nw0 := nw1
    have sgn : Nw _ _ := Nw.refl (((w.alloc (.cells #[.bool n, .slice A xs.length c] 28)).alloc (.cells #[.bool n, .slice B ys.length d] 28)).alloc (.cells #[.bool false, .slice none 0 0] 28))
    have hres : sg n (lv b32 xs + lv b32 ys) = sg n (lv b32 xs) + sg n (lv b32 ys) := by cases n <;> simp [sg] <;> omega
    have HRES := Lib.hid hres
    clear hres
    go_enter Try.func24, Try.ntmps24
    go_wp2
    have n1 : Nw w _ := (nw0).drew
    have hw : w.heap.size ≤ w.heap.size + 1 + 1 := by omega
    refine region_std [(w.heap.size, 0, Value.bool n), (w.heap.size, 1, Value.slice A xs.length c), (w.heap.size + 1, 0, Value.bool n), (w.heap.size + 1, 1, Value.slice B ys.length d)] (w.heap.size + 1 + 1) 2 8 [(6, KL .u32 (fun zs => dg b32 zs ∧ lv b32 zs = lv b32 xs + lv b32 ys)), (7, KI (sg n (lv b32 xs + lv b32 ys))), (8, KB (w.heap.size + 1 + 1) (sg n (lv b32 xs + lv b32 ys)))] (by kernel_rfl) (by kernel_rfl) (by kernel_rfl) (by kernel_rfl) ?_ ⟨.inr (KL.st _ _), .inr (KI.st _), .inl rfl, trivial⟩ (sg0.nw sgn.drew) ?_
    · first | trivial | (simp only [Low, and_true]; omega)
    repeat
      apply Rg.wpK_quiet rfl rfl
      case hq => intro W hS; obtain ⟨⟨q1, q2, q3, q4, _⟩, _⟩ := hS; go_simp; exact rfl
      case he => exact (by simp only [Act.put, List.setIfInBounds_toArray, List.set_cons_zero, List.set_cons_succ]; exact rfl)
    apply Rg.wpK_know rfl rfl
    case ha =>
      intro W hR hS hF
      have hn := n1.rr hR hw
      obtain ⟨⟨q1, q2, q3, q4, _⟩, hB, hr⟩ := hS
      unfold Rg.gives
      go_simp
      exact Rg.gives_enter (call_inr (ret_L (sum_c A B c d xs ys _ (RA.out.kept hn.kept) (RB.out.kept hn.kept) hc hd dx dy (by omega) (by omega)) (fun zs h => ⟨h.1, h.2.1⟩)) hr)
    intro u hu
    obtain ⟨W0, hw1, hw2, hf⟩ := hu
    obtain ⟨zs, C6, c6, e0, hx⟩ := Rg.upd_at rfl (hf 6)
    obtain ⟨l6, e1⟩ : ∃ n, n = zs.length := ⟨_, rfl⟩
    rw [← e1] at e0
    subst e0
    clear hx e1
    have hx := trivial
    refine ⟨_, (by simp only [Act.put, List.setIfInBounds_toArray, List.set_cons_zero, List.set_cons_succ]; exact rfl), ?_⟩
    clear hf hw1 hw2 hx W0
    repeat
      apply Rg.wpK_quiet rfl rfl
      case hq => intro W hS; obtain ⟨⟨q1, q2, q3, q4, _⟩, _⟩ := hS; go_simp; exact rfl
      case he => exact (by simp only [Act.put, List.setIfInBounds_toArray, List.set_cons_zero, List.set_cons_succ]; exact rfl)
    apply Rg.wpK_know rfl rfl
    case ha =>
      intro W hR hS hF
      have hn := n1.rr hR hw
      obtain ⟨⟨q1, q2, q3, q4, _⟩, hB, hr⟩ := hS
      have h6 := KL.slice (Rg.upd_at rfl (hF 6 (by kernel_rfl)))
      obtain ⟨z6, e6, hc6, r6, p6⟩ := h6
      subst e6
      unfold Rg.gives
      go_simp
      exact Rg.gives_enter (call_inr (ret_eq (made_c n _ _ z6 _ r6 hc6 p6.1) (by rw [p6.2])) hr)
    intro u hu
    obtain ⟨W0, hw1, hw2, hf⟩ := hu
    obtain ⟨m7, D7, l7, c7, rfl, hx⟩ := Rg.upd_at rfl (hf 7)
    refine ⟨_, (by simp only [Act.put, List.setIfInBounds_toArray, List.set_cons_zero, List.set_cons_succ]; exact rfl), ?_⟩
    clear hf hw1 hw2 hx W0
    repeat
      apply Rg.wpK_quiet rfl rfl
      case hq => intro W hS; obtain ⟨⟨q1, q2, q3, q4, _⟩, _⟩ := hS; go_simp; exact rfl
      case he => exact (by simp only [Act.put, List.setIfInBounds_toArray, List.set_cons_zero, List.set_cons_succ]; exact rfl)
    apply Rg.wpK_know rfl rfl
    case ha =>
      intro W hR hS hF
      have hn := n1.rr hR hw
      obtain ⟨⟨q1, q2, q3, q4, _⟩, hB, hr⟩ := hS
      have i7 := KI.agg (Rg.upd_at rfl (hF 7 (by kernel_rfl)))
      obtain ⟨⟨v0, hv0, hn0⟩, hf0⟩ := hB 0 (by omega)
      obtain ⟨⟨v1, hv1, hn1⟩, hf1⟩ := hB 1 (by omega)
      unfold Rg.gives
      go_simp
      exact Rg.gives_skip (store_I hB i7)
    intro u hu
    obtain ⟨W0, hw1, hw2, hf⟩ := hu
    have hx := trivial
    refine ⟨_, (by simp only [Act.put, List.setIfInBounds_toArray, List.set_cons_zero, List.set_cons_succ]; exact rfl), ?_⟩
    clear hf hw1 hw2 hx W0
    repeat
      apply Rg.wpK_quiet rfl rfl
      case hq => intro W hS; obtain ⟨⟨q1, q2, q3, q4, _⟩, _⟩ := hS; go_simp; exact rfl
      case he => exact (by simp only [Act.put, List.setIfInBounds_toArray, List.set_cons_zero, List.set_cons_succ]; exact rfl)
    refine Rg.wpK_end fun w9 hR hS hF => ?_
    have hn := n1.rr hR hw
    obtain ⟨m', D', l', c', hc0, hc1, hi⟩ := Rg.upd_at rfl (hF 8)
    go_wp2
    exact bodyPost_ret (v := .agg #[.bool m', .slice D' l' c']) (by simp [results, Try.results24, go_sem, hc0, hc1]) rfl (Ret.I (RI.eq hi (HRES.out)) hn)
  · have hnn : (n == m) = false := by simpa using hnm
    by_cases hge : lv b32 ys ≤ lv b32 xs
    · have hcm : decide (0 ≤ cmp (lv b32 xs) (lv b32 ys)) = true := by unfold cmp; simp; split <;> (try split) <;> omega
      have hlen : ys.length ≤ xs.length := length_le (b := b32) (by decide) dy dx ty hge
      have hres : sg n (lv b32 xs - lv b32 ys) = sg n (lv b32 xs) + sg m (lv b32 ys) := by cases n <;> cases m <;> simp [sg] at hnm ⊢ <;> omega
      have HRES := Lib.hid hres
      clear hres hnm
      go_enter Try.func24, Try.ntmps24
      go_wp2_with (go_at_call 83; refine (compared_c A B c d xs ys _ (RA.out.kept nw1.kept) (RB.out.kept nw1.kept) dx dy tx ty).mono ?_; rintro e w1 ⟨_, rfl, rfl, hb⟩)
      have nw0 : Nw w w1 := nw1.trans hb
      have sgn := hb
      have n1 : Nw w _ := (nw0).drew
      have hw : w.heap.size ≤ w.heap.size + 1 + 1 := by omega
      refine region_std [(w.heap.size, 0, Value.bool n), (w.heap.size, 1, Value.slice A xs.length c), (w.heap.size + 1, 0, Value.bool m), (w.heap.size + 1, 1, Value.slice B ys.length d)] (w.heap.size + 1 + 1) 2 8 [(6, KL .u32 (fun zs => dg b32 zs ∧ lv b32 zs = lv b32 xs - lv b32 ys)), (7, KI (sg n (lv b32 xs - lv b32 ys))), (8, KB (w.heap.size + 1 + 1) (sg n (lv b32 xs - lv b32 ys)))] (by kernel_rfl) (by kernel_rfl) (by kernel_rfl) (by kernel_rfl) ?_ ⟨.inr (KL.st _ _), .inr (KI.st _), .inl rfl, trivial⟩ (sg0.nw sgn.drew) ?_
      · first | trivial | (simp only [Low, and_true]; omega)
      repeat
        apply Rg.wpK_quiet rfl rfl
        case hq => intro W hS; obtain ⟨⟨q1, q2, q3, q4, _⟩, _⟩ := hS; go_simp; exact rfl
        case he => exact (by simp only [Act.put, List.setIfInBounds_toArray, List.set_cons_zero, List.set_cons_succ]; exact rfl)
      apply Rg.wpK_know rfl rfl
      case ha =>
        intro W hR hS hF
        have hn := n1.rr hR hw
        obtain ⟨⟨q1, q2, q3, q4, _⟩, hB, hr⟩ := hS
        unfold Rg.gives
        go_simp
        exact Rg.gives_enter (call_inr (ret_L (less_c A B c d xs ys _ (RA.out.kept hn.kept) (RB.out.kept hn.kept) hc hd dx dy (by omega) hlen hge) (fun zs h => ⟨h.1, h.2.1⟩)) hr)
      intro u hu
      obtain ⟨W0, hw1, hw2, hf⟩ := hu
      obtain ⟨zs, C6, c6, e0, hx⟩ := Rg.upd_at rfl (hf 6)
      obtain ⟨l6, e1⟩ : ∃ n, n = zs.length := ⟨_, rfl⟩
      rw [← e1] at e0
      subst e0
      clear hx e1
      have hx := trivial
      refine ⟨_, (by simp only [Act.put, List.setIfInBounds_toArray, List.set_cons_zero, List.set_cons_succ]; exact rfl), ?_⟩
      clear hf hw1 hw2 hx W0
      repeat
        apply Rg.wpK_quiet rfl rfl
        case hq => intro W hS; obtain ⟨⟨q1, q2, q3, q4, _⟩, _⟩ := hS; go_simp; exact rfl
        case he => exact (by simp only [Act.put, List.setIfInBounds_toArray, List.set_cons_zero, List.set_cons_succ]; exact rfl)
      apply Rg.wpK_know rfl rfl
      case ha =>
        intro W hR hS hF
        have hn := n1.rr hR hw
        obtain ⟨⟨q1, q2, q3, q4, _⟩, hB, hr⟩ := hS
        have h6 := KL.slice (Rg.upd_at rfl (hF 6 (by kernel_rfl)))
        obtain ⟨z6, e6, hc6, r6, p6⟩ := h6
        subst e6
        unfold Rg.gives
        go_simp
        exact Rg.gives_enter (call_inr (ret_eq (made_c n _ _ z6 _ r6 hc6 p6.1) (by rw [p6.2])) hr)
      intro u hu
      obtain ⟨W0, hw1, hw2, hf⟩ := hu
      obtain ⟨m7, D7, l7, c7, rfl, hx⟩ := Rg.upd_at rfl (hf 7)
      refine ⟨_, (by simp only [Act.put, List.setIfInBounds_toArray, List.set_cons_zero, List.set_cons_succ]; exact rfl), ?_⟩
      clear hf hw1 hw2 hx W0
      repeat
        apply Rg.wpK_quiet rfl rfl
        case hq => intro W hS; obtain ⟨⟨q1, q2, q3, q4, _⟩, _⟩ := hS; go_simp; exact rfl
        case he => exact (by simp only [Act.put, List.setIfInBounds_toArray, List.set_cons_zero, List.set_cons_succ]; exact rfl)
      apply Rg.wpK_know rfl rfl
      case ha =>
        intro W hR hS hF
        have hn := n1.rr hR hw
        obtain ⟨⟨q1, q2, q3, q4, _⟩, hB, hr⟩ := hS
        have i7 := KI.agg (Rg.upd_at rfl (hF 7 (by kernel_rfl)))
        obtain ⟨⟨v0, hv0, hn0⟩, hf0⟩ := hB 0 (by omega)
        obtain ⟨⟨v1, hv1, hn1⟩, hf1⟩ := hB 1 (by omega)
        unfold Rg.gives
        go_simp
        exact Rg.gives_skip (store_I hB i7)
      intro u hu
      obtain ⟨W0, hw1, hw2, hf⟩ := hu
      have hx := trivial
      refine ⟨_, (by simp only [Act.put, List.setIfInBounds_toArray, List.set_cons_zero, List.set_cons_succ]; exact rfl), ?_⟩
      clear hf hw1 hw2 hx W0
      repeat
        apply Rg.wpK_quiet rfl rfl
        case hq => intro W hS; obtain ⟨⟨q1, q2, q3, q4, _⟩, _⟩ := hS; go_simp; exact rfl
        case he => exact (by simp only [Act.put, List.setIfInBounds_toArray, List.set_cons_zero, List.set_cons_succ]; exact rfl)
      refine Rg.wpK_end fun w9 hR hS hF => ?_
      have hn := n1.rr hR hw
      obtain ⟨m', D', l', c', hc0, hc1, hi⟩ := Rg.upd_at rfl (hF 8)
      go_wp2
      exact bodyPost_ret (v := .agg #[.bool m', .slice D' l' c']) (by simp [results, Try.results24, go_sem, hc0, hc1]) rfl (Ret.I (RI.eq hi (HRES.out)) hn)
    · have hcm : decide (0 ≤ cmp (lv b32 xs) (lv b32 ys)) = false := by unfold cmp; rw [if_pos (by omega)]; decide
      have hge' : lv b32 xs ≤ lv b32 ys := by omega
      have hlen : xs.length ≤ ys.length := length_le (b := b32) (by decide) dx dy tx hge'
      have hres : sg m (lv b32 ys - lv b32 xs) = sg n (lv b32 xs) + sg m (lv b32 ys) := by cases n <;> cases m <;> simp [sg] at hnm ⊢ <;> omega
      have HRES := Lib.hid hres
      clear hres hnm
      go_enter Try.func24, Try.ntmps24
      go_wp2_with (go_at_call 83; refine (compared_c A B c d xs ys _ (RA.out.kept nw1.kept) (RB.out.kept nw1.kept) dx dy tx ty).mono ?_; rintro e w1 ⟨_, rfl, rfl, hb⟩)
      have nw0 : Nw w w1 := nw1.trans hb
      have sgn := hb
      have n1 : Nw w _ := (nw0).drew
      have hw : w.heap.size ≤ w.heap.size + 1 + 1 := by omega
      refine region_std [(w.heap.size, 0, Value.bool n), (w.heap.size, 1, Value.slice A xs.length c), (w.heap.size + 1, 0, Value.bool m), (w.heap.size + 1, 1, Value.slice B ys.length d)] (w.heap.size + 1 + 1) 2 8 [(6, KL .u32 (fun zs => dg b32 zs ∧ lv b32 zs = lv b32 ys - lv b32 xs)), (7, KI (sg m (lv b32 ys - lv b32 xs))), (8, KB (w.heap.size + 1 + 1) (sg m (lv b32 ys - lv b32 xs)))] (by kernel_rfl) (by kernel_rfl) (by kernel_rfl) (by kernel_rfl) ?_ ⟨.inr (KL.st _ _), .inr (KI.st _), .inl rfl, trivial⟩ (sg0.nw sgn.drew) ?_
      · first | trivial | (simp only [Low, and_true]; omega)
      repeat
        apply Rg.wpK_quiet rfl rfl
        case hq => intro W hS; obtain ⟨⟨q1, q2, q3, q4, _⟩, _⟩ := hS; go_simp; exact rfl
        case he => exact (by simp only [Act.put, List.setIfInBounds_toArray, List.set_cons_zero, List.set_cons_succ]; exact rfl)
      apply Rg.wpK_know rfl rfl
      case ha =>
        intro W hR hS hF
        have hn := n1.rr hR hw
        obtain ⟨⟨q1, q2, q3, q4, _⟩, hB, hr⟩ := hS
        unfold Rg.gives
        go_simp
        exact Rg.gives_enter (call_inr (ret_L (less_c B A d c ys xs _ (RB.out.kept hn.kept) (RA.out.kept hn.kept) hd hc dy dx (by omega) hlen hge') (fun zs h => ⟨h.1, h.2.1⟩)) hr)
      intro u hu
      obtain ⟨W0, hw1, hw2, hf⟩ := hu
      obtain ⟨zs, C6, c6, e0, hx⟩ := Rg.upd_at rfl (hf 6)
      obtain ⟨l6, e1⟩ : ∃ n, n = zs.length := ⟨_, rfl⟩
      rw [← e1] at e0
      subst e0
      clear hx e1
      have hx := trivial
      refine ⟨_, (by simp only [Act.put, List.setIfInBounds_toArray, List.set_cons_zero, List.set_cons_succ]; exact rfl), ?_⟩
      clear hf hw1 hw2 hx W0
      repeat
        apply Rg.wpK_quiet rfl rfl
        case hq => intro W hS; obtain ⟨⟨q1, q2, q3, q4, _⟩, _⟩ := hS; go_simp; exact rfl
        case he => exact (by simp only [Act.put, List.setIfInBounds_toArray, List.set_cons_zero, List.set_cons_succ]; exact rfl)
      apply Rg.wpK_know rfl rfl
      case ha =>
        intro W hR hS hF
        have hn := n1.rr hR hw
        obtain ⟨⟨q1, q2, q3, q4, _⟩, hB, hr⟩ := hS
        have h6 := KL.slice (Rg.upd_at rfl (hF 6 (by kernel_rfl)))
        obtain ⟨z6, e6, hc6, r6, p6⟩ := h6
        subst e6
        unfold Rg.gives
        go_simp
        exact Rg.gives_enter (call_inr (ret_eq (made_c m _ _ z6 _ r6 hc6 p6.1) (by rw [p6.2])) hr)
      intro u hu
      obtain ⟨W0, hw1, hw2, hf⟩ := hu
      obtain ⟨m7, D7, l7, c7, rfl, hx⟩ := Rg.upd_at rfl (hf 7)
      refine ⟨_, (by simp only [Act.put, List.setIfInBounds_toArray, List.set_cons_zero, List.set_cons_succ]; exact rfl), ?_⟩
      clear hf hw1 hw2 hx W0
      repeat
        apply Rg.wpK_quiet rfl rfl
        case hq => intro W hS; obtain ⟨⟨q1, q2, q3, q4, _⟩, _⟩ := hS; go_simp; exact rfl
        case he => exact (by simp only [Act.put, List.setIfInBounds_toArray, List.set_cons_zero, List.set_cons_succ]; exact rfl)
      apply Rg.wpK_know rfl rfl
      case ha =>
        intro W hR hS hF
        have hn := n1.rr hR hw
        obtain ⟨⟨q1, q2, q3, q4, _⟩, hB, hr⟩ := hS
        have i7 := KI.agg (Rg.upd_at rfl (hF 7 (by kernel_rfl)))
        obtain ⟨⟨v0, hv0, hn0⟩, hf0⟩ := hB 0 (by omega)
        obtain ⟨⟨v1, hv1, hn1⟩, hf1⟩ := hB 1 (by omega)
        unfold Rg.gives
        go_simp
        exact Rg.gives_skip (store_I hB i7)
      intro u hu
      obtain ⟨W0, hw1, hw2, hf⟩ := hu
      have hx := trivial
      refine ⟨_, (by simp only [Act.put, List.setIfInBounds_toArray, List.set_cons_zero, List.set_cons_succ]; exact rfl), ?_⟩
      clear hf hw1 hw2 hx W0
      repeat
        apply Rg.wpK_quiet rfl rfl
        case hq => intro W hS; obtain ⟨⟨q1, q2, q3, q4, _⟩, _⟩ := hS; go_simp; exact rfl
        case he => exact (by simp only [Act.put, List.setIfInBounds_toArray, List.set_cons_zero, List.set_cons_succ]; exact rfl)
      refine Rg.wpK_end fun w9 hR hS hF => ?_
      have hn := n1.rr hR hw
      obtain ⟨m', D', l', c', hc0, hc1, hi⟩ := Rg.upd_at rfl (hF 8)
      go_wp2
      exact bodyPost_ret (v := .agg #[.bool m', .slice D' l' c']) (by simp [results, Try.results24, go_sem, hc0, hc1]) rfl (Ret.I (RI.eq hi (HRES.out)) hn)
end Go.Proofs.Ytcgkgcciogibkaa
