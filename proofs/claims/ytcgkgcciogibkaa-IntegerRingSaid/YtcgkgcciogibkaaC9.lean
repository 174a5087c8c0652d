/- The contract of the law's awake: it returns true. -/
import Derived.Test.YtcgkgcciogibkaaC8
set_option linter.unusedVariables false
set_option linter.unusedSimpArgs false
namespace Go.Proofs.Ytcgkgcciogibkaa
open Go.RowKit Ma

theorem put_list (l : List Value) (d : List Deferred) (i : Nat) (v : Value) : Act.put { tmps := l.toArray, defers := d } (some i) v = { tmps := (l.set i v).toArray, defers := d } := by simp [Act.put]
theorem put_none (a : Act) (v : Value) : Act.put a none v = a := rfl
theorem txt_FF : Txt 16 255 ⟨#[70, 70]⟩ := ⟨[15, 15], by intro x hx; simp at hx; omega, by unfold top; simp, by decide, by decide⟩
theorem bo_8 : bo 8 (-4) 7 = 4 := by
  refine (bo_eq fun i => ?_).symm
  by_cases h : i < 3
  · have : i = 0 ∨ i = 1 ∨ i = 2 := by omega
    rcases this with rfl | rfl | rfl <;> decide
  · rw [tb_high (z := 4) (m := 3) (by decide) (by decide) (by omega), tb_high (z := 7) (m := 3) (by decide) (by decide) (by omega), tb_high (z := -4) (m := 3) (by decide) (by decide) (by omega)]
    decide

theorem RJ.len_le {w : World} {n : Bool} {A : Option Addr} {l c : Nat} {z : Int} (h : RJ w n A l c z) (k : Nat) (h1 : -(b16 ^ k) < z) (h2 : z < b16 ^ k) : l ≤ k := by
  obtain ⟨xs, rfl, hc, rA, dx, tx, nx, rfl⟩ := h
  have h3 := lv_nonneg (b := b16) (by decide) dx
  have h4 : lv b16 xs < b16 ^ k := by cases n <;> simp only [sg, if_true, if_false, Bool.false_eq_true] at h1 h2 <;> omega
  apply Classical.byContradiction
  intro hk
  have hne : xs ≠ [] := by intro e; subst e; simp at hk
  have h5 := top_le (b := b16) (by decide) dx tx hne
  have h6 := pow_le (b := b16) (by decide) (show k ≤ xs.length - 1 by omega)
  omega
set_option maxHeartbeats 3200000 in
set_option maxRecDepth 100000 in
theorem awake_c {w : World} : Calls Try.prog 15 #[] w (Ret w (KV (.bool true))) := by
  go_enter Try.func15, Try.ntmps15
  go_wp2_with fail
  refine (new_c (x := -7) (by omega)).mono ?_
  rintro e w1 ⟨_, rfl, ⟨m1, D1, l1, c1, rfl, i1⟩, hb1⟩
  go_wp2_with fail
  refine (new_c (x := 2) (by omega)).mono ?_
  rintro e w2 ⟨_, rfl, ⟨m2, D2, l2, c2, rfl, i2⟩, hb2⟩
  have s1 := i1.len_le 1 (by decide) (by decide)
  have s2 := i2.len_le 1 (by decide) (by decide)
  go_wp2_with fail
  refine (divide_1 (i1.kept hb2.kept) i2 (by omega) (by decide) (.inl s2)).mono ?_
  rintro e w3 ⟨_, rfl, ⟨_, _, _, rfl, ⟨m3, D3, l3, c3, rfl, i3⟩, ⟨m4, D4, l4, c4, rfl, i4⟩, rfl⟩, hb3⟩
  clear i1 i2 s1 s2
  go_wp2_with fail
  have nA : Nw w3 ((w3.alloc (.cells #[.bool m3, .slice D3 l3 c3] 28)).alloc (.cells #[.bool m4, .slice D4 l4 c4] 28)) := ((Nw.refl w3).alloc _).alloc _
  have cA : Has [(w3.heap.size, 0, Value.bool m3), (w3.heap.size, 1, Value.slice D3 l3 c3), (w3.heap.size + 1, 0, Value.bool m4), (w3.heap.size + 1, 1, Value.slice D4 l4 c4)] ((w3.alloc (.cells #[.bool m3, .slice D3 l3 c3] 28)).alloc (.cells #[.bool m4, .slice D4 l4 c4] 28)) := ⟨by go_simp, by go_simp, by go_simp, by go_simp, trivial⟩
  refine (new_c (x := 255) (by omega)).mono ?_
  rintro e w4 ⟨_, rfl, ⟨m5, D5, l5, c5, rfl, i5⟩, hb4⟩
  have s5 := i5.len_le 1 (by decide) (by decide)
  go_wp2_with fail
  refine (text_ok 16 (by decide) (by decide) i5 (by omega)).mono ?_
  rintro e w5 ⟨_, rfl, ⟨_, _, rfl, ⟨s, rfl, hs⟩, rfl⟩, hb5⟩
  obtain rfl := Txt.eq (by decide) hs txt_FF
  clear hs
  go_wp2_with fail
  refine (new_c (x := -4) (by omega)).mono ?_
  rintro e w6 ⟨_, rfl, ⟨m6, D6, l6, c6, rfl, i6⟩, hb6⟩
  go_wp2_with fail
  refine (new_c (x := 7) (by omega)).mono ?_
  rintro e w7 ⟨_, rfl, ⟨m7, D7, l7, c7, rfl, i7⟩, hb7⟩
  have s6 := i6.len_le 1 (by decide) (by decide)
  have s7 := i7.len_le 1 (by decide) (by decide)
  go_wp2_with fail
  refine (boole_c (op := 8) (i6.kept hb7.kept) i7 (by omega) (by omega) (by decide) (by decide)).mono ?_
  rintro e w8 ⟨_, rfl, ⟨_, _, rfl, ⟨m8, D8, l8, c8, rfl, i8⟩, rfl⟩, hb8⟩
  have nB := (((hb4.trans hb5).trans hb6).trans hb7).trans hb8
  have nC : Nw w8 (w8.alloc (.cells #[.bool m8, .slice D8 l8 c8] 28)) := (Nw.refl w8).alloc _
  have cC : Has [(w8.heap.size, 0, Value.bool m8), (w8.heap.size, 1, Value.slice D8 l8 c8)] (w8.alloc (.cells #[.bool m8, .slice D8 l8 c8] 28)) := ⟨by go_simp, by go_simp, trivial⟩
  obtain ⟨q1, q2, q3, q4, _⟩ := cA.nw (nB.trans nC)
  obtain ⟨q5, q6, _⟩ := cC
  have I3 := Lib.hid (i3.kept (nA.trans (nB.trans nC)).kept)
  have I4 := Lib.hid (i4.kept (nA.trans (nB.trans nC)).kept)
  have I8 := Lib.hid (i8.kept nC.kept)
  have nD := ((((hb1.trans hb2).trans hb3).trans nA).trans nB).trans nC
  have s3 := i3.len_le 1 (by decide) (by decide)
  have s4 := i4.len_le 1 (by decide) (by decide)
  rw [bo_8] at I8 i8
  have s8 := i8.len_le 1 (by decide) (by decide)
  clear i5 s5 i6 i7 s6 s7 i3 i4 i8 cA nA nB nC hb1 hb2 hb3 hb4 hb5 hb6 hb7 hb8
  go_wp2
  generalize w8.alloc (.cells #[.bool m8, .slice D8 l8 c8] 28) = wz at *
  have n1 : Nw w _ := nD
  refine region_nw [(12, KJ (-3)), (13, KV (.bool true)), (17, KJ (-1)), (18, KV (.bool true)), (26, KJ (4)), (27, KV (.bool true))] (by kernel_rfl) (by kernel_rfl) (by kernel_rfl) (by kernel_rfl) ⟨SN.st (KJ.st _), SN.st (KV.st _), SN.st (KJ.st _), SN.st (KV.st _), SN.st (KJ.st _), SN.st (KV.st _), trivial⟩ ?_
  repeat
    apply Rg.wpK_quiet rfl rfl
    case hq => intro W hS; have q0 := hS.c q1; have q1 := hS.c q2; have q2 := hS.c q3; have q3 := hS.c q4; have q4 := hS.c q5; have q5 := hS.c q6; go_simp; exact rfl
    case he => exact (by simp only [Act.put, List.setIfInBounds_toArray, List.set_cons_zero, List.set_cons_succ]; exact rfl)
  apply Rg.wpK_know rfl rfl
  case ha =>
    intro W hR hS hF
    have hn := n1.trans hS
    have q0 := hS.c q1
    have q1 := hS.c q2
    have q2 := hS.c q3
    have q3 := hS.c q4
    have q4 := hS.c q5
    have q5 := hS.c q6
    unfold Rg.gives
    go_simp
    exact Rg.gives_enter (call_nw (rnew_c (by decide)))
  intro u hu
  obtain ⟨W0, hw1, hw2, hf⟩ := hu
  obtain ⟨m12, D12, l12, c12, rfl, hx⟩ := Rg.upd_at rfl (hf 12)
  refine ⟨_, (by simp only [Act.put, List.setIfInBounds_toArray, List.set_cons_zero, List.set_cons_succ]; exact rfl), ?_⟩
  clear hf hw1 hw2 hx W0
  repeat
    apply Rg.wpK_quiet rfl rfl
    case hq => intro W hS; have q0 := hS.c q1; have q1 := hS.c q2; have q2 := hS.c q3; have q3 := hS.c q4; have q4 := hS.c q5; have q5 := hS.c q6; go_simp; exact rfl
    case he => exact (by simp only [Act.put, List.setIfInBounds_toArray, List.set_cons_zero, List.set_cons_succ]; exact rfl)
  apply Rg.wpK_know rfl rfl
  case ha =>
    intro W hR hS hF
    have hn := n1.trans hS
    have q0 := hS.c q1
    have q1 := hS.c q2
    have q2 := hS.c q3
    have q3 := hS.c q4
    have q4 := hS.c q5
    have q5 := hS.c q6
    have i12 := KJ.agg (Rg.upd_at rfl (hF 12 (by kernel_rfl)))
    unfold Rg.gives
    go_simp
    exact Rg.gives_enter (call_nw (is_c (I3.out.kept hS.kept) i12 (by decide) (by omega) (Nat.le_trans (i12.len_le 1 (by decide) (by decide)) (by decide))))
  intro u hu
  obtain ⟨W0, hw1, hw2, hf⟩ := hu
  obtain rfl := Rg.upd_at rfl (hf 13)
  have hx := trivial
  refine ⟨_, (by simp only [Act.put, List.setIfInBounds_toArray, List.set_cons_zero, List.set_cons_succ]; exact rfl), ?_⟩
  clear hf hw1 hw2 hx W0
  repeat
    apply Rg.wpK_quiet rfl rfl
    case hq => intro W hS; have q0 := hS.c q1; have q1 := hS.c q2; have q2 := hS.c q3; have q3 := hS.c q4; have q4 := hS.c q5; have q5 := hS.c q6; go_simp; exact rfl
    case he => exact (by simp only [Act.put, List.setIfInBounds_toArray, List.set_cons_zero, List.set_cons_succ]; exact rfl)
  apply Rg.wpK_know rfl rfl
  case ha =>
    intro W hR hS hF
    have hn := n1.trans hS
    have q0 := hS.c q1
    have q1 := hS.c q2
    have q2 := hS.c q3
    have q3 := hS.c q4
    have q4 := hS.c q5
    have q5 := hS.c q6
    unfold Rg.gives
    go_simp
    exact Rg.gives_enter (call_nw (rnew_c (by decide)))
  intro u hu
  obtain ⟨W0, hw1, hw2, hf⟩ := hu
  obtain ⟨m17, D17, l17, c17, rfl, hx⟩ := Rg.upd_at rfl (hf 17)
  refine ⟨_, (by simp only [Act.put, List.setIfInBounds_toArray, List.set_cons_zero, List.set_cons_succ]; exact rfl), ?_⟩
  clear hf hw1 hw2 hx W0
  repeat
    apply Rg.wpK_quiet rfl rfl
    case hq => intro W hS; have q0 := hS.c q1; have q1 := hS.c q2; have q2 := hS.c q3; have q3 := hS.c q4; have q4 := hS.c q5; have q5 := hS.c q6; go_simp; exact rfl
    case he => exact (by simp only [Act.put, List.setIfInBounds_toArray, List.set_cons_zero, List.set_cons_succ]; exact rfl)
  apply Rg.wpK_know rfl rfl
  case ha =>
    intro W hR hS hF
    have hn := n1.trans hS
    have q0 := hS.c q1
    have q1 := hS.c q2
    have q2 := hS.c q3
    have q3 := hS.c q4
    have q4 := hS.c q5
    have q5 := hS.c q6
    have i17 := KJ.agg (Rg.upd_at rfl (hF 17 (by kernel_rfl)))
    unfold Rg.gives
    go_simp
    exact Rg.gives_enter (call_nw (is_c (I4.out.kept hS.kept) i17 (by decide) (by omega) (Nat.le_trans (i17.len_le 1 (by decide) (by decide)) (by decide))))
  intro u hu
  obtain ⟨W0, hw1, hw2, hf⟩ := hu
  obtain rfl := Rg.upd_at rfl (hf 18)
  have hx := trivial
  refine ⟨_, (by simp only [Act.put, List.setIfInBounds_toArray, List.set_cons_zero, List.set_cons_succ]; exact rfl), ?_⟩
  clear hf hw1 hw2 hx W0
  repeat
    apply Rg.wpK_quiet rfl rfl
    case hq => intro W hS; have q0 := hS.c q1; have q1 := hS.c q2; have q2 := hS.c q3; have q3 := hS.c q4; have q4 := hS.c q5; have q5 := hS.c q6; go_simp; exact rfl
    case he => exact (by simp only [Act.put, List.setIfInBounds_toArray, List.set_cons_zero, List.set_cons_succ]; exact rfl)
  apply Rg.wpK_know rfl rfl
  case ha =>
    intro W hR hS hF
    have hn := n1.trans hS
    have q0 := hS.c q1
    have q1 := hS.c q2
    have q2 := hS.c q3
    have q3 := hS.c q4
    have q4 := hS.c q5
    have q5 := hS.c q6
    unfold Rg.gives
    go_simp
    exact Rg.gives_enter (call_nw (rnew_c (by decide)))
  intro u hu
  obtain ⟨W0, hw1, hw2, hf⟩ := hu
  obtain ⟨m26, D26, l26, c26, rfl, hx⟩ := Rg.upd_at rfl (hf 26)
  refine ⟨_, (by simp only [Act.put, List.setIfInBounds_toArray, List.set_cons_zero, List.set_cons_succ]; exact rfl), ?_⟩
  clear hf hw1 hw2 hx W0
  repeat
    apply Rg.wpK_quiet rfl rfl
    case hq => intro W hS; have q0 := hS.c q1; have q1 := hS.c q2; have q2 := hS.c q3; have q3 := hS.c q4; have q4 := hS.c q5; have q5 := hS.c q6; go_simp; exact rfl
    case he => exact (by simp only [Act.put, List.setIfInBounds_toArray, List.set_cons_zero, List.set_cons_succ]; exact rfl)
  apply Rg.wpK_know rfl rfl
  case ha =>
    intro W hR hS hF
    have hn := n1.trans hS
    have q0 := hS.c q1
    have q1 := hS.c q2
    have q2 := hS.c q3
    have q3 := hS.c q4
    have q4 := hS.c q5
    have q5 := hS.c q6
    have i26 := KJ.agg (Rg.upd_at rfl (hF 26 (by kernel_rfl)))
    unfold Rg.gives
    go_simp
    exact Rg.gives_enter (call_nw (is_c (I8.out.kept hS.kept) i26 (by decide) (by omega) (Nat.le_trans (i26.len_le 1 (by decide) (by decide)) (by decide))))
  intro u hu
  obtain ⟨W0, hw1, hw2, hf⟩ := hu
  obtain rfl := Rg.upd_at rfl (hf 27)
  have hx := trivial
  refine ⟨_, (by simp only [Act.put, List.setIfInBounds_toArray, List.set_cons_zero, List.set_cons_succ]; exact rfl), ?_⟩
  clear hf hw1 hw2 hx W0
  repeat
    apply Rg.wpK_quiet rfl rfl
    case hq => intro W hS; have q0 := hS.c q1; have q1 := hS.c q2; have q2 := hS.c q3; have q3 := hS.c q4; have q4 := hS.c q5; have q5 := hS.c q6; go_simp; exact rfl
    case he => exact (by simp only [Act.put, List.setIfInBounds_toArray, List.set_cons_zero, List.set_cons_succ]; exact rfl)
  refine Rg.wpK_end fun w9 hR hS hF => ?_
  have hn := n1.trans hS
  have i12 := KJ.agg (Rg.upd_at rfl (Rg.upd_off rfl (Rg.upd_off rfl (Rg.upd_off rfl (Rg.upd_off rfl (Rg.upd_off rfl (hF 12)))))))
  have i17 := KJ.agg (Rg.upd_at rfl (Rg.upd_off rfl (Rg.upd_off rfl (Rg.upd_off rfl (hF 17)))))
  have i26 := KJ.agg (Rg.upd_at rfl (Rg.upd_off rfl (hF 26)))
  clear hF hR
  go_wp2
  go_ret
  exact Ret.V hn
end Go.Proofs.Ytcgkgcciogibkaa
