/- The contracts of the program's Neg, Sub, Cmp, Abs, Sign, Odd, Make, Limbs, small and New. -/
import Derived.Test.YtcgkgcciogibkaaA5
set_option linter.unusedVariables false
set_option linter.unusedSimpArgs false
namespace Go.Proofs.Ytcgkgcciogibkaa
open Go.RowKit Ma

theorem Num.neg {b : Int} {n : Bool} {xs : List Int} {z : Int} (h : Num b n xs z) : Num b (!n && decide (0 < xs.length)) xs (-z) := by
  obtain ⟨d, t, nz, rfl⟩ := h
  refine ⟨d, t, fun h => ?_, ?_⟩
  · simp at h; exact List.length_pos_iff.1 h.2
  · by_cases h0 : 0 < xs.length
    · cases n <;> simp [sg, h0]
    · have : xs = [] := List.eq_nil_of_length_eq_zero (by omega)
      subst this
      cases n
      · simp [sg, lv]
      · exact absurd rfl (nz rfl)
theorem Num.abs {b : Int} (hb : 0 < b) {n : Bool} {xs : List Int} {z : Int} (h : Num b n xs z) : Num b false xs (z.natAbs : Int) := by
  obtain ⟨d, t, nz, rfl⟩ := h
  have := lv_nonneg hb d
  refine ⟨d, t, (fun h => nomatch h), ?_⟩
  cases n <;> simp [sg] <;> omega

set_option maxHeartbeats 800000 in
theorem neg_c {x : Int} {n : Bool} {A : Option Addr} {l c : Nat} {w : World} (hx : RI w n A l c x) :
    Calls Try.prog 32 #[.agg #[.bool n, .slice A l c]] w (Ret w (KI (-x))) := by
  obtain ⟨xs, rfl, hc, rA, hn⟩ := hx
  have HN := Lib.hid hn.neg
  have RA := Lib.hid rA
  clear hn rA
  cases n
  · go_enter Try.func32, Try.ntmps32
    go_wp2
    refine bodyPost_ret (v := .agg #[.bool (decide (0 < xs.length)), .slice A xs.length c]) (by simp [results, Try.results32, go_sem]) rfl (Ret.I ⟨xs, rfl, hc, RA.out.kept ?_, by simpa using HN.out⟩ ?_)
    · exact Nw.kept (((Nw.refl w).alloc _).alloc _)
    · exact (((Nw.refl w).alloc _).alloc _)
  · go_enter Try.func32, Try.ntmps32
    go_wp2
    refine bodyPost_ret (v := .agg #[.bool false, .slice A xs.length c]) (by simp [results, Try.results32, go_sem]) rfl (Ret.I ⟨xs, rfl, hc, RA.out.kept ?_, by simpa using HN.out⟩ ?_)
    · exact Nw.kept (((Nw.refl w).alloc _).alloc _)
    · exact (((Nw.refl w).alloc _).alloc _)

set_option maxHeartbeats 800000 in
theorem abs_c {x : Int} {n : Bool} {A : Option Addr} {l c : Nat} {w : World} (hx : RI w n A l c x) :
    Calls Try.prog 34 #[.agg #[.bool n, .slice A l c]] w (Ret w (KI (x.natAbs : Int))) := by
  obtain ⟨xs, rfl, hc, rA, hn⟩ := hx
  have HN := Lib.hid (hn.abs (by decide))
  have RA := Lib.hid rA
  clear hn rA
  go_enter Try.func34, Try.ntmps34
  go_wp2
  refine bodyPost_ret (v := .agg #[.bool false, .slice A xs.length c]) (by simp [results, Try.results34, go_sem]) rfl (Ret.I ⟨xs, rfl, hc, RA.out.kept ?_, HN.out⟩ ?_)
  · exact Nw.kept (((Nw.refl w).alloc _).alloc _)
  · exact (((Nw.refl w).alloc _).alloc _)

set_option maxHeartbeats 1600000 in
theorem sub_c {x y : Int} {n m : Bool} {A B : Option Addr} {l l' c d : Nat} {w : World} (hx : RI w n A l c x) (hy : RI w m B l' d y) (hl : l ≤ 500000) (hl' : l' ≤ 500000) :
    Calls Try.prog 26 #[.agg #[.bool n, .slice A l c], .agg #[.bool m, .slice B l' d]] w (Ret w (KI (x - y))) := by
  have hy2 := hy.abs_lt
  have HX := Lib.hid hx
  have HY := Lib.hid hy
  have HY2 := Lib.hid hy2
  clear hx hy hy2
  have nw1 : Nw w (((w.alloc (.cells #[.bool n, .slice A l c] 28)).alloc (.cells #[.bool m, .slice B l' d] 28)).alloc (.cells #[.bool false, .slice none 0 0] 28)) := (((Nw.refl w).alloc _).alloc _).alloc _
  have sg0 : Sg [(w.heap.size, 0, Value.bool n), (w.heap.size, 1, Value.slice A l c), (w.heap.size + 1, 0, Value.bool m), (w.heap.size + 1, 1, Value.slice B l' d)] (w.heap.size + 1 + 1) 2 (((w.alloc (.cells #[.bool n, .slice A l c] 28)).alloc (.cells #[.bool m, .slice B l' d] 28)).alloc (.cells #[.bool false, .slice none 0 0] 28)) := by
    refine ⟨⟨by go_simp, by go_simp, by go_simp, by go_simp, trivial⟩, ?_, by go_simp⟩
    have := box_two ((w.alloc (.cells #[.bool n, .slice A l c] 28)).alloc (.cells #[.bool m, .slice B l' d] 28)) 28 false none 0 0
    simpa using this
  go_enter Try.func26, Try.ntmps26
  go_wp2
  have n1 : Nw w _ := (nw1).drew
  have hw : w.heap.size ≤ w.heap.size + 1 + 1 := by omega
  refine region_std [(w.heap.size, 0, Value.bool n), (w.heap.size, 1, Value.slice A l c), (w.heap.size + 1, 0, Value.bool m), (w.heap.size + 1, 1, Value.slice B l' d)] (w.heap.size + 1 + 1) 2 4 [(2, KI (-y)), (3, KI (x - y)), (4, KB (w.heap.size + 1 + 1) (x - y))] (by kernel_rfl) (by kernel_rfl) (by kernel_rfl) (by kernel_rfl) ?_ ⟨.inr (KI.st _), .inr (KI.st _), .inl rfl, trivial⟩ (sg0.nw (Nw.refl _).drew) ?_
  · first | trivial | (simp only [Low, and_true]; omega)
  repeat
    apply Rg.wpK_quiet rfl rfl
    case hq => intro W hS; obtain ⟨⟨q1, q2, q3, q4, _⟩, _⟩ := hS; go_simp; exact rfl
    case he => exact (by simp only [Act.put, List.setIfInBounds_toArray, List.set_cons_zero, List.set_cons_succ]; exact rfl)
  apply Rg.wpK_know rfl rfl
  case ha =>
    intro W hR hS hF
    have hn := n1.rr hR hw
    obtain ⟨⟨q1, q2, q3, q4, _⟩, hB, hr⟩ := hS
    unfold Rg.gives
    go_simp
    exact Rg.gives_enter (call_inr (neg_c (HY.out.kept hn.kept)) hr)
  intro u hu
  obtain ⟨W0, hw1, hw2, hf⟩ := hu
  obtain ⟨m2, D2, l2, c2, rfl, hx⟩ := Rg.upd_at rfl (hf 2)
  refine ⟨_, (by simp only [Act.put, List.setIfInBounds_toArray, List.set_cons_zero, List.set_cons_succ]; exact rfl), ?_⟩
  clear hf hw1 hw2 hx W0
  repeat
    apply Rg.wpK_quiet rfl rfl
    case hq => intro W hS; obtain ⟨⟨q1, q2, q3, q4, _⟩, _⟩ := hS; go_simp; exact rfl
    case he => exact (by simp only [Act.put, List.setIfInBounds_toArray, List.set_cons_zero, List.set_cons_succ]; exact rfl)
  apply Rg.wpK_know rfl rfl
  case ha =>
    intro W hR hS hF
    have hn := n1.rr hR hw
    obtain ⟨⟨q1, q2, q3, q4, _⟩, hB, hr⟩ := hS
    have i2 := KI.agg (Rg.upd_at rfl (hF 2 (by kernel_rfl)))
    unfold Rg.gives
    go_simp
    exact Rg.gives_enter (call_inr (ret_eq (add_c (HX.out.kept hn.kept) i2 hl (Nat.le_trans (i2.len_le l' (by have := HY2.out; omega) (by have := HY2.out; omega)) hl')) (by rw [Int.sub_eq_add_neg])) hr)
  intro u hu
  obtain ⟨W0, hw1, hw2, hf⟩ := hu
  obtain ⟨m3, D3, l3, c3, rfl, hx⟩ := Rg.upd_at rfl (hf 3)
  refine ⟨_, (by simp only [Act.put, List.setIfInBounds_toArray, List.set_cons_zero, List.set_cons_succ]; exact rfl), ?_⟩
  clear hf hw1 hw2 hx W0
  repeat
    apply Rg.wpK_quiet rfl rfl
    case hq => intro W hS; obtain ⟨⟨q1, q2, q3, q4, _⟩, _⟩ := hS; go_simp; exact rfl
    case he => exact (by simp only [Act.put, List.setIfInBounds_toArray, List.set_cons_zero, List.set_cons_succ]; exact rfl)
  apply Rg.wpK_know rfl rfl
  case ha =>
    intro W hR hS hF
    have hn := n1.rr hR hw
    obtain ⟨⟨q1, q2, q3, q4, _⟩, hB, hr⟩ := hS
    have i3 := KI.agg (Rg.upd_at rfl (hF 3 (by kernel_rfl)))
    obtain ⟨⟨v0, hv0, hn0⟩, hf0⟩ := hB 0 (by omega)
    obtain ⟨⟨v1, hv1, hn1⟩, hf1⟩ := hB 1 (by omega)
    unfold Rg.gives
    go_simp
    exact Rg.gives_skip (store_I hB i3)
  intro u hu
  obtain ⟨W0, hw1, hw2, hf⟩ := hu
  have hx := trivial
  refine ⟨_, (by simp only [Act.put, List.setIfInBounds_toArray, List.set_cons_zero, List.set_cons_succ]; exact rfl), ?_⟩
  clear hf hw1 hw2 hx W0
  repeat
    apply Rg.wpK_quiet rfl rfl
    case hq => intro W hS; obtain ⟨⟨q1, q2, q3, q4, _⟩, _⟩ := hS; go_simp; exact rfl
    case he => exact (by simp only [Act.put, List.setIfInBounds_toArray, List.set_cons_zero, List.set_cons_succ]; exact rfl)
  refine Rg.wpK_end fun w9 hR hS hF => ?_
  have hn := n1.rr hR hw
  obtain ⟨m', D', l', c', hc0, hc1, hi⟩ := Rg.upd_at rfl (hF 4)
  go_wp2
  exact bodyPost_ret (v := .agg #[.bool m', .slice D' l' c']) (by simp [results, Try.results26, go_sem, hc0, hc1]) rfl (Ret.I hi hn)

/-- How integers compare, out of signs and limbs. -/
theorem cmp_sg {n m : Bool} {xs ys : List Int} {x y : Int} (hx : Num b32 n xs x) (hy : Num b32 m ys y) :
    cmp x y = if n = m then (if n then cmp (lv b32 ys) (lv b32 xs) else cmp (lv b32 xs) (lv b32 ys)) else if n then -1 else 1 := by
  obtain ⟨d, t, nz, rfl⟩ := hx
  obtain ⟨d', t', nz', rfl⟩ := hy
  have h1 := lv_nonneg (b := b32) (by decide) d
  have h2 := lv_nonneg (b := b32) (by decide) d'
  have pos : ∀ {zs : List Int}, dg b32 zs → top zs → zs ≠ [] → 0 < lv b32 zs := fun d t h => by
    exact Int.lt_of_lt_of_le (pos_pow (by decide) _) (top_le (b := b32) (by decide) d t h)
  cases n <;> cases m <;> simp only [sg, if_true, if_false, Bool.false_eq_true, Bool.true_eq_false]
  · have := pos d' t' (nz' rfl)
    unfold cmp; rw [if_neg (by omega), if_neg (by omega)]
  · have := pos d t (nz rfl)
    unfold cmp; rw [if_pos (by omega)]
  · unfold cmp
    by_cases h : lv b32 ys < lv b32 xs
    · rw [if_pos (by omega), if_pos h]
    · rw [if_neg (by omega), if_neg h]
      by_cases h' : lv b32 ys = lv b32 xs
      · rw [if_pos (by omega), if_pos h']
      · rw [if_neg (by omega), if_neg h']

set_option maxHeartbeats 800000 in
theorem cmp_c {x y : Int} {n m : Bool} {A B : Option Addr} {l l' c d : Nat} {w : World} (hx : RI w n A l c x) (hy : RI w m B l' d y) :
    Calls Try.prog 27 #[.agg #[.bool n, .slice A l c], .agg #[.bool m, .slice B l' d]] w (Ret w (KV (.int .i64 (cmp x y)))) := by
  obtain ⟨xs, rfl, hc, rA, nx⟩ := hx
  obtain ⟨ys, rfl, hd, rB, ny⟩ := hy
  have HC := Lib.hid (cmp_sg nx ny)
  obtain ⟨dx, tx, zx, ex⟩ := nx
  obtain ⟨dy, ty, zy, ey⟩ := ny
  clear ex ey
  have RA := Lib.hid rA
  have RB := Lib.hid rB
  clear rA rB
  have nw1 : Nw w ((w.alloc (.cells #[.bool n, .slice A xs.length c] 28)).alloc (.cells #[.bool m, .slice B ys.length d] 28)) := ((Nw.refl w).alloc _).alloc _
  cases n <;> cases m
  · go_enter Try.func27, Try.ntmps27
    go_wp2_with (go_at_call 83; refine (compared_c A B c d xs ys _ (RA.out.kept nw1.kept) (RB.out.kept nw1.kept) dx dy tx ty).mono ?_; rintro e w1 ⟨_, rfl, rfl, hb⟩)
    go_ret
    exact Ret.Veq (by rw [HC.out]; rfl) (nw1.trans hb)
  · go_enter Try.func27, Try.ntmps27
    go_wp2
    go_ret
    exact Ret.Veq (by rw [HC.out]; rfl) nw1
  · go_enter Try.func27, Try.ntmps27
    go_wp2
    go_ret
    exact Ret.Veq (by rw [HC.out]; rfl) nw1
  · go_enter Try.func27, Try.ntmps27
    go_wp2_with (go_at_call 83; refine (compared_c B A d c ys xs _ (RB.out.kept nw1.kept) (RA.out.kept nw1.kept) dy dx ty tx).mono ?_; rintro e w1 ⟨_, rfl, rfl, hb⟩)
    go_ret
    exact Ret.Veq (by rw [HC.out]; rfl) (nw1.trans hb)

/-- The sign of a number. -/
def sgn (x : Int) : Int := if x < 0 then -1 else if x = 0 then 0 else 1
theorem sgn_num {b : Int} (hb : 0 < b) {n : Bool} {xs : List Int} {x : Int} (hx : Num b n xs x) : sgn x = if xs.length = 0 then 0 else if n then -1 else 1 := by
  obtain ⟨d, t, nz, rfl⟩ := hx
  by_cases h0 : xs.length = 0
  · have : xs = [] := List.eq_nil_of_length_eq_zero h0
    subst this
    cases n <;> simp [sgn, sg, lv]
  · have hne : xs ≠ [] := fun e => h0 (by rw [e]; rfl)
    have h1 : 0 < lv b xs := Int.lt_of_lt_of_le (pos_pow hb _) (top_le hb d t hne)
    rw [if_neg h0]
    cases n <;> simp only [sgn, sg, if_true, if_false, Bool.false_eq_true]
    · rw [if_neg (by omega), if_neg (by omega)]
    · rw [if_pos (by omega)]
set_option maxHeartbeats 800000 in
theorem sign_c {x : Int} {n : Bool} {A : Option Addr} {l c : Nat} {w : World} (hx : RI w n A l c x) :
    Calls Try.prog 28 #[.agg #[.bool n, .slice A l c]] w (Ret w (KV (.int .i64 (sgn x)))) := by
  obtain ⟨xs, rfl, hc, rA, nx⟩ := hx
  have HC := Lib.hid (sgn_num (by decide) nx)
  clear nx rA
  by_cases h0 : xs.length = 0
  · have hz : ((xs.length : Int) == 0) = true := by rw [beq_iff_eq]; omega
    have H0 := Lib.hid h0
    clear h0
    go_enter Try.func28, Try.ntmps28
    go_wp2
    go_ret
    exact Ret.Veq (by rw [HC.out, if_pos H0.out]; rfl) ((Nw.refl w).alloc _)
  · have hz : ((xs.length : Int) == 0) = false := by rw [beq_eq_false_iff_ne]; omega
    have H0 := Lib.hid h0
    clear h0
    cases n
    all_goals
      go_enter Try.func28, Try.ntmps28
      go_wp2
      go_ret
      exact Ret.Veq (by rw [HC.out, if_neg H0.out]; rfl) ((Nw.refl w).alloc _)
end Go.Proofs.Ytcgkgcciogibkaa
