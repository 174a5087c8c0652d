/- Parts A6, A7, W3, A8, B1, B2, B3, B4, W4, Rh, Sy0, in one file. -/
import Derived.RegionTactic
import Derived.BigRegion
import Derived.Laws.IdiomStrings
import Derived.Still
import Derived.Deep.Draws
import Derived.Deep.Quiet
import Derived.Maps.AppendAt
import Derived.Test.YthpjmhhfcechmaaGreatLRExpansions1
/- The contracts of the program's Neg, Sub, Cmp, Abs, Sign, Odd, Make, Limbs, small and New. -/
set_option linter.unusedVariables false
set_option linter.unusedSimpArgs false
namespace Go.Proofs.YthpjmhhfcechmaaGreat
open Go.RowKit Ma

theorem Num.neg {b : Int} {n : Bool} {xs : List Int} {z : Int} (h : Num b n xs z) : Num b (!n && decide (0 < xs.length)) xs (-z) := by
 obtain ⟨d, t, nz, rfl⟩ := h
 refine ⟨d, t, fun h => ?_, ?_⟩
 ·simp at h; exact List.length_pos_iff.1 h.2
 ·by_cases h0 : 0 < xs.length
  ·cases n <;> simp [sg, h0]
  ·have : xs = [] := List.eq_nil_of_length_eq_zero (by omega)
   subst this
   cases n
   ·simp [sg, lv]
   ·exact absurd rfl (nz rfl)
theorem Num.abs {b : Int} (hb : 0 < b) {n : Bool} {xs : List Int} {z : Int} (h : Num b n xs z) : Num b false xs (z.natAbs : Int) := by
 obtain ⟨d, t, nz, rfl⟩ := h
 have := lv_nonneg hb d
 refine ⟨d, t, (fun h => nomatch h), ?_⟩
 cases n <;> simp [sg] <;> omega
set_option maxHeartbeats 800000 in
theorem neg_c {x : Int} {n : Bool} {A : Option Addr} {l c : Nat} {w : World} (hx : RI w n A l c x) :
  Calls Tryz.prog 49 #[.agg #[.bool n, .slice A l c]] w (Ret w (KI (-x))) := by
 obtain ⟨xs, rfl, hc, rA, hn⟩ := hx
 have HN := Lib.hid hn.neg
 have RA := Lib.hid rA
 clear hn rA
 cases n
 ·go_enter Tryz.func49, Tryz.ntmps49
  go_wp2
  refine bodyPost_ret (v := .agg #[.bool (decide (0 < xs.length)), .slice A xs.length c]) (by simp [results, Tryz.results49, go_sem]) rfl (Ret.I ⟨xs, rfl, hc, RA.out.kept ?_, by simpa using HN.out⟩ ?_)
  ·exact Nw.kept (((Nw.refl w).alloc _).alloc _)
  ·exact (((Nw.refl w).alloc _).alloc _)
 ·go_enter Tryz.func49, Tryz.ntmps49
  go_wp2
  refine bodyPost_ret (v := .agg #[.bool false, .slice A xs.length c]) (by simp [results, Tryz.results49, go_sem]) rfl (Ret.I ⟨xs, rfl, hc, RA.out.kept ?_, by simpa using HN.out⟩ ?_)
  ·exact Nw.kept (((Nw.refl w).alloc _).alloc _)
  ·exact (((Nw.refl w).alloc _).alloc _)
set_option maxHeartbeats 800000 in
theorem abs_c {x : Int} {n : Bool} {A : Option Addr} {l c : Nat} {w : World} (hx : RI w n A l c x) :
  Calls Tryz.prog 42 #[.agg #[.bool n, .slice A l c]] w (Ret w (KI (x.natAbs : Int))) := by
 obtain ⟨xs, rfl, hc, rA, hn⟩ := hx
 have HN := Lib.hid (hn.abs (by decide))
 have RA := Lib.hid rA
 clear hn rA
 go_enter Tryz.func42, Tryz.ntmps42
 go_wp2
 refine bodyPost_ret (v := .agg #[.bool false, .slice A xs.length c]) (by simp [results, Tryz.results42, go_sem]) rfl (Ret.I ⟨xs, rfl, hc, RA.out.kept ?_, HN.out⟩ ?_)
 ·exact Nw.kept (((Nw.refl w).alloc _).alloc _)
 ·exact (((Nw.refl w).alloc _).alloc _)
set_option maxHeartbeats 1600000 in
theorem sub_c {x y : Int} {n m : Bool} {A B : Option Addr} {l l' c d : Nat} {w : World} (hx : RI w n A l c x) (hy : RI w m B l' d y) (hl : l ≤ 500000) (hl' : l' ≤ 500000) :
  Calls Tryz.prog 120 #[.agg #[.bool n, .slice A l c], .agg #[.bool m, .slice B l' d]] w (Ret w (KI (x - y))) := by
 have hy2 := hy.abs_lt
 have HX := Lib.hid hx
 have HY := Lib.hid hy
 have HY2 := Lib.hid hy2
 clear hx hy hy2
 have nw1 : Nw w (((w.alloc (.cells #[.bool n, .slice A l c] 31)).alloc (.cells #[.bool m, .slice B l' d] 31)).alloc (.cells #[.bool false, .slice none 0 0] 31)) := (((Nw.refl w).alloc _).alloc _).alloc _
 have sg0 : Sg [(w.heap.size, 0, Value.bool n), (w.heap.size, 1, Value.slice A l c), (w.heap.size + 1, 0, Value.bool m), (w.heap.size + 1, 1, Value.slice B l' d)] (w.heap.size + 1 + 1) 2 (((w.alloc (.cells #[.bool n, .slice A l c] 31)).alloc (.cells #[.bool m, .slice B l' d] 31)).alloc (.cells #[.bool false, .slice none 0 0] 31)) := by
  refine ⟨⟨by go_simp, by go_simp, by go_simp, by go_simp, trivial⟩, ?_, by go_simp⟩
  have := box_two ((w.alloc (.cells #[.bool n, .slice A l c] 31)).alloc (.cells #[.bool m, .slice B l' d] 31)) 31 false none 0 0
  simpa using this
 go_enter Tryz.func120, Tryz.ntmps120
 go_wp2
 have n1 : Nw w _ := (nw1).drew
 have hw : w.heap.size ≤ w.heap.size + 1 + 1 := by omega
 refine region_std [(w.heap.size, 0, Value.bool n), (w.heap.size, 1, Value.slice A l c), (w.heap.size + 1, 0, Value.bool m), (w.heap.size + 1, 1, Value.slice B l' d)] (w.heap.size + 1 + 1) 2 4 [(2, KI (-y)), (3, KI (x - y)), (4, KB (w.heap.size + 1 + 1) (x - y))] (by kernel_rfl) (by kernel_rfl) (by kernel_rfl) (by kernel_rfl) ?_ ⟨.inr (KI.st _), .inr (KI.st _), .inl rfl, trivial⟩ (sg0.nw (Nw.refl _).drew) ?_
 ·first | trivial | (simp only [Low, and_true]; omega)
 repeat
  apply Rg.wpK_quiet rfl rfl
  case hq => intro W hS; obtain ⟨⟨q1, q2, q3, q4, _⟩, _⟩ := hS; go_simp; exact rfl
  case he => exact (by simp only [Act.put, List.setIfInBounds_toArray, List.set_cons_zero, List.set_cons_succ]; exact rfl)
 apply Rg.wpK_know rfl rfl
 case ha =>
  intro W hR hS hF
  have hn := n1.rr hR hw
  obtain ⟨⟨q1, q2, q3, q4, _⟩, hB, hr⟩ := hS
  unfold Rg.gives
  go_simp
  exact Rg.gives_enter (call_inr (neg_c (HY.out.kept hn.kept)) hr)
 intro u hu
 obtain ⟨W0, hw1, hw2, hf⟩ := hu
 obtain ⟨m2, D2, l2, c2, rfl, hx⟩ := Rg.upd_at rfl (hf 2)
 refine ⟨_, (by simp only [Act.put, List.setIfInBounds_toArray, List.set_cons_zero, List.set_cons_succ]; exact rfl), ?_⟩
 clear hf hw1 hw2 hx W0
 repeat
  apply Rg.wpK_quiet rfl rfl
  case hq => intro W hS; obtain ⟨⟨q1, q2, q3, q4, _⟩, _⟩ := hS; go_simp; exact rfl
  case he => exact (by simp only [Act.put, List.setIfInBounds_toArray, List.set_cons_zero, List.set_cons_succ]; exact rfl)
 apply Rg.wpK_know rfl rfl
 case ha =>
  intro W hR hS hF
  have hn := n1.rr hR hw
  obtain ⟨⟨q1, q2, q3, q4, _⟩, hB, hr⟩ := hS
  have i2 := KI.agg (Rg.upd_at rfl (hF 2 (by kernel_rfl)))
  unfold Rg.gives
  go_simp
  exact Rg.gives_enter (call_inr (ret_eq (add_c (HX.out.kept hn.kept) i2 hl (Nat.le_trans (i2.len_le l' (by have := HY2.out; omega) (by have := HY2.out; omega)) hl')) (by rw [Int.sub_eq_add_neg])) hr)
 intro u hu
 obtain ⟨W0, hw1, hw2, hf⟩ := hu
 obtain ⟨m3, D3, l3, c3, rfl, hx⟩ := Rg.upd_at rfl (hf 3)
 refine ⟨_, (by simp only [Act.put, List.setIfInBounds_toArray, List.set_cons_zero, List.set_cons_succ]; exact rfl), ?_⟩
 clear hf hw1 hw2 hx W0
 repeat
  apply Rg.wpK_quiet rfl rfl
  case hq => intro W hS; obtain ⟨⟨q1, q2, q3, q4, _⟩, _⟩ := hS; go_simp; exact rfl
  case he => exact (by simp only [Act.put, List.setIfInBounds_toArray, List.set_cons_zero, List.set_cons_succ]; exact rfl)
 apply Rg.wpK_know rfl rfl
 case ha =>
  intro W hR hS hF
  have hn := n1.rr hR hw
  obtain ⟨⟨q1, q2, q3, q4, _⟩, hB, hr⟩ := hS
  have i3 := KI.agg (Rg.upd_at rfl (hF 3 (by kernel_rfl)))
  obtain ⟨⟨v0, hv0, hn0⟩, hf0⟩ := hB 0 (by omega)
  obtain ⟨⟨v1, hv1, hn1⟩, hf1⟩ := hB 1 (by omega)
  unfold Rg.gives
  go_simp
  exact Rg.gives_skip (store_I hB i3)
 intro u hu
 obtain ⟨W0, hw1, hw2, hf⟩ := hu
 have hx := trivial
 refine ⟨_, (by simp only [Act.put, List.setIfInBounds_toArray, List.set_cons_zero, List.set_cons_succ]; exact rfl), ?_⟩
 clear hf hw1 hw2 hx W0
 repeat
  apply Rg.wpK_quiet rfl rfl
  case hq => intro W hS; obtain ⟨⟨q1, q2, q3, q4, _⟩, _⟩ := hS; go_simp; exact rfl
  case he => exact (by simp only [Act.put, List.setIfInBounds_toArray, List.set_cons_zero, List.set_cons_succ]; exact rfl)
 refine Rg.wpK_end fun w9 hR hS hF => ?_
 have hn := n1.rr hR hw
 obtain ⟨m', D', l', c', hc0, hc1, hi⟩ := Rg.upd_at rfl (hF 4)
 go_wp2
 exact bodyPost_ret (v := .agg #[.bool m', .slice D' l' c']) (by simp [results, Tryz.results120, go_sem, hc0, hc1]) rfl (Ret.I hi hn)
theorem cmp_sg {n m : Bool} {xs ys : List Int} {x y : Int} (hx : Num b32 n xs x) (hy : Num b32 m ys y) :
  cmp x y = if n = m then (if n then cmp (lv b32 ys) (lv b32 xs) else cmp (lv b32 xs) (lv b32 ys)) else if n then -1 else 1 := by
 obtain ⟨d, t, nz, rfl⟩ := hx
 obtain ⟨d', t', nz', rfl⟩ := hy
 have h1 := lv_nonneg (b := b32) (by decide) d
 have h2 := lv_nonneg (b := b32) (by decide) d'
 have pos : ∀ {zs : List Int}, dg b32 zs → top zs → zs ≠ [] → 0 < lv b32 zs := fun d t h => by
  exact Int.lt_of_lt_of_le (pos_pow (by decide) _) (top_le (b := b32) (by decide) d t h)
 cases n <;> cases m <;> simp only [sg, if_true, if_false, Bool.false_eq_true, Bool.true_eq_false]
 ·have := pos d' t' (nz' rfl)
  unfold cmp; rw [if_neg (by omega), if_neg (by omega)]
 ·have := pos d t (nz rfl)
  unfold cmp; rw [if_pos (by omega)]
 ·unfold cmp
  by_cases h : lv b32 ys < lv b32 xs
  ·rw [if_pos (by omega), if_pos h]
  ·rw [if_neg (by omega), if_neg h]
   by_cases h' : lv b32 ys = lv b32 xs
   ·rw [if_pos (by omega), if_pos h']
   ·rw [if_neg (by omega), if_neg h']
set_option maxHeartbeats 800000 in
theorem cmp_c {x y : Int} {n m : Bool} {A B : Option Addr} {l l' c d : Nat} {w : World} (hx : RI w n A l c x) (hy : RI w m B l' d y) :
  Calls Tryz.prog 37 #[.agg #[.bool n, .slice A l c], .agg #[.bool m, .slice B l' d]] w (Ret w (KV (.int .i64 (cmp x y)))) := by
 obtain ⟨xs, rfl, hc, rA, nx⟩ := hx
 obtain ⟨ys, rfl, hd, rB, ny⟩ := hy
 have HC := Lib.hid (cmp_sg nx ny)
 obtain ⟨dx, tx, zx, ex⟩ := nx
 obtain ⟨dy, ty, zy, ey⟩ := ny
 clear ex ey
 have RA := Lib.hid rA
 have RB := Lib.hid rB
 clear rA rB
 have nw1 : Nw w ((w.alloc (.cells #[.bool n, .slice A xs.length c] 31)).alloc (.cells #[.bool m, .slice B ys.length d] 31)) := ((Nw.refl w).alloc _).alloc _
 cases n <;> cases m
 ·go_enter Tryz.func37, Tryz.ntmps37
  go_wp2_with (go_at_call 94; refine (compared_c A B c d xs ys _ (RA.out.kept nw1.kept) (RB.out.kept nw1.kept) dx dy tx ty).mono ?_; rintro e w1 ⟨_, rfl, rfl, hb⟩)
  go_ret
  exact Ret.Veq (by rw [HC.out]; rfl) (nw1.trans hb)
 ·go_enter Tryz.func37, Tryz.ntmps37
  go_wp2
  go_ret
  exact Ret.Veq (by rw [HC.out]; rfl) nw1
 ·go_enter Tryz.func37, Tryz.ntmps37
  go_wp2
  go_ret
  exact Ret.Veq (by rw [HC.out]; rfl) nw1
 ·go_enter Tryz.func37, Tryz.ntmps37
  go_wp2_with (go_at_call 94; refine (compared_c B A d c ys xs _ (RB.out.kept nw1.kept) (RA.out.kept nw1.kept) dy dx ty tx).mono ?_; rintro e w1 ⟨_, rfl, rfl, hb⟩)
  go_ret
  exact Ret.Veq (by rw [HC.out]; rfl) (nw1.trans hb)
def sgn (x : Int) : Int := if x < 0 then -1 else if x = 0 then 0 else 1
theorem sgn_num {b : Int} (hb : 0 < b) {n : Bool} {xs : List Int} {x : Int} (hx : Num b n xs x) : sgn x = if xs.length = 0 then 0 else if n then -1 else 1 := by
 obtain ⟨d, t, nz, rfl⟩ := hx
 by_cases h0 : xs.length = 0
 ·have : xs = [] := List.eq_nil_of_length_eq_zero h0
  subst this
  cases n <;> simp [sgn, sg, lv]
 ·have hne : xs ≠ [] := fun e => h0 (by rw [e]; rfl)
  have h1 : 0 < lv b xs := Int.lt_of_lt_of_le (pos_pow hb _) (top_le hb d t hne)
  rw [if_neg h0]
  cases n <;> simp only [sgn, sg, if_true, if_false, Bool.false_eq_true]
  ·rw [if_neg (by omega), if_neg (by omega)]
  ·rw [if_pos (by omega)]
set_option maxHeartbeats 800000 in
theorem sign_c {x : Int} {n : Bool} {A : Option Addr} {l c : Nat} {w : World} (hx : RI w n A l c x) :
  Calls Tryz.prog 36 #[.agg #[.bool n, .slice A l c]] w (Ret w (KV (.int .i64 (sgn x)))) := by
 obtain ⟨xs, rfl, hc, rA, nx⟩ := hx
 have HC := Lib.hid (sgn_num (by decide) nx)
 clear nx rA
 by_cases h0 : xs.length = 0
 ·have hz : ((xs.length : Int) == 0) = true := by rw [beq_iff_eq]; omega
  have H0 := Lib.hid h0
  clear h0
  go_enter Tryz.func36, Tryz.ntmps36
  go_wp2
  go_ret
  exact Ret.Veq (by rw [HC.out, if_pos H0.out]; rfl) ((Nw.refl w).alloc _)
 ·have hz : ((xs.length : Int) == 0) = false := by rw [beq_eq_false_iff_ne]; omega
  have H0 := Lib.hid h0
  clear h0
  cases n
  all_goals
   go_enter Tryz.func36, Tryz.ntmps36
   go_wp2
   go_ret
   exact Ret.Veq (by rw [HC.out, if_neg H0.out]; rfl) ((Nw.refl w).alloc _)
end Go.Proofs.YthpjmhhfcechmaaGreat
/- The contracts of the program's Make, Limbs, small, New and complement; of Odd. -/
namespace Go.Proofs.YthpjmhhfcechmaaGreat
open Go.RowKit Ma

set_option maxHeartbeats 1600000 in
set_option maxRecDepth 100000 in
theorem make_c {n : Bool} {A : Option Addr} {c : Nat} {xs : List Int} {w : World} (rA : Rd w .u32 A xs) (dx : dg b32 xs) (hl : xs.length ≤ 1000000) :
  Calls Tryz.prog 73 #[.bool n, .slice A xs.length c] w (Ret w (KI (sg n (lv b32 xs)))) := by
 have RA := Lib.hid rA
 clear rA
 have nw1 : Nw w (w.alloc (.cells #[.bool false, .slice none 0 0] 31)) := (Nw.refl w).alloc _
 have sg0 : Sg [] w.heap.size 2 (w.alloc (.cells #[.bool false, .slice none 0 0] 31)) := ⟨trivial, box_two w 31 false none 0 0, by go_simp⟩
 go_enter Tryz.func73, Tryz.ntmps73
 go_wp2_with (first
  | (go_at_call 116; refine (clone_c A c xs _ (RA.out.kept nw1.kept) hl).mono ?_; rintro e w1 ⟨_, rfl, ⟨zs, C, cc, rfl, hcc, rC, rfl⟩, hb⟩)
  | (go_at_call 95; refine (made_c n C cc xs _ rC hcc dx).mono ?_; rintro e w2 ⟨_, rfl, ⟨m, D, l2, c2, rfl, hi⟩, hb2⟩; have b2 := ((sg0.nw hb).nw hb2).2.1; obtain ⟨⟨v0, hv0, hn0⟩, hf0⟩ := b2 0 (by omega); obtain ⟨⟨v1, hv1, hn1⟩, hf1⟩ := b2 1 (by omega)))
 exact bodyPost_ret (v := .agg #[.bool m, .slice D l2 c2]) (by simp [results, Tryz.results73, go_sem, hv0, hv1]) rfl (Ret.I (hi.kept (store_I b2 hi).1.2.1) (((nw1.trans hb).trans hb2).rr (store_I b2 hi).1 (Nat.le_refl _)))
set_option maxHeartbeats 1600000 in
theorem limbs_c {x : Int} {n : Bool} {A : Option Addr} {l c : Nat} {w : World} (hx : RI w n A l c x) (hl : l ≤ 1000000) :
  Calls Tryz.prog 100 #[.agg #[.bool n, .slice A l c]] w (Ret w (K2 (KV (.bool n)) (KL .u32 fun zs => Num b32 n zs x))) := by
 obtain ⟨xs, rfl, hc, rA, nx⟩ := hx
 have RA := Lib.hid rA
 have NX := Lib.hid nx
 clear rA nx
 have nw1 : Nw w (w.alloc (.cells #[.bool n, .slice A xs.length c] 31)) := (Nw.refl w).alloc _
 have sg0 : Sg [(w.heap.size, 0, Value.bool n), (w.heap.size, 1, Value.slice A xs.length c)] (w.heap.size + 1) 0 (w.alloc (.cells #[.bool n, .slice A xs.length c] 31)) := ⟨⟨by go_simp, by go_simp, trivial⟩, box_zero _ _, by go_simp⟩
 go_enter Tryz.func100, Tryz.ntmps100
 go_wp2
 have n1 : Nw w _ := (nw1).drew
 have hw : w.heap.size ≤ w.heap.size + 1 := by omega
 refine region_std [(w.heap.size, 0, Value.bool n), (w.heap.size, 1, Value.slice A xs.length c)] (w.heap.size + 1) 0 1000 [(4, KL .u32 (fun zs => xs = zs))] (by kernel_rfl) (by kernel_rfl) (by kernel_rfl) (by kernel_rfl) ?_ ⟨.inr (KL.st _ _), trivial⟩ (sg0.nw (Nw.refl _).drew) ?_
 ·first | trivial | (simp only [Low, and_true]; omega)
 repeat
  apply Rg.wpK_quiet rfl rfl
  case hq => intro W hS; obtain ⟨⟨q1, q2, _⟩, _⟩ := hS; go_simp; exact rfl
  case he => exact (by simp only [Act.put, List.setIfInBounds_toArray, List.set_cons_zero, List.set_cons_succ]; exact rfl)
 apply Rg.wpK_know rfl rfl
 case ha =>
  intro W hR hS hF
  have hn := n1.rr hR hw
  obtain ⟨⟨q1, q2, _⟩, hB, hr⟩ := hS
  unfold Rg.gives
  go_simp
  exact Rg.gives_enter (call_inr (clone_c A c xs _ (RA.out.kept hn.kept) hl) hr)
 intro u hu
 obtain ⟨W0, hw1, hw2, hf⟩ := hu
 obtain ⟨zs, C4, c4, e0, hx⟩ := Rg.upd_at rfl (hf 4)
 obtain ⟨l4, e1⟩ : ∃ n, n = zs.length := ⟨_, rfl⟩
 rw [← e1] at e0
 subst e0
 clear hx e1
 have hx := trivial
 refine ⟨_, (by simp only [Act.put, List.setIfInBounds_toArray, List.set_cons_zero, List.set_cons_succ]; exact rfl), ?_⟩
 clear hf hw1 hw2 hx W0
 repeat
  apply Rg.wpK_quiet rfl rfl
  case hq => intro W hS; obtain ⟨⟨q1, q2, _⟩, _⟩ := hS; go_simp; exact rfl
  case he => exact (by simp only [Act.put, List.setIfInBounds_toArray, List.set_cons_zero, List.set_cons_succ]; exact rfl)
 refine Rg.wpK_end fun w9 hR hS hF => ?_
 have hn := n1.rr hR hw
 have h4 := KL.slice (Rg.upd_at rfl (hF 4))
 go_wp2
 go_ret2
 obtain ⟨zs, rfl, h1, h2, rfl⟩ := h4
 exact ⟨_, rfl, ⟨_, _, rfl, rfl, ⟨_, C4, c4, rfl, h1, h2, NX.out⟩⟩, hn⟩
set_option maxHeartbeats 1600000 in
set_option maxRecDepth 100000 in
theorem small_c {u : Int} {w : World} (hu : 0 ≤ u ∧ u < 18446744073709551616) :
  Calls Tryz.prog 96 #[.int .u64 u] w (Ret w (KL .u32 fun zs => dg b32 zs ∧ lv b32 zs = u)) := by
 obtain ⟨hu0, hu1⟩ := hu
 have dz : dg b32 [u % 4294967296, u / 4294967296] := by
  intro x hx
  rw [b32_eq]
  simp at hx
  omega
 have lz : lv b32 [u % 4294967296, u / 4294967296] = u := by
  simp only [lv, b32_eq]; omega
 have DZ := Lib.hid dz
 have LZ := Lib.hid lz
 clear dz lz
 go_enter Tryz.func96, Tryz.ntmps96
 go_wp2_with (go_at_call 134; refine (trimmed_c _ 2 [u % 4294967296, u / 4294967296] _ (Rd.new2 _ _ _ _ _) (by simp)).mono ?_; rintro e w1 ⟨rfl, rfl⟩)
 go_ret
 have hlen := trim_len [u % 4294967296, u / 4294967296]
 exact Ret.L (Rd.new2 _ _ _ _ _).trim (by simpa using hlen) ⟨trim_dg DZ.out, by rw [trim_lv]; exact LZ.out⟩ ((Nw.refl w).alloc _)
set_option maxHeartbeats 1600000 in
set_option maxRecDepth 100000 in
theorem new_c {x : Int} {w : World} (hx : -9223372036854775808 ≤ x ∧ x < 9223372036854775808) :
  Calls Tryz.prog 38 #[.int .i64 x] w (Ret w (KI x)) := by
 obtain ⟨hx0, hx1⟩ := hx
 have nw1 : Nw w (w.alloc (.cells #[.bool false, .slice none 0 0] 31)) := (Nw.refl w).alloc _
 have sg0 : Sg [] w.heap.size 2 (w.alloc (.cells #[.bool false, .slice none 0 0] 31)) := ⟨trivial, box_two w 31 false none 0 0, by go_simp⟩
 by_cases hneg : x < 0
 ·have hu : 0 ≤ -x ∧ -x < 18446744073709551616 := by omega
  have hwx : IntKind.u64.wrap (-IntKind.u64.wrap x) = -x := by simp only [IntKind.wrap_u64]; omega
  go_enter Tryz.func38, Tryz.ntmps38
  go_wp2_with (first
   | (go_at_call 96; refine (small_c (u := -x) hu).mono ?_; rintro e w1 ⟨_, rfl, ⟨zs, C, cc, rfl, hcc, rC, dz, ez⟩, hb⟩; have EZ := Lib.hid ez; clear ez)
   | (go_at_call 95; refine (made_c true C cc zs _ rC hcc dz).mono ?_; rintro e w2 ⟨_, rfl, ⟨m, D, l2, c2, rfl, hi⟩, hb2⟩; have b2 := ((sg0.nw hb).nw hb2).2.1; obtain ⟨⟨v0, hv0, hn0⟩, hf0⟩ := b2 0 (by omega); obtain ⟨⟨v1, hv1, hn1⟩, hf1⟩ := b2 1 (by omega)))
  have hi' := hi.eq (z' := x) (by rw [EZ.out]; unfold sg; (rw [if_pos rfl]; omega))
  exact bodyPost_ret (v := .agg #[.bool m, .slice D l2 c2]) (by simp [results, Tryz.results38, go_sem, hv0, hv1]) rfl (Ret.I (hi'.kept (store_I b2 hi').1.2.1) (((nw1.trans hb).trans hb2).rr (store_I b2 hi').1 (Nat.le_refl _)))
 ·go_enter Tryz.func38, Tryz.ntmps38
  go_wp2_with (first
   | (go_at_call 96; refine (small_c (u := x) ⟨by omega, by omega⟩).mono ?_; rintro e w1 ⟨_, rfl, ⟨zs, C, cc, rfl, hcc, rC, dz, ez⟩, hb⟩; have EZ := Lib.hid ez; clear ez)
   | (go_at_call 95; refine (made_c false C cc zs _ rC hcc dz).mono ?_; rintro e w2 ⟨_, rfl, ⟨m, D, l2, c2, rfl, hi⟩, hb2⟩; have b2 := ((sg0.nw hb).nw hb2).2.1; obtain ⟨⟨v0, hv0, hn0⟩, hf0⟩ := b2 0 (by omega); obtain ⟨⟨v1, hv1, hn1⟩, hf1⟩ := b2 1 (by omega)))
  have hi' := hi.eq (z' := x) (by rw [EZ.out]; unfold sg; rfl)
  exact bodyPost_ret (v := .agg #[.bool m, .slice D l2 c2]) (by simp [results, Tryz.results38, go_sem, hv0, hv1]) rfl (Ret.I (hi'.kept (store_I b2 hi').1.2.1) (((nw1.trans hb).trans hb2).rr (store_I b2 hi').1 (Nat.le_refl _)))
end Go.Proofs.YthpjmhhfcechmaaGreat
/- Stores into slices of numbers of the call's own. -/
namespace Go.Proofs.YthpjmhhfcechmaaGreat
open Go.RowKit Ma

theorem Own.cellAt {w : World} {base : Nat} {e : TypeId} {k : IntKind} {g n cap : Nat} {zs : List Int} (h : Own w base e k (.slice (some ⟨g, 0, none⟩) n cap) zs) {i : Nat} (hi : i < zs.length) (hn : n = zs.length) : w.cell? ⟨g, i, none⟩ = some (.int k (at0 zs i)) := by
 subst hn
 rw [World.ownsRow.cellAt h i (by omega), List.getElem?_map, List.getElem?_eq_getElem hi, at0_of_lt hi]
 rfl
theorem Own.frozenAt {w : World} {base : Nat} {e : TypeId} {k : IntKind} {g n cap : Nat} {zs : List Int} (h : Own w base e k (.slice (some ⟨g, 0, none⟩) n cap) zs) (hn : n = zs.length) (i : Nat) : w.frozen? ⟨g, i, none⟩ = false := by
 subst hn
 exact World.ownsRow.frozenAt h i
theorem Own.set {w : World} {base : Nat} {e : TypeId} {k : IntKind} {g n cap : Nat} {zs : List Int} (h : Own w base e k (.slice (some ⟨g, 0, none⟩) n cap) zs) (hn : n = zs.length) (i : Nat) (x : Int) :
  Own (w.setCell ⟨g, i, none⟩ (.int k x)) base e k (.slice (some ⟨g, 0, none⟩) n cap) (zs.set i x) := by
 subst hn
 have := World.ownsRow.stored h i (.int k x)
 unfold Own
 rw [List.length_set, List.map_set]
 exact this.1
theorem Own.ge {w : World} {base : Nat} {e : TypeId} {k : IntKind} {g n cap : Nat} {zs : List Int} (h : Own w base e k (.slice (some ⟨g, 0, none⟩) n cap) zs) : base ≤ g := h.base g rfl
theorem Own.made {w : World} {base : Nat} {e : TypeId} {k : IntKind} {v : Value} {n : Nat} (h : w.ownsRow base e 1 v n (madeCells #[Value.int k 0] n).toList) : Own w base e k v (List.replicate n 0) := by
 refine Own.cast h (by simp) ?_
 apply List.ext_getElem
 ·simp [madeCells]
 ·intro i h1 h2
  simp [madeCells, Nat.mod_one]
theorem Own.take {w : World} {base : Nat} {e : TypeId} {k : IntKind} {g n cap : Nat} {zs : List Int} (h : Own w base e k (.slice (some ⟨g, 0, none⟩) n cap) zs) (hn : n = zs.length) (m : Nat) (hm : m ≤ n) :
  Own w base e k (.slice (some ⟨g, 0, none⟩) m cap) (zs.take m) := by
 subst hn
 obtain ⟨h0, h1 | ⟨g', cap', cur, hv, hb, hg, hc, hx, hs, ht⟩⟩ := h
 ·cases h1.1
 ·simp only [Value.slice.injEq, Option.some.injEq, Addr.mk.injEq, and_true, true_and] at hv
  obtain ⟨rfl, rfl⟩ := hv
  have hl : (zs.take m).length = m := by rw [List.length_take]; omega
  refine ⟨by simp, .inr ⟨g, cap, cur, by rw [hl], hb, hg, by omega, hx, hs, ?_⟩⟩
  rw [hl, List.map_take, ← ht, List.take_take]
  congr 1; omega
theorem Own.ne {w : World} {b b' : Nat} {e e' : TypeId} {k k' : IntKind} {v v' : Value} {xs ys : List Int} (h : Own w b e k v xs) (h' : Own w b' e' k' v' ys) (he : e ≠ e') : v.ownBlock = none ∨ v.ownBlock ≠ v'.ownBlock := by
 obtain ⟨_, h1 | ⟨g, cap, cur, hv, hb, hg, _⟩⟩ := h
 ·left; rw [h1.1]; rfl
 ·right
  obtain ⟨_, h2 | ⟨g', cap', cur', hv', hb', hg', _⟩⟩ := h'
  ·rw [hv, h2.1]; simp [Value.ownBlock]
  ·rw [hv, hv']
   simp only [Value.ownBlock, ne_eq, Option.some.injEq]
   intro e1; subst e1
   rw [hg] at hg'
   simp only [Option.some.injEq, Obj.cells.injEq] at hg'
   exact he hg'.2.1
def KO (base : Nat) (e : TypeId) (k : IntKind) (p : List Int → Prop) : Rg.Know := fun v W => ∃ zs g c, v = .slice (some ⟨g, 0, none⟩) zs.length c ∧ Own W base e k v zs ∧ p zs
theorem KO.l {base : Nat} {e : TypeId} {k : IntKind} {p : List Int → Prop} {v : Value} {W : World} (h : KO base e k p v W) : KL k p v W := by
 obtain ⟨zs, g, c, rfl, ho, hp⟩ := h
 obtain ⟨A, c', e', h1, h2⟩ := ho.rd
 simp only [Value.slice.injEq] at e'
 exact ⟨zs, _, _, rfl, by omega, by rw [e'.1]; exact h2, hp⟩
theorem Own.rdg {w : World} {base : Nat} {e : TypeId} {k : IntKind} {A : Option Addr} {n cap : Nat} {zs : List Int} (h : Own w base e k (.slice A n cap) zs) : n = zs.length ∧ n ≤ cap ∧ Rd w k A zs := by
 obtain ⟨A', c', e', h1, h2⟩ := h.rd
 simp only [Value.slice.injEq] at e'
 obtain ⟨rfl, rfl, rfl⟩ := e'
 exact ⟨rfl, h1, h2⟩
end Go.Proofs.YthpjmhhfcechmaaGreat
/- The contracts of the program's divided and shifted. -/
namespace Go.Proofs.YthpjmhhfcechmaaGreat
open Go.RowKit Ma

structure DivAt (xs : List Int) (y : Int) (k : Nat) (zs : List Int) (r : Int) : Prop where
 le : k ≤ xs.length
 len : zs.length = xs.length
 dg : dg b32 zs
 r0 : 0 ≤ r
 r1 : r < y
 low : ∀ i, i < k → at0 zs i = 0
 eq : y * lv b32 zs + b32 ^ k * r = b32 ^ k * lv b32 (xs.drop k)
theorem DivAt.start (xs : List Int) {y : Int} (hy : 0 < y) : DivAt xs y xs.length (List.replicate xs.length 0) 0 :=
 ⟨Nat.le_refl _, by simp, dg_replicate _ (by decide) (by decide), by omega, hy, fun i hi => by simp [at0, List.getD_eq_getElem?_getD, hi], by rw [lv_zeros, List.drop_length]; simp [lv]⟩
theorem DivAt.step {xs : List Int} {y : Int} {k : Nat} {zs : List Int} {r : Int} (h : DivAt xs y (k + 1) zs r) (dx : Ma.dg b32 xs) (hy : y < 4294967296) :
  DivAt xs y k (zs.set k ((r * 4294967296 + at0 xs k) / y)) ((r * 4294967296 + at0 xs k) % y) := by
 obtain ⟨h1, h2, h3, h4, h5, h6, h7⟩ := h
 obtain ⟨x0, x1⟩ := dg_at dx (by decide) k
 rw [b32_eq] at x1
 have q0 : 0 ≤ (r * 4294967296 + at0 xs k) / y := Int.ediv_nonneg (by omega) (by omega)
 have q1 : (r * 4294967296 + at0 xs k) / y < 4294967296 := by
  apply Int.ediv_lt_of_lt_mul (by omega)
  have : r * 4294967296 + 4294967296 ≤ 4294967296 * y := by omega
  omega
 refine ⟨by omega, by simp [h2], dg_set h3 _ q0 (by rw [b32_eq]; exact q1), Int.emod_nonneg _ (by omega), Int.emod_lt_of_pos _ (by omega), fun i hi => ?_, ?_⟩
 ·have := h6 i (by omega)
  simp only [at0, List.getD_eq_getElem?_getD] at this ⊢
  rw [List.getElem?_set_ne (by omega)]; exact this
 ·rw [lv_set _ _ _ _ (by omega), h6 k (by omega), lv_drop _ _ _ (by omega)]
  have e := Int.mul_ediv_add_emod (r * 4294967296 + at0 xs k) y
  rw [Int.pow_succ] at h7
  generalize (r * 4294967296 + at0 xs k) / y = q at *
  generalize (r * 4294967296 + at0 xs k) % y = r' at *
  rw [b32_eq] at *
  generalize at0 xs k = a at *
  generalize (4294967296 : Int) ^ k = p at *
  grind
theorem DivAt.done {xs : List Int} {y : Int} {zs : List Int} {r : Int} (h : DivAt xs y 0 zs r) : lv b32 zs = lv b32 xs / y ∧ r = lv b32 xs % y := by
 obtain ⟨h1, h2, h3, h4, h5, h6, h7⟩ := h
 simp at h7
 have e : lv b32 xs = r + y * lv b32 zs := by omega
 rw [e, Int.add_mul_ediv_left _ _ (by omega), Int.add_mul_emod_self_left, Int.ediv_eq_zero_of_lt h4 h5, Int.emod_eq_of_lt h4 h5]
 omega
theorem trimmed_l {A : Option Addr} {l c : Nat} {xs : List Int} {w : World} (e : l = xs.length) (rA : Rd w .u32 A xs) (hc : xs.length ≤ c) :
  Calls Tryz.prog 134 #[.slice A l c] w fun e w' => e = .returned (.slice A (trim xs).length c) ∧ w = w' := by subst e; exact trimmed_c A c xs w rA hc
set_option maxHeartbeats 800000 in
set_option maxRecDepth 100000 in
theorem divided_c (A : Option Addr) (c : Nat) (xs : List Int) (y : Int) (w : World) (rA : Rd w .u32 A xs) (dx : dg b32 xs) (hl : xs.length ≤ 1000000) (hy0 : 0 < y) (hy1 : y < 4294967296) :
  Calls Tryz.prog 124 #[.slice A xs.length c, .int .u32 y] w (Ret w (K2 (KO w.heap.size 140 .u32 fun zs => dg b32 zs ∧ lv b32 zs = lv b32 xs / y ∧ top zs) (KV (.int .u32 (lv b32 xs % y))))) := by
 obtain ⟨i0, hi, hz0, hz1, hz2⟩ := info_parts info_u32
 have hlx := rA.1
 go_enter Tryz.func124, Tryz.ntmps124
 go_wp2_with (at_make; refine wpList_make_full _ rfl _ _ 22 rfl w.heap.size 140 i0 (.int .u32 0) 1 Tryz.underlying22 hi hz0 hz1 _ _ _ _ xs.length rfl rfl rfl rfl ?b2 ?b3 (Nat.le_refl _) ?_)
 case b2 => rw [hz2]; omega
 case b3 => unfold maxLen; omega
 intro w0 hown0 hgrow0
 have n0 : Nw w w0 := Below.grown (Nw.refl w) hgrow0 (Nat.le_refl _) (fun k h => by cases h)
 have o0 := Own.made hown0
 clear hown0
 obtain ⟨g, hg⟩ : ∃ g, g = w.heap.size := ⟨_, rfl⟩
 rw [← hg] at o0
 have HG := Lib.hid hg
 go_wp2
 go_loopw [7, 8] (fun rr ci wr => ∃ (k : Nat) (zs : List Int) (r : Int), ci = .int .i64 ((k : Int) - 1) ∧ rr = .int .u32 r ∧ Own wr w.heap.size 140 .u32 (.slice (some ⟨w.heap.size, 0, none⟩) xs.length xs.length) zs ∧ DivAt xs y k zs r ∧ Nw w wr)
  (fun _ ci _ => (intOf ci + 1).toNat)
 case atStart => exact ⟨xs.length, _, 0, rfl, rfl, HG.out ▸ o0, DivAt.start xs hy0, n0⟩
 case round =>
  obtain ⟨k, zs, r, rfl, rfl, ho, hs, hn⟩ := hrel
  have hkle := hs.le
  have hr0 := hs.r0
  have hr1 := hs.r1
  clear hg o0
  cases k with
  | zero =>
   obtain ⟨hl1, hl2⟩ := hs.done
   have HL1 := Lib.hid hl1
   have HL2 := Lib.hid hl2
   have HZ := Lib.hid hs.len
   have dz := hs.dg
   clear hl1 hl2 hs
   have rZ : Rd wr .u32 (some ⟨w.heap.size, 0, none⟩) zs := by
    obtain ⟨A', c', e, hc', rr⟩ := ho.rd
    simp only [Value.slice.injEq] at e
    rw [e.1]; exact rr
   go_wp2_with (go_at_call 134; refine (trimmed_l HZ.out.symm rZ (by rw [HZ.out]; omega)).mono ?_; rintro e w' ⟨rfl, rfl⟩)
   go_ret2
   have ht := trim_len zs
   exact ⟨_, rfl, ⟨_, _, rfl, ⟨trim zs, _, _, rfl, by have := ho.take HZ.out.symm (trim zs).length (by rw [HZ.out] at ht; exact ht); rwa [← trim_take] at this, trim_dg dz, by rw [trim_lv]; exact HL1.out, trim_top zs⟩, by rw [KV]; rw [← HL2.out]; rfl⟩, hn⟩
  | succ k =>
   obtain ⟨ad, hA, hcell⟩ := rA.2 k (by omega)
   subst hA
   have hcell := hn.kept _ _ _ hcell
   obtain ⟨x0, x1⟩ := dg_at dx (by decide) k
   rw [b32_eq] at x1
   have HS := Lib.hid (hs.step dx hy1)
   have hc := ho.cellAt (i := k) (by rw [hs.len]; omega) hs.len.symm
   have hf := ho.frozenAt hs.len.symm k
   have HZ := Lib.hid hs.len
   clear hs
   go_wp2_with (go_at_call 150; refine (div32_c r (at0 xs k) y _ ⟨hr0, hr1⟩ ⟨x0, x1⟩ hy1).mono ?_; rintro e w1 ⟨rfl, hb⟩; have hc1 := (ho.kept hb).cellAt (i := k) (by rw [HZ.out]; omega) HZ.out.symm; have hf1 := (ho.kept hb).frozenAt HZ.out.symm k; clear hc hf)
   exact ⟨⟨k, _, _, rfl, rfl, (ho.kept hb).set HZ.out.symm k _, HS.out, (hn.trans hb).set (Nat.le_refl _) _⟩, by simp [intOf]⟩
structure ShAt (xs : List Int) (s : Nat) (k : Nat) (zs : List Int) : Prop where
 le : k ≤ xs.length
 len : zs.length = xs.length + 1
 dg : dg b32 zs
 top : at0 zs k < (2 : Int) ^ s
 high : ∀ i, k < i → at0 zs i = 0
 eq : lv b32 zs = lv b32 (xs.take k) * (2 : Int) ^ s
theorem ShAt.start (xs : List Int) (s : Nat) : ShAt xs s 0 (List.replicate (xs.length + 1) 0) :=
 ⟨by omega, by simp, dg_replicate _ (by decide) (by decide), by simp only [at0, List.getD_eq_getElem?_getD]; simp; exact Int.pow_pos (by decide), fun i hi => by simp only [at0, List.getD_eq_getElem?_getD, List.getElem?_replicate]; split <;> rfl, by rw [lv_zeros]; simp [lv]⟩
theorem at0_set_ne {xs : List Int} {i j : Nat} {x : Int} (h : i ≠ j) : at0 (xs.set i x) j = at0 xs j := by
 simp only [at0, List.getD_eq_getElem?_getD]; rw [List.getElem?_set_ne h]
theorem at0_set_self {xs : List Int} {i : Nat} {x : Int} (h : i < xs.length) : at0 (xs.set i x) i = x := by
 simp only [at0, List.getD_eq_getElem?_getD]; rw [List.getElem?_set_self h]; rfl
theorem ShAt.step {xs : List Int} {s k : Nat} {zs : List Int} (h : ShAt xs s k zs) (dx : Ma.dg b32 xs) (hs : s < 32) (hk : k < xs.length) :
  ShAt xs s (k + 1) ((zs.set k (at0 zs k + at0 xs k * (2 : Int) ^ s % 4294967296)).set (k + 1) (at0 xs k * (2 : Int) ^ s / 4294967296)) ∧ 0 ≤ at0 zs k ∧ at0 xs k * (2 : Int) ^ s % 4294967296 % (2 : Int) ^ s = 0 ∧ 0 ≤ at0 xs k * (2 : Int) ^ s ∧ at0 xs k * (2 : Int) ^ s < 18446744073709551616 ∧ at0 xs k * (2 : Int) ^ s / 4294967296 < (2 : Int) ^ s ∧ at0 zs k + at0 xs k * (2 : Int) ^ s % 4294967296 < 4294967296 := by
 obtain ⟨h1, h2, h3, h4, h5, h6⟩ := h
 obtain ⟨x0, x1⟩ := dg_at dx (by decide) k
 obtain ⟨z0, z1⟩ := dg_at h3 (by decide) k
 rw [b32_eq] at x1
 obtain ⟨d, hd, hp⟩ : ∃ d : Int, 4294967296 = d * (2 : Int) ^ s ∧ 0 < d := by
  refine ⟨(2 : Int) ^ (32 - s), ?_, Int.pow_pos (by decide)⟩
  rw [← Int.pow_add, Nat.sub_add_cancel (by omega)]; decide
 have p0 : 0 < (2 : Int) ^ s := Int.pow_pos (by decide)
 have p1 : (2 : Int) ^ s < 4294967296 := by
  have : (2 : Int) ^ s < (2 : Int) ^ 32 := by
   have h := pow_le (b := 2) (by decide) (show s + 1 ≤ 32 by omega)
   rw [Int.pow_succ] at h
   omega
  have e : (2 : Int) ^ 32 = 4294967296 := by decide
  omega
 generalize hpp : (2 : Int) ^ s = p at *
 obtain ⟨a, ha⟩ : ∃ a, at0 xs k = a := ⟨_, rfl⟩
 rw [ha] at x0 x1 ⊢
 have m0 : 0 ≤ a * p := Int.mul_nonneg x0 (by omega)
 have m1 : a * p < 18446744073709551616 := by
  have h1 : a * p ≤ 4294967295 * p := Int.mul_le_mul_of_nonneg_right (by omega) (by omega)
  omega
 have m2 : a * p / 4294967296 < p := by
  apply Int.ediv_lt_of_lt_mul (by omega)
  have h1 : a * p ≤ 4294967295 * p := Int.mul_le_mul_of_nonneg_right (by omega) (by omega)
  omega
 have m3 : a * p % 4294967296 = p * (a % d) := by
  rw [hd, Int.mul_comm a p, Int.mul_comm d p, Int.mul_emod_mul_of_pos _ _ p0]
 have m4 : 0 ≤ a % d := Int.emod_nonneg _ (by omega)
 have m5 : a % d < d := Int.emod_lt_of_pos _ hp
 have m6 : p * (a % d) + p ≤ 4294967296 := by
  have h1 : p * (a % d + 1) ≤ p * d := Int.mul_le_mul_of_nonneg_left (by omega) (by omega)
  rw [Int.mul_add, Int.mul_comm p d, ← hd] at h1
  omega
 have e := Int.mul_ediv_add_emod (a * p) 4294967296
 have q0 : 0 ≤ a * p / 4294967296 := Int.ediv_nonneg m0 (by decide)
 refine ⟨⟨by omega, by simp [h2], dg_set (dg_set h3 _ ?_ ?_) _ q0 ?_, ?_, fun i hi => ?_, ?_⟩, z0, ?_, m0, m1, m2, ?_⟩
 ·rw [m3]; have := Int.mul_nonneg (Int.le_of_lt p0) m4; omega
 ·rw [m3, b32_eq]; omega
 ·rw [b32_eq]; omega
 ·rw [at0_set_self (by simp; omega), hpp]; exact m2
 ·rw [at0_set_ne (by omega), at0_set_ne (by omega)]; exact h5 i (by omega)
 ·rw [lv_set _ _ _ _ (by simp; omega), lv_set _ _ _ _ (by omega), at0_set_ne (by omega), h5 (k + 1) (by omega), lv_take_succ _ _ _ hk, h6, Int.pow_succ, hpp, ha]
  generalize a * p / 4294967296 = q at *
  generalize a * p % 4294967296 = r at *
  rw [b32_eq] at *
  generalize (4294967296 : Int) ^ k = pk at *
  grind
 ·rw [m3]; exact Int.mul_emod_right _ _
 ·rw [m3]; omega
theorem or_add (z m : Int) (s : Nat) (hz : 0 ≤ z ∧ z < (2 : Int) ^ s) (hm : 0 ≤ m ∧ m < 4294967296) (hd : m % (2 : Int) ^ s = 0) (hzm : z < 4294967296) : bits .or .u32 z m = z + m := by
 obtain ⟨Z, rfl⟩ := Int.eq_ofNat_of_zero_le hz.1
 obtain ⟨M, rfl⟩ := Int.eq_ofNat_of_zero_le hm.1
 have e2 : ((2 : Int) ^ s) = ((2 ^ s : Nat) : Int) := by rw [Int.natCast_pow]; rfl
 rw [e2] at hz hd
 have hz1 : Z < 2 ^ s := by omega
 have hd1 : M % 2 ^ s = 0 := by
  have := hd
  rw [← Int.natCast_emod] at this
  omega
 rw [u32_or_nat _ _ (by omega) (by omega)]
 have e3 := Nat.mod_add_div M (2 ^ s)
 rw [hd1, Nat.zero_add] at e3
 have := Nat.two_pow_add_eq_or_of_lt (i := s) (b := Z) hz1 (M / 2 ^ s)
 rw [e3] at this
 rw [Nat.or_comm, ← this]
 omega
end Go.Proofs.YthpjmhhfcechmaaGreat
/- The contract of the program's Mul. -/
namespace Go.Proofs.YthpjmhhfcechmaaGreat
open Go.RowKit Ma

structure MulAt (xs ys : List Int) (k : Nat) (zs : List Int) : Prop where
 le : k ≤ xs.length
 len : zs.length = xs.length + ys.length
 dg : dg b32 zs
 high : ∀ i, k + ys.length ≤ i → at0 zs i = 0
 eq : lv b32 zs = lv b32 (xs.take k) * lv b32 ys
structure MulIn (xs ys : List Int) (k j : Nat) (zs : List Int) (c : Int) : Prop where
 le : j ≤ ys.length
 len : zs.length = xs.length + ys.length
 dg : dg b32 zs
 high : ∀ i, k + ys.length ≤ i → at0 zs i = 0
 c0 : 0 ≤ c
 c1 : c < 4294967296
 eq : lv b32 zs + b32 ^ (k + j) * c = lv b32 (xs.take k) * lv b32 ys + b32 ^ k * (at0 xs k * lv b32 (ys.take j))
theorem at0_replicate (n i : Nat) : at0 (List.replicate n 0) i = 0 := by
 simp only [at0, List.getD_eq_getElem?_getD, List.getElem?_replicate]; split <;> rfl
theorem MulAt.start (xs ys : List Int) : MulAt xs ys 0 (List.replicate (xs.length + ys.length) 0) :=
 ⟨by omega, by simp, dg_replicate _ (by decide) (by decide), fun i _ => at0_replicate _ _, by rw [lv_zeros]; simp [lv]⟩
theorem MulAt.inner {xs ys : List Int} {k : Nat} {zs : List Int} (h : MulAt xs ys k zs) : MulIn xs ys k 0 zs 0 :=
 ⟨by omega, h.len, h.dg, h.high, by omega, by omega, by rw [h.eq]; simp [lv]⟩
theorem MulIn.step {xs ys : List Int} {k j : Nat} {zs : List Int} {c : Int} (h : MulIn xs ys k j zs c) (dx : Ma.dg b32 xs) (dy : Ma.dg b32 ys) (hk : k < xs.length) (hj : j < ys.length) :
  MulIn xs ys k (j + 1) (zs.set (k + j) ((at0 xs k * at0 ys j + at0 zs (k + j) + c) % 4294967296)) ((at0 xs k * at0 ys j + at0 zs (k + j) + c) / 4294967296) ∧
   0 ≤ at0 xs k * at0 ys j ∧ at0 xs k * at0 ys j ≤ 18446744065119617025 ∧ 0 ≤ at0 zs (k + j) ∧ at0 zs (k + j) ≤ 4294967295 := by
 obtain ⟨h1, h2, h3, h4, h5, h6, h7⟩ := h
 obtain ⟨x0, x1⟩ := dg_at dx (by decide) k
 obtain ⟨y0, y1⟩ := dg_at dy (by decide) j
 obtain ⟨z0, z1⟩ := dg_at h3 (by decide) (k + j)
 rw [b32_eq] at x1 y1 z1
 have p0 : 0 ≤ at0 xs k * at0 ys j := Int.mul_nonneg x0 y0
 have p1 : at0 xs k * at0 ys j ≤ 18446744065119617025 := by
  have e1 : at0 xs k * at0 ys j ≤ 4294967295 * at0 ys j := Int.mul_le_mul_of_nonneg_right (by omega) y0
  omega
 refine ⟨⟨by omega, by simp [h2], dg_set h3 _ (by omega) (by rw [b32_eq]; omega), fun i hi => ?_, by omega, by omega, ?_⟩, p0, p1, z0, by omega⟩
 ·rw [at0_set_ne (by omega)]; exact h4 i hi
 ·rw [lv_set _ _ _ _ (by omega), lv_take_succ _ _ _ hj, ← Nat.add_assoc, Int.pow_succ]
  have e := Int.mul_ediv_add_emod (at0 xs k * at0 ys j + at0 zs (k + j) + c) 4294967296
  generalize (at0 xs k * at0 ys j + at0 zs (k + j) + c) / 4294967296 = q at *
  generalize (at0 xs k * at0 ys j + at0 zs (k + j) + c) % 4294967296 = r at *
  rw [Int.pow_add] at *
  rw [b32_eq] at *
  generalize (4294967296 : Int) ^ k = pk at *
  generalize (4294967296 : Int) ^ j = pj at *
  grind
theorem MulIn.done {xs ys : List Int} {k : Nat} {zs : List Int} {c : Int} (h : MulIn xs ys k ys.length zs c) (hk : k < xs.length) : MulAt xs ys (k + 1) (zs.set (k + ys.length) c) := by
 obtain ⟨h1, h2, h3, h4, h5, h6, h7⟩ := h
 refine ⟨by omega, by simp [h2], dg_set h3 _ h5 (by rw [b32_eq]; exact h6), fun i hi => ?_, ?_⟩
 ·rw [at0_set_ne (by omega)]; exact h4 i (by omega)
 ·rw [lv_set _ _ _ _ (by omega), h4 _ (Nat.le_refl _), lv_take_succ _ _ _ hk]
  rw [List.take_length] at h7
  grind
theorem made_l {A : Option Addr} {l c : Nat} {xs : List Int} {w : World} (e : l = xs.length) (n : Bool) (rA : Rd w .u32 A xs) (hc : xs.length ≤ c) (hd : dg b32 xs) :
  Calls Tryz.prog 95 #[.bool n, .slice A l c] w (Ret w (KI (sg n (lv b32 xs)))) := by subst e; exact made_c n A c xs w rA hc hd
set_option maxHeartbeats 1600000 in
set_option maxRecDepth 100000 in
theorem mul_c {x y : Int} {n m : Bool} {A B : Option Addr} {l l' c d : Nat} {w : World} (hx : RI w n A l c x) (hy : RI w m B l' d y) (hl : l ≤ 500000) (hl' : l' ≤ 500000) :
  Calls Tryz.prog 83 #[.agg #[.bool n, .slice A l c], .agg #[.bool m, .slice B l' d]] w (Ret w (KI (x * y))) := by
 obtain ⟨xs, rfl, hc, rA, dx, tx, nx, rfl⟩ := hx
 obtain ⟨ys, rfl, hd, rB, dy, ty, ny, rfl⟩ := hy
 obtain ⟨i0, hi, hz0, hz1, hz2⟩ := info_parts info_u32
 have nw1 : Nw w (((w.alloc (.cells #[.bool n, .slice A xs.length c] 31)).alloc (.cells #[.bool m, .slice B ys.length d] 31)).alloc (.cells #[.bool false, .slice none 0 0] 31)) := (((Nw.refl w).alloc _).alloc _).alloc _
 have sg0 : Sg [(w.heap.size, 0, Value.bool n), (w.heap.size, 1, Value.slice A xs.length c), (w.heap.size + 1, 0, Value.bool m), (w.heap.size + 1, 1, Value.slice B ys.length d)] (w.heap.size + 1 + 1) 2 (((w.alloc (.cells #[.bool n, .slice A xs.length c] 31)).alloc (.cells #[.bool m, .slice B ys.length d] 31)).alloc (.cells #[.bool false, .slice none 0 0] 31)) := by
  refine ⟨⟨by go_simp, by go_simp, by go_simp, by go_simp, trivial⟩, ?_, by go_simp⟩
  have := box_two ((w.alloc (.cells #[.bool n, .slice A xs.length c] 31)).alloc (.cells #[.bool m, .slice B ys.length d] 31)) 31 false none 0 0
  simpa using this
 obtain ⟨W1, hW1⟩ : ∃ W1, W1 = (((w.alloc (.cells #[.bool n, .slice A xs.length c] 31)).alloc (.cells #[.bool m, .slice B ys.length d] 31)).alloc (.cells #[.bool false, .slice none 0 0] 31)) := ⟨_, rfl⟩
 have hsz : W1.heap.size = w.heap.size + 1 + 1 + 1 := by rw [hW1]; go_simp
 rw [← hW1] at nw1 sg0
 have HW1 := Lib.hid hW1
 have HSZ := Lib.hid hsz
 have hszle : w.heap.size + 1 + 1 + 1 ≤ W1.heap.size := by omega
 clear hW1 hsz
 have RA := Lib.hid (rA.kept nw1.kept)
 have RB := Lib.hid (rB.kept nw1.kept)
 clear rA rB
 go_enter Tryz.func83, Tryz.ntmps83
 go_wp2_with (at_make; refine wpList_make_full _ rfl _ _ 22 rfl (w.heap.size + 1 + 1 + 1) 140 i0 (.int .u32 0) 1 Tryz.underlying22 hi hz0 hz1 _ _ _ _ (xs.length + ys.length) rfl rfl (by omega) (by omega) ?b2 ?b3 ?b4 ?_)
 case b2 => rw [hz2]; omega
 case b3 => unfold maxLen; omega
 case b4 => simp
 intro w0 hown0 hgrow0
 rw [← HW1.out] at hgrow0
 have n0 : Nw W1 w0 := Below.grown (Nw.refl W1) hgrow0 (Nat.le_refl _) (fun k h => by cases h)
 have o0 := Own.made hown0
 clear hown0 hgrow0
 have S0 := sg0.nw n0
 obtain ⟨⟨q1, q2, q3, q4, _⟩, _, _⟩ := S0
 go_wp2
 clear q1 q2 q3 q4
 go_loopw [23] (fun ci wr => ∃ (k : Nat) (zs : List Int), ci = .int .i64 k ∧ Own wr (w.heap.size + 1 + 1 + 1) 140 .u32 (.slice (some ⟨w.heap.size + 1 + 1 + 1, 0, none⟩) (xs.length + ys.length) (xs.length + ys.length)) zs ∧ MulAt xs ys k zs ∧ Nw W1 wr)
  (fun ci _ => xs.length - (intOf ci).toNat)
 case atStart => exact ⟨0, _, rfl, o0, MulAt.start xs ys, n0⟩
 case round =>
  obtain ⟨k, zs, rfl, ho, hs, hn⟩ := hrel
  clear o0 n0
  have hkle := hs.le
  obtain ⟨⟨q1, q2, q3, q4, _⟩, hbx, _⟩ := sg0.nw hn
  by_cases hk : k < xs.length
  ·obtain ⟨ad, hA, hcell⟩ := RA.out.2 k hk
   subst hA
   have hcell := hn.kept _ _ _ hcell
   obtain ⟨wo, hwo⟩ : ∃ wo : World, wo = wr := ⟨_, rfl⟩
   obtain ⟨x0, x1⟩ := dg_at dx (by decide) k
   rw [b32_eq] at x1
   have HSI := Lib.hid hs.inner
   clear hs hwo
   go_wp2
   go_loopw [8, 31] (fun cy cj wq => ∃ (j : Nat) (us : List Int) (cc : Int), cj = .int .i64 j ∧ cy = .int .u64 cc ∧ Own wq (w.heap.size + 1 + 1 + 1) 140 .u32 (.slice (some ⟨w.heap.size + 1 + 1 + 1, 0, none⟩) (xs.length + ys.length) (xs.length + ys.length)) us ∧ MulIn xs ys k j us cc ∧ Nw W1 wq)
    (fun _ cj _ => ys.length - (intOf cj).toNat)
   case atStart => exact ⟨0, zs, 0, rfl, rfl, ho, HSI.out, hn⟩
   case round =>
    obtain ⟨j, us, cc, rfl, rfl, ho2, hi2, hn2⟩ := hrel
    have hjle := hi2.le
    have hc0 := hi2.c0
    have hc1 := hi2.c1
    clear q1 q2 q3 q4 hcell ho hn hbx
    obtain ⟨⟨q1, q2, q3, q4, _⟩, hbx, _⟩ := sg0.nw hn2
    by_cases hj : j < ys.length
    ·obtain ⟨bd, hB, hcellb⟩ := RB.out.2 j hj
     subst hB
     have hcellb := hn2.kept _ _ _ hcellb
     obtain ⟨hst, p0, p1, z0, z1⟩ := hi2.step dx dy hk hj
     obtain ⟨y0, y1⟩ := dg_at dy (by decide) j
     rw [b32_eq] at y1
     have hcz := ho2.cellAt (i := k + j) (by rw [hi2.len]; omega) hi2.len.symm
     have hfz := ho2.frozenAt hi2.len.symm (k + j)
     have HST := Lib.hid hst
     have HO := Lib.hid ho2
     have HZ := Lib.hid hi2.len
     clear hst ho2 hi2
     go_wp2
     exact ⟨⟨j + 1, _, _, by go_num, rfl, HO.out.set HZ.out.symm (k + j) _, HST.out, hn2.set (by have := HSZ.out; simp; omega) _⟩, by simp [intOf]; omega⟩
    ·have hje : j = ys.length := by omega
     have HDO := Lib.hid ((hje ▸ hi2).done hk)
     have hcz := ho2.cellAt (i := k + ys.length) (by rw [hi2.len]; omega) hi2.len.symm
     have hfz := ho2.frozenAt hi2.len.symm (k + ys.length)
     have HO := Lib.hid ho2
     have HZ := Lib.hid hi2.len
     clear ho2 hi2 hje
     go_wp2
     exact ⟨⟨k + 1, _, by go_num, HO.out.set HZ.out.symm (k + ys.length) _, HDO.out, hn2.set (by have := HSZ.out; simp; omega) _⟩, by simp [intOf]; omega⟩
  ·have hke : k = xs.length := by omega
   have hd0 := hs.eq
   rw [hke, List.take_length] at hd0
   have HD := Lib.hid hd0
   have HZ := Lib.hid hs.len
   have dz := hs.dg
   obtain ⟨A', c', e, hc', rr⟩ := ho.rd
   simp only [Value.slice.injEq] at e
   have hres : sg (n != m) (lv b32 zs) = sg n (lv b32 xs) * sg m (lv b32 ys) := by
    rw [HD.out]; cases n <;> cases m <;> simp [sg, Int.neg_mul, Int.mul_neg]
   have HRES := Lib.hid hres
   have rZ : Rd wr .u32 (some ⟨w.heap.size + 1 + 1 + 1, 0, none⟩) zs := by rw [e.1]; exact rr
   clear hd0 hke hs e rr hres
   go_wp2_with (go_at_call 95; refine (made_l HZ.out.symm (n != m) rZ (by rw [HZ.out]; omega) dz).mono ?_; rintro e w2 ⟨_, rfl, ⟨m2, D, l2, c2, rfl, hi2⟩, hb2⟩; have b2 := ((sg0.nw hn).nw hb2).2.1; obtain ⟨⟨v0, hv0, hn0⟩, hf0⟩ := b2 0 (by omega); obtain ⟨⟨v1, hv1, hn1⟩, hf1⟩ := b2 1 (by omega))
   have hi' := hi2.eq (z' := sg n (lv b32 xs) * sg m (lv b32 ys)) HRES.out
   exact bodyPost_ret (v := .agg #[.bool m2, .slice D l2 c2]) (by simp [results, Tryz.results83, go_sem, hv0, hv1]) rfl (Ret.I (hi'.kept (store_I b2 hi').1.2.1) (((nw1.trans hn).trans hb2).rr (store_I b2 hi').1 (by omega)))
end Go.Proofs.YthpjmhhfcechmaaGreat
/- The contracts of the program's chunk, and of slices.Reverse on bytes. -/
namespace Go.Proofs.YthpjmhhfcechmaaGreat
open Go.RowKit Ma

set_option maxHeartbeats 800000 in
theorem chunk_c (r : Int) (w : World) (h2 : 2 ≤ r) (h36 : r ≤ 36) :
  Calls Tryz.prog 123 #[.int .i64 r] w fun e w' => ∃ k : Nat, e = .returned (.tuple #[.int .u32 (r ^ k), .int .i64 k]) ∧ w = w' ∧ 1 ≤ k ∧ k ≤ 32 ∧ r ^ k < 4294967296 := by
 have key : ∀ k : Nat, 2 ^ k ≤ r ^ k := by
  intro k
  induction k with
  | zero => simp
  | succ k ih =>
   rw [Int.pow_succ, Int.pow_succ]
   have h0 : (0 : Int) < 2 ^ k := Int.pow_pos (by decide)
   have h1 : (2 : Int) ^ k * 2 ≤ 2 ^ k * r := Int.mul_le_mul_of_nonneg_left h2 (Int.le_of_lt h0)
   have h3 : (2 : Int) ^ k * r ≤ r ^ k * r := Int.mul_le_mul_of_nonneg_right ih (by omega)
   omega
 have kl : ∀ k : Nat, r ^ k < 4294967296 → k ≤ 31 := by
  intro k hk
  have h1 := key k
  by_cases h : k ≤ 31
  ·exact h
  ·have h3 := pow_le (b := 2) (by decide) (show 32 ≤ k by omega)
   have h4 : (2 : Int) ^ 32 = 4294967296 := by decide
   omega
 have KL := Lib.hid kl
 clear kl key
 go_enter Tryz.func123, Tryz.ntmps123
 go_wp2
 go_loop [4, 5] (fun n c => ∃ k : Nat, n = .int .u64 (r ^ k) ∧ c = .int .i64 k ∧ 1 ≤ k ∧ k ≤ 31 ∧ r ^ k < 4294967296 ∧ 0 ≤ r ^ k) (fun _ c => (32 - intOf c).toNat)
 case atStart => exact ⟨1, by rw [Int.pow_succ, Int.pow_zero, Int.one_mul], rfl, by omega, by omega, by rw [Int.pow_succ, Int.pow_zero, Int.one_mul]; omega, by rw [Int.pow_succ, Int.pow_zero, Int.one_mul]; omega⟩
 case round =>
  obtain ⟨k, rfl, rfl, h1, h31, hlt, hp0⟩ := hrel
  have hm0 : 0 ≤ r ^ k * r := Int.mul_nonneg hp0 (by omega)
  have hm1 : r ^ k * r ≤ 4294967296 * 36 := by
   have a1 : r ^ k * r ≤ r ^ k * 36 := Int.mul_le_mul_of_nonneg_left h36 hp0
   omega
  by_cases hc : r ^ k * r < 4294967296
  ·have hk2 := KL.out (k + 1) (by rw [Int.pow_succ]; exact hc)
   go_wp2
   go_round
   case rel => exact ⟨k + 1, by rw [Int.pow_succ], by go_num, by omega, by omega, by rw [Int.pow_succ]; exact hc, by rw [Int.pow_succ]; exact hm0⟩
   case measure => simp [intOf]; omega
  ·go_wp2
   go_ret2
   exact ⟨k, ret_val (by simp [hlt]), rfl, h1, by omega, hlt⟩
end Go.Proofs.YthpjmhhfcechmaaGreat
/- The contract of slices.Reverse on bytes of the call's own. -/
namespace Go.Proofs.YthpjmhhfcechmaaGreat
open Go.RowKit Ma

def RevAt (zs us : List Int) (i : Nat) : Prop := us.length = zs.length ∧ ∀ m, m < zs.length → at0 us m = if m < i ∨ zs.length - i ≤ m then at0 zs (zs.length - 1 - m) else at0 zs m
theorem at0_set (l : List Int) (i m : Nat) (x : Int) (hi : i < l.length) : at0 (l.set i x) m = if m = i then x else at0 l m := by
 by_cases e : m = i
 ·subst e; simp [at0, List.getD_eq_getElem?_getD, hi]
 ·rw [at0_set_ne (by omega)]; simp [e]
theorem RevAt.step {zs us : List Int} {i : Nat} (h : RevAt zs us i) (hi : 2 * i + 1 < zs.length) : RevAt zs ((us.set i (at0 us (zs.length - 1 - i))).set (zs.length - 1 - i) (at0 us i)) (i + 1) := by
 refine ⟨by simp [h.1], fun m hm => ?_⟩
 have h1 := h.2 i (by omega)
 have h2 := h.2 (zs.length - 1 - i) (by omega)
 have h3 := h.2 m hm
 rw [if_neg (by omega)] at h1 h2
 rw [at0_set _ _ _ _ (by simp [h.1]; omega), at0_set _ _ _ _ (by rw [h.1]; omega)]
 by_cases e1 : m = zs.length - 1 - i
 ·rw [if_pos e1, h1, if_pos (by omega), e1, show zs.length - 1 - (zs.length - 1 - i) = i by omega]
 ·rw [if_neg e1]
  by_cases e2 : m = i
  ·rw [if_pos e2, h2, if_pos (by omega), e2]
  ·rw [if_neg e2, h3]
   by_cases e3 : m < i ∨ zs.length - i ≤ m
   ·rw [if_pos e3, if_pos (by omega)]
   ·rw [if_neg e3, if_neg (by omega)]
theorem RevAt.done {zs us : List Int} {i : Nat} (h : RevAt zs us i) (hi : ¬ 2 * i + 1 < zs.length) : us = zs.reverse := by
 apply List.ext_getElem
 ·simp [h.1]
 ·intro m h1 h2
  have h3 := h.2 m (by rw [← h.1]; exact h1)
  rw [at0_of_lt h1] at h3
  rw [h3, List.getElem_reverse]
  have hm : m < zs.length := by rw [← h.1]; exact h1
  by_cases e3 : m < i ∨ zs.length - i ≤ m
  ·rw [if_pos e3, at0_of_lt (by omega)]
  ·rw [if_neg e3, at0_of_lt hm]
   congr 1; omega
set_option maxHeartbeats 800000 in
theorem reverse_c {w : World} {base : Nat} {g n cap : Nat} {zs : List Int} (ho : Own w base 5 .u8 (.slice (some ⟨g, 0, none⟩) n cap) zs) (hn : n = zs.length) :
  Calls Tryz.prog 125 #[.slice (some ⟨g, 0, none⟩) n cap] w fun e w' => e = .returned (.tuple #[]) ∧ Own w' base 5 .u8 (.slice (some ⟨g, 0, none⟩) n cap) zs.reverse ∧ Below base w w' := by
 have hlen : zs.length ≤ 9223372036854775807 := by
  obtain ⟨A, c, e, h1, h2⟩ := ho.rd
  exact h2.1
 have hbase := ho.ge
 go_enter Tryz.func125, Tryz.ntmps125
 go_wp2
 go_loopw [2, 3] (fun ci cj wr => ∃ (i : Nat) (us : List Int), ci = .int .i64 i ∧ cj = .int .i64 ((zs.length : Int) - 1 - i) ∧ i ≤ zs.length ∧ Own wr base 5 .u8 (.slice (some ⟨g, 0, none⟩) n cap) us ∧ RevAt zs us i ∧ Below base w wr)
  (fun ci _ _ => zs.length - (intOf ci).toNat)
 case atStart => exact ⟨0, zs, by simp, by simp [hn], by omega, ho, ⟨rfl, fun m hm => by rw [if_neg (by omega)]⟩, Below.refl _ _⟩
 case round =>
  obtain ⟨i, us, rfl, rfl, hi, hu, hr, hb⟩ := hrel
  by_cases hlt : 2 * i + 1 < zs.length
  ·obtain ⟨j, hj⟩ : ∃ j, j = zs.length - 1 - i := ⟨_, rfl⟩
   have hnl : n = us.length := by rw [hn, hr.1]
   have ci := hu.cellAt (i := i) (by rw [hr.1]; omega) hnl
   have cj := hu.cellAt (i := j) (by rw [hr.1]; omega) hnl
   have fi := hu.frozenAt hnl i
   have fj := hu.frozenAt hnl j
   have ej : ((zs.length : Int) - 1 - i) = (j : Int) := by omega
   rw [ej]
   have hij : i < j := by omega
   have hjn : j < n := by omega
   have hjb : (j : Int) < 9223372036854775807 := by omega
   have hiz : i + 1 ≤ zs.length := by omega
   have o2 := Lib.hid ((hu.set hnl i (at0 us j)).set (by simpa using hnl) j (at0 us i))
   have st := Lib.hid (hr.step hlt)
   have HN := Lib.hid hn
   have HJ := Lib.hid hj
   have HL := Lib.hid hlt
   clear hu hr hn hj hnl ej hlt ho
   go_wp2
   go_region
   go_wp2
   exact ⟨⟨i + 1, _, by go_num, by have := HJ.out; have := HL.out; apply congrArg (Value.int IntKind.i64); omega, hiz, o2.out.kept ((Below.refl _ _).drew), by have := st.out; rw [← HJ.out] at this; exact this, ((hb.setCell (p := ⟨g, i, none⟩) hbase _).setCell (p := ⟨g, j, none⟩) hbase _).drew⟩, by have := HL.out; simp [intOf]; omega⟩
  ·have hnl : n = us.length := by rw [hn, hr.1]
   have e := hr.done hlt
   have HO : Own wr base 5 .u8 (.slice (some ⟨g, 0, none⟩) n cap) zs.reverse := e ▸ hu
   have HO := Lib.hid HO
   clear hu e
   go_wp2
   go_end0
   exact ⟨rfl, HO.out, hb⟩
end Go.Proofs.YthpjmhhfcechmaaGreat
/- The contract of the program's Text. -/
namespace Go.Proofs.YthpjmhhfcechmaaGreat
open Go.RowKit Ma

theorem info_u8 : (Tryz.prog.info? 5).map (fun i => (i.zero, i.size, i.bytes)) = some (some (.int .u8 0), 1, 1) := by kernel_rfl
def dch (d : Int) : Int := if d < 10 then 48 + d else 55 + d
def Txt (r z : Int) (s : ByteArray) : Prop := ∃ ds, dg r ds ∧ top ds ∧ lv r ds = z.natAbs ∧ s.data.toList.map (fun b => (b.toNat : Int)) = if z = 0 then [48] else (if z < 0 then [45] else []) ++ (ds.map dch).reverse
def KT (r z : Int) : Rg.Know := fun v _ => ∃ s, v = .string s ∧ Txt r z s
theorem KT.st (r z : Int) : St (KT r z) := fun _ _ _ _ h => h
theorem bytes_inj {s t : ByteArray} (h : s.data.toList.map (fun b => (b.toNat : Int)) = t.data.toList.map (fun b => (b.toNat : Int))) : s = t := by
 have : s.data.toList = t.data.toList := by
  refine List.map_inj_right (f := fun b : UInt8 => (b.toNat : Int)) (fun a b e => ?_) |>.1 h
  exact UInt8.toNat_inj.1 (by exact_mod_cast e)
 cases s; cases t; congr; exact Array.toList_inj.1 this
theorem Txt.eq {r z : Int} {s t : ByteArray} (hr : 2 ≤ r) (h : Txt r z s) (k : Txt r z t) : s = t := by
 obtain ⟨ds, d1, t1, l1, e1⟩ := h
 obtain ⟨es, d2, t2, l2, e2⟩ := k
 have : ds = es := lv_inj (by omega) d1 d2 t1 t2 (l1.trans l2.symm)
 subst this
 exact bytes_inj (e1.trans e2.symm)
def digs : ByteArray := { data := #[48, 49, 50, 51, 52, 53, 54, 55, 56, 57, 65, 66, 67, 68, 69, 70, 71, 72, 73, 74, 75, 76, 77, 78, 79, 80, 81, 82, 83, 84, 85, 86, 87, 88, 89, 90] }
theorem dch_at {d : Int} (h0 : 0 ≤ d) (h1 : d < 36) (h : d.toNat < digs.size) : ((digs[d.toNat]'h).toNat : Int) = dch d := by
 obtain ⟨k, rfl⟩ := Int.eq_ofNat_of_zero_le h0
 have hk : k < 36 := by omega
 have key : ∀ k : Fin 36, ((digs[k.val]'(Nat.lt_of_lt_of_le k.2 (by decide))).toNat : Int) = dch k.val := by decide
 exact key ⟨k, hk⟩
theorem cell_one_eq (w : World) (k : IntKind) (x y : Int) (e : TypeId) (h : x = y) : ∀ j u, [Value.int k y][j]? = some u → (w.alloc (.cells #[.int k x] e)).cell? ((⟨w.heap.size, 0, none⟩ : Addr).add j) = some u := by
 subst h; intro j u hu; exact cell_one_new _ _ _ j u hu
def slen : Value → Nat
 | .slice _ n _ => n
 | _ => 0
theorem Own.slen {w : World} {b : Nat} {e : TypeId} {k : IntKind} {v : Value} {xs : List Int} (h : Own w b e k v xs) : slen v = xs.length := by
 obtain ⟨A, c, rfl, _⟩ := h.rd; rfl
theorem Own.row {w w' : World} {b b' : Nat} {e e' : TypeId} {k k' : IntKind} {v v' : Value} {xs ys : List Int} {o : Obj} (h : Own w b e k v xs) (h' : Own w b' e' k' v' ys) (he : e ≠ e') (hg : (w.alloc o).grownBy w' v'.ownBlock) : Own w' b e k v xs :=
 World.ownsRow.kept (World.ownsRow.alloc h o) hg (h.ne h' he)
theorem Nw.grew {w W w1 : World} {b : Nat} {e : TypeId} {k : IntKind} {v : Value} {xs : List Int} {o : Obj} (h : Nw w W) (ho : Own W b e k v xs) (hg : (W.alloc o).grownBy w1 v.ownBlock) (hb : w.heap.size ≤ b) : Nw w w1 :=
 Below.grown (h.alloc o) hg (h.alloc o).size (fun g hg => Nat.le_trans hb (ho.base g hg))
theorem Own.some' {w : World} {b : Nat} {e : TypeId} {k : IntKind} {v : Value} {xs : List Int} (h : Own w b e k v xs) (hne : xs ≠ []) : ∃ g c, v = .slice (some ⟨g, 0, none⟩) xs.length c := by
 rcases h.2 with ⟨hv, h0⟩ | ⟨g, cap, cur, hv, _⟩
 ·exact absurd (List.eq_nil_of_length_eq_zero h0) hne
 ·exact ⟨g, cap, hv⟩
theorem dch_0 {d : Int} (h0 : 0 ≤ d) (h1 : d < 36) : 48 ≤ dch d ∧ dch d ≤ 90 ∧ (dch d = 48 ↔ d = 0) := by
 unfold dch; split <;> omega
theorem at0_map (es : List Int) (i : Nat) (hi : i < es.length) : at0 (es.map dch) i = dch (at0 es i) := by
 rw [at0_of_lt (by simpa using hi), at0_of_lt hi]; simp
theorem strip_step {r : Int} {es : List Int} {V : Int} (d : Ma.dg r es) (e : lv r es = V) (h0 : 0 < V) : 0 < es.length ∧ (at0 es (es.length - 1) = 0 → Ma.dg r (es.take (es.length - 1)) ∧ lv r (es.take (es.length - 1)) = V) ∧ (at0 es (es.length - 1) ≠ 0 → Ma.top es) := by
 have hl : 0 < es.length := by
  cases es with
  | nil => simp [lv] at e; omega
  | cons a t => simp
 refine ⟨hl, fun hz => ⟨dg_take d _, ?_⟩, fun hz => (top_at (by intro e; subst e; simp at hl)).2 hz⟩
 have := lv_take_succ r es (es.length - 1) (by omega)
 rw [Nat.sub_add_cancel hl, List.take_length, hz, Int.mul_zero, Int.add_zero] at this
 omega
theorem bytes_of (zs : List Int) (h : ∀ z ∈ zs, 0 ≤ z ∧ z < 256) : ∃ l : List UInt8, l.map (fun b => (b.toNat : Int)) = zs ∧ l.length = zs.length := by
 induction zs with
 | nil => exact ⟨[], rfl, rfl⟩
 | cons z zs ih =>
  obtain ⟨l, e, hl⟩ := ih (fun x hx => h x (List.mem_cons_of_mem _ hx))
  have hz := h z (List.mem_cons_self ..)
  refine ⟨UInt8.ofNat z.toNat :: l, ?_, by simp [hl]⟩
  simp only [List.map_cons, e, UInt8.toNat_ofNat']
  congr 1
  omega
theorem Txt.pos {r z : Int} {es : List Int} {s : ByteArray} (h0 : 0 < z) (de : Ma.dg r es) (te : Ma.top es) (he : lv r es = z) (hs : s.data.toList.map (fun b => (b.toNat : Int)) = (es.map dch).reverse) : Txt r z s :=
 ⟨es, de, te, by omega, by rw [hs, if_neg (by omega), if_neg (by omega)]; simp⟩
theorem Txt.neg {r z : Int} {es : List Int} {s : ByteArray} (h0 : z < 0) (de : Ma.dg r es) (te : Ma.top es) (he : lv r es = -z) (hs : s.data.toList.map (fun b => (b.toNat : Int)) = (es.map dch ++ [45]).reverse) : Txt r z s :=
 ⟨es, de, te, by omega, by rw [hs, if_neg (by omega), if_pos h0]; simp⟩
theorem own_string {w : World} {base g n cap : Nat} {zs : List Int} (ho : Own w base 5 .u8 (.slice (some ⟨g, 0, none⟩) n cap) zs) (hn : n = zs.length) (hz : ∀ z ∈ zs, 0 ≤ z ∧ z < 256) :
  ∃ s : ByteArray, (convert 161 9 (.slice (some ⟨g, 0, none⟩) n cap)).run Tryz.prog w = .ok (.string s) w ∧ s.data.toList.map (fun b => (b.toNat : Int)) = zs := by
 obtain ⟨l, hl, hll⟩ := bytes_of zs hz
 subst hl
 have e : n = l.length := by rw [hn]; simp
 subst e
 refine ⟨⟨l.toArray⟩, run_convert_bytes_back w _ _ _ ⟨g, 0, none⟩ cap l Tryz.underlying161 Tryz.underlying5 Tryz.underlying9 (fun j hj => ?_), by simp⟩
 rw [add_at, ho.cellAt (i := j) (by simpa using hj) (by simp), at0_of_lt (by simpa using hj)]
 simp
structure TxA (r : Int) (xs0 ds xs : List Int) : Prop where
 dd : dg r ds
 dx : Ma.dg b32 xs
 tx : Ma.top xs
 eq : lv r ds + r ^ ds.length * lv b32 xs = lv b32 xs0
structure TxI (r : Int) (xs0 xs : List Int) (k len0 j : Nat) (ds : List Int) (q : Int) : Prop where
 le : j ≤ k
 len : ds.length = len0 + j
 dd : dg r ds
 q0 : 0 ≤ q
 q1 : q < r ^ (k - j)
 eq : lv r ds + r ^ ds.length * q + r ^ (len0 + k) * lv b32 xs = lv b32 xs0
theorem TxI.step {r : Int} {xs0 xs : List Int} {k len0 j : Nat} {ds : List Int} {q : Int} (h : TxI r xs0 xs k len0 j ds q) (hr : 2 ≤ r) (hj : j < k) : TxI r xs0 xs k len0 (j + 1) (ds ++ [q % r]) (q / r) := by
 obtain ⟨h1, h2, h3, h4, h5, h6⟩ := h
 have m0 := Int.emod_nonneg q (show r ≠ 0 by omega)
 have m1 := Int.emod_lt_of_pos q (show 0 < r by omega)
 refine ⟨by omega, by simp [h2]; omega, dg_append.2 ⟨h3, fun x hx => by rw [List.mem_singleton] at hx; rw [hx]; exact ⟨m0, m1⟩⟩, Int.ediv_nonneg h4 (by omega), ?_, ?_⟩
 ·apply Int.ediv_lt_of_lt_mul (by omega)
  rw [← Int.pow_succ, show (k - (j + 1)).succ = k - j by omega]
  exact h5
 ·have e := Int.mul_ediv_add_emod q r
  rw [lv_snoc, List.length_append, List.length_singleton, Int.pow_succ]
  generalize q / r = a at *
  generalize q % r = b at *
  generalize r ^ ds.length = p at *
  generalize r ^ (len0 + k) = p2 at *
  rw [← h6, ← e]
  grind
theorem TxI.q1r {r : Int} {xs0 xs : List Int} {k len0 j : Nat} {ds : List Int} {q : Int} (h : TxI r xs0 xs k len0 j ds q) (hr : 2 ≤ r) : q < r ^ k := by
 have := pow_le (b := r) (by omega) (show k - j ≤ k by omega)
 have := h.q1
 omega
theorem TxA.inner {r : Int} {xs0 ds xs : List Int} (h : TxA r xs0 ds xs) {k : Nat} {zs : List Int} {by_ : Int} (hr : 2 ≤ r) (hby : by_ = r ^ k) (dz : Ma.dg b32 zs) (hz : lv b32 zs = lv b32 xs / by_) : TxI r xs0 zs k ds.length 0 ds (lv b32 xs % by_) := by
 subst hby
 have hp := pos_pow (show 0 < r by omega) k
 refine ⟨by omega, by omega, h.dd, Int.emod_nonneg _ (by omega), Int.emod_lt_of_pos _ hp, ?_⟩
 have e := Int.mul_ediv_add_emod (lv b32 xs) (r ^ k)
 rw [hz, Int.pow_add, ← h.eq]
 generalize lv b32 xs / r ^ k = a at *
 generalize lv b32 xs % r ^ k = b at *
 generalize r ^ ds.length = p at *
 generalize r ^ k = p2 at *
 rw [← e]
 grind
theorem TxI.outer {r : Int} {xs0 xs : List Int} {k len0 : Nat} {ds : List Int} {q : Int} (h : TxI r xs0 xs k len0 k ds q) (dx : Ma.dg b32 xs) (tx : Ma.top xs) : TxA r xs0 ds xs := by
 obtain ⟨h1, h2, h3, h4, h5, h6⟩ := h
 refine ⟨h3, dx, tx, ?_⟩
 have : q = 0 := by simp at h5; omega
 rw [this] at h6
 rw [h2] at *
 simpa using h6
theorem pow2_le (r : Int) (hr : 2 ≤ r) : ∀ k : Nat, (2 : Int) ^ k ≤ r ^ k := by
 intro k
 induction k with
 | zero => simp
 | succ k ih =>
  rw [Int.pow_succ, Int.pow_succ]
  have h0 : (0 : Int) < 2 ^ k := Int.pow_pos (by decide)
  have h1 : (2 : Int) ^ k * 2 ≤ 2 ^ k * r := Int.mul_le_mul_of_nonneg_left hr (Int.le_of_lt h0)
  have h3 : (2 : Int) ^ k * r ≤ r ^ k * r := Int.mul_le_mul_of_nonneg_right ih (by omega)
  omega
theorem TxA.len {r : Int} {xs0 ds xs : List Int} (h : TxA r xs0 ds xs) (hr : 2 ≤ r) (d0 : Ma.dg b32 xs0) (hne : xs ≠ []) : ds.length ≤ 32 * xs0.length := by
 have h1 := h.eq
 have h2 := lv_nonneg (show 0 < r by omega) h.dd
 have h3 : 1 ≤ lv b32 xs := by
  have := top_le (by decide) h.dx h.tx hne
  have := pos_pow (show (0 : Int) < b32 by decide) (xs.length - 1)
  omega
 have h4 := lv_lt (show 0 < b32 by decide) d0
 have hp := pos_pow (show 0 < r by omega) ds.length
 have h5 : r ^ ds.length * 1 ≤ r ^ ds.length * lv b32 xs := Int.mul_le_mul_of_nonneg_left h3 (by omega)
 have h6 := pow2_le r hr ds.length
 have h7 : (2 : Int) ^ ds.length < 2 ^ (32 * xs0.length) := by
  have : b32 ^ xs0.length = 2 ^ (32 * xs0.length) := by rw [Int.pow_mul]; rfl
  omega
 apply Classical.byContradiction
 intro hc
 have := pow_le (b := 2) (by decide) (show 32 * xs0.length ≤ ds.length by omega)
 omega
set_option maxHeartbeats 3200000 in
set_option maxRecDepth 100000 in
theorem text_ok {x : Int} {n : Bool} {A : Option Addr} {l c : Nat} {w : World} (r : Int) (h2 : 2 ≤ r) (h36 : r ≤ 36) (hx : RI w n A l c x) (hl : l ≤ 500000) :
  Calls Tryz.prog 85 #[.agg #[.bool n, .slice A l c], .int .i64 r] w (Ret w (K2 (KT r x) (KV (.int .i64 0)))) := by
 have nw1 : Nw w (w.alloc (.cells #[.bool n, .slice A l c] 31)) := (Nw.refl w).alloc _
 have hx1 := hx.kept nw1.kept
 by_cases h0 : x = 0
 ·have hs : sgn x = 0 := by rw [h0]; rfl
  have HS := Lib.hid hs
  have HX := Lib.hid hx1
  clear hx hx1 hs
  go_enter Tryz.func85, Tryz.ntmps85
  go_wp2_with (go_at_call 36; refine (sign_c HX.out).mono ?_; rintro e w1 ⟨_, rfl, hk, hb⟩; rw [HS.out] at hk; subst hk)
  go_ret2
  exact ⟨_, rfl, ⟨_, _, rfl, ⟨_, rfl, [], dg_nil _, top_nil, by simp [lv, h0], by simp [h0]⟩, rfl⟩, nw1.trans hb⟩
 ·have hs : sgn x ≠ 0 := by unfold sgn; split <;> (try split) <;> omega
  obtain ⟨sv, hsv⟩ : ∃ sv, sgn x = sv := ⟨_, rfl⟩
  rw [hsv] at hs
  have HSV := Lib.hid hsv
  have HX := Lib.hid hx1
  obtain ⟨xs, rfl, hc, rA, dx, tx, nx, ex⟩ := hx1
  obtain ⟨i0, hi, hz0, hz1, hz2⟩ := info_parts info_u8
  have Q0 : Has [(w.heap.size, 0, .bool n), (w.heap.size, 1, .slice A xs.length c)] (w.alloc (.cells #[.bool n, .slice A xs.length c] 31)) := ⟨by go_simp, by go_simp, trivial⟩
  have Q0 := Lib.hid Q0
  clear hx hsv
  go_enter Tryz.func85, Tryz.ntmps85
  go_wp2_with (first
   | (go_at_call 36; refine (sign_c HX.out).mono ?_; rintro e w1 ⟨_, rfl, hk, hb⟩; rw [HSV.out] at hk; subst hk; obtain ⟨q0, q1, _⟩ := Q0.out.nw hb)
   | (go_at_call 123; refine (chunk_c r _ h2 h36).mono ?_; rintro e w2 ⟨k, rfl, rfl, hk1, hk32, hrk⟩))
  obtain ⟨W2, hW2⟩ : ∃ W2, W2 = w1 := ⟨_, rfl⟩
  have nw2 : Nw w w1 := nw1.trans hb
  have RX := Lib.hid (rA.kept hb.kept)
  go_loopw [8, 9, 10] (fun ov lv' rv wr => ∃ (ds zs : List Int) (A' : Option Addr) (c' : Nat), lv' = .slice A' zs.length c' ∧ zs.length ≤ c' ∧ Rd wr .u32 A' zs ∧ zs.length ≤ xs.length ∧ ds.length ≤ 32 * xs.length + 32 ∧ Own wr w1.heap.size 5 .u8 ov (ds.map dch) ∧ TxA r xs ds zs ∧ Nw w1 wr)
   (fun ov _ _ _ => 32 * xs.length + 1 - slen ov)
  case atStart => exact ⟨[], xs, A, c, rfl, hc, RX.out, Nat.le_refl _, by simp, Own.nil _ _ _ _, ⟨dg_nil _, dx, tx, by simp [lv]⟩, Nw.refl _⟩
  case round =>
   obtain ⟨ds, zs, A', c', rfl, hzc, rz, hzl, hdn, ho, ht, hn⟩ := hrel
   by_cases hz : 0 < zs.length
   ·have hne : zs ≠ [] := by intro e; subst e; simp at hz
    have hlen := ht.len h2 dx hne
    have hp0 := pos_pow (show 0 < r by omega) k
    have HT := Lib.hid ht
    have hdz := ht.dx
    have HO := Lib.hid ho
    have HR := Lib.hid rz
    have HN := Lib.hid hn
    clear ht ho rz hn q0 q1
    go_wp2_with (go_at_call 124; refine (divided_c A' c' zs (r ^ k) wr HR.out hdz (by omega) hp0 hrk).mono ?_; rintro e w3 ⟨_, rfl, ⟨v1, v2, rfl, ⟨us, g3, c3, rfl, o5, p1, p2, p3⟩, rfl⟩, hb3⟩)
    have hi0 := (HT.out.inner (k := k) h2 rfl p1 p2)
    have HI := Lib.hid hi0
    have hul : us.length ≤ zs.length := length_le (by decide) p1 hdz p3 (by rw [p2]; exact Int.ediv_le_self _ (lv_nonneg (by decide) hdz))
    clear hi0 p2
    have o3 := Lib.hid (HO.out.kept hb3)
    have n3 := Lib.hid (HN.out.trans hb3)
    obtain ⟨q9, hq⟩ : ∃ q9, lv b32 zs % r ^ k = q9 := ⟨_, rfl⟩
    rw [hq] at HI
    have hqq := Lib.hid hq
    clear hq HN HR
    go_loopw [8, 10, 37] (fun ov rv ci wq => ∃ (j : Nat) (es : List Int) (q : Int), ci = .int .i64 j ∧ rv = .int .u32 q ∧ Own wq w1.heap.size 5 .u8 ov (es.map dch) ∧ Own wq wr.heap.size 140 .u32 (.slice (some ⟨g3, 0, none⟩) us.length c3) us ∧ TxI r xs us k ds.length j es q ∧ Nw w1 wq)
     (fun _ _ ci _ => k - (intOf ci).toNat)
    case atStart => exact ⟨0, ds, q9, rfl, by rw [hqq.out], o3.out, o5, HI.out, n3.out⟩
    case round =>
     clear o3 HI o5 n3
     obtain ⟨j, es, q, rfl, rfl, ho4, hu4, hi4, hn4⟩ := hrel
     have hjk := hi4.le
     by_cases hj : j < k
     ·have hq0 := hi4.q0
      have hq1 := hi4.q1r h2
      have m0 := Int.emod_nonneg q (show r ≠ 0 by omega)
      have m1 := Int.emod_lt_of_pos q (show 0 < r by omega)
      have d0 := Int.ediv_nonneg hq0 (show 0 ≤ r by omega)
      have d1 := Int.ediv_le_self r hq0
      have HS := Lib.hid (hi4.step h2 hj)
      have hel := hi4.len
      clear hi4
      have m2 : q % r < 36 := by omega
      have hsz := hn4.size
      have HU := Lib.hid hu4
      go_wp2_with (at_builtin; refine wpList_append_own _ rfl (.tmp 39) (.tmp 45) 161 rfl w1.heap.size 5 i0 (.int .u8 0) 1 1 Tryz.underlying161 hi hz0 hz1 hz2 rfl (by decide) _ _ _ rfl (ho4.alloc _) ⟨wr.heap.size, 0, none⟩ 1 1 [.int .u8 (dch (q % r))] rfl rfl ?c1 ?c2 ?c3 ?c4 ?c5 ?_)
      case c1 => exact cell_one_eq _ _ _ _ _ (dch_at m0 m2 _)
      case c2 => simp [Value.oneCell']
      case c3 => unfold maxLen; simp; omega
      case c4 => simp; omega
      case c5 => simp; omega
      intro v1 w4 hown1 hgrow1 _
      have HU2 := Lib.hid (HU.out.row ho4 (by decide) hgrow1)
      have n4 : Nw w1 w4 := hn4.grew ho4 hgrow1 (Nat.le_refl _)
      go_wp2
      go_roundw
      case rel => exact ⟨j + 1, _, _, by go_num, rfl, Own.cast hown1 (by simp [hel]) (by simp), HU2.out, HS.out, n4⟩
      case measure => simp [intOf]; omega
     ·have hjk : j = k := by omega
      have hi5 : TxI r xs us k ds.length k es q := hjk ▸ hi4
      have HO5 := Lib.hid (hi5.outer p1 p3)
      have hel := hi5.len
      obtain ⟨_, hcu, ru⟩ := hu4.rdg
      have HK4 := Lib.hid ho4
      clear ho4 hu4
      clear hi4 hi5
      go_wp2
      exact ⟨⟨es, us, _, c3, rfl, hcu, ru, by omega, by omega, HK4.out, HO5.out, hn4⟩, by simp [HK4.out.slen, HO.out.slen]; omega⟩
   ·have hz0 : zs = [] := List.eq_nil_of_length_eq_zero (by omega)
    subst hz0
    have hv0 : 0 < lv b32 xs := by
     have h1 := lv_nonneg (show (0 : Int) < b32 by decide) dx
     have h3 : lv b32 xs ≠ 0 := by intro e; rw [e] at ex; exact h0 (by rw [ex]; cases n <;> simp [sg])
     omega
    have heq := ht.eq
    simp only [lv, Int.mul_zero, Int.add_zero] at heq
    have dd := ht.dd
    obtain ⟨V, hV⟩ : ∃ V, V = lv b32 xs := ⟨_, rfl⟩
    rw [← hV] at heq hv0
    have HV := Lib.hid hV
    have HEX := Lib.hid ex
    have hdl := (strip_step dd heq hv0).1
    obtain ⟨g, cap, rfl⟩ := ho.some' (by intro e; simp at e; rw [e] at hdl; simp at hdl)
    have HQ := Lib.hid heq
    have hol : ds.length ≤ 9223372036854775807 := by have := (ho.rdg).2.2.1; simpa using this
    clear ht rz hzc hzl hV HSV HX ex heq
    go_wp2
    go_loop [8] (fun ov => ∃ (es : List Int), ov = .slice (some ⟨g, 0, none⟩) es.length cap ∧ Own wr w1.heap.size 5 .u8 (.slice (some ⟨g, 0, none⟩) es.length cap) (es.map dch) ∧ Ma.dg r es ∧ lv r es = V ∧ es.length ≤ ds.length) (fun ov => slen ov)
    case atStart => exact ⟨ds, by simp, by simpa using ho, dd, HQ.out, Nat.le_refl _⟩
    case round =>
     obtain ⟨es, rfl, hs, de, hve, hel⟩ := hrel
     obtain ⟨hpos, st0, st1⟩ := strip_step de hve hv0
     obtain ⟨y0, y1⟩ := dg_at de (by omega) (es.length - 1)
     have hc1 := hs.cellAt (i := es.length - 1) (by simp; omega) (by simp)
     rw [at0_map _ _ (by omega)] at hc1
     obtain ⟨c1, c2, c3⟩ := dch_0 y0 (by omega)
     obtain ⟨dd1, hdd1⟩ : ∃ dd1, dch (at0 es (es.length - 1)) = dd1 := ⟨_, rfl⟩
     rw [hdd1] at hc1 c1 c2 c3
     have HS := Lib.hid hs
     have HE := Lib.hid hve
     clear hdd1 hs hve ho
     by_cases hz : dd1 = 48
     ·have hzb : (dd1 == 48) = true := by simpa using hz
      have Z := Lib.hid (st0 (c3.1 hz))
      have hs2 := HS.out.take (by simp) (es.length - 1) (by omega)
      rw [← List.map_take] at hs2
      have HS2 := Lib.hid hs2
      clear hs2 st0 st1 c3 hz
      have hcap : es.length ≤ cap := by have := HS.out.rdg.2.1; simpa using this
      go_wp2
      exact ⟨⟨es.take (es.length - 1), by simp, by simpa using HS2.out, Z.out.1, Z.out.2, by simp; omega⟩, by simp [slen]; omega⟩
     ·have hzb : (dd1 == 48) = false := by simpa using hz
      have Z := Lib.hid (st1 (fun h => hz (c3.2 h)))
      have hcap : es.length ≤ cap := by have := HS.out.rdg.2.1; simpa using this
      clear st0 st1 c3 hz
      obtain ⟨q0, q1, _⟩ := (Q0.out.nw hb).nw hn
      have HBD : ∀ z ∈ es.map dch, 0 ≤ z ∧ z < 256 := by
       intro z hz9
       obtain ⟨d, hd, rfl⟩ := List.mem_map.1 hz9
       have hd2 := de d hd
       have := dch_0 hd2.1 (by omega)
       omega
      have HBD := Lib.hid HBD
      cases n
      ·have hxp : x = V := by rw [HEX.out, HV.out]; simp [sg]
       go_wp2_with (go_at_call 125; refine (reverse_c HS.out (by simp)).mono ?_; rintro e w5 ⟨rfl, o5, hb5⟩; obtain ⟨s, hcv, hst⟩ := own_string o5 (by simp) (fun z hz => HBD.out z (List.mem_reverse.1 hz)))
       go_ret2
       exact ⟨_, rfl, ⟨_, _, rfl, ⟨s, rfl, Txt.pos (by omega) de Z.out (by rw [HE.out, hxp]) hst⟩, rfl⟩, Below.trans (nw2.trans hn) (Below.mono hb5 nw2.size)⟩
      ·have hxp : x = -V := by rw [HEX.out, HV.out]; simp [sg]
       go_wp2_with (at_builtin; refine wpList_append_own _ rfl (.tmp 66) (.tmp 67) 161 rfl w1.heap.size 5 i0 (.int .u8 0) 1 1 Tryz.underlying161 hi hz0 hz1 hz2 rfl (by decide) _ _ _ rfl (HS.out.alloc _) ⟨wr.heap.size, 0, none⟩ 1 1 [.int .u8 45] rfl rfl ?c1 ?c2 ?c3 ?c4 ?c5 ?_)
       case c2 => simp [Value.oneCell']
       case c3 => unfold maxLen; simp; omega
       case c4 => omega
       case c5 => have := hn.size; simp; omega
       intro v1 w4 hown1 hgrow1 _
       have n4 : Nw w1 w4 := hn.grew HS.out hgrow1 (Nat.le_refl _)
       have o4 : Own w4 w1.heap.size 5 .u8 v1 (es.map dch ++ [45]) := Own.cast hown1 (by simp) (by simp)
       obtain ⟨g4, cap4, e4⟩ := o4.some' (by simp)
       have e5 : v1 = .slice (some ⟨g4, 0, none⟩) (es.length + 1) cap4 := by rw [e4]; simp
       subst e5
       clear e4
       have O4 := Lib.hid o4
       clear o4 hown1 hgrow1
       go_wp2_with (go_at_call 125; refine (reverse_c O4.out (by simp)).mono ?_; rintro e w5 ⟨rfl, o5, hb5⟩; obtain ⟨s, hcv, hst⟩ := own_string o5 (by simp) (fun z hz => by rw [List.mem_reverse, List.mem_append, List.mem_singleton] at hz; rcases hz with hz | rfl; exact HBD.out z hz; omega))
       go_ret2
       exact ⟨_, rfl, ⟨_, _, rfl, ⟨s, rfl, Txt.neg (by omega) de Z.out (by rw [HE.out, hxp]; omega) hst⟩, rfl⟩, Below.trans (nw2.trans n4) (Below.mono hb5 nw2.size)⟩
end Go.Proofs.YthpjmhhfcechmaaGreat
/- Statements with calls that store two results. -/
namespace Go.Proofs.YthpjmhhfcechmaaGreat
open Go.RowKit Ma

def R2 (r s : Nat) (kr ks : World → Prop) (W W' : World) : Prop := Below r W W' ∧ IntK W W' ∧ W.heap.size ≤ W'.heap.size ∧ (Box r 2 W → Box r 2 W') ∧ (Box s 2 W → Box s 2 W') ∧ (kr W → kr W') ∧ (ks W → ks W')
theorem R2.refl (r s : Nat) (kr ks : World → Prop) (W : World) : R2 r s kr ks W W := ⟨Below.refl _ _, IntK.refl _, Nat.le_refl _, id, id, id, id⟩
theorem R2.trans {r s : Nat} {kr ks : World → Prop} {a b c : World} (h : R2 r s kr ks a b) (k : R2 r s kr ks b c) : R2 r s kr ks a c :=
 ⟨h.1.trans k.1, h.2.1.trans k.2.1, Nat.le_trans h.2.2.1 k.2.2.1, fun x => k.2.2.2.1 (h.2.2.2.1 x), fun x => k.2.2.2.2.1 (h.2.2.2.2.1 x), fun x => k.2.2.2.2.2.1 (h.2.2.2.2.2.1 x), fun x => k.2.2.2.2.2.2 (h.2.2.2.2.2.2 x)⟩
def NwSt (p : World → Prop) : Prop := ∀ W W', Nw W W' → p W → p W'
theorem KB.nwst (r : Nat) (z : Int) : NwSt (KB r z undef) := fun W W' h ⟨m, A, l, c, h0, h1, hi⟩ =>
 ⟨m, A, l, c, by rw [Below.cell (p := ⟨r, 0, none⟩) h (World.block_lt_of_cell? W ⟨r, 0, none⟩ h0)]; exact h0, by rw [Below.cell (p := ⟨r, 1, none⟩) h (World.block_lt_of_cell? W ⟨r, 1, none⟩ h1)]; exact h1, hi.kept h.kept⟩
theorem R2.nw {r s : Nat} {kr ks : World → Prop} {W W' : World} (hr : r ≤ W.heap.size) (k1 : NwSt kr) (k2 : NwSt ks) (h : Nw W W') : R2 r s kr ks W W' :=
 ⟨Below.mono h hr, h.kept, h.size, fun x => x.below h, fun x => x.below h, k1 _ _ h, k2 _ _ h⟩
theorem Nw.r2 {w W W' : World} {r s : Nat} {kr ks : World → Prop} (h : Nw w W) (k : R2 r s kr ks W W') (hr : w.heap.size ≤ r) : Nw w W' := Below.trans h (Below.mono k.1 hr)
theorem call_r2 {P : Program} {f : FuncId} {args : Array Value} {W : World} {k : Rg.Know} {r s : Nat} {kr ks : World → Prop} (k1 : NwSt kr) (k2 : NwSt ks) (h : Calls P f args W (Ret W k)) (hr : r ≤ W.heap.size) :
  Calls P f args W (fun e w'' => ∃ v, e = .returned v ∧ R2 r s kr ks W w'' ∧ k v w'') :=
 h.mono fun e w'' ⟨v, he, hk, hb⟩ => ⟨v, he, R2.nw hr k1 k2 hb, hk⟩
theorem two_off {b t : Nat} {W : World} {u v : Value} (h : t ≠ b) (o : Nat) : ((W.setCell ⟨b, 0, none⟩ u).setCell ⟨b, 1, none⟩ v).cell? ⟨t, o, none⟩ = W.cell? ⟨t, o, none⟩ ∧ ((W.setCell ⟨b, 0, none⟩ u).setCell ⟨b, 1, none⟩ v).frozen? ⟨t, o, none⟩ = W.frozen? ⟨t, o, none⟩ := by
 refine ⟨?_, by simp [World.frozen?_setCell]⟩
 rw [World.cell?_setCell_other (h := by simp <;> omega), World.cell?_setCell_other (h := by simp <;> omega)]
theorem Box.off {b t : Nat} {W : World} {u v : Value} (h : t ≠ b) (hb : Box t 2 W) : Box t 2 ((W.setCell ⟨b, 0, none⟩ u).setCell ⟨b, 1, none⟩ v) := fun o ho => by
 obtain ⟨⟨x, hx, hn⟩, hf⟩ := hb o ho
 obtain ⟨e1, e2⟩ := two_off (W := W) (u := u) (v := v) h o
 exact ⟨⟨x, by rw [e1]; exact hx, hn⟩, by rw [e2]; exact hf⟩
theorem KB.off {b t : Nat} {W : World} {u v : Value} {z : Int} (h : t ≠ b) (hk : IntK W ((W.setCell ⟨b, 0, none⟩ u).setCell ⟨b, 1, none⟩ v)) (hb : KB t z undef W) : KB t z undef ((W.setCell ⟨b, 0, none⟩ u).setCell ⟨b, 1, none⟩ v) := by
 obtain ⟨m, A, l, c, h0, h1, hi⟩ := hb
 exact ⟨m, A, l, c, by rw [(two_off h 0).1]; exact h0, by rw [(two_off h 1).1]; exact h1, hi.kept hk⟩
theorem store_I1 {r s : Nat} {W : World} {m : Bool} {D : Option Addr} {l c : Nat} {z z' : Int} (hrs : r < s) (hb : Box r 2 W) (hi : RI W m D l c z) :
  R2 r s (KB r z undef) (KB s z' undef) W ((W.setCell ⟨r, 0, none⟩ (.bool m)).setCell ⟨r, 1, none⟩ (.slice D l c)) ∧ KB r z undef ((W.setCell ⟨r, 0, none⟩ (.bool m)).setCell ⟨r, 1, none⟩ (.slice D l c)) := by
 obtain ⟨⟨h1, h2, h3, h4⟩, h5⟩ := store_I hb hi
 exact ⟨⟨h1, h2, h3, h4, fun x => x.off (by omega), fun _ => h5, fun x => KB.off (by omega) h2 x⟩, h5⟩
theorem store_I2 {r s : Nat} {W : World} {m : Bool} {D : Option Addr} {l c : Nat} {z z' : Int} (hrs : r < s) (hb : Box s 2 W) (hi : RI W m D l c z') :
  R2 r s (KB r z undef) (KB s z' undef) W ((W.setCell ⟨s, 0, none⟩ (.bool m)).setCell ⟨s, 1, none⟩ (.slice D l c)) ∧ KB s z' undef ((W.setCell ⟨s, 0, none⟩ (.bool m)).setCell ⟨s, 1, none⟩ (.slice D l c)) := by
 obtain ⟨⟨h1, h2, h3, h4⟩, h5⟩ := store_I hb hi
 exact ⟨⟨h1.mono (by omega), h2, h3, fun x => x.off (by omega), h4, fun x => KB.off (by omega) h2 x, fun _ => h5⟩, h5⟩
def Sg2 (cs : List (Nat × Nat × Value)) (r s : Nat) (W : World) : Prop := Has cs W ∧ Box r 2 W ∧ Box s 2 W ∧ r ≤ W.heap.size
theorem Sg2.nw {cs : List (Nat × Nat × Value)} {r s : Nat} {W W' : World} (h : Sg2 cs r s W) (k : Nw W W') : Sg2 cs r s W' := ⟨h.1.nw k, h.2.1.below k, h.2.2.1.below k, Nat.le_trans h.2.2.2 k.size⟩
def St2 (r s : Nat) (kr ks : World → Prop) (k : Rg.Know) : Prop := ∀ v W W', R2 r s kr ks W W' → k v W → k v W'
theorem St2.st {r s : Nat} {kr ks : World → Prop} {k : Rg.Know} (h : St k) : St2 r s kr ks k := fun v W W' hR hk => h v W W' hR.2.1 hk
theorem St2.r {r s : Nat} {kr ks : World → Prop} : St2 r s kr ks (fun _ W => kr W) := fun v W W' hR hk => hR.2.2.2.2.2.1 hk
theorem St2.s {r s : Nat} {kr ks : World → Prop} : St2 r s kr ks (fun _ W => ks W) := fun v W W' hR hk => hR.2.2.2.2.2.2 hk
def StL2 (r s : Nat) (kr ks : World → Prop) : List (Nat × Rg.Know) → Prop
 | [] => True
 | (_, k) :: L => St2 r s kr ks k ∧ StL2 r s kr ks L
theorem StL2.spec {r s : Nat} {kr ks : World → Prop} : ∀ {L : List (Nat × Rg.Know)}, StL2 r s kr ks L → ∀ i k, kn L i = some k → St2 r s kr ks k
 | [], _, i, k, h => by cases h
 | (j, k') :: L, hs, i, k, h => by
  unfold kn at h
  split at h
  ·injection h with h; subst h; exact hs.1
  ·exact StL2.spec hs.2 i k h
theorem Has.kept2 {r s : Nat} {kr ks : World → Prop} {W W' : World} (h : R2 r s kr ks W W') : ∀ {cs : List (Nat × Nat × Value)}, Low r cs → Has cs W → Has cs W'
 | [], _, _ => trivial
 | (b, o, v) :: cs, hl, hc => ⟨by rw [h.1.cell (p := ⟨b, o, none⟩) hl.1]; exact hc.1, Has.kept2 h hl.2 hc.2⟩
theorem region_two {P : Program} {id : Nat} {Q : Exit → Act → World → Prop} {a : Act} {w : World} {l : List Oper} (cs : List (Nat × Nat × Value)) (r s tl : Nat) (kr ks : World → Prop) (L : List (Nat × Rg.Know))
  (hm : P.follows .mixedOrders = true) (hB : Region.lexB .any l.toArray = true) (hJ : Rg.jOkB l.toArray (Rg.ancs l.toArray) = true) (ht : Rg.tlB l.toArray tl = true) (hlow : Low r cs) (hst : StL2 r s kr ks L) (h0 : Sg2 cs r s w.drew)
  (h : Rg.wpK P l.toArray (R2 r s kr ks) (Sg2 cs r s) w.drew (Rg.jOf (Rg.ancs l.toArray)) (kn L) (fun a' F => ∀ w', R2 r s kr ks w.drew w' → Sg2 cs r s w' → (∀ k, F k w') → Q .normal a' w') 0 l a Rg.noFacts) : (Code.region id l.toArray true).wp P Q a w :=
 Rg.wp_region_know (Sg2 cs r s) (R2 r s kr ks) (Rg.ancs l.toArray) tl (kn L) hm hB hJ ht
  ⟨R2.refl r s kr ks, fun _ _ _ => R2.trans, fun W W' hR hS => ⟨hS.1.kept2 hR hlow, hR.2.2.2.1 hS.2.1, hR.2.2.2.2.1 hS.2.2.1, by have := hR.2.2.1; have := hS.2.2.2; omega⟩, fun i k hk hne v W W' hR hv => StL2.spec hst i k hk v W W' hR hv⟩ h0 h
/-! ### A statement with calls and no store -/
theorem Nw.c {W W' : World} (h : Nw W W') {a : Addr} {v : Value} (hc : W.cell? a = some v) : W'.cell? a = some v := (h.cell (World.block_lt_of_cell? W a hc)).trans hc
def SN (k : Rg.Know) : Prop := ∀ v W W', Nw W W' → k v W → k v W'
theorem SN.st {k : Rg.Know} (h : St k) : SN k := fun v W W' hn hk => h v W W' hn.kept hk
def StN : List (Nat × Rg.Know) → Prop
 | [] => True
 | (_, k) :: L => SN k ∧ StN L
theorem StN.spec : ∀ {L : List (Nat × Rg.Know)}, StN L → ∀ i k, kn L i = some k → SN k
 | [], _, i, k, h => by cases h
 | (j, k') :: L, hs, i, k, h => by
  unfold kn at h
  split at h
  ·injection h with h; subst h; exact hs.1
  ·exact StN.spec hs.2 i k h
theorem call_nw {P : Program} {f : FuncId} {args : Array Value} {W : World} {k : Rg.Know} (h : Calls P f args W (Ret W k)) : Calls P f args W (fun e w'' => ∃ v, e = .returned v ∧ Nw W w'' ∧ k v w'') :=
 h.mono fun e w'' ⟨v, he, hk, hb⟩ => ⟨v, he, hb, hk⟩
theorem region_nw {P : Program} {id : Nat} {Q : Exit → Act → World → Prop} {a : Act} {w : World} {l : List Oper} (L : List (Nat × Rg.Know))
  (hm : P.follows .mixedOrders = true) (hB : Region.lexB .any l.toArray = true) (hJ : Rg.jOkB l.toArray (Rg.ancs l.toArray) = true) (ht : Rg.tlB l.toArray 1000 = true) (hst : StN L)
  (h : Rg.wpK P l.toArray Nw (Nw w) w.drew (Rg.jOf (Rg.ancs l.toArray)) (kn L) (fun a' F => ∀ w', Nw w.drew w' → Nw w w' → (∀ k, F k w') → Q .normal a' w') 0 l a Rg.noFacts) : (Code.region id l.toArray true).wp P Q a w :=
 Rg.wp_region_know (Nw w) Nw (Rg.ancs l.toArray) 1000 (kn L) hm hB hJ ht
  ⟨Nw.refl, fun _ _ _ h k => h.trans k, fun W W' hR hS => hS.trans hR, fun i k hk hne v W W' hR hv => StN.spec hst i k hk v W W' hR hv⟩ ((Nw.refl w).drew) h
end Go.Proofs.YthpjmhhfcechmaaGreat
/- (As Rg; what is known of the last operation may hang on the frame.) A region that draws its order, walked once in the order of the text: what is known of an operation's value is said by a predicate, not by the value itself, so that calls that make memory are let in. -/
namespace Go.Proofs.YthpjmhhfcechmaaGreat.Rh
open Go

abbrev Know := Value → World → Prop
abbrev Facts := Nat → World → Prop
def noFacts : Facts := fun _ _ => True
def upd (F : Facts) (i : Nat) (p : World → Prop) : Facts := fun k w => if k = i then p w else F k w
theorem upd_self (F : Facts) (i : Nat) (p : World → Prop) (w : World) : upd F i p i w = p w := by simp [upd]
theorem upd_at {F : Facts} {i k : Nat} {p : World → Prop} {w : World} (h : k = i) (hf : upd F i p k w) : p w := by subst h; rwa [upd_self] at hf
theorem upd_off {F : Facts} {i k : Nat} {p : World → Prop} {w : World} (h : (k == i) = false) (hf : upd F i p k w) : F k w := by unfold upd at hf; rwa [if_neg (by simpa using h)] at hf
theorem upd_ne (F : Facts) {i k : Nat} (p : World → Prop) (w : World) (h : k ≠ i) : upd F i p k w = F k w := by simp [upd, h]
theorem upd_comm (F : Facts) {i j : Nat} (p q : World → Prop) (h : i ≠ j) : upd (upd F i p) j q = upd (upd F j q) i p := by
 funext k w
 unfold upd
 by_cases h1 : k = j
 ·have h2 : k ≠ i := fun e => h (e.symm.trans h1)
  simp [h1, h, Ne.symm h]
 ·simp [h1]
section
variable (P : Program)

def givesUpon (K : Value → World → Prop) : Result Next → Prop
 | .ok (.value v) w' => K v w'
 | .ok .skip w' => K undef w'
 | .ok (.enter f args) w' => Calls P f args w' (fun e w'' => ∃ v, e = .returned v ∧ K v w'')
 | _ => False
def gives (o : Oper) (a : Act) (w : World) (K : Value → World → Prop) : Prop := givesUpon P K ((execOp a.eval o).run P w)
variable {P}
theorem gives_value {K : Value → World → Prop} {v : Value} {w : World} (h : K v w) : givesUpon P K (.ok (.value v) w) := h
theorem gives_skip {K : Value → World → Prop} {w : World} (h : K undef w) : givesUpon P K (.ok .skip w) := h
theorem gives_enter {K : Value → World → Prop} {f : FuncId} {args : Array Value} {w : World} (h : Calls P f args w (fun e w'' => ∃ v, e = .returned v ∧ K v w'')) : givesUpon P K (.ok (.enter f args) w) := h
theorem gives_wp {o : Oper} {a : Act} {w : World} {K : Value → World → Prop} {K' : Act → World → Prop} {Q : Exit → Act → World → Prop}
  (h : ∀ v w', K v w' → K' (a.put o.dst v) w') (hh : gives P o a w K) : o.wp P a w K' Q := by
 unfold gives at hh
 unfold Oper.wp
 generalize (execOp a.eval o).run P w = r at *
 cases r with
 | ok n w' =>
  cases n <;> simp only [givesUpon] at hh <;> simp only [Oper.upon]
  case value u => exact h _ _ hh
  case skip => exact h _ _ hh
  case enter f args => exact hh.mono fun e w'' ⟨v, he, hk⟩ => by subst he; exact h _ _ hk
 | halt x w' => simp only [givesUpon] at hh
theorem gives_some {o : Oper} {a : Act} {w : World} {K : Value → World → Prop} (hh : gives P o a w K) : ∃ v w', K v w' := by
 unfold gives at hh
 generalize (execOp a.eval o).run P w = r at *
 cases r with
 | ok n w' =>
  cases n <;> simp only [givesUpon] at hh
  case value u => exact ⟨_, _, hh⟩
  case skip => exact ⟨_, _, hh⟩
  case enter f args =>
   obtain ⟨e, w'', fr, ⟨v, he, hk⟩, _⟩ := hh []
   exact ⟨v, w'', hk⟩
 | halt x w' => simp only [givesUpon] at hh
end

section
variable {P : Program} {ops : Array Oper} {md : Region.Mode} {R : World → World → Prop} {S : World → Prop} {w0 : World} {J : Nat → Nat → Bool} {Ks : Nat → Act → Option Know} {tl : Nat}

def Wit (R : World → World → Prop) (S : World → Prop) (w0 : World) (F : Facts) : Prop := ∃ w, R w0 w ∧ S w ∧ ∀ k, F k w
def Quietly (P : Program) (S : World → Prop) (o : Oper) (a : Act) (v : Value) : Prop := ∀ w, S w → (execOp a.eval o).run P w = .ok (.value v) w
def Actively (P : Program) (R : World → World → Prop) (S : World → Prop) (w0 : World) (J : Nat → Nat → Bool) (i : Nat) (o : Oper) (a : Act) (F : Facts) (K : Know) : Prop :=
 ∀ w, R w0 w → S w → (∀ k, J i k = true → F k w) → gives P o a w (fun v w' => R w w' ∧ K v w')
def kOp (P : Program) (ops : Array Oper) (R : World → World → Prop) (S : World → Prop) (w0 : World) (J : Nat → Nat → Bool) (Ks : Nat → Act → Option Know) (i : Nat) (K : Act → Facts → Prop) (a : Act) (F : Facts) : Prop :=
 match ops[i]? with
 | none => K a F
 | some o => if Region.wanted o (yielded ops a.tmps) = true then
   match Ks i a with
   | none => ∃ v, Quietly P S o a v ∧ K (a.put o.dst v) F
   | some k => Actively P R S w0 J i o a F k ∧ ∀ u, Wit R S w0 (upd F i (k u)) → K (a.put o.dst u) (upd F i (k u))
  else K (a.put o.dst undef) F
theorem kOp_mono {i : Nat} {K K' : Act → Facts → Prop} {a : Act} {F : Facts} (h : ∀ a F, K a F → K' a F) (hh : kOp P ops R S w0 J Ks i K a F) : kOp P ops R S w0 J Ks i K' a F := by
 unfold kOp at *
 split
 ·rename_i ho; simp only [ho] at hh; exact h _ _ hh
 ·rename_i o ho
  simp only [ho] at hh
  split
  ·rename_i hw
   simp only [hw, if_true] at hh
   split
   ·rename_i hk; simp only [hk] at hh; obtain ⟨v, h1, h2⟩ := hh; exact ⟨v, h1, h _ _ h2⟩
   ·rename_i k hk; simp only [hk] at hh; exact ⟨hh.1, fun u hu => h _ _ (hh.2 u hu)⟩
  ·rename_i hw; simp only [hw] at hh; exact h _ _ hh
def wpAnyK (P : Program) (md : Region.Mode) (ops : Array Oper) (R : World → World → Prop) (S : World → Prop) (w0 : World) (J : Nat → Nat → Bool) (Ks : Nat → Act → Option Know) (Q : Act → Facts → Prop) : Nat → Array Bool → Act → Facts → Prop
 | 0, listed, a, F => Region.ready md ops listed = [] ∧ Q a F
 | fuel + 1, listed, a, F =>
  (Region.ready md ops listed = [] → Q a F) ∧
  ∀ i ∈ Region.ready md ops listed, kOp P ops R S w0 J Ks i (wpAnyK P md ops R S w0 J Ks Q fuel (listed.setIfInBounds i true)) a F
structure Fits (R : World → World → Prop) (S : World → Prop) (Ks : Nat → Act → Option Know) (tl : Nat) : Prop where
 refl : ∀ w, R w w
 trans : ∀ x y z, R x y → R y z → R x z
 kept : ∀ w w', R w w' → S w → S w'
 noact : ∀ i a b, i ≠ tl → Ks i a = Ks i b
 know : ∀ i a k, Ks i a = some k → i ≠ tl → ∀ v w w', R w w' → k v w → k v w'
def FKept (R : World → World → Prop) (F : Facts) : Prop := ∀ k w w', R w w' → F k w → F k w'
theorem FKept.upd {F : Facts} (hF : FKept R F) {i : Nat} {k : Know} (hk : ∀ v w w', R w w' → k v w → k v w') (u : Value) : FKept R (upd F i (k u)) := by
 intro j w w' hr hf
 unfold Rh.upd at *
 split
 ·rename_i e; simp only [e, if_true] at hf; exact hk _ _ _ hr hf
 ·rename_i e; simp only [e, if_false] at hf; exact hF _ _ _ hr hf
def Direct (md : Region.Mode) (ops : Array Oper) (j k : Nat) : Prop := ∃ oj, ops[j]? = some oj ∧ ∃ e ∈ oj.after, Region.binds md e = true ∧ e.on = k
theorem listed_not {listed : Array Bool} {i : Nat} (h : listed.getD i true = false) : listed.getD i false = false := by
 rcases Nat.lt_or_ge i listed.size with h' | h'
 ·simp [h'] at h ⊢; exact h
 ·simp [Array.getElem?_eq_none h']
def TlOk (md : Region.Mode) (ops : Array Oper) (tl : Nat) : Prop := ∀ j oj ot, ops[j]? = some oj → ops[tl]? = some ot → j ≠ tl → Direct md ops tl j
theorem tl_alone (ht : TlOk md ops tl) {listed : Array Bool} (h : tl ∈ Region.ready md ops listed) {j : Nat} {oj : Oper} (hj : ops[j]? = some oj) (hne : j ≠ tl) : listed.getD j false = true := by
 obtain ⟨hun, o, ho, hall⟩ := mem_ready.1 h
 obtain ⟨o', ho', e, he, hb, rfl⟩ := ht j oj o hj ho hne
 rw [ho] at ho'
 injection ho' with ho'
 subst ho'
 exact hall e he hb
theorem not_both {listed : Array Bool} {j : Nat} (h : listed.getD j true = false) (h' : listed.getD j false = true) : False := by
 rw [listed_not h] at h'; cases h'
theorem tl_done (ht : TlOk md ops tl) {listed : Array Bool} (h : tl ∈ Region.ready md ops listed) : Region.ready md ops (listed.setIfInBounds tl true) = [] := by
 cases hr : Region.ready md ops (listed.setIfInBounds tl true) with
 | nil => rfl
 | cons j l =>
  exfalso
  have hj : j ∈ Region.ready md ops (listed.setIfInBounds tl true) := by rw [hr]; exact List.mem_cons_self
  obtain ⟨hun, o, ho, _⟩ := mem_ready.1 hj
  by_cases hjt : j = tl
  ·subst hjt
   have h0 := (mem_ready.1 h).1
   rcases Nat.lt_or_ge j listed.size with h' | h'
   ·simp [h'] at hun
   ·simp [Array.getElem?_eq_none, h'] at h0
  ·exact not_both hun (getD_set_true (tl_alone ht h ho hjt))
theorem two_ne (ht : TlOk md ops tl) {listed : Array Bool} {i j : Nat} (hi : i ∈ Region.ready md ops listed) (hj : j ∈ Region.ready md ops listed) (hne : i ≠ j) : i ≠ tl := by
 intro e
 subst e
 obtain ⟨hun, o, ho, _⟩ := mem_ready.1 hj
 exact not_both hun (tl_alone ht hi ho (Ne.symm hne))
theorem wpOp_of_kOp (hf : Fits R S Ks tl) {i : Nat} {K : Act → Facts → Prop} {K' : Act → World → Prop} {Q' : Exit → Act → World → Prop} {a : Act} {F : Facts} {w : World}
  (hF : FKept R F) (hr : R w0 w) (hS : S w) (hFw : ∀ k, F k w)
  (h : ∀ a F w, (i ≠ tl → FKept R F) → R w0 w → S w → (∀ k, F k w) → K a F → K' a w) (hh : kOp P ops R S w0 J Ks i K a F) : wpOp P ops Q' i K' a w := by
 unfold kOp at hh
 unfold wpOp
 split
 ·rename_i ho; simp only [ho] at hh; exact h _ _ _ (fun _ => hF) hr hS hFw hh
 ·rename_i o ho
  simp only [ho] at hh
  split
  ·rename_i hw
   simp only [hw, if_true] at hh
   refine .inl ?_
   split at hh
   ·rename_i hk
    obtain ⟨v, h1, h2⟩ := hh
    unfold Oper.wp
    rw [h1 w hS]
    exact h _ _ _ (fun _ => hF) hr hS hFw h2
   ·rename_i k hk
    refine gives_wp (fun v w' hv => ?_) (hh.1 w hr hS (fun k _ => hFw k))
    have hn : ∀ k_1, upd F i (k v) k_1 w' := by
     intro j
     unfold upd
     split
     ·exact hv.2
     ·exact hF _ _ _ hv.1 (hFw j)
    have hS' := hf.kept _ _ hv.1 hS
    have hr' := hf.trans _ _ _ hr hv.1
    exact h _ _ _ (fun hi => hF.upd (hf.know i _ k hk hi) v) hr' hS' hn (hh.2 v ⟨w', hr', hS', hn⟩)
  ·rename_i hw; simp only [hw] at hh; exact h _ _ _ (fun _ => hF) hr hS hFw hh
theorem wpAny_of_know (hf : Fits R S Ks tl) (ht : TlOk md ops tl) {Q : Act → Facts → Prop} {Q' : Exit → Act → World → Prop} (hQ : ∀ a F w, R w0 w → S w → (∀ k, F k w) → Q a F → Q' .normal a w) :
  ∀ (fuel : Nat) (listed : Array Bool) (a : Act) (F : Facts) (w : World), (Region.ready md ops listed ≠ [] → FKept R F) → R w0 w → S w → (∀ k, F k w) →
   wpAnyK P md ops R S w0 J Ks Q fuel listed a F → wpAny P md ops Q' fuel listed a w
 | 0, _, _, _, _, _, hr, hS, hw, h => ⟨h.1, hQ _ _ _ hr hS hw h.2⟩
 | fuel + 1, _, _, _, _, hF, hr, hS, hw, h => ⟨fun h0 => hQ _ _ _ hr hS hw (h.1 h0), fun i hi => wpOp_of_kOp hf (hF (fun e => by rw [e] at hi; cases hi)) hr hS hw (fun a' F' w' hF' hr' hS' hw' => wpAny_of_know hf ht hQ fuel _ a' F' w' (fun hne => hF' (fun e => hne (by subst e; exact tl_done ht hi))) hr' hS' hw') (h.2 i hi)⟩
def Pre (P : Program) (ops : Array Oper) (R : World → World → Prop) (S : World → Prop) (w0 : World) (J : Nat → Nat → Bool) (Ks : Nat → Act → Option Know) (i : Nat) (o : Oper) (a : Act) (F : Facts) : Prop :=
 Region.wanted o (yielded ops a.tmps) = true → match Ks i a with
  | none => ∃ v, Quietly P S o a v
  | some k => Actively P R S w0 J i o a F k
def Out (P : Program) (ops : Array Oper) (R : World → World → Prop) (S : World → Prop) (w0 : World) (Ks : Nat → Act → Option Know) (i : Nat) (o : Oper) (a : Act) (F : Facts) (u : Value) : Prop :=
 if Region.wanted o (yielded ops a.tmps) = true then
  match Ks i a with
  | none => Quietly P S o a u
  | some k => Wit R S w0 (upd F i (k u))
 else u = undef
def aft (ops : Array Oper) (Ks : Nat → Act → Option Know) (i : Nat) (o : Oper) (a : Act) (F : Facts) (u : Value) : Facts :=
 if Region.wanted o (yielded ops a.tmps) = true then
  match Ks i a with
  | none => F
  | some k => upd F i (k u)
 else F
theorem aft_ne {i m : Nat} {o : Oper} {a : Act} {F : Facts} {u : Value} {w : World} (h : m ≠ i) : aft ops Ks i o a F u m w = F m w := by
 unfold aft
 by_cases hw : Region.wanted o (yielded ops a.tmps) = true
 ·cases hk : Ks i a with
  | none => simp only [hw, if_true]
  | some k => simp only [hw, if_true]; exact upd_ne _ _ _ h
 ·simp [hw]
theorem aft_some {i : Nat} {o : Oper} {a : Act} {F : Facts} {u : Value} {k : Know} (hw : Region.wanted o (yielded ops a.tmps) = true) (hk : Ks i a = some k) : aft ops Ks i o a F u = upd F i (k u) := by
 unfold aft
 simp only [hw, if_true, hk]
theorem quietly_one {o : Oper} {a : Act} {u v : Value} {w : World} (hw : S w) (hu : Quietly P S o a u) (hv : Quietly P S o a v) : u = v := by
 have h1 := hu w hw
 rw [hv w hw] at h1
 injection h1 with h1
 injection h1 with h1
 exact h1.symm
theorem kOp_iff {i : Nat} {o : Oper} (ho : ops[i]? = some o) {K : Act → Facts → Prop} {a : Act} {F : Facts} (hW : Wit R S w0 F) :
  kOp P ops R S w0 J Ks i K a F ↔ Pre P ops R S w0 J Ks i o a F ∧ ∀ u, Out P ops R S w0 Ks i o a F u → K (a.put o.dst u) (aft ops Ks i o a F u) := by
 obtain ⟨w, hr, hS, hFw⟩ := hW
 unfold kOp Pre Out aft
 simp only [ho]
 by_cases hw : Region.wanted o (yielded ops a.tmps) = true
 ·simp only [hw, if_true, true_implies]
  cases hk : Ks i a with
  | none =>
   simp only []
   constructor
   ·rintro ⟨v, h1, h2⟩
    exact ⟨⟨v, h1⟩, fun u hu => by rw [quietly_one hS hu h1]; exact h2⟩
   ·rintro ⟨⟨v, h1⟩, h2⟩
    exact ⟨v, h1, h2 v h1⟩
  | some k => simp only []
 ·simp only [hw, if_false, false_implies, true_and, Bool.false_eq_true]
  exact ⟨fun h u hu => by rw [hu]; exact h, fun h => h undef rfl⟩
theorem out_some (hf : Fits R S Ks tl) {i : Nat} {o : Oper} {a : Act} {F : Facts} (hF : FKept R F) (hW : Wit R S w0 F) (hp : Pre P ops R S w0 J Ks i o a F) : ∃ u, Out P ops R S w0 Ks i o a F u := by
 obtain ⟨w, hr, hS, hFw⟩ := hW
 unfold Out
 unfold Pre at hp
 by_cases hw : Region.wanted o (yielded ops a.tmps) = true
 ·have hp := hp hw
  simp only [hw, if_true]
  cases hk : Ks i a with
  | none => rw [hk] at hp; exact hp
  | some k =>
   rw [hk] at hp
   simp only [] at hp ⊢
   obtain ⟨v, w', hrw, hv⟩ := gives_some (hp w hr hS (fun k _ => hFw k))
   refine ⟨v, w', hf.trans _ _ _ hr hrw, hf.kept _ _ hrw hS, fun j => ?_⟩
   unfold upd
   split
   ·exact hv
   ·exact hF _ _ _ hrw (hFw j)
 ·simp only [hw]
  exact ⟨undef, rfl⟩
theorem out_wit (hf : Fits R S Ks tl) {i : Nat} (hit : i ≠ tl) {o : Oper} {a : Act} {F : Facts} {u : Value} (hF : FKept R F) (hW : Wit R S w0 F) (hu : Out P ops R S w0 Ks i o a F u) : FKept R (aft ops Ks i o a F u) ∧ Wit R S w0 (aft ops Ks i o a F u) := by
 unfold Out at hu
 unfold aft
 by_cases hw : Region.wanted o (yielded ops a.tmps) = true
 ·simp only [hw, if_true] at hu ⊢
  cases hk : Ks i a with
  | none => exact ⟨hF, hW⟩
  | some k => rw [hk] at hu; exact ⟨hF.upd (hf.know i _ k hk hit) u, hu⟩
 ·simp only [hw] at hu ⊢
  exact ⟨hF, hW⟩
theorem out_wit' {i : Nat} {o : Oper} {a : Act} {F : Facts} {u : Value} (hW : Wit R S w0 F) (hu : Out P ops R S w0 Ks i o a F u) : Wit R S w0 (aft ops Ks i o a F u) := by
 unfold Out at hu
 unfold aft
 by_cases hw : Region.wanted o (yielded ops a.tmps) = true
 ·simp only [hw, if_true] at hu ⊢
  cases hk : Ks i a with
  | none => exact hW
  | some k => rw [hk] at hu; exact hu
 ·simp only [hw] at hu ⊢
  exact hW
theorem kOp_swap (hf : Fits R S Ks tl) {i j : Nat} {oi oj : Oper} (hi : ops[i]? = some oi) (hj : ops[j]? = some oj) (hap : oi.apart ops oj = true) (hne : i ≠ j) (hit : i ≠ tl) (hjt : j ≠ tl)
  (hsi : ∀ cs b, oi.op ≠ .select cs b) (hsj : ∀ cs b, oj.op ≠ .select cs b) (hji : J j i = false) (hij : J i j = false) {K : Act → Facts → Prop} {a : Act} {F : Facts} (hF : FKept R F) (hW : Wit R S w0 F) (hFj : ∀ w, F j w)
  (h : kOp P ops R S w0 J Ks i (fun a F => kOp P ops R S w0 J Ks j K a F) a F) : kOp P ops R S w0 J Ks j (fun a F => kOp P ops R S w0 J Ks i K a F) a F := by
 obtain ⟨h1, h2, h3⟩ := Oper.apart_spec hap
 have h2' : ∀ d, oj.dst = some d → oi.dst ≠ some d := fun d hd hd' => h2 d hd' hd
 have ei : ∀ u, execOp (a.put oj.dst u).eval oi = execOp a.eval oi := fun u => execOp_put oi hsi a oj.dst u h3
 have ej : ∀ u, execOp (a.put oi.dst u).eval oj = execOp a.eval oj := fun u => execOp_put oj hsj a oi.dst u h1
 have wi : ∀ u, Region.wanted oi (yielded ops (a.put oj.dst u).tmps) = Region.wanted oi (yielded ops a.tmps) := fun u => wanted_put oi a oj.dst u h3
 have wj : ∀ u, Region.wanted oj (yielded ops (a.put oi.dst u).tmps) = Region.wanted oj (yielded ops a.tmps) := fun u => wanted_put oj a oi.dst u h1
 have ki : ∀ b, Ks i b = Ks i a := fun b => hf.noact i b a hit
 have kj : ∀ b, Ks j b = Ks j a := fun b => hf.noact j b a hjt
 rw [kOp_iff hi hW] at h
 obtain ⟨hp, hall⟩ := h
 obtain ⟨u0, hu0⟩ := out_some hf hF hW hp
 have hw0 := out_wit hf hit hF hW hu0
 have h0 := (kOp_iff hj hw0.2).1 (hall u0 hu0)
 rw [kOp_iff hj hW]
 -- what is asked of j now
 have hpj : Pre P ops R S w0 J Ks j oj a F := by
  intro hwj
  have hq := h0.1 (by rw [wj]; exact hwj)
  cases hk : Ks j a with
  | none => rw [kj, hk] at hq; simp only [Quietly, ej] at hq ⊢; exact hq
  | some k =>
   rw [kj, hk] at hq
   simp only [Actively, gives, ej] at hq ⊢
   intro w hr hS hJ
   refine hq w hr hS (fun m hm => ?_)
   have hmi : m ≠ i := fun e => by rw [e, hji] at hm; cases hm
   rw [aft_ne hmi]
   exact hJ m hm
 refine ⟨hpj, fun v hv => ?_⟩
 have hwv := out_wit hf hjt hF hW hv
 rw [kOp_iff hi hwv.2]
 refine ⟨fun hwi => ?_, fun u hu => ?_⟩
 ·rw [wi] at hwi
  have hq := hp hwi
  rw [ki (a.put oj.dst v)]
  cases hk : Ks i a with
  | none => rw [hk] at hq; simp only [Quietly, ei] at hq ⊢; exact hq
  | some k =>
   rw [hk] at hq
   simp only [Actively, gives, ei] at hq ⊢
   intro w hr hS hJ
   refine hq w hr hS (fun m hm => ?_)
   have hmj : m ≠ j := fun e => by rw [e, hij] at hm; cases hm
   have := hJ m hm
   rwa [aft_ne hmj] at this
 ·-- u is an outcome of i at first, v one of j behind it
  have hcomm : aft ops Ks i oi (a.put oj.dst v) (aft ops Ks j oj a F v) u = aft ops Ks j oj (a.put oi.dst u) (aft ops Ks i oi a F u) v := by
   unfold aft
   rw [wi, wj, ki (a.put oj.dst v), kj (a.put oi.dst u)]
   by_cases hwi : Region.wanted oi (yielded ops a.tmps) = true <;> by_cases hwj : Region.wanted oj (yielded ops a.tmps) = true <;> cases Ks i a <;> cases Ks j a <;> simp only [hwi, hwj, if_true, if_false, Bool.false_eq_true] <;> exact upd_comm _ _ _ (Ne.symm hne)
  have hui : Out P ops R S w0 Ks i oi a F u := by
   unfold Out at hu ⊢
   rw [wi, ki (a.put oj.dst v)] at hu
   split
   ·rename_i hwi
    simp only [hwi, if_true] at hu
    cases hk : Ks i a with
    | none => rw [hk] at hu; simp only [Quietly, ei] at hu ⊢; exact hu
    | some k =>
     rw [hk] at hu
     simp only [] at hu ⊢
     obtain ⟨w, hr, hS, hFw⟩ := hu
     refine ⟨w, hr, hS, fun m => ?_⟩
     have hm := hFw m
     unfold upd at hm ⊢
     split
     ·rename_i e; simp only [e, if_true] at hm; exact hm
     ·rename_i e
      simp only [e, if_false] at hm
      by_cases hmj : m = j
      ·rw [hmj]; exact hFj w
      ·rwa [aft_ne hmj] at hm
   ·rename_i hwi
    simp only [hwi] at hu
    exact hu
  have hwu := out_wit hf hit hF hW hui
  have hvj : Out P ops R S w0 Ks j oj (a.put oi.dst u) (aft ops Ks i oi a F u) v := by
   have hwit := (out_wit hf hit hwv.1 hwv.2 hu).2
   rw [hcomm] at hwit
   unfold Out at hv ⊢
   rw [wj, kj (a.put oi.dst u)]
   split
   ·rename_i hwj
    simp only [hwj, if_true] at hv
    cases hk : Ks j a with
    | none => rw [hk] at hv; simp only [Quietly, ej] at hv ⊢; exact hv
    | some k =>
     simp only []
     have e : aft ops Ks j oj (a.put oi.dst u) (aft ops Ks i oi a F u) v = upd (aft ops Ks i oi a F u) j (k v) := aft_some (by rw [wj]; exact hwj) ((kj _).trans hk)
     rw [← e]; exact hwit
   ·rename_i hwj
    simp only [hwj] at hv
    exact hv
  have hfin := ((kOp_iff hj hwu.2).1 (hall u hui)).2 v hvj
  rw [hcomm, Act.put_comm a v u h2']
  exact hfin
def NoF (listed : Array Bool) (F : Facts) : Prop := ∀ k, listed.getD k true = false → ∀ w, F k w
def DownJ (J : Nat → Nat → Bool) (listed : Array Bool) : Prop := ∀ d k, listed.getD d false = true → J d k = true → listed.getD k false = true
def JOk (md : Region.Mode) (ops : Array Oper) (J : Nat → Nat → Bool) : Prop := ∀ j k, J j k = true → Direct md ops j k ∨ ∃ d, Direct md ops j d ∧ J d k = true
theorem ready_J (hJ : JOk md ops J) {listed : Array Bool} (hd : DownJ J listed) {j k : Nat} (hr : j ∈ Region.ready md ops listed) (hk : J j k = true) : listed.getD k false = true := by
 obtain ⟨hun, o, ho, hall⟩ := mem_ready.1 hr
 have dir : ∀ d, Direct md ops j d → listed.getD d false = true := by
  rintro d ⟨oj, hoj, e, he, hb, rfl⟩
  rw [ho] at hoj
  injection hoj with hoj
  subst hoj
  exact hall e he hb
 rcases hJ j k hk with h | ⟨d, h, h2⟩
 ·exact dir _ h
 ·exact hd _ _ (dir _ h) h2
theorem DownJ.set (hJ : JOk md ops J) {listed : Array Bool} (hd : DownJ J listed) {j : Nat} (hr : j ∈ Region.ready md ops listed) : DownJ J (listed.setIfInBounds j true) := by
 intro d k h1 h2
 by_cases hdj : j = d
 ·subst hdj; exact getD_set_true (ready_J hJ hd hr h2)
 ·rw [getD_set_ne false hdj] at h1
  exact getD_set_true (hd d k h1 h2)
theorem NoF.set {listed : Array Bool} {F : Facts} (h : NoF listed F) {j : Nat} {o : Oper} {a : Act} {u : Value} : NoF (listed.setIfInBounds j true) (aft ops Ks j o a F u) := by
 intro k hk w
 by_cases hkj : j = k
 ·subst hkj
  rcases Nat.lt_or_ge j listed.size with h' | h'
  ·simp [h'] at hk
  ·simp [Array.getElem?_eq_none, h'] at hk
 ·rw [getD_set_ne true hkj] at hk
  rw [aft_ne (Ne.symm hkj)]
  exact h k hk w
theorem wpAnyK_first (hf : Fits R S Ks tl) (ht : TlOk md ops tl) (hJ : JOk md ops J) {Q : Act → Facts → Prop} {i : Nat} {oi : Oper} (hi : ops[i]? = some oi) (hsel : ∀ (j : Nat) (o : Oper) cs b, ops[j]? = some o → o.op ≠ .select cs b) :
  ∀ (fuel : Nat) (listed : Array Bool) (a : Act) (F : Facts), FKept R F → Wit R S w0 F → NoF listed F → DownJ J listed →
   (∀ j oj, ops[j]? = some oj → j ≠ i → listed.getD j true = false → (∀ e ∈ oj.after, Region.binds md e = true → e.on ≠ i) → oi.apart ops oj = true) →
   i ∈ Region.ready md ops listed → kOp P ops R S w0 J Ks i (wpAnyK P md ops R S w0 J Ks Q fuel (listed.setIfInBounds i true)) a F → wpAnyK P md ops R S w0 J Ks Q (fuel + 1) listed a F := by
 intro fuel
 induction fuel with
 | zero =>
  intro listed a F hF hW hN hD _ hr H
  refine ⟨fun h => (by rw [h] at hr; cases hr), fun j hj => ?_⟩
  by_cases hji : j = i
  ·subst hji; exact H
  ·have h0 := (kOp_iff hi hW).1 H
   obtain ⟨u, hu⟩ := out_some hf hF hW h0.1
   have h1 := (h0.2 u hu).1
   have h2 := ready_mono hj hji
   rw [h1] at h2
   cases h2
 | succ fuel ih =>
  intro listed a F hF hW hN hD hfree hr H
  refine ⟨fun h => (by rw [h] at hr; cases hr), fun j hj => ?_⟩
  by_cases hji : j = i
  ·subst hji; exact H
  ·obtain ⟨hjun, oj, hoj, hall⟩ := mem_ready.1 hj
   have hiun := (mem_ready.1 hr).1
   have hnot : ∀ e ∈ oj.after, Region.binds md e = true → e.on ≠ i := fun e he hb heq => by
    have h1 := hall e he hb
    rw [heq, listed_not hiun] at h1
    cases h1
   have hJji : J j i = false := by
    cases hk : J j i with
    | false => rfl
    | true => have := ready_J hJ hD hj hk; rw [listed_not hiun] at this; cases this
   have hJij : J i j = false := by
    cases hk : J i j with
    | false => rfl
    | true => have := ready_J hJ hD hr hk; rw [listed_not hjun] at this; cases this
   have hap := hfree j oj hoj hji hjun hnot
   have h1 : kOp P ops R S w0 J Ks i (fun a F => kOp P ops R S w0 J Ks j (wpAnyK P md ops R S w0 J Ks Q fuel ((listed.setIfInBounds i true).setIfInBounds j true)) a F) a F :=
    kOp_mono (fun a F h => h.2 j (ready_mono hj hji)) H
   have h2 := kOp_swap hf hi hoj hap (Ne.symm hji) (two_ne ht hr hj (Ne.symm hji)) (two_ne ht hj hr hji) (fun cs b => hsel i oi cs b hi) (fun cs b => hsel j oj cs b hoj) hJji hJij hF hW (hN j hjun) h1
   have hfree' : ∀ k ok, ops[k]? = some ok → k ≠ i → (listed.setIfInBounds j true).getD k true = false →
     (∀ e ∈ ok.after, Region.binds md e = true → e.on ≠ i) → oi.apart ops ok = true := fun k ok hk hki hun hno => by
    refine hfree k ok hk hki ?_ hno
    by_cases hjk : j = k
    ·subst hjk; exact hjun
    ·rw [getD_set_ne true hjk] at hun; exact hun
   rw [kOp_iff hoj hW] at h2 ⊢
   refine ⟨h2.1, fun u hu => ?_⟩
   have hw := out_wit hf (two_ne ht hj hr hji) hF hW hu
   refine ih (listed.setIfInBounds j true) _ _ hw.1 hw.2 hN.set (hD.set hJ hj) hfree' (ready_mono hr (Ne.symm hji)) ?_
   rw [Array.setIfInBounds_comm _ _ hji]
   exact h2.2 u hu
def wpK (P : Program) (ops : Array Oper) (R : World → World → Prop) (S : World → Prop) (w0 : World) (J : Nat → Nat → Bool) (Ks : Nat → Act → Option Know) (Q : Act → Facts → Prop) : Nat → List Oper → Act → Facts → Prop
 | _, [], a, F => Q a F
 | i, o :: rest, a, F => if Region.wanted o (yielded ops a.tmps) = true then
   match Ks i a with
   | none => ∃ v, Quietly P S o a v ∧ wpK P ops R S w0 J Ks Q (i + 1) rest (a.put o.dst v) F
   | some k => Actively P R S w0 J i o a F k ∧ ∀ u, Wit R S w0 (upd F i (k u)) → wpK P ops R S w0 J Ks Q (i + 1) rest (a.put o.dst u) (upd F i (k u))
  else wpK P ops R S w0 J Ks Q (i + 1) rest (a.put o.dst undef) F
theorem wpAnyK_lex (hf : Fits R S Ks tl) (ht : TlOk md ops tl) (hJ : JOk md ops J) {Q : Act → Facts → Prop} (hs : Region.noSelect ops = true) : ∀ (l : List Oper) (k : Nat) (listed : Array Bool) (a : Act) (F : Facts), (∀ j, l[j]? = ops[k + j]?) →
  Region.lexFrom md ops l.length k listed = true → (l ≠ [] → FKept R F) → Wit R S w0 F → NoF listed F → DownJ J listed → wpK P ops R S w0 J Ks Q k l a F → wpAnyK P md ops R S w0 J Ks Q l.length listed a F
 | [], _, _, _, _, _, hB, _, _, _, _, h => ⟨by simpa [Region.lexFrom] using hB, h⟩
 | o :: l, k, listed, a, F, hl, hB, hF, hW, hN, hD, h => by
  have h0 : ops[k]? = some o := by simpa using (hl 0).symm
  simp only [List.length_cons, Region.lexFrom, Bool.and_eq_true] at hB
  obtain ⟨⟨hr, hfr⟩, hB'⟩ := hB
  have hr' : k ∈ Region.ready md ops listed := by simpa using hr
  have hst : kOp P ops R S w0 J Ks k (wpK P ops R S w0 J Ks Q (k + 1) l) a F := by unfold kOp; simp only [h0]; exact h
  refine wpAnyK_first hf ht hJ h0 (Region.noSelect_spec hs) l.length listed a F (hF (by simp)) hW hN hD (Region.free_spec h0 hfr) hr' ?_
  rw [kOp_iff h0 hW] at hst ⊢
  refine ⟨hst.1, fun u hu => ?_⟩
  have hw := out_wit' hW hu
  refine wpAnyK_lex hf ht hJ hs l (k + 1) _ _ _ (fun j => by have := hl (j + 1); simpa [Nat.add_assoc, Nat.add_comm 1 j] using this) hB' (fun hne => ?_) hw hN.set (hD.set hJ hr') (hst.2 u hu)
  refine (out_wit hf (fun e => ?_) (hF (by simp)) hW hu).1
  subst e
  cases l with
  | nil => exact hne rfl
  | cons o2 l2 =>
   have h1 : ops[k + 1]? = some o2 := by simpa using (hl 1).symm
   simp only [List.length_cons, Region.lexFrom, Bool.and_eq_true] at hB'
   have h2 : k + 1 ∈ Region.ready md ops (listed.setIfInBounds k true) := by simpa using hB'.1.1
   have h3 := (mem_ready.1 h2).1
   rw [tl_done ht hr'] at h2
   cases h2
def jOkB (ops : Array Oper) (jss : List (List Nat)) : Bool :=
 (List.range jss.length).all fun j => ((jss.getD j []).all fun k => match ops[j]? with
  | none => false
  | some o => o.after.any fun e => Region.binds .any e && (e.on == k || (jss.getD e.on []).contains k))
def jOf (jss : List (List Nat)) (j k : Nat) : Bool := (jss.getD j []).contains k
theorem jOkB_spec {jss : List (List Nat)} (h : jOkB ops jss = true) : JOk .any ops (jOf jss) := by
 intro j k hjk
 unfold jOf at hjk
 unfold jOkB at h
 rw [List.all_eq_true] at h
 have hj : j < jss.length := by
  rcases Nat.lt_or_ge j jss.length with h' | h'
  ·exact h'
  ·simp [List.getD_eq_getElem?_getD, List.getElem?_eq_none h'] at hjk
 have h1 := h j (List.mem_range.2 hj)
 rw [List.all_eq_true] at h1
 have h2 := h1 k (by simpa using hjk)
 split at h2
 ·cases h2
 ·rename_i o ho
  rw [Array.any_eq_true'] at h2
  obtain ⟨e, he, hb⟩ := h2
  simp only [Bool.and_eq_true, Bool.or_eq_true, beq_iff_eq] at hb
  rcases hb.2 with hk | hk
  ·exact .inl ⟨o, ho, e, he, hb.1, hk⟩
  ·exact .inr ⟨e.on, ⟨o, ho, e, he, hb.1, rfl⟩, hk⟩
def ancs (ops : Array Oper) : List (List Nat) :=
 ops.toList.foldl (fun acc o => acc ++ [(List.range acc.length).filter fun k => o.after.any fun e => Region.binds .any e && (e.on == k || (acc.getD e.on []).contains k)]) []
def tlB (ops : Array Oper) (tl : Nat) : Bool := match ops[tl]? with
 | none => true
 | some o => (List.range ops.size).all fun j => j == tl || o.after.any fun e => Region.binds .any e && e.on == j
theorem tlB_spec (h : tlB ops tl = true) : TlOk .any ops tl := by
 intro j oj ot hj ho hne
 unfold tlB at h
 rw [ho] at h
 simp only [List.all_eq_true, List.mem_range, Bool.or_eq_true, beq_iff_eq] at h
 rcases h j (Array.getElem?_eq_some_iff.1 hj).1 with h | h
 ·exact absurd h hne
 ·rw [Array.any_eq_true'] at h
  obtain ⟨e, he, hb⟩ := h
  simp only [Bool.and_eq_true, beq_iff_eq] at hb
  exact ⟨ot, ho, e, he, hb.1, hb.2⟩
theorem wp_region_know {id : Nat} {Q : Exit → Act → World → Prop} {a : Act} {w : World} {l : List Oper} (S : World → Prop) (R : World → World → Prop) (jss : List (List Nat)) (tl : Nat) (Ks : Nat → Act → Option Know)
  (hm : P.follows .mixedOrders = true) (hB : Region.lexB .any l.toArray = true) (hJ : jOkB l.toArray jss = true) (ht : tlB l.toArray tl = true) (hf : Fits R S Ks tl) (hS : S w.drew)
  (h : wpK P l.toArray R S w.drew (jOf jss) Ks (fun a' F => ∀ w', R w.drew w' → S w' → (∀ k, F k w') → Q .normal a' w') 0 l a noFacts) : (Code.region id l.toArray true).wp P Q a w := by
 simp only [Region.lexB, Bool.and_eq_true] at hB
 refine wp_region_any hm (wpAny_of_know (R := R) (S := S) (w0 := w.drew) (J := jOf jss) (Ks := Ks) (Q := fun a' F => ∀ w', R w.drew w' → S w' → (∀ k, F k w') → Q .normal a' w') hf (tlB_spec ht) (fun a' F w' hr hS' hF' hq => hq w' hr hS' hF') _ _ a noFacts _ (fun _ _ _ _ _ h => h) (hf.refl _) hS (fun _ => trivial) ?_)
 have := wpAnyK_lex (P := P) (w0 := w.drew) hf (tlB_spec ht) (jOkB_spec hJ) hB.1 l 0 (Array.replicate l.toArray.size false) a noFacts (by simp) (by simpa using hB.2) (fun _ _ _ _ _ h => h) ⟨w.drew, hf.refl _, hS, fun _ => trivial⟩ (fun _ _ _ => trivial)
  (fun d k h1 h2 => by
   rcases Nat.lt_or_ge d l.length with h' | h'
   ·simp [h'] at h1
   ·simp [Array.getElem?_eq_none, h'] at h1) h
 simpa using this
/-! ### The steps of a walk -/
section
variable {Q : Act → Facts → Prop} {i : Nat} {o : Oper} {rest : List Oper} {a : Act} {F : Facts}
theorem wpK_step (h : ∀ K : Act → Facts → Prop, (∀ a F, wpK P ops R S w0 J Ks Q (i + 1) rest a F → K a F) →
  if Region.wanted o (yielded ops a.tmps) = true then
   match Ks i a with
   | none => ∃ v, Quietly P S o a v ∧ K (a.put o.dst v) F
   | some k => Actively P R S w0 J i o a F k ∧ ∀ u, Wit R S w0 (upd F i (k u)) → K (a.put o.dst u) (upd F i (k u))
  else K (a.put o.dst undef) F) : wpK P ops R S w0 J Ks Q i (o :: rest) a F := h _ (fun _ _ h => h)
theorem wpK_quiet (hk : Ks i a = none) (hw : Region.wanted o (yielded ops a.tmps) = true) {v : Value} (hq : Quietly P S o a v) {a' : Act} (he : a' = a.put o.dst v) (h : wpK P ops R S w0 J Ks Q (i + 1) rest a' F) : wpK P ops R S w0 J Ks Q i (o :: rest) a F := by
 subst he
 refine wpK_step fun K hK => ?_
 rw [if_pos hw, hk]
 exact ⟨v, hq, hK _ _ h⟩
theorem wpK_know {k : Know} (hk : Ks i a = some k) (hw : Region.wanted o (yielded ops a.tmps) = true) (ha : Actively P R S w0 J i o a F k) (h : ∀ u, Wit R S w0 (upd F i (k u)) → ∃ a', a' = a.put o.dst u ∧ wpK P ops R S w0 J Ks Q (i + 1) rest a' (upd F i (k u))) : wpK P ops R S w0 J Ks Q i (o :: rest) a F := by
 refine wpK_step fun K hK => ?_
 rw [if_pos hw, hk]
 refine ⟨ha, fun u hu => ?_⟩
 obtain ⟨a', rfl, h⟩ := h u hu
 exact hK _ _ h
theorem wpK_end (h : Q a F) : wpK P ops R S w0 J Ks Q i [] a F := h
end
end
attribute [irreducible] gives wpK
end Go.Proofs.YthpjmhhfcechmaaGreat.Rh
/- Words for rows of structs of the call's own, in whose block no number lies. -/
namespace Go.Proofs.YthpjmhhfcechmaaGreat.Sy
open Go Go.RowKit
def notInt (u : Value) : Prop := ∀ k x, u ≠ .int k x
def NoI (v : Value) (w : World) : Prop := ∀ g, v.ownBlock = some g → ∃ cur e fz, w.heap[g]? = some (.cells cur e fz) ∧ ∀ u ∈ cur.toList, notInt u
theorem NoI.nil (w : World) : NoI (.slice none 0 0) w := fun g h => by cases h
theorem NoI.same {v : Value} {w w' : World} (h : NoI v w) (e : ∀ g, v.ownBlock = some g → w'.heap[g]? = w.heap[g]?) : NoI v w' := fun g hg => by
 obtain ⟨cur, t, fz, h1, h2⟩ := h g hg
 exact ⟨cur, t, fz, (e g hg).trans h1, h2⟩
theorem NoI.lt {v : Value} {w : World} (h : NoI v w) {g : Nat} (hg : v.ownBlock = some g) : g < w.heap.size := by
 obtain ⟨cur, t, fz, h1, h2⟩ := h g hg
 exact (Array.getElem?_eq_some_iff.1 h1).1
theorem NoI.intK {v : Value} {w w' : World} (h : NoI v w) (hg : w.grownBy w' v.ownBlock) : IntK w w' := fun a k x hc => by
 have hlt := World.block_lt_of_cell? w a hc
 by_cases e : v.ownBlock = some a.block
 ·obtain ⟨cur, t, fz, h1, h2⟩ := h _ e
  exfalso
  unfold World.cell? at hc
  rw [h1] at hc
  by_cases hs : a.spot.isSome = true
  ·simp [hs] at hc
  ·simp only [hs] at hc
   have := List.mem_of_getElem? (l := cur.toList) (i := a.off) (by simpa using hc)
   exact h2 _ this k x rfl
 ·exact (World.cell?_of_block (hg.block a.block hlt (fun e2 => e e2.symm))).trans hc
theorem mem_zeroCells {z : Array Value} {n : Nat} {u : Value} (h : u ∈ (Builtin.zeroCells z n).toList) : u ∈ z.toList := by
 unfold Builtin.zeroCells at h
 simp only [Array.toList_map, List.mem_map, Array.mem_toList_iff, Array.mem_range] at h
 obtain ⟨i, hi, rfl⟩ := h
 have hz : 0 < z.size := by
  apply Nat.pos_of_ne_zero
  intro e
  rw [e] at hi
  simp at hi
 have hm : i % z.size < z.size := Nat.mod_lt _ hz
 rw [getElem!_pos z _ hm]
 exact Array.mem_toList_iff.2 (Array.getElem_mem hm)
theorem append_noI {P : Program} (w : World) (base : Nat) (t ty e : TypeId) (i : TypeInfo) (z : Value) (size bytes : Nat) (ht : P.underlying t = some (.slice e)) (hi : P.info? e = some i) (hz : i.zero = some z)
  (hsize : i.size = size) (hby : i.bytes = bytes) (hzs : z.cells.size = size) (hsz : 0 < size)
  (v : Value) (n : Nat) (xs : List Value) (hown : w.ownsRow base e size v n xs)
  (a : Addr) (m c : Nat) (news : List Value) (hl : news.length = m * size) (hnews : ∀ j u, news[j]? = some u → w.cell? (a.add j) = some u) (h1 : ∀ u ∈ news, u.oneCell' = true)
  (h63 : n + m ≤ maxLen) (hbytes : (n + m) * bytes ≤ 140737488355328) (hzi : ∀ u ∈ z.cells.toList, notInt u) (hni : ∀ u ∈ news, notInt u) (hno : NoI v w) {v' : Value} {w' : World}
  (hrun : (Builtin.append_ #[t, t] ty #[v, .slice (some a) m c]).run P w = .ok v' w') : NoI v' w' := by
 subst hsize
 subst hby
 have hsmall : n + m ≤ 9223372036854775807 := by simp only [maxLen] at h63; omega
 have grown : ∀ (ys : Array Value) (k : Nat), (∀ u ∈ ys.toList, notInt u) → ∀ l c', NoI (.slice (some ⟨w.heap.size, 0, none⟩) l c') (w.drew.alloc (.cells (ys ++ Builtin.zeroCells z.cells k) e)) := by
  intro ys k hy l c' g hg
  injection hg with hg
  subst hg
  refine ⟨_, _, _, heap_alloc_new w.drew _, fun u hu => ?_⟩
  rw [Array.toList_append, List.mem_append] at hu
  rcases hu with hu | hu
  ·exact hy u hu
  ·exact hzi u (mem_zeroCells hu)
 rcases hown.2 with ⟨rfl, rfl⟩ | ⟨g, cap, cur, rfl, hbg, hg, hnc, hcm, hcs, htake⟩
 ·have hx : xs = [] := List.eq_nil_of_length_eq_zero (by simpa using hown.1)
  subst hx
  by_cases hm : m = 0
  ·subst hm
   have hn : news = [] := List.eq_nil_of_length_eq_zero (by simpa using hl)
   subst hn
   have : (Builtin.append_ #[t, t] ty #[.slice none 0 0, .slice (some a) 0 c]).run P w = .ok (.slice none 0 0) w := by
    simp [Builtin.append_, run_underlying ht, sizeOf, typeInfo, hi, Builtin.lenOf, Builtin.firstCells, loadCells, loadCellsFrom]
   rw [this] at hrun
   injection hrun with h5 h6
   subst h5 h6
   exact hno
  ·have hr := run_append_nil (P := P) w t ty e i z ht hi hz a m c news hl hnews (by omega) (by omega) (by have hb := hbytes; simp only [Nat.zero_add] at hb; omega)
   rw [hr] at hrun
   injection hrun with h5 h6
   subst h5 h6
   exact grown news.toArray _ (by simpa using hni) _ _
 ·have hcur : ∀ u ∈ cur.toList, notInt u := by
   obtain ⟨cur', t', fz', q1, q2⟩ := hno g rfl
   rw [hg] at q1
   injection q1 with q1
   injection q1 with q1
   subst q1
   exact q2
  by_cases hroom : n + m ≤ cap
  ·have hfit : n * i.size + news.length ≤ cur.size := by rw [hl, hcs, ← Nat.add_mul]; exact Nat.mul_le_mul_right _ hroom
   have hr := run_append_room (P := P) w t ty e i ht hi g n cap cur hg a m c news hl hnews h1 hroom hfit
   rw [hr] at hrun
   injection hrun with h5 h6
   subst h5 h6
   intro g' hg'
   injection hg' with hg'
   subst hg'
   refine ⟨_, _, _, setRow_heap w g cur _ e _ hg, fun u hu => ?_⟩
   simp only [List.toList_toArray, List.mem_append] at hu
   rcases hu with (hu | hu) | hu
   ·exact hcur u (List.mem_of_mem_take hu)
   ·exact hni u hu
   ·exact hcur u (List.mem_of_mem_drop hu)
  ·have holds : ∀ j u, xs[j]? = some u → w.cell? ((⟨g, 0, none⟩ : Addr).add j) = some u := hown.cells (g := g) rfl
   have hr := run_append_grow (P := P) w t ty e i z ht hi hz ⟨g, 0, none⟩ n cap xs hown.1 holds a m c news hl hnews (by omega) (by omega) (growslice_fits (by omega) hbytes)
   rw [hr] at hrun
   injection hrun with h5 h6
   subst h5 h6
   refine grown (xs.toArray ++ news.toArray) _ (fun u hu => ?_) _ _
   simp only [Array.toList_append, List.mem_append] at hu
   rcases hu with hu | hu
   ·rw [← htake] at hu; exact hcur u (List.mem_of_mem_take hu)
   ·exact hni u hu
def OwS (w : World) (base : Nat) (e : TypeId) (s : Nat) (v : Value) (n : Nat) (R : List Value → World → Prop) : Prop := (∃ xs, w.ownsRow base e s v n xs ∧ R xs w) ∧ NoI v w ∧ ∀ xs w1 w2, IntK w1 w2 → R xs w1 → R xs w2
section
variable {w w' : World} {b : Nat} {e : TypeId} {s n : Nat} {v : Value} {R : List Value → World → Prop}
theorem OwS.turn {row : Option Nat} (h : OwS w b e s v n R) (hg : w.grownBy w' row) (hi : IntK w w') (hne : v.ownBlock = none ∨ v.ownBlock ≠ row) : OwS w' b e s v n R := by
 obtain ⟨⟨xs, h1, h2⟩, h3, h4⟩ := h
 refine ⟨⟨xs, World.ownsRow.kept h1 hg hne, h4 _ _ _ hi h2⟩, h3.same fun g hg' => hg.block g (h3.lt hg') (fun e2 => ?_), h4⟩
 rcases hne with h5 | h5
 ·rw [h5] at hg'; cases hg'
 ·exact h5 (hg'.trans e2)
theorem OwS.kept (h : OwS w b e s v n R) (hb : Below w.heap.size w w') : OwS w' b e s v n R :=
 h.turn (row := none) ⟨hb.os, hb.tape, hb.output, hb.size, fun i hi _ => hb.block i hi⟩ (IntK.of_below hb) (by cases v.ownBlock <;> simp)
theorem OwS.off {q : Nat} (h : OwS w b e s v n R) (hg : w.grownBy w' (some q)) (hi : IntK w w') (hne : v.ownBlock ≠ some q) : OwS w' b e s v n R := h.turn hg hi (.inr hne)
theorem OwS.base (h : OwS w b e s v n R) : ∀ g, v.ownBlock = some g → b ≤ g := fun g hg => by obtain ⟨⟨xs, h1, _⟩, _⟩ := h; exact (World.ownsRow.lt h1 g hg).1
theorem OwS.weaken {b' : Nat} (h : OwS w b e s v n R) (hb : b' ≤ b) : OwS w b' e s v n R := by
 obtain ⟨⟨xs, h1, h2⟩, h3⟩ := h
 exact ⟨⟨xs, ⟨h1.1, h1.2.imp id fun ⟨g', cap, cur, q1, q2, q3⟩ => ⟨g', cap, cur, q1, Nat.le_trans hb q2, q3⟩⟩, h2⟩, h3⟩
theorem OwS.nil (w : World) (b : Nat) (e : TypeId) (s : Nat) (R : List Value → World → Prop) (h : R [] w) (hs : ∀ xs w1 w2, IntK w1 w2 → R xs w1 → R xs w2) : OwS w b e s (.slice none 0 0) 0 R :=
 ⟨⟨[], World.ownsRow_nil w b e s, h⟩, NoI.nil w, hs⟩
end
end Go.Proofs.YthpjmhhfcechmaaGreat.Sy
