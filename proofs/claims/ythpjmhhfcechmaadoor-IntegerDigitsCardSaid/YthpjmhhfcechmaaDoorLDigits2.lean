/- Parts A6, A7, W3, A8, B1, B2, B3, B4, W4, B5, Shelf, B6, B7, B8, in one file. -/
import Derived.RegionTactic
import Derived.BigRegion
import Derived.Laws.IdiomStrings
import Derived.Shelf.Strings.Builder1
import Derived.Shelf.Strings.Builder2
import Derived.Shelf.Strings.OnBuilder
import Derived.Shelf.Small.Utf8
import Derived.Shelf.Small.Bits
import Derived.Shelf.Small.Strs
import Derived.Shelf.Strings.BuilderF
import Derived.Shelf.Strings.Search1
import Derived.Shelf.Strings.Prefix
import Derived.Shelf.Spec.SlicesGrow
import Derived.Shelf.Unicode.Latin
import Derived.Shelf.Unicode.Decode
import Derived.Shelf.Bits.Mul64
import Derived.Shelf.Strings.Repeat
import Derived.Shelf.Unicode.DecodeSlow
import Derived.Shelf.Unicode.DecodeAny
import Derived.Shelf.Unicode.CaseLookup
import Derived.Shelf.Unicode.CaseConvert
import Derived.Shelf.Unicode.CaseTo
import Derived.Shelf.Unicode.CaseLaid
import Derived.Test.YthpjmhhfcechmaaDoorProg
import Derived.Test.YthpjmhhfcechmaaDoorLDigits1
/- The contracts of the program's Neg, Sub, Cmp, Abs, Sign, Odd, Make, Limbs, small and New. -/
set_option linter.unusedVariables false
set_option linter.unusedSimpArgs false
namespace Go.Proofs.YthpjmhhfcechmaaDoor
open Go.RowKit Ma

theorem Num.neg {b : Int} {n : Bool} {xs : List Int} {z : Int} (h : Num b n xs z) : Num b (!n && decide (0 < xs.length)) xs (-z) := by
 obtain ⟨d, t, nz, rfl⟩ := h
 refine ⟨d, t, fun h => ?_, ?_⟩
 ·simp at h; exact List.length_pos_iff.1 h.2
 ·by_cases h0 : 0 < xs.length
  ·cases n <;> simp [sg, h0]
  ·have : xs = [] := List.eq_nil_of_length_eq_zero (by omega)
   subst this
   cases n
   ·simp [sg, lv]
   ·exact absurd rfl (nz rfl)
set_option maxHeartbeats 800000 in
theorem neg_c {x : Int} {n : Bool} {A : Option Addr} {l c : Nat} {w : World} (hx : RI w n A l c x) :
  Calls Tryd.prog 76 #[.agg #[.bool n, .slice A l c]] w (Ret w (KI (-x))) := by
 obtain ⟨xs, rfl, hc, rA, hn⟩ := hx
 have HN := Lib.hid hn.neg
 have RA := Lib.hid rA
 clear hn rA
 cases n
 ·go_enter Tryd.func76, Tryd.ntmps76
  go_wp2
  refine bodyPost_ret (v := .agg #[.bool (decide (0 < xs.length)), .slice A xs.length c]) (by simp [results, Tryd.results76, go_sem]) rfl (Ret.I ⟨xs, rfl, hc, RA.out.kept ?_, by simpa using HN.out⟩ ?_)
  ·exact Nw.kept (((Nw.refl w).alloc _).alloc _)
  ·exact (((Nw.refl w).alloc _).alloc _)
 ·go_enter Tryd.func76, Tryd.ntmps76
  go_wp2
  refine bodyPost_ret (v := .agg #[.bool false, .slice A xs.length c]) (by simp [results, Tryd.results76, go_sem]) rfl (Ret.I ⟨xs, rfl, hc, RA.out.kept ?_, by simpa using HN.out⟩ ?_)
  ·exact Nw.kept (((Nw.refl w).alloc _).alloc _)
  ·exact (((Nw.refl w).alloc _).alloc _)
set_option maxHeartbeats 1600000 in
theorem sub_c {x y : Int} {n m : Bool} {A B : Option Addr} {l l' c d : Nat} {w : World} (hx : RI w n A l c x) (hy : RI w m B l' d y) (hl : l ≤ 500000) (hl' : l' ≤ 500000) :
  Calls Tryd.prog 77 #[.agg #[.bool n, .slice A l c], .agg #[.bool m, .slice B l' d]] w (Ret w (KI (x - y))) := by
 have hy2 := hy.abs_lt
 have HX := Lib.hid hx
 have HY := Lib.hid hy
 have HY2 := Lib.hid hy2
 clear hx hy hy2
 have nw1 : Nw w (((w.alloc (.cells #[.bool n, .slice A l c] 28)).alloc (.cells #[.bool m, .slice B l' d] 28)).alloc (.cells #[.bool false, .slice none 0 0] 28)) := (((Nw.refl w).alloc _).alloc _).alloc _
 have sg0 : Sg [(w.heap.size, 0, Value.bool n), (w.heap.size, 1, Value.slice A l c), (w.heap.size + 1, 0, Value.bool m), (w.heap.size + 1, 1, Value.slice B l' d)] (w.heap.size + 1 + 1) 2 (((w.alloc (.cells #[.bool n, .slice A l c] 28)).alloc (.cells #[.bool m, .slice B l' d] 28)).alloc (.cells #[.bool false, .slice none 0 0] 28)) := by
  refine ⟨⟨by go_simp, by go_simp, by go_simp, by go_simp, trivial⟩, ?_, by go_simp⟩
  have := box_two ((w.alloc (.cells #[.bool n, .slice A l c] 28)).alloc (.cells #[.bool m, .slice B l' d] 28)) 28 false none 0 0
  simpa using this
 go_enter Tryd.func77, Tryd.ntmps77
 go_wp2
 have n1 : Nw w _ := (nw1).drew
 have hw : w.heap.size ≤ w.heap.size + 1 + 1 := by omega
 refine region_std [(w.heap.size, 0, Value.bool n), (w.heap.size, 1, Value.slice A l c), (w.heap.size + 1, 0, Value.bool m), (w.heap.size + 1, 1, Value.slice B l' d)] (w.heap.size + 1 + 1) 2 4 [(2, KI (-y)), (3, KI (x - y)), (4, KB (w.heap.size + 1 + 1) (x - y))] (by kernel_rfl) (by kernel_rfl) (by kernel_rfl) (by kernel_rfl) ?_ ⟨.inr (KI.st _), .inr (KI.st _), .inl rfl, trivial⟩ (sg0.nw (Nw.refl _).drew) ?_
 ·first | trivial | (simp only [Low, and_true]; omega)
 repeat
  apply Rg.wpK_quiet rfl rfl
  case hq => intro W hS; obtain ⟨⟨q1, q2, q3, q4, _⟩, _⟩ := hS; go_simp; exact rfl
  case he => exact (by simp only [Act.put, List.setIfInBounds_toArray, List.set_cons_zero, List.set_cons_succ]; exact rfl)
 apply Rg.wpK_know rfl rfl
 case ha =>
  intro W hR hS hF
  have hn := n1.rr hR hw
  obtain ⟨⟨q1, q2, q3, q4, _⟩, hB, hr⟩ := hS
  unfold Rg.gives
  go_simp
  exact Rg.gives_enter (call_inr (neg_c (HY.out.kept hn.kept)) hr)
 intro u hu
 obtain ⟨W0, hw1, hw2, hf⟩ := hu
 obtain ⟨m2, D2, l2, c2, rfl, hx⟩ := Rg.upd_at rfl (hf 2)
 refine ⟨_, (by simp only [Act.put, List.setIfInBounds_toArray, List.set_cons_zero, List.set_cons_succ]; exact rfl), ?_⟩
 clear hf hw1 hw2 hx W0
 repeat
  apply Rg.wpK_quiet rfl rfl
  case hq => intro W hS; obtain ⟨⟨q1, q2, q3, q4, _⟩, _⟩ := hS; go_simp; exact rfl
  case he => exact (by simp only [Act.put, List.setIfInBounds_toArray, List.set_cons_zero, List.set_cons_succ]; exact rfl)
 apply Rg.wpK_know rfl rfl
 case ha =>
  intro W hR hS hF
  have hn := n1.rr hR hw
  obtain ⟨⟨q1, q2, q3, q4, _⟩, hB, hr⟩ := hS
  have i2 := KI.agg (Rg.upd_at rfl (hF 2 (by kernel_rfl)))
  unfold Rg.gives
  go_simp
  exact Rg.gives_enter (call_inr (ret_eq (add_c (HX.out.kept hn.kept) i2 hl (Nat.le_trans (i2.len_le l' (by have := HY2.out; omega) (by have := HY2.out; omega)) hl')) (by rw [Int.sub_eq_add_neg])) hr)
 intro u hu
 obtain ⟨W0, hw1, hw2, hf⟩ := hu
 obtain ⟨m3, D3, l3, c3, rfl, hx⟩ := Rg.upd_at rfl (hf 3)
 refine ⟨_, (by simp only [Act.put, List.setIfInBounds_toArray, List.set_cons_zero, List.set_cons_succ]; exact rfl), ?_⟩
 clear hf hw1 hw2 hx W0
 repeat
  apply Rg.wpK_quiet rfl rfl
  case hq => intro W hS; obtain ⟨⟨q1, q2, q3, q4, _⟩, _⟩ := hS; go_simp; exact rfl
  case he => exact (by simp only [Act.put, List.setIfInBounds_toArray, List.set_cons_zero, List.set_cons_succ]; exact rfl)
 apply Rg.wpK_know rfl rfl
 case ha =>
  intro W hR hS hF
  have hn := n1.rr hR hw
  obtain ⟨⟨q1, q2, q3, q4, _⟩, hB, hr⟩ := hS
  have i3 := KI.agg (Rg.upd_at rfl (hF 3 (by kernel_rfl)))
  obtain ⟨⟨v0, hv0, hn0⟩, hf0⟩ := hB 0 (by omega)
  obtain ⟨⟨v1, hv1, hn1⟩, hf1⟩ := hB 1 (by omega)
  unfold Rg.gives
  go_simp
  exact Rg.gives_skip (store_I hB i3)
 intro u hu
 obtain ⟨W0, hw1, hw2, hf⟩ := hu
 have hx := trivial
 refine ⟨_, (by simp only [Act.put, List.setIfInBounds_toArray, List.set_cons_zero, List.set_cons_succ]; exact rfl), ?_⟩
 clear hf hw1 hw2 hx W0
 repeat
  apply Rg.wpK_quiet rfl rfl
  case hq => intro W hS; obtain ⟨⟨q1, q2, q3, q4, _⟩, _⟩ := hS; go_simp; exact rfl
  case he => exact (by simp only [Act.put, List.setIfInBounds_toArray, List.set_cons_zero, List.set_cons_succ]; exact rfl)
 refine Rg.wpK_end fun w9 hR hS hF => ?_
 have hn := n1.rr hR hw
 obtain ⟨m', D', l', c', hc0, hc1, hi⟩ := Rg.upd_at rfl (hF 4)
 go_wp2
 exact bodyPost_ret (v := .agg #[.bool m', .slice D' l' c']) (by simp [results, Tryd.results77, go_sem, hc0, hc1]) rfl (Ret.I hi hn)
theorem cmp_sg {n m : Bool} {xs ys : List Int} {x y : Int} (hx : Num b32 n xs x) (hy : Num b32 m ys y) :
  cmp x y = if n = m then (if n then cmp (lv b32 ys) (lv b32 xs) else cmp (lv b32 xs) (lv b32 ys)) else if n then -1 else 1 := by
 obtain ⟨d, t, nz, rfl⟩ := hx
 obtain ⟨d', t', nz', rfl⟩ := hy
 have h1 := lv_nonneg (b := b32) (by decide) d
 have h2 := lv_nonneg (b := b32) (by decide) d'
 have pos : ∀ {zs : List Int}, dg b32 zs → top zs → zs ≠ [] → 0 < lv b32 zs := fun d t h => by
  exact Int.lt_of_lt_of_le (pos_pow (by decide) _) (top_le (b := b32) (by decide) d t h)
 cases n <;> cases m <;> simp only [sg, if_true, if_false, Bool.false_eq_true, Bool.true_eq_false]
 ·have := pos d' t' (nz' rfl)
  unfold cmp; rw [if_neg (by omega), if_neg (by omega)]
 ·have := pos d t (nz rfl)
  unfold cmp; rw [if_pos (by omega)]
 ·unfold cmp
  by_cases h : lv b32 ys < lv b32 xs
  ·rw [if_pos (by omega), if_pos h]
  ·rw [if_neg (by omega), if_neg h]
   by_cases h' : lv b32 ys = lv b32 xs
   ·rw [if_pos (by omega), if_pos h']
   ·rw [if_neg (by omega), if_neg h']
set_option maxHeartbeats 800000 in
theorem cmp_c {x y : Int} {n m : Bool} {A B : Option Addr} {l l' c d : Nat} {w : World} (hx : RI w n A l c x) (hy : RI w m B l' d y) :
  Calls Tryd.prog 37 #[.agg #[.bool n, .slice A l c], .agg #[.bool m, .slice B l' d]] w (Ret w (KV (.int .i64 (cmp x y)))) := by
 obtain ⟨xs, rfl, hc, rA, nx⟩ := hx
 obtain ⟨ys, rfl, hd, rB, ny⟩ := hy
 have HC := Lib.hid (cmp_sg nx ny)
 obtain ⟨dx, tx, zx, ex⟩ := nx
 obtain ⟨dy, ty, zy, ey⟩ := ny
 clear ex ey
 have RA := Lib.hid rA
 have RB := Lib.hid rB
 clear rA rB
 have nw1 : Nw w ((w.alloc (.cells #[.bool n, .slice A xs.length c] 28)).alloc (.cells #[.bool m, .slice B ys.length d] 28)) := ((Nw.refl w).alloc _).alloc _
 cases n <;> cases m
 ·go_enter Tryd.func37, Tryd.ntmps37
  go_wp2_with (go_at_call 41; refine (compared_c A B c d xs ys _ (RA.out.kept nw1.kept) (RB.out.kept nw1.kept) dx dy tx ty).mono ?_; rintro e w1 ⟨_, rfl, rfl, hb⟩)
  go_ret
  exact Ret.Veq (by rw [HC.out]; rfl) (nw1.trans hb)
 ·go_enter Tryd.func37, Tryd.ntmps37
  go_wp2
  go_ret
  exact Ret.Veq (by rw [HC.out]; rfl) nw1
 ·go_enter Tryd.func37, Tryd.ntmps37
  go_wp2
  go_ret
  exact Ret.Veq (by rw [HC.out]; rfl) nw1
 ·go_enter Tryd.func37, Tryd.ntmps37
  go_wp2_with (go_at_call 41; refine (compared_c B A d c ys xs _ (RB.out.kept nw1.kept) (RA.out.kept nw1.kept) dy dx ty tx).mono ?_; rintro e w1 ⟨_, rfl, rfl, hb⟩)
  go_ret
  exact Ret.Veq (by rw [HC.out]; rfl) (nw1.trans hb)
def sgn (x : Int) : Int := if x < 0 then -1 else if x = 0 then 0 else 1
theorem sgn_num {b : Int} (hb : 0 < b) {n : Bool} {xs : List Int} {x : Int} (hx : Num b n xs x) : sgn x = if xs.length = 0 then 0 else if n then -1 else 1 := by
 obtain ⟨d, t, nz, rfl⟩ := hx
 by_cases h0 : xs.length = 0
 ·have : xs = [] := List.eq_nil_of_length_eq_zero h0
  subst this
  cases n <;> simp [sgn, sg, lv]
 ·have hne : xs ≠ [] := fun e => h0 (by rw [e]; rfl)
  have h1 : 0 < lv b xs := Int.lt_of_lt_of_le (pos_pow hb _) (top_le hb d t hne)
  rw [if_neg h0]
  cases n <;> simp only [sgn, sg, if_true, if_false, Bool.false_eq_true]
  ·rw [if_neg (by omega), if_neg (by omega)]
  ·rw [if_pos (by omega)]
set_option maxHeartbeats 800000 in
theorem sign_c {x : Int} {n : Bool} {A : Option Addr} {l c : Nat} {w : World} (hx : RI w n A l c x) :
  Calls Tryd.prog 10 #[.agg #[.bool n, .slice A l c]] w (Ret w (KV (.int .i64 (sgn x)))) := by
 obtain ⟨xs, rfl, hc, rA, nx⟩ := hx
 have HC := Lib.hid (sgn_num (by decide) nx)
 clear nx rA
 by_cases h0 : xs.length = 0
 ·have hz : ((xs.length : Int) == 0) = true := by rw [beq_iff_eq]; omega
  have H0 := Lib.hid h0
  clear h0
  go_enter Tryd.func10, Tryd.ntmps10
  go_wp2
  go_ret
  exact Ret.Veq (by rw [HC.out, if_pos H0.out]; rfl) ((Nw.refl w).alloc _)
 ·have hz : ((xs.length : Int) == 0) = false := by rw [beq_eq_false_iff_ne]; omega
  have H0 := Lib.hid h0
  clear h0
  cases n
  all_goals
   go_enter Tryd.func10, Tryd.ntmps10
   go_wp2
   go_ret
   exact Ret.Veq (by rw [HC.out, if_neg H0.out]; rfl) ((Nw.refl w).alloc _)
end Go.Proofs.YthpjmhhfcechmaaDoor
/- The contracts of the program's Make, Limbs, small, New and complement; of Odd. -/
namespace Go.Proofs.YthpjmhhfcechmaaDoor
open Go.RowKit Ma

set_option maxHeartbeats 1600000 in
set_option maxRecDepth 100000 in
theorem make_c {n : Bool} {A : Option Addr} {c : Nat} {xs : List Int} {w : World} (rA : Rd w .u32 A xs) (dx : dg b32 xs) (hl : xs.length ≤ 1000000) :
  Calls Tryd.prog 22 #[.bool n, .slice A xs.length c] w (Ret w (KI (sg n (lv b32 xs)))) := by
 have RA := Lib.hid rA
 clear rA
 have nw1 : Nw w (w.alloc (.cells #[.bool false, .slice none 0 0] 28)) := (Nw.refl w).alloc _
 have sg0 : Sg [] w.heap.size 2 (w.alloc (.cells #[.bool false, .slice none 0 0] 28)) := ⟨trivial, box_two w 28 false none 0 0, by go_simp⟩
 go_enter Tryd.func22, Tryd.ntmps22
 go_wp2_with (first
  | (go_at_call 50; refine (clone_c A c xs _ (RA.out.kept nw1.kept) hl).mono ?_; rintro e w1 ⟨_, rfl, ⟨zs, C, cc, rfl, hcc, rC, rfl⟩, hb⟩)
  | (go_at_call 27; refine (made_c n C cc xs _ rC hcc dx).mono ?_; rintro e w2 ⟨_, rfl, ⟨m, D, l2, c2, rfl, hi⟩, hb2⟩; have b2 := ((sg0.nw hb).nw hb2).2.1; obtain ⟨⟨v0, hv0, hn0⟩, hf0⟩ := b2 0 (by omega); obtain ⟨⟨v1, hv1, hn1⟩, hf1⟩ := b2 1 (by omega)))
 exact bodyPost_ret (v := .agg #[.bool m, .slice D l2 c2]) (by simp [results, Tryd.results22, go_sem, hv0, hv1]) rfl (Ret.I (hi.kept (store_I b2 hi).1.2.1) (((nw1.trans hb).trans hb2).rr (store_I b2 hi).1 (Nat.le_refl _)))
set_option maxHeartbeats 1600000 in
theorem limbs_c {x : Int} {n : Bool} {A : Option Addr} {l c : Nat} {w : World} (hx : RI w n A l c x) (hl : l ≤ 1000000) :
  Calls Tryd.prog 46 #[.agg #[.bool n, .slice A l c]] w (Ret w (K2 (KV (.bool n)) (KL .u32 fun zs => Num b32 n zs x))) := by
 obtain ⟨xs, rfl, hc, rA, nx⟩ := hx
 have RA := Lib.hid rA
 have NX := Lib.hid nx
 clear rA nx
 have nw1 : Nw w (w.alloc (.cells #[.bool n, .slice A xs.length c] 28)) := (Nw.refl w).alloc _
 have sg0 : Sg [(w.heap.size, 0, Value.bool n), (w.heap.size, 1, Value.slice A xs.length c)] (w.heap.size + 1) 0 (w.alloc (.cells #[.bool n, .slice A xs.length c] 28)) := ⟨⟨by go_simp, by go_simp, trivial⟩, box_zero _ _, by go_simp⟩
 go_enter Tryd.func46, Tryd.ntmps46
 go_wp2
 have n1 : Nw w _ := (nw1).drew
 have hw : w.heap.size ≤ w.heap.size + 1 := by omega
 refine region_std [(w.heap.size, 0, Value.bool n), (w.heap.size, 1, Value.slice A xs.length c)] (w.heap.size + 1) 0 1000 [(4, KL .u32 (fun zs => xs = zs))] (by kernel_rfl) (by kernel_rfl) (by kernel_rfl) (by kernel_rfl) ?_ ⟨.inr (KL.st _ _), trivial⟩ (sg0.nw (Nw.refl _).drew) ?_
 ·first | trivial | (simp only [Low, and_true]; omega)
 repeat
  apply Rg.wpK_quiet rfl rfl
  case hq => intro W hS; obtain ⟨⟨q1, q2, _⟩, _⟩ := hS; go_simp; exact rfl
  case he => exact (by simp only [Act.put, List.setIfInBounds_toArray, List.set_cons_zero, List.set_cons_succ]; exact rfl)
 apply Rg.wpK_know rfl rfl
 case ha =>
  intro W hR hS hF
  have hn := n1.rr hR hw
  obtain ⟨⟨q1, q2, _⟩, hB, hr⟩ := hS
  unfold Rg.gives
  go_simp
  exact Rg.gives_enter (call_inr (clone_c A c xs _ (RA.out.kept hn.kept) hl) hr)
 intro u hu
 obtain ⟨W0, hw1, hw2, hf⟩ := hu
 obtain ⟨zs, C4, c4, e0, hx⟩ := Rg.upd_at rfl (hf 4)
 obtain ⟨l4, e1⟩ : ∃ n, n = zs.length := ⟨_, rfl⟩
 rw [← e1] at e0
 subst e0
 clear hx e1
 have hx := trivial
 refine ⟨_, (by simp only [Act.put, List.setIfInBounds_toArray, List.set_cons_zero, List.set_cons_succ]; exact rfl), ?_⟩
 clear hf hw1 hw2 hx W0
 repeat
  apply Rg.wpK_quiet rfl rfl
  case hq => intro W hS; obtain ⟨⟨q1, q2, _⟩, _⟩ := hS; go_simp; exact rfl
  case he => exact (by simp only [Act.put, List.setIfInBounds_toArray, List.set_cons_zero, List.set_cons_succ]; exact rfl)
 refine Rg.wpK_end fun w9 hR hS hF => ?_
 have hn := n1.rr hR hw
 have h4 := KL.slice (Rg.upd_at rfl (hF 4))
 go_wp2
 go_ret2
 obtain ⟨zs, rfl, h1, h2, rfl⟩ := h4
 exact ⟨_, rfl, ⟨_, _, rfl, rfl, ⟨_, C4, c4, rfl, h1, h2, NX.out⟩⟩, hn⟩
set_option maxHeartbeats 1600000 in
set_option maxRecDepth 100000 in
theorem small_c {u : Int} {w : World} (hu : 0 ≤ u ∧ u < 18446744073709551616) :
  Calls Tryd.prog 40 #[.int .u64 u] w (Ret w (KL .u32 fun zs => dg b32 zs ∧ lv b32 zs = u)) := by
 obtain ⟨hu0, hu1⟩ := hu
 have dz : dg b32 [u % 4294967296, u / 4294967296] := by
  intro x hx
  rw [b32_eq]
  simp at hx
  omega
 have lz : lv b32 [u % 4294967296, u / 4294967296] = u := by
  simp only [lv, b32_eq]; omega
 have DZ := Lib.hid dz
 have LZ := Lib.hid lz
 clear dz lz
 go_enter Tryd.func40, Tryd.ntmps40
 go_wp2_with (go_at_call 52; refine (trimmed_c _ 2 [u % 4294967296, u / 4294967296] _ (Rd.new2 _ _ _ _ _) (by simp)).mono ?_; rintro e w1 ⟨rfl, rfl⟩)
 go_ret
 have hlen := trim_len [u % 4294967296, u / 4294967296]
 exact Ret.L (Rd.new2 _ _ _ _ _).trim (by simpa using hlen) ⟨trim_dg DZ.out, by rw [trim_lv]; exact LZ.out⟩ ((Nw.refl w).alloc _)
set_option maxHeartbeats 1600000 in
set_option maxRecDepth 100000 in
theorem new_c {x : Int} {w : World} (hx : -9223372036854775808 ≤ x ∧ x < 9223372036854775808) :
  Calls Tryd.prog 17 #[.int .i64 x] w (Ret w (KI x)) := by
 obtain ⟨hx0, hx1⟩ := hx
 have nw1 : Nw w (w.alloc (.cells #[.bool false, .slice none 0 0] 28)) := (Nw.refl w).alloc _
 have sg0 : Sg [] w.heap.size 2 (w.alloc (.cells #[.bool false, .slice none 0 0] 28)) := ⟨trivial, box_two w 28 false none 0 0, by go_simp⟩
 by_cases hneg : x < 0
 ·have hu : 0 ≤ -x ∧ -x < 18446744073709551616 := by omega
  have hwx : IntKind.u64.wrap (-IntKind.u64.wrap x) = -x := by simp only [IntKind.wrap_u64]; omega
  go_enter Tryd.func17, Tryd.ntmps17
  go_wp2_with (first
   | (go_at_call 40; refine (small_c (u := -x) hu).mono ?_; rintro e w1 ⟨_, rfl, ⟨zs, C, cc, rfl, hcc, rC, dz, ez⟩, hb⟩; have EZ := Lib.hid ez; clear ez)
   | (go_at_call 27; refine (made_c true C cc zs _ rC hcc dz).mono ?_; rintro e w2 ⟨_, rfl, ⟨m, D, l2, c2, rfl, hi⟩, hb2⟩; have b2 := ((sg0.nw hb).nw hb2).2.1; obtain ⟨⟨v0, hv0, hn0⟩, hf0⟩ := b2 0 (by omega); obtain ⟨⟨v1, hv1, hn1⟩, hf1⟩ := b2 1 (by omega)))
  have hi' := hi.eq (z' := x) (by rw [EZ.out]; unfold sg; (rw [if_pos rfl]; omega))
  exact bodyPost_ret (v := .agg #[.bool m, .slice D l2 c2]) (by simp [results, Tryd.results17, go_sem, hv0, hv1]) rfl (Ret.I (hi'.kept (store_I b2 hi').1.2.1) (((nw1.trans hb).trans hb2).rr (store_I b2 hi').1 (Nat.le_refl _)))
 ·go_enter Tryd.func17, Tryd.ntmps17
  go_wp2_with (first
   | (go_at_call 40; refine (small_c (u := x) ⟨by omega, by omega⟩).mono ?_; rintro e w1 ⟨_, rfl, ⟨zs, C, cc, rfl, hcc, rC, dz, ez⟩, hb⟩; have EZ := Lib.hid ez; clear ez)
   | (go_at_call 27; refine (made_c false C cc zs _ rC hcc dz).mono ?_; rintro e w2 ⟨_, rfl, ⟨m, D, l2, c2, rfl, hi⟩, hb2⟩; have b2 := ((sg0.nw hb).nw hb2).2.1; obtain ⟨⟨v0, hv0, hn0⟩, hf0⟩ := b2 0 (by omega); obtain ⟨⟨v1, hv1, hn1⟩, hf1⟩ := b2 1 (by omega)))
  have hi' := hi.eq (z' := x) (by rw [EZ.out]; unfold sg; rfl)
  exact bodyPost_ret (v := .agg #[.bool m, .slice D l2 c2]) (by simp [results, Tryd.results17, go_sem, hv0, hv1]) rfl (Ret.I (hi'.kept (store_I b2 hi').1.2.1) (((nw1.trans hb).trans hb2).rr (store_I b2 hi').1 (Nat.le_refl _)))
set_option maxHeartbeats 1600000 in
theorem complement_c {x : Int} {n : Bool} {A : Option Addr} {l c : Nat} {w : World} (hx : RI w n A l c x) (hl : l ≤ 400000) :
  Calls Tryd.prog 66 #[.agg #[.bool n, .slice A l c]] w (Ret w (KI (-1 - x))) := by
 have hx2 := hx.abs_lt
 have HX := Lib.hid hx
 have HX2 := Lib.hid hx2
 clear hx hx2
 have nw1 : Nw w ((w.alloc (.cells #[.bool n, .slice A l c] 28)).alloc (.cells #[.bool false, .slice none 0 0] 28)) := ((Nw.refl w).alloc _).alloc _
 have sg0 : Sg [(w.heap.size, 0, Value.bool n), (w.heap.size, 1, Value.slice A l c)] (w.heap.size + 1) 2 ((w.alloc (.cells #[.bool n, .slice A l c] 28)).alloc (.cells #[.bool false, .slice none 0 0] 28)) := by
  refine ⟨⟨by go_simp, by go_simp, trivial⟩, ?_, by go_simp⟩
  have := box_two (w.alloc (.cells #[.bool n, .slice A l c] 28)) 28 false none 0 0
  simpa using this
 go_enter Tryd.func66, Tryd.ntmps66
 go_wp2_with (first
  | (go_at_call 76; refine (neg_c (HX.out.kept nw1.kept)).mono ?_; rintro e w1 ⟨_, rfl, ⟨m1, D1, l1, c1, rfl, i1⟩, hb1⟩)
  | (go_at_call 17; refine (new_c (x := 1) (by omega)).mono ?_; rintro e w2 ⟨_, rfl, ⟨m2, D2, l2, c2, rfl, i2⟩, hb2⟩)
  | (go_at_call 77; refine (sub_c (i1.kept hb2.kept) i2 (Nat.le_trans (i1.len_le l (by have := HX2.out; omega) (by have := HX2.out; omega)) (by omega)) (Nat.le_trans (i2.len_le 1 (by decide) (by decide)) (by omega))).mono ?_; rintro e w3 ⟨_, rfl, ⟨m3, D3, l3, c3, rfl, i3⟩, hb3⟩; have b2 := (((sg0.nw hb1).nw hb2).nw hb3).2.1; obtain ⟨⟨v0, hv0, hn0⟩, hf0⟩ := b2 0 (by omega); obtain ⟨⟨v1, hv1, hn1⟩, hf1⟩ := b2 1 (by omega)))
 have hi' := i3.eq (z' := -1 - x) (by omega)
 exact bodyPost_ret (v := .agg #[.bool m3, .slice D3 l3 c3]) (by simp [results, Tryd.results66, go_sem, hv0, hv1]) rfl (Ret.I (hi'.kept (store_I b2 hi').1.2.1) ((((nw1.trans hb1).trans hb2).trans hb3).rr (store_I b2 hi').1 (by omega)))
end Go.Proofs.YthpjmhhfcechmaaDoor
/- Stores into slices of numbers of the call's own. -/
namespace Go.Proofs.YthpjmhhfcechmaaDoor
open Go.RowKit Ma

theorem Own.cellAt {w : World} {base : Nat} {e : TypeId} {k : IntKind} {g n cap : Nat} {zs : List Int} (h : Own w base e k (.slice (some ⟨g, 0, none⟩) n cap) zs) {i : Nat} (hi : i < zs.length) (hn : n = zs.length) : w.cell? ⟨g, i, none⟩ = some (.int k (at0 zs i)) := by
 subst hn
 rw [World.ownsRow.cellAt h i (by omega), List.getElem?_map, List.getElem?_eq_getElem hi, at0_of_lt hi]
 rfl
theorem Own.frozenAt {w : World} {base : Nat} {e : TypeId} {k : IntKind} {g n cap : Nat} {zs : List Int} (h : Own w base e k (.slice (some ⟨g, 0, none⟩) n cap) zs) (hn : n = zs.length) (i : Nat) : w.frozen? ⟨g, i, none⟩ = false := by
 subst hn
 exact World.ownsRow.frozenAt h i
theorem Own.set {w : World} {base : Nat} {e : TypeId} {k : IntKind} {g n cap : Nat} {zs : List Int} (h : Own w base e k (.slice (some ⟨g, 0, none⟩) n cap) zs) (hn : n = zs.length) (i : Nat) (x : Int) :
  Own (w.setCell ⟨g, i, none⟩ (.int k x)) base e k (.slice (some ⟨g, 0, none⟩) n cap) (zs.set i x) := by
 subst hn
 have := World.ownsRow.stored h i (.int k x)
 unfold Own
 rw [List.length_set, List.map_set]
 exact this.1
theorem Own.ge {w : World} {base : Nat} {e : TypeId} {k : IntKind} {g n cap : Nat} {zs : List Int} (h : Own w base e k (.slice (some ⟨g, 0, none⟩) n cap) zs) : base ≤ g := h.base g rfl
theorem Own.made {w : World} {base : Nat} {e : TypeId} {k : IntKind} {v : Value} {n : Nat} (h : w.ownsRow base e 1 v n (madeCells #[Value.int k 0] n).toList) : Own w base e k v (List.replicate n 0) := by
 refine Own.cast h (by simp) ?_
 apply List.ext_getElem
 ·simp [madeCells]
 ·intro i h1 h2
  simp [madeCells, Nat.mod_one]
theorem Own.take {w : World} {base : Nat} {e : TypeId} {k : IntKind} {g n cap : Nat} {zs : List Int} (h : Own w base e k (.slice (some ⟨g, 0, none⟩) n cap) zs) (hn : n = zs.length) (m : Nat) (hm : m ≤ n) :
  Own w base e k (.slice (some ⟨g, 0, none⟩) m cap) (zs.take m) := by
 subst hn
 obtain ⟨h0, h1 | ⟨g', cap', cur, hv, hb, hg, hc, hx, hs, ht⟩⟩ := h
 ·cases h1.1
 ·simp only [Value.slice.injEq, Option.some.injEq, Addr.mk.injEq, and_true, true_and] at hv
  obtain ⟨rfl, rfl⟩ := hv
  have hl : (zs.take m).length = m := by rw [List.length_take]; omega
  refine ⟨by simp, .inr ⟨g, cap, cur, by rw [hl], hb, hg, by omega, hx, hs, ?_⟩⟩
  rw [hl, List.map_take, ← ht, List.take_take]
  congr 1; omega
theorem Own.ne {w : World} {b b' : Nat} {e e' : TypeId} {k k' : IntKind} {v v' : Value} {xs ys : List Int} (h : Own w b e k v xs) (h' : Own w b' e' k' v' ys) (he : e ≠ e') : v.ownBlock = none ∨ v.ownBlock ≠ v'.ownBlock := by
 obtain ⟨_, h1 | ⟨g, cap, cur, hv, hb, hg, _⟩⟩ := h
 ·left; rw [h1.1]; rfl
 ·right
  obtain ⟨_, h2 | ⟨g', cap', cur', hv', hb', hg', _⟩⟩ := h'
  ·rw [hv, h2.1]; simp [Value.ownBlock]
  ·rw [hv, hv']
   simp only [Value.ownBlock, ne_eq, Option.some.injEq]
   intro e1; subst e1
   rw [hg] at hg'
   simp only [Option.some.injEq, Obj.cells.injEq] at hg'
   exact he hg'.2.1
def KO (base : Nat) (e : TypeId) (k : IntKind) (p : List Int → Prop) : Rg.Know := fun v W => ∃ zs g c, v = .slice (some ⟨g, 0, none⟩) zs.length c ∧ Own W base e k v zs ∧ p zs
theorem KO.l {base : Nat} {e : TypeId} {k : IntKind} {p : List Int → Prop} {v : Value} {W : World} (h : KO base e k p v W) : KL k p v W := by
 obtain ⟨zs, g, c, rfl, ho, hp⟩ := h
 obtain ⟨A, c', e', h1, h2⟩ := ho.rd
 simp only [Value.slice.injEq] at e'
 exact ⟨zs, _, _, rfl, by omega, by rw [e'.1]; exact h2, hp⟩
theorem Own.rdg {w : World} {base : Nat} {e : TypeId} {k : IntKind} {A : Option Addr} {n cap : Nat} {zs : List Int} (h : Own w base e k (.slice A n cap) zs) : n = zs.length ∧ n ≤ cap ∧ Rd w k A zs := by
 obtain ⟨A', c', e', h1, h2⟩ := h.rd
 simp only [Value.slice.injEq] at e'
 obtain ⟨rfl, rfl, rfl⟩ := e'
 exact ⟨rfl, h1, h2⟩
end Go.Proofs.YthpjmhhfcechmaaDoor
/- The contracts of the program's divided and shifted. -/
namespace Go.Proofs.YthpjmhhfcechmaaDoor
open Go.RowKit Ma

structure DivAt (xs : List Int) (y : Int) (k : Nat) (zs : List Int) (r : Int) : Prop where
 le : k ≤ xs.length
 len : zs.length = xs.length
 dg : dg b32 zs
 r0 : 0 ≤ r
 r1 : r < y
 low : ∀ i, i < k → at0 zs i = 0
 eq : y * lv b32 zs + b32 ^ k * r = b32 ^ k * lv b32 (xs.drop k)
theorem DivAt.start (xs : List Int) {y : Int} (hy : 0 < y) : DivAt xs y xs.length (List.replicate xs.length 0) 0 :=
 ⟨Nat.le_refl _, by simp, dg_replicate _ (by decide) (by decide), by omega, hy, fun i hi => by simp [at0, List.getD_eq_getElem?_getD, hi], by rw [lv_zeros, List.drop_length]; simp [lv]⟩
theorem DivAt.step {xs : List Int} {y : Int} {k : Nat} {zs : List Int} {r : Int} (h : DivAt xs y (k + 1) zs r) (dx : Ma.dg b32 xs) (hy : y < 4294967296) :
  DivAt xs y k (zs.set k ((r * 4294967296 + at0 xs k) / y)) ((r * 4294967296 + at0 xs k) % y) := by
 obtain ⟨h1, h2, h3, h4, h5, h6, h7⟩ := h
 obtain ⟨x0, x1⟩ := dg_at dx (by decide) k
 rw [b32_eq] at x1
 have q0 : 0 ≤ (r * 4294967296 + at0 xs k) / y := Int.ediv_nonneg (by omega) (by omega)
 have q1 : (r * 4294967296 + at0 xs k) / y < 4294967296 := by
  apply Int.ediv_lt_of_lt_mul (by omega)
  have : r * 4294967296 + 4294967296 ≤ 4294967296 * y := by omega
  omega
 refine ⟨by omega, by simp [h2], dg_set h3 _ q0 (by rw [b32_eq]; exact q1), Int.emod_nonneg _ (by omega), Int.emod_lt_of_pos _ (by omega), fun i hi => ?_, ?_⟩
 ·have := h6 i (by omega)
  simp only [at0, List.getD_eq_getElem?_getD] at this ⊢
  rw [List.getElem?_set_ne (by omega)]; exact this
 ·rw [lv_set _ _ _ _ (by omega), h6 k (by omega), lv_drop _ _ _ (by omega)]
  have e := Int.mul_ediv_add_emod (r * 4294967296 + at0 xs k) y
  rw [Int.pow_succ] at h7
  generalize (r * 4294967296 + at0 xs k) / y = q at *
  generalize (r * 4294967296 + at0 xs k) % y = r' at *
  rw [b32_eq] at *
  generalize at0 xs k = a at *
  generalize (4294967296 : Int) ^ k = p at *
  grind
theorem DivAt.done {xs : List Int} {y : Int} {zs : List Int} {r : Int} (h : DivAt xs y 0 zs r) : lv b32 zs = lv b32 xs / y ∧ r = lv b32 xs % y := by
 obtain ⟨h1, h2, h3, h4, h5, h6, h7⟩ := h
 simp at h7
 have e : lv b32 xs = r + y * lv b32 zs := by omega
 rw [e, Int.add_mul_ediv_left _ _ (by omega), Int.add_mul_emod_self_left, Int.ediv_eq_zero_of_lt h4 h5, Int.emod_eq_of_lt h4 h5]
 omega
theorem trimmed_l {A : Option Addr} {l c : Nat} {xs : List Int} {w : World} (e : l = xs.length) (rA : Rd w .u32 A xs) (hc : xs.length ≤ c) :
  Calls Tryd.prog 52 #[.slice A l c] w fun e w' => e = .returned (.slice A (trim xs).length c) ∧ w = w' := by subst e; exact trimmed_c A c xs w rA hc
set_option maxHeartbeats 800000 in
set_option maxRecDepth 100000 in
theorem divided_c (A : Option Addr) (c : Nat) (xs : List Int) (y : Int) (w : World) (rA : Rd w .u32 A xs) (dx : dg b32 xs) (hl : xs.length ≤ 1000000) (hy0 : 0 < y) (hy1 : y < 4294967296) :
  Calls Tryd.prog 24 #[.slice A xs.length c, .int .u32 y] w (Ret w (K2 (KO w.heap.size 56 .u32 fun zs => dg b32 zs ∧ lv b32 zs = lv b32 xs / y ∧ top zs) (KV (.int .u32 (lv b32 xs % y))))) := by
 obtain ⟨i0, hi, hz0, hz1, hz2⟩ := info_parts info_u32
 have hlx := rA.1
 go_enter Tryd.func24, Tryd.ntmps24
 go_wp2_with (at_make; refine wpList_make_full _ rfl _ _ 22 rfl w.heap.size 56 i0 (.int .u32 0) 1 Tryd.underlying22 hi hz0 hz1 _ _ _ _ xs.length rfl rfl rfl rfl ?b2 ?b3 (Nat.le_refl _) ?_)
 case b2 => rw [hz2]; omega
 case b3 => unfold maxLen; omega
 intro w0 hown0 hgrow0
 have n0 : Nw w w0 := Below.grown (Nw.refl w) hgrow0 (Nat.le_refl _) (fun k h => by cases h)
 have o0 := Own.made hown0
 clear hown0
 obtain ⟨g, hg⟩ : ∃ g, g = w.heap.size := ⟨_, rfl⟩
 rw [← hg] at o0
 have HG := Lib.hid hg
 go_wp2
 go_loopw [7, 8] (fun rr ci wr => ∃ (k : Nat) (zs : List Int) (r : Int), ci = .int .i64 ((k : Int) - 1) ∧ rr = .int .u32 r ∧ Own wr w.heap.size 56 .u32 (.slice (some ⟨w.heap.size, 0, none⟩) xs.length xs.length) zs ∧ DivAt xs y k zs r ∧ Nw w wr)
  (fun _ ci _ => (intOf ci + 1).toNat)
 case atStart => exact ⟨xs.length, _, 0, rfl, rfl, HG.out ▸ o0, DivAt.start xs hy0, n0⟩
 case round =>
  obtain ⟨k, zs, r, rfl, rfl, ho, hs, hn⟩ := hrel
  have hkle := hs.le
  have hr0 := hs.r0
  have hr1 := hs.r1
  clear hg o0
  cases k with
  | zero =>
   obtain ⟨hl1, hl2⟩ := hs.done
   have HL1 := Lib.hid hl1
   have HL2 := Lib.hid hl2
   have HZ := Lib.hid hs.len
   have dz := hs.dg
   clear hl1 hl2 hs
   have rZ : Rd wr .u32 (some ⟨w.heap.size, 0, none⟩) zs := by
    obtain ⟨A', c', e, hc', rr⟩ := ho.rd
    simp only [Value.slice.injEq] at e
    rw [e.1]; exact rr
   go_wp2_with (go_at_call 52; refine (trimmed_l HZ.out.symm rZ (by rw [HZ.out]; omega)).mono ?_; rintro e w' ⟨rfl, rfl⟩)
   go_ret2
   have ht := trim_len zs
   exact ⟨_, rfl, ⟨_, _, rfl, ⟨trim zs, _, _, rfl, by have := ho.take HZ.out.symm (trim zs).length (by rw [HZ.out] at ht; exact ht); rwa [← trim_take] at this, trim_dg dz, by rw [trim_lv]; exact HL1.out, trim_top zs⟩, by rw [KV]; rw [← HL2.out]; rfl⟩, hn⟩
  | succ k =>
   obtain ⟨ad, hA, hcell⟩ := rA.2 k (by omega)
   subst hA
   have hcell := hn.kept _ _ _ hcell
   obtain ⟨x0, x1⟩ := dg_at dx (by decide) k
   rw [b32_eq] at x1
   have HS := Lib.hid (hs.step dx hy1)
   have hc := ho.cellAt (i := k) (by rw [hs.len]; omega) hs.len.symm
   have hf := ho.frozenAt hs.len.symm k
   have HZ := Lib.hid hs.len
   clear hs
   go_wp2_with (go_at_call 51; refine (div32_c r (at0 xs k) y _ ⟨hr0, hr1⟩ ⟨x0, x1⟩ hy1).mono ?_; rintro e w1 ⟨rfl, hb⟩; have hc1 := (ho.kept hb).cellAt (i := k) (by rw [HZ.out]; omega) HZ.out.symm; have hf1 := (ho.kept hb).frozenAt HZ.out.symm k; clear hc hf)
   exact ⟨⟨k, _, _, rfl, rfl, (ho.kept hb).set HZ.out.symm k _, HS.out, (hn.trans hb).set (Nat.le_refl _) _⟩, by simp [intOf]⟩
theorem at0_set_ne {xs : List Int} {i j : Nat} {x : Int} (h : i ≠ j) : at0 (xs.set i x) j = at0 xs j := by
 simp only [at0, List.getD_eq_getElem?_getD]; rw [List.getElem?_set_ne h]
end Go.Proofs.YthpjmhhfcechmaaDoor
/- The contract of the program's Mul. -/
namespace Go.Proofs.YthpjmhhfcechmaaDoor
open Go.RowKit Ma

theorem made_l {A : Option Addr} {l c : Nat} {xs : List Int} {w : World} (e : l = xs.length) (n : Bool) (rA : Rd w .u32 A xs) (hc : xs.length ≤ c) (hd : dg b32 xs) :
  Calls Tryd.prog 27 #[.bool n, .slice A l c] w (Ret w (KI (sg n (lv b32 xs)))) := by subst e; exact made_c n A c xs w rA hc hd
end Go.Proofs.YthpjmhhfcechmaaDoor
/- The contracts of the program's chunk, and of slices.Reverse on bytes. -/
namespace Go.Proofs.YthpjmhhfcechmaaDoor
open Go.RowKit Ma

set_option maxHeartbeats 800000 in
theorem chunk_c (r : Int) (w : World) (h2 : 2 ≤ r) (h36 : r ≤ 36) :
  Calls Tryd.prog 23 #[.int .i64 r] w fun e w' => ∃ k : Nat, e = .returned (.tuple #[.int .u32 (r ^ k), .int .i64 k]) ∧ w = w' ∧ 1 ≤ k ∧ k ≤ 32 ∧ r ^ k < 4294967296 := by
 have key : ∀ k : Nat, 2 ^ k ≤ r ^ k := by
  intro k
  induction k with
  | zero => simp
  | succ k ih =>
   rw [Int.pow_succ, Int.pow_succ]
   have h0 : (0 : Int) < 2 ^ k := Int.pow_pos (by decide)
   have h1 : (2 : Int) ^ k * 2 ≤ 2 ^ k * r := Int.mul_le_mul_of_nonneg_left h2 (Int.le_of_lt h0)
   have h3 : (2 : Int) ^ k * r ≤ r ^ k * r := Int.mul_le_mul_of_nonneg_right ih (by omega)
   omega
 have kl : ∀ k : Nat, r ^ k < 4294967296 → k ≤ 31 := by
  intro k hk
  have h1 := key k
  by_cases h : k ≤ 31
  ·exact h
  ·have h3 := pow_le (b := 2) (by decide) (show 32 ≤ k by omega)
   have h4 : (2 : Int) ^ 32 = 4294967296 := by decide
   omega
 have KL := Lib.hid kl
 clear kl key
 go_enter Tryd.func23, Tryd.ntmps23
 go_wp2
 go_loop [4, 5] (fun n c => ∃ k : Nat, n = .int .u64 (r ^ k) ∧ c = .int .i64 k ∧ 1 ≤ k ∧ k ≤ 31 ∧ r ^ k < 4294967296 ∧ 0 ≤ r ^ k) (fun _ c => (32 - intOf c).toNat)
 case atStart => exact ⟨1, by rw [Int.pow_succ, Int.pow_zero, Int.one_mul], rfl, by omega, by omega, by rw [Int.pow_succ, Int.pow_zero, Int.one_mul]; omega, by rw [Int.pow_succ, Int.pow_zero, Int.one_mul]; omega⟩
 case round =>
  obtain ⟨k, rfl, rfl, h1, h31, hlt, hp0⟩ := hrel
  have hm0 : 0 ≤ r ^ k * r := Int.mul_nonneg hp0 (by omega)
  have hm1 : r ^ k * r ≤ 4294967296 * 36 := by
   have a1 : r ^ k * r ≤ r ^ k * 36 := Int.mul_le_mul_of_nonneg_left h36 hp0
   omega
  by_cases hc : r ^ k * r < 4294967296
  ·have hk2 := KL.out (k + 1) (by rw [Int.pow_succ]; exact hc)
   go_wp2
   go_round
   case rel => exact ⟨k + 1, by rw [Int.pow_succ], by go_num, by omega, by omega, by rw [Int.pow_succ]; exact hc, by rw [Int.pow_succ]; exact hm0⟩
   case measure => simp [intOf]; omega
  ·go_wp2
   go_ret2
   exact ⟨k, ret_val (by simp [hlt]), rfl, h1, by omega, hlt⟩
end Go.Proofs.YthpjmhhfcechmaaDoor
/- The contract of slices.Reverse on bytes of the call's own. -/
namespace Go.Proofs.YthpjmhhfcechmaaDoor
open Go.RowKit Ma

def RevAt (zs us : List Int) (i : Nat) : Prop := us.length = zs.length ∧ ∀ m, m < zs.length → at0 us m = if m < i ∨ zs.length - i ≤ m then at0 zs (zs.length - 1 - m) else at0 zs m
theorem at0_set (l : List Int) (i m : Nat) (x : Int) (hi : i < l.length) : at0 (l.set i x) m = if m = i then x else at0 l m := by
 by_cases e : m = i
 ·subst e; simp [at0, List.getD_eq_getElem?_getD, hi]
 ·rw [at0_set_ne (by omega)]; simp [e]
theorem RevAt.step {zs us : List Int} {i : Nat} (h : RevAt zs us i) (hi : 2 * i + 1 < zs.length) : RevAt zs ((us.set i (at0 us (zs.length - 1 - i))).set (zs.length - 1 - i) (at0 us i)) (i + 1) := by
 refine ⟨by simp [h.1], fun m hm => ?_⟩
 have h1 := h.2 i (by omega)
 have h2 := h.2 (zs.length - 1 - i) (by omega)
 have h3 := h.2 m hm
 rw [if_neg (by omega)] at h1 h2
 rw [at0_set _ _ _ _ (by simp [h.1]; omega), at0_set _ _ _ _ (by rw [h.1]; omega)]
 by_cases e1 : m = zs.length - 1 - i
 ·rw [if_pos e1, h1, if_pos (by omega), e1, show zs.length - 1 - (zs.length - 1 - i) = i by omega]
 ·rw [if_neg e1]
  by_cases e2 : m = i
  ·rw [if_pos e2, h2, if_pos (by omega), e2]
  ·rw [if_neg e2, h3]
   by_cases e3 : m < i ∨ zs.length - i ≤ m
   ·rw [if_pos e3, if_pos (by omega)]
   ·rw [if_neg e3, if_neg (by omega)]
theorem RevAt.done {zs us : List Int} {i : Nat} (h : RevAt zs us i) (hi : ¬ 2 * i + 1 < zs.length) : us = zs.reverse := by
 apply List.ext_getElem
 ·simp [h.1]
 ·intro m h1 h2
  have h3 := h.2 m (by rw [← h.1]; exact h1)
  rw [at0_of_lt h1] at h3
  rw [h3, List.getElem_reverse]
  have hm : m < zs.length := by rw [← h.1]; exact h1
  by_cases e3 : m < i ∨ zs.length - i ≤ m
  ·rw [if_pos e3, at0_of_lt (by omega)]
  ·rw [if_neg e3, at0_of_lt hm]
   congr 1; omega
set_option maxHeartbeats 800000 in
theorem reverse_c {w : World} {base : Nat} {g n cap : Nat} {zs : List Int} (ho : Own w base 5 .u8 (.slice (some ⟨g, 0, none⟩) n cap) zs) (hn : n = zs.length) :
  Calls Tryd.prog 25 #[.slice (some ⟨g, 0, none⟩) n cap] w fun e w' => e = .returned (.tuple #[]) ∧ Own w' base 5 .u8 (.slice (some ⟨g, 0, none⟩) n cap) zs.reverse ∧ Below base w w' := by
 have hlen : zs.length ≤ 9223372036854775807 := by
  obtain ⟨A, c, e, h1, h2⟩ := ho.rd
  exact h2.1
 have hbase := ho.ge
 go_enter Tryd.func25, Tryd.ntmps25
 go_wp2
 go_loopw [2, 3] (fun ci cj wr => ∃ (i : Nat) (us : List Int), ci = .int .i64 i ∧ cj = .int .i64 ((zs.length : Int) - 1 - i) ∧ i ≤ zs.length ∧ Own wr base 5 .u8 (.slice (some ⟨g, 0, none⟩) n cap) us ∧ RevAt zs us i ∧ Below base w wr)
  (fun ci _ _ => zs.length - (intOf ci).toNat)
 case atStart => exact ⟨0, zs, by simp, by simp [hn], by omega, ho, ⟨rfl, fun m hm => by rw [if_neg (by omega)]⟩, Below.refl _ _⟩
 case round =>
  obtain ⟨i, us, rfl, rfl, hi, hu, hr, hb⟩ := hrel
  by_cases hlt : 2 * i + 1 < zs.length
  ·obtain ⟨j, hj⟩ : ∃ j, j = zs.length - 1 - i := ⟨_, rfl⟩
   have hnl : n = us.length := by rw [hn, hr.1]
   have ci := hu.cellAt (i := i) (by rw [hr.1]; omega) hnl
   have cj := hu.cellAt (i := j) (by rw [hr.1]; omega) hnl
   have fi := hu.frozenAt hnl i
   have fj := hu.frozenAt hnl j
   have ej : ((zs.length : Int) - 1 - i) = (j : Int) := by omega
   rw [ej]
   have hij : i < j := by omega
   have hjn : j < n := by omega
   have hjb : (j : Int) < 9223372036854775807 := by omega
   have hiz : i + 1 ≤ zs.length := by omega
   have o2 := Lib.hid ((hu.set hnl i (at0 us j)).set (by simpa using hnl) j (at0 us i))
   have st := Lib.hid (hr.step hlt)
   have HN := Lib.hid hn
   have HJ := Lib.hid hj
   have HL := Lib.hid hlt
   clear hu hr hn hj hnl ej hlt ho
   go_wp2
   go_region
   go_wp2
   exact ⟨⟨i + 1, _, by go_num, by have := HJ.out; have := HL.out; apply congrArg (Value.int IntKind.i64); omega, hiz, o2.out.kept ((Below.refl _ _).drew), by have := st.out; rw [← HJ.out] at this; exact this, ((hb.setCell (p := ⟨g, i, none⟩) hbase _).setCell (p := ⟨g, j, none⟩) hbase _).drew⟩, by have := HL.out; simp [intOf]; omega⟩
  ·have hnl : n = us.length := by rw [hn, hr.1]
   have e := hr.done hlt
   have HO : Own wr base 5 .u8 (.slice (some ⟨g, 0, none⟩) n cap) zs.reverse := e ▸ hu
   have HO := Lib.hid HO
   clear hu e
   go_wp2
   go_end0
   exact ⟨rfl, HO.out, hb⟩
end Go.Proofs.YthpjmhhfcechmaaDoor
/- The contract of the program's Text. -/
namespace Go.Proofs.YthpjmhhfcechmaaDoor
open Go.RowKit Ma

theorem info_u8 : (Tryd.prog.info? 5).map (fun i => (i.zero, i.size, i.bytes)) = some (some (.int .u8 0), 1, 1) := by kernel_rfl
def dch (d : Int) : Int := if d < 10 then 48 + d else 55 + d
def Txt (r z : Int) (s : ByteArray) : Prop := ∃ ds, dg r ds ∧ top ds ∧ lv r ds = z.natAbs ∧ s.data.toList.map (fun b => (b.toNat : Int)) = if z = 0 then [48] else (if z < 0 then [45] else []) ++ (ds.map dch).reverse
def KT (r z : Int) : Rg.Know := fun v _ => ∃ s, v = .string s ∧ Txt r z s
theorem bytes_inj {s t : ByteArray} (h : s.data.toList.map (fun b => (b.toNat : Int)) = t.data.toList.map (fun b => (b.toNat : Int))) : s = t := by
 have : s.data.toList = t.data.toList := by
  refine List.map_inj_right (f := fun b : UInt8 => (b.toNat : Int)) (fun a b e => ?_) |>.1 h
  exact UInt8.toNat_inj.1 (by exact_mod_cast e)
 cases s; cases t; congr; exact Array.toList_inj.1 this
theorem Txt.eq {r z : Int} {s t : ByteArray} (hr : 2 ≤ r) (h : Txt r z s) (k : Txt r z t) : s = t := by
 obtain ⟨ds, d1, t1, l1, e1⟩ := h
 obtain ⟨es, d2, t2, l2, e2⟩ := k
 have : ds = es := lv_inj (by omega) d1 d2 t1 t2 (l1.trans l2.symm)
 subst this
 exact bytes_inj (e1.trans e2.symm)
def digs : ByteArray := { data := #[48, 49, 50, 51, 52, 53, 54, 55, 56, 57, 65, 66, 67, 68, 69, 70, 71, 72, 73, 74, 75, 76, 77, 78, 79, 80, 81, 82, 83, 84, 85, 86, 87, 88, 89, 90] }
theorem dch_at {d : Int} (h0 : 0 ≤ d) (h1 : d < 36) (h : d.toNat < digs.size) : ((digs[d.toNat]'h).toNat : Int) = dch d := by
 obtain ⟨k, rfl⟩ := Int.eq_ofNat_of_zero_le h0
 have hk : k < 36 := by omega
 have key : ∀ k : Fin 36, ((digs[k.val]'(Nat.lt_of_lt_of_le k.2 (by decide))).toNat : Int) = dch k.val := by decide
 exact key ⟨k, hk⟩
theorem cell_one_eq (w : World) (k : IntKind) (x y : Int) (e : TypeId) (h : x = y) : ∀ j u, [Value.int k y][j]? = some u → (w.alloc (.cells #[.int k x] e)).cell? ((⟨w.heap.size, 0, none⟩ : Addr).add j) = some u := by
 subst h; intro j u hu; exact cell_one_new _ _ _ j u hu
def slen : Value → Nat
 | .slice _ n _ => n
 | _ => 0
theorem Own.slen {w : World} {b : Nat} {e : TypeId} {k : IntKind} {v : Value} {xs : List Int} (h : Own w b e k v xs) : slen v = xs.length := by
 obtain ⟨A, c, rfl, _⟩ := h.rd; rfl
theorem Own.row {w w' : World} {b b' : Nat} {e e' : TypeId} {k k' : IntKind} {v v' : Value} {xs ys : List Int} {o : Obj} (h : Own w b e k v xs) (h' : Own w b' e' k' v' ys) (he : e ≠ e') (hg : (w.alloc o).grownBy w' v'.ownBlock) : Own w' b e k v xs :=
 World.ownsRow.kept (World.ownsRow.alloc h o) hg (h.ne h' he)
theorem Nw.grew {w W w1 : World} {b : Nat} {e : TypeId} {k : IntKind} {v : Value} {xs : List Int} {o : Obj} (h : Nw w W) (ho : Own W b e k v xs) (hg : (W.alloc o).grownBy w1 v.ownBlock) (hb : w.heap.size ≤ b) : Nw w w1 :=
 Below.grown (h.alloc o) hg (h.alloc o).size (fun g hg => Nat.le_trans hb (ho.base g hg))
theorem Own.some' {w : World} {b : Nat} {e : TypeId} {k : IntKind} {v : Value} {xs : List Int} (h : Own w b e k v xs) (hne : xs ≠ []) : ∃ g c, v = .slice (some ⟨g, 0, none⟩) xs.length c := by
 rcases h.2 with ⟨hv, h0⟩ | ⟨g, cap, cur, hv, _⟩
 ·exact absurd (List.eq_nil_of_length_eq_zero h0) hne
 ·exact ⟨g, cap, hv⟩
theorem dch_0 {d : Int} (h0 : 0 ≤ d) (h1 : d < 36) : 48 ≤ dch d ∧ dch d ≤ 90 ∧ (dch d = 48 ↔ d = 0) := by
 unfold dch; split <;> omega
theorem at0_map (es : List Int) (i : Nat) (hi : i < es.length) : at0 (es.map dch) i = dch (at0 es i) := by
 rw [at0_of_lt (by simpa using hi), at0_of_lt hi]; simp
theorem strip_step {r : Int} {es : List Int} {V : Int} (d : Ma.dg r es) (e : lv r es = V) (h0 : 0 < V) : 0 < es.length ∧ (at0 es (es.length - 1) = 0 → Ma.dg r (es.take (es.length - 1)) ∧ lv r (es.take (es.length - 1)) = V) ∧ (at0 es (es.length - 1) ≠ 0 → Ma.top es) := by
 have hl : 0 < es.length := by
  cases es with
  | nil => simp [lv] at e; omega
  | cons a t => simp
 refine ⟨hl, fun hz => ⟨dg_take d _, ?_⟩, fun hz => (top_at (by intro e; subst e; simp at hl)).2 hz⟩
 have := lv_take_succ r es (es.length - 1) (by omega)
 rw [Nat.sub_add_cancel hl, List.take_length, hz, Int.mul_zero, Int.add_zero] at this
 omega
theorem bytes_of (zs : List Int) (h : ∀ z ∈ zs, 0 ≤ z ∧ z < 256) : ∃ l : List UInt8, l.map (fun b => (b.toNat : Int)) = zs ∧ l.length = zs.length := by
 induction zs with
 | nil => exact ⟨[], rfl, rfl⟩
 | cons z zs ih =>
  obtain ⟨l, e, hl⟩ := ih (fun x hx => h x (List.mem_cons_of_mem _ hx))
  have hz := h z (List.mem_cons_self ..)
  refine ⟨UInt8.ofNat z.toNat :: l, ?_, by simp [hl]⟩
  simp only [List.map_cons, e, UInt8.toNat_ofNat']
  congr 1
  omega
theorem Txt.pos {r z : Int} {es : List Int} {s : ByteArray} (h0 : 0 < z) (de : Ma.dg r es) (te : Ma.top es) (he : lv r es = z) (hs : s.data.toList.map (fun b => (b.toNat : Int)) = (es.map dch).reverse) : Txt r z s :=
 ⟨es, de, te, by omega, by rw [hs, if_neg (by omega), if_neg (by omega)]; simp⟩
theorem Txt.neg {r z : Int} {es : List Int} {s : ByteArray} (h0 : z < 0) (de : Ma.dg r es) (te : Ma.top es) (he : lv r es = -z) (hs : s.data.toList.map (fun b => (b.toNat : Int)) = (es.map dch ++ [45]).reverse) : Txt r z s :=
 ⟨es, de, te, by omega, by rw [hs, if_neg (by omega), if_pos h0]; simp⟩
theorem own_string {w : World} {base g n cap : Nat} {zs : List Int} (ho : Own w base 5 .u8 (.slice (some ⟨g, 0, none⟩) n cap) zs) (hn : n = zs.length) (hz : ∀ z ∈ zs, 0 ≤ z ∧ z < 256) :
  ∃ s : ByteArray, (convert 59 9 (.slice (some ⟨g, 0, none⟩) n cap)).run Tryd.prog w = .ok (.string s) w ∧ s.data.toList.map (fun b => (b.toNat : Int)) = zs := by
 obtain ⟨l, hl, hll⟩ := bytes_of zs hz
 subst hl
 have e : n = l.length := by rw [hn]; simp
 subst e
 refine ⟨⟨l.toArray⟩, run_convert_bytes_back w _ _ _ ⟨g, 0, none⟩ cap l Tryd.underlying59 Tryd.underlying5 Tryd.underlying9 (fun j hj => ?_), by simp⟩
 rw [add_at, ho.cellAt (i := j) (by simpa using hj) (by simp), at0_of_lt (by simpa using hj)]
 simp
structure TxA (r : Int) (xs0 ds xs : List Int) : Prop where
 dd : dg r ds
 dx : Ma.dg b32 xs
 tx : Ma.top xs
 eq : lv r ds + r ^ ds.length * lv b32 xs = lv b32 xs0
structure TxI (r : Int) (xs0 xs : List Int) (k len0 j : Nat) (ds : List Int) (q : Int) : Prop where
 le : j ≤ k
 len : ds.length = len0 + j
 dd : dg r ds
 q0 : 0 ≤ q
 q1 : q < r ^ (k - j)
 eq : lv r ds + r ^ ds.length * q + r ^ (len0 + k) * lv b32 xs = lv b32 xs0
theorem TxI.step {r : Int} {xs0 xs : List Int} {k len0 j : Nat} {ds : List Int} {q : Int} (h : TxI r xs0 xs k len0 j ds q) (hr : 2 ≤ r) (hj : j < k) : TxI r xs0 xs k len0 (j + 1) (ds ++ [q % r]) (q / r) := by
 obtain ⟨h1, h2, h3, h4, h5, h6⟩ := h
 have m0 := Int.emod_nonneg q (show r ≠ 0 by omega)
 have m1 := Int.emod_lt_of_pos q (show 0 < r by omega)
 refine ⟨by omega, by simp [h2]; omega, dg_append.2 ⟨h3, fun x hx => by rw [List.mem_singleton] at hx; rw [hx]; exact ⟨m0, m1⟩⟩, Int.ediv_nonneg h4 (by omega), ?_, ?_⟩
 ·apply Int.ediv_lt_of_lt_mul (by omega)
  rw [← Int.pow_succ, show (k - (j + 1)).succ = k - j by omega]
  exact h5
 ·have e := Int.mul_ediv_add_emod q r
  rw [lv_snoc, List.length_append, List.length_singleton, Int.pow_succ]
  generalize q / r = a at *
  generalize q % r = b at *
  generalize r ^ ds.length = p at *
  generalize r ^ (len0 + k) = p2 at *
  rw [← h6, ← e]
  grind
theorem TxI.q1r {r : Int} {xs0 xs : List Int} {k len0 j : Nat} {ds : List Int} {q : Int} (h : TxI r xs0 xs k len0 j ds q) (hr : 2 ≤ r) : q < r ^ k := by
 have := pow_le (b := r) (by omega) (show k - j ≤ k by omega)
 have := h.q1
 omega
theorem TxA.inner {r : Int} {xs0 ds xs : List Int} (h : TxA r xs0 ds xs) {k : Nat} {zs : List Int} {by_ : Int} (hr : 2 ≤ r) (hby : by_ = r ^ k) (dz : Ma.dg b32 zs) (hz : lv b32 zs = lv b32 xs / by_) : TxI r xs0 zs k ds.length 0 ds (lv b32 xs % by_) := by
 subst hby
 have hp := pos_pow (show 0 < r by omega) k
 refine ⟨by omega, by omega, h.dd, Int.emod_nonneg _ (by omega), Int.emod_lt_of_pos _ hp, ?_⟩
 have e := Int.mul_ediv_add_emod (lv b32 xs) (r ^ k)
 rw [hz, Int.pow_add, ← h.eq]
 generalize lv b32 xs / r ^ k = a at *
 generalize lv b32 xs % r ^ k = b at *
 generalize r ^ ds.length = p at *
 generalize r ^ k = p2 at *
 rw [← e]
 grind
theorem TxI.outer {r : Int} {xs0 xs : List Int} {k len0 : Nat} {ds : List Int} {q : Int} (h : TxI r xs0 xs k len0 k ds q) (dx : Ma.dg b32 xs) (tx : Ma.top xs) : TxA r xs0 ds xs := by
 obtain ⟨h1, h2, h3, h4, h5, h6⟩ := h
 refine ⟨h3, dx, tx, ?_⟩
 have : q = 0 := by simp at h5; omega
 rw [this] at h6
 rw [h2] at *
 simpa using h6
theorem pow2_le (r : Int) (hr : 2 ≤ r) : ∀ k : Nat, (2 : Int) ^ k ≤ r ^ k := by
 intro k
 induction k with
 | zero => simp
 | succ k ih =>
  rw [Int.pow_succ, Int.pow_succ]
  have h0 : (0 : Int) < 2 ^ k := Int.pow_pos (by decide)
  have h1 : (2 : Int) ^ k * 2 ≤ 2 ^ k * r := Int.mul_le_mul_of_nonneg_left hr (Int.le_of_lt h0)
  have h3 : (2 : Int) ^ k * r ≤ r ^ k * r := Int.mul_le_mul_of_nonneg_right ih (by omega)
  omega
theorem TxA.len {r : Int} {xs0 ds xs : List Int} (h : TxA r xs0 ds xs) (hr : 2 ≤ r) (d0 : Ma.dg b32 xs0) (hne : xs ≠ []) : ds.length ≤ 32 * xs0.length := by
 have h1 := h.eq
 have h2 := lv_nonneg (show 0 < r by omega) h.dd
 have h3 : 1 ≤ lv b32 xs := by
  have := top_le (by decide) h.dx h.tx hne
  have := pos_pow (show (0 : Int) < b32 by decide) (xs.length - 1)
  omega
 have h4 := lv_lt (show 0 < b32 by decide) d0
 have hp := pos_pow (show 0 < r by omega) ds.length
 have h5 : r ^ ds.length * 1 ≤ r ^ ds.length * lv b32 xs := Int.mul_le_mul_of_nonneg_left h3 (by omega)
 have h6 := pow2_le r hr ds.length
 have h7 : (2 : Int) ^ ds.length < 2 ^ (32 * xs0.length) := by
  have : b32 ^ xs0.length = 2 ^ (32 * xs0.length) := by rw [Int.pow_mul]; rfl
  omega
 apply Classical.byContradiction
 intro hc
 have := pow_le (b := 2) (by decide) (show 32 * xs0.length ≤ ds.length by omega)
 omega
set_option maxHeartbeats 3200000 in
set_option maxRecDepth 100000 in
theorem text_ok {x : Int} {n : Bool} {A : Option Addr} {l c : Nat} {w : World} (r : Int) (h2 : 2 ≤ r) (h36 : r ≤ 36) (hx : RI w n A l c x) (hl : l ≤ 500000) :
  Calls Tryd.prog 7 #[.agg #[.bool n, .slice A l c], .int .i64 r] w (Ret w (K2 (KT r x) (KV (.int .i64 0)))) := by
 have nw1 : Nw w (w.alloc (.cells #[.bool n, .slice A l c] 28)) := (Nw.refl w).alloc _
 have hx1 := hx.kept nw1.kept
 by_cases h0 : x = 0
 ·have hs : sgn x = 0 := by rw [h0]; rfl
  have HS := Lib.hid hs
  have HX := Lib.hid hx1
  clear hx hx1 hs
  go_enter Tryd.func7, Tryd.ntmps7
  go_wp2_with (go_at_call 10; refine (sign_c HX.out).mono ?_; rintro e w1 ⟨_, rfl, hk, hb⟩; rw [HS.out] at hk; subst hk)
  go_ret2
  exact ⟨_, rfl, ⟨_, _, rfl, ⟨_, rfl, [], dg_nil _, top_nil, by simp [lv, h0], by simp [h0]⟩, rfl⟩, nw1.trans hb⟩
 ·have hs : sgn x ≠ 0 := by unfold sgn; split <;> (try split) <;> omega
  obtain ⟨sv, hsv⟩ : ∃ sv, sgn x = sv := ⟨_, rfl⟩
  rw [hsv] at hs
  have HSV := Lib.hid hsv
  have HX := Lib.hid hx1
  obtain ⟨xs, rfl, hc, rA, dx, tx, nx, ex⟩ := hx1
  obtain ⟨i0, hi, hz0, hz1, hz2⟩ := info_parts info_u8
  have Q0 : Has [(w.heap.size, 0, .bool n), (w.heap.size, 1, .slice A xs.length c)] (w.alloc (.cells #[.bool n, .slice A xs.length c] 28)) := ⟨by go_simp, by go_simp, trivial⟩
  have Q0 := Lib.hid Q0
  clear hx hsv
  go_enter Tryd.func7, Tryd.ntmps7
  go_wp2_with (first
   | (go_at_call 10; refine (sign_c HX.out).mono ?_; rintro e w1 ⟨_, rfl, hk, hb⟩; rw [HSV.out] at hk; subst hk; obtain ⟨q0, q1, _⟩ := Q0.out.nw hb)
   | (go_at_call 23; refine (chunk_c r _ h2 h36).mono ?_; rintro e w2 ⟨k, rfl, rfl, hk1, hk32, hrk⟩))
  obtain ⟨W2, hW2⟩ : ∃ W2, W2 = w1 := ⟨_, rfl⟩
  have nw2 : Nw w w1 := nw1.trans hb
  have RX := Lib.hid (rA.kept hb.kept)
  go_loopw [8, 9, 10] (fun ov lv' rv wr => ∃ (ds zs : List Int) (A' : Option Addr) (c' : Nat), lv' = .slice A' zs.length c' ∧ zs.length ≤ c' ∧ Rd wr .u32 A' zs ∧ zs.length ≤ xs.length ∧ ds.length ≤ 32 * xs.length + 32 ∧ Own wr w1.heap.size 5 .u8 ov (ds.map dch) ∧ TxA r xs ds zs ∧ Nw w1 wr)
   (fun ov _ _ _ => 32 * xs.length + 1 - slen ov)
  case atStart => exact ⟨[], xs, A, c, rfl, hc, RX.out, Nat.le_refl _, by simp, Own.nil _ _ _ _, ⟨dg_nil _, dx, tx, by simp [lv]⟩, Nw.refl _⟩
  case round =>
   obtain ⟨ds, zs, A', c', rfl, hzc, rz, hzl, hdn, ho, ht, hn⟩ := hrel
   by_cases hz : 0 < zs.length
   ·have hne : zs ≠ [] := by intro e; subst e; simp at hz
    have hlen := ht.len h2 dx hne
    have hp0 := pos_pow (show 0 < r by omega) k
    have HT := Lib.hid ht
    have hdz := ht.dx
    have HO := Lib.hid ho
    have HR := Lib.hid rz
    have HN := Lib.hid hn
    clear ht ho rz hn q0 q1
    go_wp2_with (go_at_call 24; refine (divided_c A' c' zs (r ^ k) wr HR.out hdz (by omega) hp0 hrk).mono ?_; rintro e w3 ⟨_, rfl, ⟨v1, v2, rfl, ⟨us, g3, c3, rfl, o5, p1, p2, p3⟩, rfl⟩, hb3⟩)
    have hi0 := (HT.out.inner (k := k) h2 rfl p1 p2)
    have HI := Lib.hid hi0
    have hul : us.length ≤ zs.length := length_le (by decide) p1 hdz p3 (by rw [p2]; exact Int.ediv_le_self _ (lv_nonneg (by decide) hdz))
    clear hi0 p2
    have o3 := Lib.hid (HO.out.kept hb3)
    have n3 := Lib.hid (HN.out.trans hb3)
    obtain ⟨q9, hq⟩ : ∃ q9, lv b32 zs % r ^ k = q9 := ⟨_, rfl⟩
    rw [hq] at HI
    have hqq := Lib.hid hq
    clear hq HN HR
    go_loopw [8, 10, 37] (fun ov rv ci wq => ∃ (j : Nat) (es : List Int) (q : Int), ci = .int .i64 j ∧ rv = .int .u32 q ∧ Own wq w1.heap.size 5 .u8 ov (es.map dch) ∧ Own wq wr.heap.size 56 .u32 (.slice (some ⟨g3, 0, none⟩) us.length c3) us ∧ TxI r xs us k ds.length j es q ∧ Nw w1 wq)
     (fun _ _ ci _ => k - (intOf ci).toNat)
    case atStart => exact ⟨0, ds, q9, rfl, by rw [hqq.out], o3.out, o5, HI.out, n3.out⟩
    case round =>
     clear o3 HI o5 n3
     obtain ⟨j, es, q, rfl, rfl, ho4, hu4, hi4, hn4⟩ := hrel
     have hjk := hi4.le
     by_cases hj : j < k
     ·have hq0 := hi4.q0
      have hq1 := hi4.q1r h2
      have m0 := Int.emod_nonneg q (show r ≠ 0 by omega)
      have m1 := Int.emod_lt_of_pos q (show 0 < r by omega)
      have d0 := Int.ediv_nonneg hq0 (show 0 ≤ r by omega)
      have d1 := Int.ediv_le_self r hq0
      have HS := Lib.hid (hi4.step h2 hj)
      have hel := hi4.len
      clear hi4
      have m2 : q % r < 36 := by omega
      have hsz := hn4.size
      have HU := Lib.hid hu4
      go_wp2_with (at_builtin; refine wpList_append_own _ rfl (.tmp 39) (.tmp 45) 59 rfl w1.heap.size 5 i0 (.int .u8 0) 1 1 Tryd.underlying59 hi hz0 hz1 hz2 rfl (by decide) _ _ _ rfl (ho4.alloc _) ⟨wr.heap.size, 0, none⟩ 1 1 [.int .u8 (dch (q % r))] rfl rfl ?c1 ?c2 ?c3 ?c4 ?c5 ?_)
      case c1 => exact cell_one_eq _ _ _ _ _ (dch_at m0 m2 _)
      case c2 => simp [Value.oneCell']
      case c3 => unfold maxLen; simp; omega
      case c4 => simp; omega
      case c5 => simp; omega
      intro v1 w4 hown1 hgrow1 _
      have HU2 := Lib.hid (HU.out.row ho4 (by decide) hgrow1)
      have n4 : Nw w1 w4 := hn4.grew ho4 hgrow1 (Nat.le_refl _)
      go_wp2
      go_roundw
      case rel => exact ⟨j + 1, _, _, by go_num, rfl, Own.cast hown1 (by simp [hel]) (by simp), HU2.out, HS.out, n4⟩
      case measure => simp [intOf]; omega
     ·have hjk : j = k := by omega
      have hi5 : TxI r xs us k ds.length k es q := hjk ▸ hi4
      have HO5 := Lib.hid (hi5.outer p1 p3)
      have hel := hi5.len
      obtain ⟨_, hcu, ru⟩ := hu4.rdg
      have HK4 := Lib.hid ho4
      clear ho4 hu4
      clear hi4 hi5
      go_wp2
      exact ⟨⟨es, us, _, c3, rfl, hcu, ru, by omega, by omega, HK4.out, HO5.out, hn4⟩, by simp [HK4.out.slen, HO.out.slen]; omega⟩
   ·have hz0 : zs = [] := List.eq_nil_of_length_eq_zero (by omega)
    subst hz0
    have hv0 : 0 < lv b32 xs := by
     have h1 := lv_nonneg (show (0 : Int) < b32 by decide) dx
     have h3 : lv b32 xs ≠ 0 := by intro e; rw [e] at ex; exact h0 (by rw [ex]; cases n <;> simp [sg])
     omega
    have heq := ht.eq
    simp only [lv, Int.mul_zero, Int.add_zero] at heq
    have dd := ht.dd
    obtain ⟨V, hV⟩ : ∃ V, V = lv b32 xs := ⟨_, rfl⟩
    rw [← hV] at heq hv0
    have HV := Lib.hid hV
    have HEX := Lib.hid ex
    have hdl := (strip_step dd heq hv0).1
    obtain ⟨g, cap, rfl⟩ := ho.some' (by intro e; simp at e; rw [e] at hdl; simp at hdl)
    have HQ := Lib.hid heq
    have hol : ds.length ≤ 9223372036854775807 := by have := (ho.rdg).2.2.1; simpa using this
    clear ht rz hzc hzl hV HSV HX ex heq
    go_wp2
    go_loop [8] (fun ov => ∃ (es : List Int), ov = .slice (some ⟨g, 0, none⟩) es.length cap ∧ Own wr w1.heap.size 5 .u8 (.slice (some ⟨g, 0, none⟩) es.length cap) (es.map dch) ∧ Ma.dg r es ∧ lv r es = V ∧ es.length ≤ ds.length) (fun ov => slen ov)
    case atStart => exact ⟨ds, by simp, by simpa using ho, dd, HQ.out, Nat.le_refl _⟩
    case round =>
     obtain ⟨es, rfl, hs, de, hve, hel⟩ := hrel
     obtain ⟨hpos, st0, st1⟩ := strip_step de hve hv0
     obtain ⟨y0, y1⟩ := dg_at de (by omega) (es.length - 1)
     have hc1 := hs.cellAt (i := es.length - 1) (by simp; omega) (by simp)
     rw [at0_map _ _ (by omega)] at hc1
     obtain ⟨c1, c2, c3⟩ := dch_0 y0 (by omega)
     obtain ⟨dd1, hdd1⟩ : ∃ dd1, dch (at0 es (es.length - 1)) = dd1 := ⟨_, rfl⟩
     rw [hdd1] at hc1 c1 c2 c3
     have HS := Lib.hid hs
     have HE := Lib.hid hve
     clear hdd1 hs hve ho
     by_cases hz : dd1 = 48
     ·have hzb : (dd1 == 48) = true := by simpa using hz
      have Z := Lib.hid (st0 (c3.1 hz))
      have hs2 := HS.out.take (by simp) (es.length - 1) (by omega)
      rw [← List.map_take] at hs2
      have HS2 := Lib.hid hs2
      clear hs2 st0 st1 c3 hz
      have hcap : es.length ≤ cap := by have := HS.out.rdg.2.1; simpa using this
      go_wp2
      exact ⟨⟨es.take (es.length - 1), by simp, by simpa using HS2.out, Z.out.1, Z.out.2, by simp; omega⟩, by simp [slen]; omega⟩
     ·have hzb : (dd1 == 48) = false := by simpa using hz
      have Z := Lib.hid (st1 (fun h => hz (c3.2 h)))
      have hcap : es.length ≤ cap := by have := HS.out.rdg.2.1; simpa using this
      clear st0 st1 c3 hz
      obtain ⟨q0, q1, _⟩ := (Q0.out.nw hb).nw hn
      have HBD : ∀ z ∈ es.map dch, 0 ≤ z ∧ z < 256 := by
       intro z hz9
       obtain ⟨d, hd, rfl⟩ := List.mem_map.1 hz9
       have hd2 := de d hd
       have := dch_0 hd2.1 (by omega)
       omega
      have HBD := Lib.hid HBD
      cases n
      ·have hxp : x = V := by rw [HEX.out, HV.out]; simp [sg]
       go_wp2_with (go_at_call 25; refine (reverse_c HS.out (by simp)).mono ?_; rintro e w5 ⟨rfl, o5, hb5⟩; obtain ⟨s, hcv, hst⟩ := own_string o5 (by simp) (fun z hz => HBD.out z (List.mem_reverse.1 hz)))
       go_ret2
       exact ⟨_, rfl, ⟨_, _, rfl, ⟨s, rfl, Txt.pos (by omega) de Z.out (by rw [HE.out, hxp]) hst⟩, rfl⟩, Below.trans (nw2.trans hn) (Below.mono hb5 nw2.size)⟩
      ·have hxp : x = -V := by rw [HEX.out, HV.out]; simp [sg]
       go_wp2_with (at_builtin; refine wpList_append_own _ rfl (.tmp 66) (.tmp 67) 59 rfl w1.heap.size 5 i0 (.int .u8 0) 1 1 Tryd.underlying59 hi hz0 hz1 hz2 rfl (by decide) _ _ _ rfl (HS.out.alloc _) ⟨wr.heap.size, 0, none⟩ 1 1 [.int .u8 45] rfl rfl ?c1 ?c2 ?c3 ?c4 ?c5 ?_)
       case c2 => simp [Value.oneCell']
       case c3 => unfold maxLen; simp; omega
       case c4 => omega
       case c5 => have := hn.size; simp; omega
       intro v1 w4 hown1 hgrow1 _
       have n4 : Nw w1 w4 := hn.grew HS.out hgrow1 (Nat.le_refl _)
       have o4 : Own w4 w1.heap.size 5 .u8 v1 (es.map dch ++ [45]) := Own.cast hown1 (by simp) (by simp)
       obtain ⟨g4, cap4, e4⟩ := o4.some' (by simp)
       have e5 : v1 = .slice (some ⟨g4, 0, none⟩) (es.length + 1) cap4 := by rw [e4]; simp
       subst e5
       clear e4
       have O4 := Lib.hid o4
       clear o4 hown1 hgrow1
       go_wp2_with (go_at_call 25; refine (reverse_c O4.out (by simp)).mono ?_; rintro e w5 ⟨rfl, o5, hb5⟩; obtain ⟨s, hcv, hst⟩ := own_string o5 (by simp) (fun z hz => by rw [List.mem_reverse, List.mem_append, List.mem_singleton] at hz; rcases hz with hz | rfl; exact HBD.out z hz; omega))
       go_ret2
       exact ⟨_, rfl, ⟨_, _, rfl, ⟨s, rfl, Txt.neg (by omega) de Z.out (by rw [HE.out, hxp]; omega) hst⟩, rfl⟩, Below.trans (nw2.trans n4) (Below.mono hb5 nw2.size)⟩
end Go.Proofs.YthpjmhhfcechmaaDoor
/- Statements with calls that store two results. -/
namespace Go.Proofs.YthpjmhhfcechmaaDoor
open Go.RowKit Ma

def R2 (r s : Nat) (kr ks : World → Prop) (W W' : World) : Prop := Below r W W' ∧ IntK W W' ∧ W.heap.size ≤ W'.heap.size ∧ (Box r 2 W → Box r 2 W') ∧ (Box s 2 W → Box s 2 W') ∧ (kr W → kr W') ∧ (ks W → ks W')
theorem R2.refl (r s : Nat) (kr ks : World → Prop) (W : World) : R2 r s kr ks W W := ⟨Below.refl _ _, IntK.refl _, Nat.le_refl _, id, id, id, id⟩
theorem R2.trans {r s : Nat} {kr ks : World → Prop} {a b c : World} (h : R2 r s kr ks a b) (k : R2 r s kr ks b c) : R2 r s kr ks a c :=
 ⟨h.1.trans k.1, h.2.1.trans k.2.1, Nat.le_trans h.2.2.1 k.2.2.1, fun x => k.2.2.2.1 (h.2.2.2.1 x), fun x => k.2.2.2.2.1 (h.2.2.2.2.1 x), fun x => k.2.2.2.2.2.1 (h.2.2.2.2.2.1 x), fun x => k.2.2.2.2.2.2 (h.2.2.2.2.2.2 x)⟩
def NwSt (p : World → Prop) : Prop := ∀ W W', Nw W W' → p W → p W'
theorem KB.nwst (r : Nat) (z : Int) : NwSt (KB r z undef) := fun W W' h ⟨m, A, l, c, h0, h1, hi⟩ =>
 ⟨m, A, l, c, by rw [Below.cell (p := ⟨r, 0, none⟩) h (World.block_lt_of_cell? W ⟨r, 0, none⟩ h0)]; exact h0, by rw [Below.cell (p := ⟨r, 1, none⟩) h (World.block_lt_of_cell? W ⟨r, 1, none⟩ h1)]; exact h1, hi.kept h.kept⟩
theorem R2.nw {r s : Nat} {kr ks : World → Prop} {W W' : World} (hr : r ≤ W.heap.size) (k1 : NwSt kr) (k2 : NwSt ks) (h : Nw W W') : R2 r s kr ks W W' :=
 ⟨Below.mono h hr, h.kept, h.size, fun x => x.below h, fun x => x.below h, k1 _ _ h, k2 _ _ h⟩
theorem Nw.r2 {w W W' : World} {r s : Nat} {kr ks : World → Prop} (h : Nw w W) (k : R2 r s kr ks W W') (hr : w.heap.size ≤ r) : Nw w W' := Below.trans h (Below.mono k.1 hr)
theorem call_r2 {P : Program} {f : FuncId} {args : Array Value} {W : World} {k : Rg.Know} {r s : Nat} {kr ks : World → Prop} (k1 : NwSt kr) (k2 : NwSt ks) (h : Calls P f args W (Ret W k)) (hr : r ≤ W.heap.size) :
  Calls P f args W (fun e w'' => ∃ v, e = .returned v ∧ R2 r s kr ks W w'' ∧ k v w'') :=
 h.mono fun e w'' ⟨v, he, hk, hb⟩ => ⟨v, he, R2.nw hr k1 k2 hb, hk⟩
theorem two_off {b t : Nat} {W : World} {u v : Value} (h : t ≠ b) (o : Nat) : ((W.setCell ⟨b, 0, none⟩ u).setCell ⟨b, 1, none⟩ v).cell? ⟨t, o, none⟩ = W.cell? ⟨t, o, none⟩ ∧ ((W.setCell ⟨b, 0, none⟩ u).setCell ⟨b, 1, none⟩ v).frozen? ⟨t, o, none⟩ = W.frozen? ⟨t, o, none⟩ := by
 refine ⟨?_, by simp [World.frozen?_setCell]⟩
 rw [World.cell?_setCell_other (h := by simp <;> omega), World.cell?_setCell_other (h := by simp <;> omega)]
theorem Box.off {b t : Nat} {W : World} {u v : Value} (h : t ≠ b) (hb : Box t 2 W) : Box t 2 ((W.setCell ⟨b, 0, none⟩ u).setCell ⟨b, 1, none⟩ v) := fun o ho => by
 obtain ⟨⟨x, hx, hn⟩, hf⟩ := hb o ho
 obtain ⟨e1, e2⟩ := two_off (W := W) (u := u) (v := v) h o
 exact ⟨⟨x, by rw [e1]; exact hx, hn⟩, by rw [e2]; exact hf⟩
theorem KB.off {b t : Nat} {W : World} {u v : Value} {z : Int} (h : t ≠ b) (hk : IntK W ((W.setCell ⟨b, 0, none⟩ u).setCell ⟨b, 1, none⟩ v)) (hb : KB t z undef W) : KB t z undef ((W.setCell ⟨b, 0, none⟩ u).setCell ⟨b, 1, none⟩ v) := by
 obtain ⟨m, A, l, c, h0, h1, hi⟩ := hb
 exact ⟨m, A, l, c, by rw [(two_off h 0).1]; exact h0, by rw [(two_off h 1).1]; exact h1, hi.kept hk⟩
theorem store_I1 {r s : Nat} {W : World} {m : Bool} {D : Option Addr} {l c : Nat} {z z' : Int} (hrs : r < s) (hb : Box r 2 W) (hi : RI W m D l c z) :
  R2 r s (KB r z undef) (KB s z' undef) W ((W.setCell ⟨r, 0, none⟩ (.bool m)).setCell ⟨r, 1, none⟩ (.slice D l c)) ∧ KB r z undef ((W.setCell ⟨r, 0, none⟩ (.bool m)).setCell ⟨r, 1, none⟩ (.slice D l c)) := by
 obtain ⟨⟨h1, h2, h3, h4⟩, h5⟩ := store_I hb hi
 exact ⟨⟨h1, h2, h3, h4, fun x => x.off (by omega), fun _ => h5, fun x => KB.off (by omega) h2 x⟩, h5⟩
theorem store_I2 {r s : Nat} {W : World} {m : Bool} {D : Option Addr} {l c : Nat} {z z' : Int} (hrs : r < s) (hb : Box s 2 W) (hi : RI W m D l c z') :
  R2 r s (KB r z undef) (KB s z' undef) W ((W.setCell ⟨s, 0, none⟩ (.bool m)).setCell ⟨s, 1, none⟩ (.slice D l c)) ∧ KB s z' undef ((W.setCell ⟨s, 0, none⟩ (.bool m)).setCell ⟨s, 1, none⟩ (.slice D l c)) := by
 obtain ⟨⟨h1, h2, h3, h4⟩, h5⟩ := store_I hb hi
 exact ⟨⟨h1.mono (by omega), h2, h3, fun x => x.off (by omega), h4, fun x => KB.off (by omega) h2 x, fun _ => h5⟩, h5⟩
def Sg2 (cs : List (Nat × Nat × Value)) (r s : Nat) (W : World) : Prop := Has cs W ∧ Box r 2 W ∧ Box s 2 W ∧ r ≤ W.heap.size
theorem Sg2.nw {cs : List (Nat × Nat × Value)} {r s : Nat} {W W' : World} (h : Sg2 cs r s W) (k : Nw W W') : Sg2 cs r s W' := ⟨h.1.nw k, h.2.1.below k, h.2.2.1.below k, Nat.le_trans h.2.2.2 k.size⟩
def St2 (r s : Nat) (kr ks : World → Prop) (k : Rg.Know) : Prop := ∀ v W W', R2 r s kr ks W W' → k v W → k v W'
theorem St2.st {r s : Nat} {kr ks : World → Prop} {k : Rg.Know} (h : St k) : St2 r s kr ks k := fun v W W' hR hk => h v W W' hR.2.1 hk
theorem St2.r {r s : Nat} {kr ks : World → Prop} : St2 r s kr ks (fun _ W => kr W) := fun v W W' hR hk => hR.2.2.2.2.2.1 hk
theorem St2.s {r s : Nat} {kr ks : World → Prop} : St2 r s kr ks (fun _ W => ks W) := fun v W W' hR hk => hR.2.2.2.2.2.2 hk
def StL2 (r s : Nat) (kr ks : World → Prop) : List (Nat × Rg.Know) → Prop
 | [] => True
 | (_, k) :: L => St2 r s kr ks k ∧ StL2 r s kr ks L
theorem StL2.spec {r s : Nat} {kr ks : World → Prop} : ∀ {L : List (Nat × Rg.Know)}, StL2 r s kr ks L → ∀ i k, kn L i = some k → St2 r s kr ks k
 | [], _, i, k, h => by cases h
 | (j, k') :: L, hs, i, k, h => by
  unfold kn at h
  split at h
  ·injection h with h; subst h; exact hs.1
  ·exact StL2.spec hs.2 i k h
theorem Has.kept2 {r s : Nat} {kr ks : World → Prop} {W W' : World} (h : R2 r s kr ks W W') : ∀ {cs : List (Nat × Nat × Value)}, Low r cs → Has cs W → Has cs W'
 | [], _, _ => trivial
 | (b, o, v) :: cs, hl, hc => ⟨by rw [h.1.cell (p := ⟨b, o, none⟩) hl.1]; exact hc.1, Has.kept2 h hl.2 hc.2⟩
theorem region_two {P : Program} {id : Nat} {Q : Exit → Act → World → Prop} {a : Act} {w : World} {l : List Oper} (cs : List (Nat × Nat × Value)) (r s tl : Nat) (kr ks : World → Prop) (L : List (Nat × Rg.Know))
  (hm : P.follows .mixedOrders = true) (hB : Region.lexB .any l.toArray = true) (hJ : Rg.jOkB l.toArray (Rg.ancs l.toArray) = true) (ht : Rg.tlB l.toArray tl = true) (hlow : Low r cs) (hst : StL2 r s kr ks L) (h0 : Sg2 cs r s w.drew)
  (h : Rg.wpK P l.toArray (R2 r s kr ks) (Sg2 cs r s) w.drew (Rg.jOf (Rg.ancs l.toArray)) (kn L) (fun a' F => ∀ w', R2 r s kr ks w.drew w' → Sg2 cs r s w' → (∀ k, F k w') → Q .normal a' w') 0 l a Rg.noFacts) : (Code.region id l.toArray true).wp P Q a w :=
 Rg.wp_region_know (Sg2 cs r s) (R2 r s kr ks) (Rg.ancs l.toArray) tl (kn L) hm hB hJ ht
  ⟨R2.refl r s kr ks, fun _ _ _ => R2.trans, fun W W' hR hS => ⟨hS.1.kept2 hR hlow, hR.2.2.2.1 hS.2.1, hR.2.2.2.2.1 hS.2.2.1, by have := hR.2.2.1; have := hS.2.2.2; omega⟩, fun i k hk hne v W W' hR hv => StL2.spec hst i k hk v W W' hR hv⟩ h0 h
/-! ### A statement with calls and no store -/
theorem Nw.c {W W' : World} (h : Nw W W') {a : Addr} {v : Value} (hc : W.cell? a = some v) : W'.cell? a = some v := (h.cell (World.block_lt_of_cell? W a hc)).trans hc
def SN (k : Rg.Know) : Prop := ∀ v W W', Nw W W' → k v W → k v W'
theorem SN.st {k : Rg.Know} (h : St k) : SN k := fun v W W' hn hk => h v W W' hn.kept hk
def StN : List (Nat × Rg.Know) → Prop
 | [] => True
 | (_, k) :: L => SN k ∧ StN L
theorem StN.spec : ∀ {L : List (Nat × Rg.Know)}, StN L → ∀ i k, kn L i = some k → SN k
 | [], _, i, k, h => by cases h
 | (j, k') :: L, hs, i, k, h => by
  unfold kn at h
  split at h
  ·injection h with h; subst h; exact hs.1
  ·exact StN.spec hs.2 i k h
theorem call_nw {P : Program} {f : FuncId} {args : Array Value} {W : World} {k : Rg.Know} (h : Calls P f args W (Ret W k)) : Calls P f args W (fun e w'' => ∃ v, e = .returned v ∧ Nw W w'' ∧ k v w'') :=
 h.mono fun e w'' ⟨v, he, hk, hb⟩ => ⟨v, he, hb, hk⟩
theorem region_nw {P : Program} {id : Nat} {Q : Exit → Act → World → Prop} {a : Act} {w : World} {l : List Oper} (L : List (Nat × Rg.Know))
  (hm : P.follows .mixedOrders = true) (hB : Region.lexB .any l.toArray = true) (hJ : Rg.jOkB l.toArray (Rg.ancs l.toArray) = true) (ht : Rg.tlB l.toArray 1000 = true) (hst : StN L)
  (h : Rg.wpK P l.toArray Nw (Nw w) w.drew (Rg.jOf (Rg.ancs l.toArray)) (kn L) (fun a' F => ∀ w', Nw w.drew w' → Nw w w' → (∀ k, F k w') → Q .normal a' w') 0 l a Rg.noFacts) : (Code.region id l.toArray true).wp P Q a w :=
 Rg.wp_region_know (Nw w) Nw (Rg.ancs l.toArray) 1000 (kn L) hm hB hJ ht
  ⟨Nw.refl, fun _ _ _ h k => h.trans k, fun W W' hR hS => hS.trans hR, fun i k hk hne v W W' hR hv => StN.spec hst i k hk v W W' hR hv⟩ ((Nw.refl w).drew) h
end Go.Proofs.YthpjmhhfcechmaaDoor
/- The contract of the program's Divide, but for divisors of two limbs and more. -/
namespace Go.Proofs.YthpjmhhfcechmaaDoor
open Go.RowKit Ma

theorem K2L {k : IntKind} {p : List Int → Prop} {x y : Value} {A : Option Addr} {l c : Nat} {w : World} (h : K2 (KL k p) (KV x) (.tuple #[.slice A l c, y]) w) : y = x ∧ ∃ zs, l = zs.length ∧ l ≤ c ∧ Rd w k A zs ∧ p zs := by
 obtain ⟨v1, v2, e, h1, h2⟩ := h
 simp only [Value.tuple.injEq, Array.mk.injEq, List.cons.injEq, and_true] at e
 obtain ⟨rfl, rfl⟩ := e
 exact ⟨h2, h1.slice⟩
theorem divided_l (A : Option Addr) (l c : Nat) (xs : List Int) (y : Int) (w : World) (e : l = xs.length) (rA : Rd w .u32 A xs) (dx : dg b32 xs) (hl : xs.length ≤ 1000000) (hy0 : 0 < y) (hy1 : y < 4294967296) :
  Calls Tryd.prog 24 #[.slice A l c, .int .u32 y] w (Ret w (K2 (KL .u32 fun zs => dg b32 zs ∧ lv b32 zs = lv b32 xs / y ∧ top zs) (KV (.int .u32 (lv b32 xs % y))))) := by
 subst e
 exact (divided_c A c xs y w rA dx hl hy0 hy1).mono fun e w' ⟨v, e1, ⟨v1, v2, e2, h1, h2⟩, hb⟩ => ⟨v, e1, ⟨v1, v2, e2, h1.l, h2⟩, hb⟩
theorem sg_nz {n : Bool} {z : Int} (h : sg n z ≠ 0) : z ≠ 0 := by intro e; subst e; cases n <;> simp [sg] at h
theorem sg_tdiv (n m : Bool) (a b : Int) (ha : 0 ≤ a) (hb : 0 ≤ b) : (sg n a).tdiv (sg m b) = sg (n != m) (a / b) := by
 have e : a.tdiv b = a / b := Int.tdiv_eq_ediv_of_nonneg ha
 cases n <;> cases m <;> simp [sg, Int.neg_tdiv, Int.tdiv_neg, e]
theorem sg_tmod (n m : Bool) (a b : Int) (ha : 0 ≤ a) (hb : 0 ≤ b) : (sg n a).tmod (sg m b) = sg n (a % b) := by
 have e : a.tmod b = a % b := Int.tmod_eq_emod_of_nonneg ha
 cases n <;> cases m <;> simp [sg, Int.neg_tmod, Int.tmod_neg, e]
theorem RI.zero (w : World) : RI w false none 0 0 0 := ⟨[], rfl, Nat.le_refl _, Rd.nil _ _ _, dg_nil _, top_nil, (fun h => nomatch h), by simp [sg, lv]⟩
theorem cmp_lt {a b : Int} (h : a < b) : cmp a b = -1 := by unfold cmp; rw [if_pos h]
theorem cmp_ge {a b : Int} (h : b ≤ a) : decide (cmp a b < 0) = false := by unfold cmp; rw [if_neg (by omega)]; split <;> decide
theorem sg_natAbs (n : Bool) (z : Int) (h : 0 ≤ z) : ((sg n z).natAbs : Int) = z := by cases n <;> simp [sg] <;> omega
theorem lv_of_one {z : List Int} {x : Int} (h : z = [x]) : lv b32 z = x := by subst h; simp [lv]
theorem dg_of_one {z : List Int} {x : Int} (h : z = [x]) (d : dg b32 [x]) : dg b32 z := h ▸ d
theorem bd_zero (bd : Addr) : bd.add 0 = bd := by cases bd; unfold Addr.add; split <;> simp_all
set_option maxHeartbeats 3200000 in
set_option maxRecDepth 100000 in
theorem divide_1 {x y : Int} {n m : Bool} {A B : Option Addr} {l l' c d : Nat} {w : World} (hx : RI w n A l c x) (hy : RI w m B l' d y) (hl : l ≤ 500000) (hy0 : y ≠ 0) (h1 : l' ≤ 1 ∨ x.natAbs < y.natAbs) :
  Calls Tryd.prog 18 #[.agg #[.bool n, .slice A l c], .agg #[.bool m, .slice B l' d]] w (Ret w (K3 (KI (x.tdiv y)) (KI (x.tmod y)) (KV (.int .i64 0)))) := by
 have hx0 := hx
 obtain ⟨xs, rfl, hc, rA, dx, tx, nx, rfl⟩ := hx
 obtain ⟨ys, rfl, hd, rB, dy, ty, ny, rfl⟩ := hy
 have hxn := lv_nonneg (show (0 : Int) < b32 by decide) dx
 have hyn := lv_nonneg (show (0 : Int) < b32 by decide) dy
 have hyz := sg_nz hy0
 have hyl : 0 < ys.length := by
  cases ys with
  | nil => exact absurd (by simp [lv]) hyz
  | cons a t => simp
 have e1 := sg_natAbs n _ hxn
 have e2 := sg_natAbs m _ hyn
 have HT := Lib.hid (sg_tdiv n m _ _ hxn hyn)
 have HM := Lib.hid (sg_tmod n m _ _ hxn hyn)
 have nw1 : Nw w ((((w.alloc (.cells #[.bool n, .slice A xs.length c] 28)).alloc (.cells #[.bool m, .slice B ys.length d] 28)).alloc (.cells #[.bool false, .slice none 0 0] 28)).alloc (.cells #[.bool false, .slice none 0 0] 28)) := ((((Nw.refl w).alloc _).alloc _).alloc _).alloc _
 have sg0 : Sg2 [(w.heap.size, 0, Value.bool n), (w.heap.size, 1, Value.slice A xs.length c), (w.heap.size + 1, 0, Value.bool m), (w.heap.size + 1, 1, Value.slice B ys.length d)] (w.heap.size + 1 + 1) (w.heap.size + 1 + 1 + 1) ((((w.alloc (.cells #[.bool n, .slice A xs.length c] 28)).alloc (.cells #[.bool m, .slice B ys.length d] 28)).alloc (.cells #[.bool false, .slice none 0 0] 28)).alloc (.cells #[.bool false, .slice none 0 0] 28)) := by
  refine ⟨⟨by go_simp, by go_simp, by go_simp, by go_simp, trivial⟩, ?_, ?_, by go_simp⟩
  ·have h1 := box_two ((w.alloc (.cells #[.bool n, .slice A xs.length c] 28)).alloc (.cells #[.bool m, .slice B ys.length d] 28)) 28 false none 0 0
   have h2 := h1.below ((Nw.refl _).alloc (.cells #[.bool false, .slice none 0 0] 28))
   simpa using h2
  ·have h1 := box_two (((w.alloc (.cells #[.bool n, .slice A xs.length c] 28)).alloc (.cells #[.bool m, .slice B ys.length d] 28)).alloc (.cells #[.bool false, .slice none 0 0] 28)) 28 false none 0 0
   simpa using h1
 have SG := Lib.hid sg0
 have HX0 := Lib.hid hx0
 have RA := Lib.hid (rA.kept nw1.kept)
 have RB := Lib.hid (rB.kept nw1.kept)
 by_cases hlt : lv b32 xs < lv b32 ys
 ·have hcm := Lib.hid (cmp_lt hlt)
  clear rA rB e1 e2 h1 hy0 hx0
  have e3 : sg n (lv b32 xs / lv b32 ys) = sg n 0 := by rw [Int.ediv_eq_zero_of_lt hxn hlt]
  have HQ : (sg n (lv b32 xs)).tdiv (sg m (lv b32 ys)) = 0 := by rw [HT.out, Int.ediv_eq_zero_of_lt hxn hlt]; cases (n != m) <;> simp [sg]
  have HR : (sg n (lv b32 xs)).tmod (sg m (lv b32 ys)) = sg n (lv b32 xs) := by rw [HM.out, Int.emod_eq_of_lt hxn hlt]
  have HQ := Lib.hid HQ
  have HR := Lib.hid HR
  clear e3 hlt hyz hxn hyn
  go_enter Tryd.func18, Tryd.ntmps18
  go_wp2_with (go_at_call 41; refine (compared_c A B c d xs ys _ RA.out RB.out dx dy tx ty).mono ?_; rintro e w1 ⟨_, rfl, hk, hb⟩; rw [hcm.out] at hk; subst hk; obtain ⟨⟨q1, q2, q3, q4, _⟩, B1, B2, _⟩ := SG.out.nw hb; obtain ⟨⟨u0, hu0, hm0⟩, hf0⟩ := B1 0 (by omega); obtain ⟨⟨u1, hu1, hm1⟩, hf1⟩ := B1 1 (by omega); obtain ⟨⟨t0, ht0, hk0⟩, hg0⟩ := B2 0 (by omega); obtain ⟨⟨t1, ht1, hk1⟩, hg1⟩ := B2 1 (by omega))
  go_region
  have r1 := store_I1 (z := 0) (z' := sg n (lv b32 xs)) (show w.heap.size + 1 + 1 < w.heap.size + 1 + 1 + 1 by omega) B1 (RI.zero w1)
  have r2 := store_I2 (z := 0) (z' := sg n (lv b32 xs)) (show w.heap.size + 1 + 1 < w.heap.size + 1 + 1 + 1 by omega) (r1.1.2.2.2.2.1 B2) (((HX0.out.kept nw1.kept).kept hb.kept).kept r1.1.2.1)
  have b2 := (KB.nwst _ _ _ _ (Nw.refl _).drew) r2.2
  have b1 := (KB.nwst _ _ _ _ (Nw.refl _).drew) (r2.1.2.2.2.2.2.1 r1.2)
  have hn := (((nw1.trans hb).r2 r1.1 (by omega)).r2 r2.1 (by omega)).drew
  generalize World.drew _ = w9 at *
  obtain ⟨m1, D1, l1, c1, p0, p1, i1⟩ := b1
  obtain ⟨m2, D2, l2, c2, p2, p3, i2⟩ := b2
  go_wp2
  exact bodyPost_ret (v := .tuple #[.agg #[.bool m1, .slice D1 l1 c1], .agg #[.bool m2, .slice D2 l2 c2], .int .i64 0]) (by simp [results, Tryd.results18, go_sem, p0, p1, p2, p3]) rfl ⟨_, rfl, ⟨_, _, _, rfl, ⟨_, _, _, _, rfl, i1.eq (by rw [HQ.out])⟩, ⟨_, _, _, _, rfl, i2.eq (by rw [HR.out])⟩, rfl⟩, hn⟩
 ·have hge : lv b32 ys ≤ lv b32 xs := by omega
  have hcm := Lib.hid (cmp_ge hge)
  have hl1 : ys.length = 1 := by omega
  obtain ⟨y0, hys⟩ := List.length_eq_one_iff.1 hl1
  subst hys
  have ely : lv b32 [y0] = y0 := by simp [lv]
  have hy1 := dy y0 (by simp)
  rw [b32_eq] at hy1
  obtain ⟨y1, y2⟩ := hy1
  have y3 : 0 < y0 := by rw [ely] at hyz; omega
  have HQ : (sg n (lv b32 xs)).tdiv (sg m (lv b32 [y0])) = sg (n != m) (lv b32 xs / y0) := by rw [HT.out, ely]
  have HR : (sg n (lv b32 xs)).tmod (sg m (lv b32 [y0])) = sg n (lv b32 xs % y0) := by rw [HM.out, ely]
  have HQ := Lib.hid HQ
  have HR := Lib.hid HR
  obtain ⟨bd, hB, hcellb⟩ := RB.out.2 0 (by simp)
  subst hB
  clear rA rB e1 e2 h1 hy0 hx0 hlt hge hyz hxn hyn hyl hl1
  go_enter Tryd.func18, Tryd.ntmps18
  go_wp2_with (go_at_call 41; refine (compared_c A _ c d xs [y0] _ RA.out RB.out dx dy tx ty).mono ?_; rintro e w1 ⟨_, rfl, hk, hb⟩; have hcm1 := hcm.out; generalize cmp (lv b32 xs) (lv b32 [y0]) = cm at hcm1 hk; subst hk; obtain ⟨⟨q1, q2, q3, q4, _⟩, B1, B2, _⟩ := SG.out.nw hb; obtain ⟨⟨u0, hu0, hm0⟩, hf0⟩ := B1 0 (by omega); obtain ⟨⟨u1, hu1, hm1⟩, hf1⟩ := B1 1 (by omega); obtain ⟨⟨t0, ht0, hk0⟩, hg0⟩ := B2 0 (by omega); obtain ⟨⟨t1, ht1, hk1⟩, hg1⟩ := B2 1 (by omega); have hcb := hb.kept _ _ _ hcellb; simp only [at0, List.getD_cons_zero] at hcb; have hcb0 := hcb; rw [bd_zero] at hcb0)
  have n1 : Nw w _ := nw1.trans hb
  refine region_nw [(6, K2 (KL .u32 (fun zs => dg b32 zs ∧ lv b32 zs = lv b32 xs / y0 ∧ top zs)) (KV (.int .u32 (lv b32 xs % y0))))] (by kernel_rfl) (by kernel_rfl) (by kernel_rfl) (by kernel_rfl) ⟨SN.st (K2.st (KL.st _ _) (KV.st _)), trivial⟩ ?_
  repeat
   apply Rg.wpK_quiet rfl rfl
   case hq => intro W hS; have q0 := hS.c q1; have q1 := hS.c q2; have q2 := hS.c q3; have q3 := hS.c q4; have q4 := hS.c hcb; have q5 := hS.c hcb0; go_simp; exact rfl
   case he => exact (by simp only [Act.put, List.setIfInBounds_toArray, List.set_cons_zero, List.set_cons_succ]; exact rfl)
  apply Rg.wpK_know rfl rfl
  case ha =>
   intro W hR hS hF
   have hn := n1.trans hS
   have q0 := hS.c q1
   have q1 := hS.c q2
   have q2 := hS.c q3
   have q3 := hS.c q4
   have q4 := hS.c hcb
   have q5 := hS.c hcb0
   unfold Rg.gives
   go_simp
   exact Rg.gives_enter (call_nw (divided_l A _ c xs y0 W rfl ((RA.out.kept hb.kept).kept hS.kept) dx (by omega) y3 y2))
  intro u hu
  obtain ⟨W0, hw1, hw2, hf⟩ := hu
  obtain ⟨_, _, rfl, ⟨zs, C6, c6, e0, hx⟩, rfl⟩ := Rg.upd_at rfl (hf 6)
  obtain ⟨l6, e1⟩ : ∃ n, n = zs.length := ⟨_, rfl⟩
  rw [← e1] at e0
  subst e0
  clear hx e1
  have hx := trivial
  refine ⟨_, (by simp only [Act.put, List.setIfInBounds_toArray, List.set_cons_zero, List.set_cons_succ]; exact rfl), ?_⟩
  clear hf hw1 hw2 hx W0
  repeat
   apply Rg.wpK_quiet rfl rfl
   case hq => intro W hS; have q0 := hS.c q1; have q1 := hS.c q2; have q2 := hS.c q3; have q3 := hS.c q4; have q4 := hS.c hcb; have q5 := hS.c hcb0; go_simp; exact rfl
   case he => exact (by simp only [Act.put, List.setIfInBounds_toArray, List.set_cons_zero, List.set_cons_succ]; exact rfl)
  refine Rg.wpK_end fun w9 hR hS hF => ?_
  have hn := n1.trans hS
  have h6 := Rg.upd_at rfl (hF 6)
  clear hF hR
  obtain ⟨_, us, e8, hc8, r8, p81, p82, _⟩ := K2L h6
  obtain ⟨qr, hqr⟩ : ∃ qr, qr = lv b32 xs % y0 := ⟨_, rfl⟩
  have hr0 : 0 ≤ qr := by rw [hqr]; exact Int.emod_nonneg _ (by omega)
  have hr1 : qr < b32 := by have := Int.emod_lt_of_pos (lv b32 xs) y3; rw [← hqr] at this; rw [b32_eq]; omega
  have dqr : dg b32 [qr] := by intro x hx; simp at hx; rw [hx]; exact ⟨hr0, hr1⟩
  rw [← hqr] at HR ⊢
  have S2 := Lib.hid ((SG.out.nw hb).nw hS)
  have HC8 := Lib.hid hc8
  have E8 := Lib.hid e8
  clear h6 hqr hc8 e8 q1 q2 q3 q4
  go_wp2
  have n1 : Nw w _ := (hn).drew
  have hw : w.heap.size ≤ w.heap.size + 1 + 1 := by omega
  refine region_two [(w.heap.size, 0, Value.bool n), (w.heap.size, 1, Value.slice A xs.length c), (w.heap.size + 1, 0, Value.bool m), (w.heap.size + 1, 1, Value.slice (some bd) [y0].length d)] (w.heap.size + 1 + 1) (w.heap.size + 1 + 1 + 1) 1000 (KB (w.heap.size + 1 + 1) (sg (!(n == m)) (lv b32 xs / y0)) undef) (KB (w.heap.size + 1 + 1 + 1) (sg n qr) undef) [(2, KI (sg (!(n == m)) (lv b32 xs / y0))), (6, KL .u32 (fun zs => zs = [qr])), (7, KI (sg n qr)), (8, fun _ W => (KB (w.heap.size + 1 + 1) (sg (!(n == m)) (lv b32 xs / y0)) undef) W), (9, fun _ W => (KB (w.heap.size + 1 + 1 + 1) (sg n qr) undef) W)] (by kernel_rfl) (by kernel_rfl) (by kernel_rfl) (by kernel_rfl) ?_ ⟨St2.st (KI.st _), St2.st (KL.st _ _), St2.st (KI.st _), St2.r, St2.s, trivial⟩ ((S2.out.nw (Nw.refl _).drew)) ?_
  ·first | trivial | (simp only [Low, and_true]; omega)
  repeat
   apply Rg.wpK_quiet rfl rfl
   case hq => intro W hS; obtain ⟨⟨q1, q2, q3, q4, _⟩, _⟩ := hS; go_simp; exact rfl
   case he => exact (by simp only [Act.put, List.setIfInBounds_toArray, List.set_cons_zero, List.set_cons_succ]; exact rfl)
  apply Rg.wpK_know rfl rfl
  case ha =>
   intro W hR hS hF
   have hn := n1.r2 hR hw
   obtain ⟨⟨q1, q2, q3, q4, _⟩, hB1, hB2, hr⟩ := hS
   unfold Rg.gives
   go_simp
   exact Rg.gives_enter (call_r2 (KB.nwst _ _) (KB.nwst _ _) (ret_eq (made_l E8.out (!(n == m)) ((r8.kept (Nw.refl _).drew.kept).kept hR.2.1) (by rw [← E8.out]; exact HC8.out) p81) (by rw [p82])) hr)
  intro u hu
  obtain ⟨W0, hw1, hw2, hf⟩ := hu
  obtain ⟨m2, D2, l2, c2, rfl, hx⟩ := Rg.upd_at rfl (hf 2)
  refine ⟨_, (by simp only [Act.put, List.setIfInBounds_toArray, List.set_cons_zero, List.set_cons_succ]; exact rfl), ?_⟩
  clear hf hw1 hw2 hx W0
  repeat
   apply Rg.wpK_quiet rfl rfl
   case hq => intro W hS; obtain ⟨⟨q1, q2, q3, q4, _⟩, _⟩ := hS; go_simp; exact rfl
   case he => exact (by simp only [Act.put, List.setIfInBounds_toArray, List.set_cons_zero, List.set_cons_succ]; exact rfl)
  apply Rg.wpK_know rfl rfl
  case ha =>
   intro W hR hS hF
   have hn := n1.r2 hR hw
   obtain ⟨⟨q1, q2, q3, q4, _⟩, hB1, hB2, hr⟩ := hS
   unfold Rg.gives
   go_simp
   exact Rg.gives_value ⟨R2.nw hr (KB.nwst _ _) (KB.nwst _ _) ((Nw.refl W).alloc _), [qr], _, _, rfl, by simp, Rd.new1 _ _ _ _, rfl⟩
  intro u hu
  obtain ⟨W0, hw1, hw2, hf⟩ := hu
  obtain ⟨zs, C6, c6, e0, hx⟩ := Rg.upd_at rfl (hf 6)
  obtain ⟨l6, e1⟩ : ∃ n, n = zs.length := ⟨_, rfl⟩
  rw [← e1] at e0
  subst e0
  clear hx e1
  have hx := trivial
  refine ⟨_, (by simp only [Act.put, List.setIfInBounds_toArray, List.set_cons_zero, List.set_cons_succ]; exact rfl), ?_⟩
  clear hf hw1 hw2 hx W0
  repeat
   apply Rg.wpK_quiet rfl rfl
   case hq => intro W hS; obtain ⟨⟨q1, q2, q3, q4, _⟩, _⟩ := hS; go_simp; exact rfl
   case he => exact (by simp only [Act.put, List.setIfInBounds_toArray, List.set_cons_zero, List.set_cons_succ]; exact rfl)
  apply Rg.wpK_know rfl rfl
  case ha =>
   intro W hR hS hF
   have hn := n1.r2 hR hw
   obtain ⟨⟨q1, q2, q3, q4, _⟩, hB1, hB2, hr⟩ := hS
   have h6 := KL.slice (Rg.upd_at rfl (hF 6 (by kernel_rfl)))
   obtain ⟨z6, e6, hc6, r6, p6⟩ := h6
   subst e6
   unfold Rg.gives
   go_simp
   exact Rg.gives_enter (call_r2 (KB.nwst _ _) (KB.nwst _ _) (ret_eq (made_l (show 1 = z6.length by rw [p6]; rfl) n r6 hc6 (dg_of_one p6 dqr)) (congrArg (fun t => KI (sg n t)) (lv_of_one p6))) hr)
  intro u hu
  obtain ⟨W0, hw1, hw2, hf⟩ := hu
  obtain ⟨m7, D7, l7, c7, rfl, hx⟩ := Rg.upd_at rfl (hf 7)
  refine ⟨_, (by simp only [Act.put, List.setIfInBounds_toArray, List.set_cons_zero, List.set_cons_succ]; exact rfl), ?_⟩
  clear hf hw1 hw2 hx W0
  repeat
   apply Rg.wpK_quiet rfl rfl
   case hq => intro W hS; obtain ⟨⟨q1, q2, q3, q4, _⟩, _⟩ := hS; go_simp; exact rfl
   case he => exact (by simp only [Act.put, List.setIfInBounds_toArray, List.set_cons_zero, List.set_cons_succ]; exact rfl)
  apply Rg.wpK_know rfl rfl
  case ha =>
   intro W hR hS hF
   have hn := n1.r2 hR hw
   obtain ⟨⟨q1, q2, q3, q4, _⟩, hB1, hB2, hr⟩ := hS
   have i2 := KI.agg (Rg.upd_at rfl (Rg.upd_off rfl (Rg.upd_off rfl (hF 2 (by kernel_rfl)))))
   obtain ⟨⟨v0, hv0, hn0⟩, hf0⟩ := hB1 0 (by omega)
   obtain ⟨⟨v1, hv1, hn1⟩, hf1⟩ := hB1 1 (by omega)
   unfold Rg.gives
   go_simp
   exact Rg.gives_skip (store_I1 (by omega) hB1 i2)
  intro u hu
  obtain ⟨W0, hw1, hw2, hf⟩ := hu
  have hx := trivial
  refine ⟨_, (by simp only [Act.put, List.setIfInBounds_toArray, List.set_cons_zero, List.set_cons_succ]; exact rfl), ?_⟩
  clear hf hw1 hw2 hx W0
  repeat
   apply Rg.wpK_quiet rfl rfl
   case hq => intro W hS; obtain ⟨⟨q1, q2, q3, q4, _⟩, _⟩ := hS; go_simp; exact rfl
   case he => exact (by simp only [Act.put, List.setIfInBounds_toArray, List.set_cons_zero, List.set_cons_succ]; exact rfl)
  apply Rg.wpK_know rfl rfl
  case ha =>
   intro W hR hS hF
   have hn := n1.r2 hR hw
   obtain ⟨⟨q1, q2, q3, q4, _⟩, hB1, hB2, hr⟩ := hS
   have i7 := KI.agg (Rg.upd_at rfl (Rg.upd_off rfl (hF 7 (by kernel_rfl))))
   obtain ⟨⟨v0, hv0, hn0⟩, hf0⟩ := hB2 0 (by omega)
   obtain ⟨⟨v1, hv1, hn1⟩, hf1⟩ := hB2 1 (by omega)
   unfold Rg.gives
   go_simp
   exact Rg.gives_skip (store_I2 (by omega) hB2 i7)
  intro u hu
  obtain ⟨W0, hw1, hw2, hf⟩ := hu
  have hx := trivial
  refine ⟨_, (by simp only [Act.put, List.setIfInBounds_toArray, List.set_cons_zero, List.set_cons_succ]; exact rfl), ?_⟩
  clear hf hw1 hw2 hx W0
  repeat
   apply Rg.wpK_quiet rfl rfl
   case hq => intro W hS; obtain ⟨⟨q1, q2, q3, q4, _⟩, _⟩ := hS; go_simp; exact rfl
   case he => exact (by simp only [Act.put, List.setIfInBounds_toArray, List.set_cons_zero, List.set_cons_succ]; exact rfl)
  refine Rg.wpK_end fun w9 hR hS hF => ?_
  have hn := n1.r2 hR hw
  have b1 := Rg.upd_at rfl (Rg.upd_off rfl (hF 8))
  have b2 := Rg.upd_at rfl (hF 9)
  obtain ⟨m1, D1, l1, c1, p0, p1, i1⟩ := b1
  obtain ⟨m2, D2, l2, c2, p2, p3, i2⟩ := b2
  go_wp2
  exact bodyPost_ret (v := .tuple #[.agg #[.bool m1, .slice D1 l1 c1], .agg #[.bool m2, .slice D2 l2 c2], .int .i64 0]) (by simp [results, Tryd.results18, go_sem, p0, p1, p2, p3]) rfl ⟨_, rfl, ⟨_, _, _, rfl, ⟨_, _, _, _, rfl, i1.eq HQ.out.symm⟩, ⟨_, _, _, _, rfl, i2.eq HR.out.symm⟩, rfl⟩, hn⟩
end Go.Proofs.YthpjmhhfcechmaaDoor
/- Contracts of library functions (bits, strings, slices.Grow) at this program, laid by the kit's own tool in plain words. -/
namespace Go.Proofs
open Go.Shelf
def Tryd.growU_ren : Go.Shelf.Ren := ⟨fun | 4 => 67 | n => n, fun | 22 => 22 | 25 => 56 | 3 => 3 | 4 => 4 | 9 => 9 | 20 => 20 | 0 => 0 | n => n, fun | n => n⟩
theorem Tryd.growU : Go.Proofs.Lays8.n4 Tryd.prog Tryd.growU_ren := {
 mixed := by kernel_rfl
 f4 := ⟨Tryd.f67.name, by decide, Tryd.func67.trans (congrArg some (by kernel_rfl))⟩
 t0 := Tryd.underlying0
 a0 := Tryd.isAgg0
 z0 := Tryd.sizeOf0
 v0 := Tryd.zeroValue0
 t3 := Tryd.underlying3
 a3 := Tryd.isAgg3
 z3 := Tryd.sizeOf3
 v3 := Tryd.zeroValue3
 t4 := Tryd.underlying4
 a4 := Tryd.isAgg4
 z4 := Tryd.sizeOf4
 v4 := Tryd.zeroValue4
 t9 := Tryd.underlying9
 a9 := Tryd.isAgg9
 z9 := Tryd.sizeOf9
 v9 := Tryd.zeroValue9
 t20 := Tryd.underlying20
 a20 := Tryd.isAgg20
 z20 := Tryd.sizeOf20
 v20 := Tryd.zeroValue20
 t22 := Tryd.underlying22
 a22 := Tryd.isAgg22
 z22 := Tryd.sizeOf22
 v22 := Tryd.zeroValue22 }
def Tryd.lays159_ren : Go.Shelf.Ren := ⟨fun | 159 => 12 | 165 => 30 | 166 => 31 | 167 => 34 | 169 => 33 | 230 => 35 | 204 => 36 | 240 => 56 | 241 => 57 | 197 => 58 | 118 => 59 | 168 => 60 | 270 => 61 | 262 => 62 | 276 => 70 | 277 => 71 | 260 => 72 | 242 => 73 | 313 => 74 | 278 => 79 | 274 => 80 | 275 => 81 | n => n, fun | 9 => 9 | 4 => 4 | 3 => 3 | 5 => 5 | 72 => 70 | 0 => 0 | 76 => 74 | 75 => 73 | 107 => 79 | 70 => 68 | 20 => 20 | 37 => 59 | 127 => 101 | 21 => 21 | 105 => 102 | 164 => 112 | 162 => 118 | 203 => 116 | 119 => 120 | 46 => 65 | 139 => 123 | 138 => 122 | 51 => 56 | 160 => 124 | 208 => 130 | 206 => 128 | 80 => 76 | n => n, fun | 13 => 1 | 3 => 3 | 4 => 4 | n => n⟩
theorem Tryd.lays159 : Go.Proofs.Lays.n159 Tryd.prog Tryd.lays159_ren := {
 mixed := by kernel_rfl
 f118 := Tryd.func59.trans (congrArg some (by kernel_rfl))
 f159 := Tryd.func12.trans (congrArg some (by kernel_rfl))
 f165 := Tryd.func30.trans (congrArg some (by kernel_rfl))
 f166 := Tryd.func31.trans (congrArg some (by kernel_rfl))
 f167 := Tryd.func34.trans (congrArg some (by kernel_rfl))
 f168 := Tryd.func60.trans (congrArg some (by kernel_rfl))
 f169 := Tryd.func33.trans (congrArg some (by kernel_rfl))
 f197 := Tryd.func58.trans (congrArg some (by kernel_rfl))
 f204 := Tryd.func36.trans (congrArg some (by kernel_rfl))
 f230 := Tryd.func35.trans (congrArg some (by kernel_rfl))
 f240 := Tryd.func56.trans (congrArg some (by kernel_rfl))
 f241 := Tryd.func57.trans (congrArg some (by kernel_rfl))
 f242 := Tryd.func73.trans (congrArg some (by kernel_rfl))
 f260 := Tryd.func72.trans (congrArg some (by kernel_rfl))
 f262 := Tryd.func62.trans (congrArg some (by kernel_rfl))
 f270 := Tryd.func61.trans (congrArg some (by kernel_rfl))
 f274 := Tryd.func80.trans (congrArg some (by kernel_rfl))
 f275 := Tryd.func81.trans (congrArg some (by kernel_rfl))
 f276 := Tryd.func70.trans (congrArg some (by kernel_rfl))
 f277 := Tryd.func71.trans (congrArg some (by kernel_rfl))
 f278 := Tryd.func79.trans (congrArg some (by kernel_rfl))
 f313 := Tryd.func74.trans (congrArg some (by kernel_rfl))
 t0 := Tryd.underlying0
 a0 := Tryd.isAgg0
 z0 := Tryd.sizeOf0
 v0 := Tryd.zeroValue0
 t3 := Tryd.underlying3
 a3 := Tryd.isAgg3
 z3 := Tryd.sizeOf3
 v3 := Tryd.zeroValue3
 t4 := Tryd.underlying4
 a4 := Tryd.isAgg4
 z4 := Tryd.sizeOf4
 v4 := Tryd.zeroValue4
 t5 := Tryd.underlying5
 a5 := Tryd.isAgg5
 z5 := Tryd.sizeOf5
 v5 := Tryd.zeroValue5
 t9 := Tryd.underlying9
 a9 := Tryd.isAgg9
 z9 := Tryd.sizeOf9
 v9 := Tryd.zeroValue9
 t20 := Tryd.underlying20
 a20 := Tryd.isAgg20
 z20 := Tryd.sizeOf20
 v20 := Tryd.zeroValue20
 t21 := Tryd.underlying21
 a21 := Tryd.isAgg21
 z21 := Tryd.sizeOf21
 v21 := Tryd.zeroValue21
 t37 := Tryd.underlying59
 a37 := Tryd.isAgg59
 z37 := Tryd.sizeOf59
 v37 := Tryd.zeroValue59
 t46 := Tryd.underlying65
 a46 := Tryd.isAgg65
 z46 := Tryd.sizeOf65
 v46 := Tryd.zeroValue65
 t51 := Tryd.underlying56
 a51 := Tryd.isAgg56
 z51 := Tryd.sizeOf56
 v51 := Tryd.zeroValue56
 t70 := Tryd.underlying68
 a70 := Tryd.isAgg68
 z70 := Tryd.sizeOf68
 v70 := Tryd.zeroValue68
 t72 := Tryd.underlying70
 a72 := Tryd.isAgg70
 z72 := Tryd.sizeOf70
 v72 := Tryd.zeroValue70
 t75 := Tryd.underlying73
 a75 := Tryd.isAgg73
 z75 := Tryd.sizeOf73
 v75 := Tryd.zeroValue73
 t76 := Tryd.underlying74
 a76 := Tryd.isAgg74
 z76 := Tryd.sizeOf74
 v76 := Tryd.zeroValue74
 t105 := Tryd.underlying102
 a105 := Tryd.isAgg102
 z105 := Tryd.sizeOf102
 v105 := Tryd.zeroValue102
 t107 := Tryd.underlying79
 a107 := Tryd.isAgg79
 z107 := Tryd.sizeOf79
 v107 := Tryd.zeroValue79
 t119 := Tryd.underlying120
 a119 := Tryd.isAgg120
 z119 := Tryd.sizeOf120
 t127 := Tryd.underlying101
 a127 := Tryd.isAgg101
 z127 := Tryd.sizeOf101
 v127 := Tryd.zeroValue101
 t138 := Tryd.underlying122
 a138 := Tryd.isAgg122
 z138 := Tryd.sizeOf122
 v138 := Tryd.zeroValue122
 t139 := Tryd.underlying123
 a139 := Tryd.isAgg123
 z139 := Tryd.sizeOf123
 v139 := Tryd.zeroValue123
 t160 := Tryd.underlying124
 a160 := Tryd.isAgg124
 z160 := Tryd.sizeOf124
 v160 := Tryd.zeroValue124
 t162 := Tryd.underlying118
 a162 := Tryd.isAgg118
 z162 := Tryd.sizeOf118
 v162 := Tryd.zeroValue118
 t164 := Tryd.underlying112
 a164 := Tryd.isAgg112
 z164 := Tryd.sizeOf112
 v164 := Tryd.zeroValue112
 t203 := Tryd.underlying116
 a203 := Tryd.isAgg116
 z203 := Tryd.sizeOf116
 v203 := Tryd.zeroValue116
 t206 := Tryd.underlying128
 a206 := Tryd.isAgg128
 z206 := Tryd.sizeOf128
 v206 := Tryd.zeroValue128
 t208 := Tryd.underlying130
 a208 := Tryd.isAgg130
 z208 := Tryd.sizeOf130
 v208 := Tryd.zeroValue130
 g3 := by kernel_rfl
 g4 := by kernel_rfl
 g13 := by kernel_rfl }
theorem Tryd.Builder_Extra_159 : Builder.Extra Tryd.prog Tryd.lays159_ren := {
 sizeBuilder := by kernel_rfl
 liesBuilder := by kernel_rfl
 t5 := Tryd.underlying5
 a5 := Tryd.isAgg5
 z5 := Tryd.sizeOf5
 v5 := Tryd.zeroValue5
 infoByte := by kernel_rfl
 cellsByte := by kernel_rfl
 sizeByte := by kernel_rfl
 neB5 := by decide }
open Go.RowKit in
theorem Tryd.strings_ToLower_ascii (s : ByteArray) (w : World) (hs : s.size ≤ 140737488355328) (hascii : ∀ (j : Nat) (b : UInt8), s.data.toList[j]? = some b → b.toNat < 128) :
  Calls Tryd.prog 12 #[.string s] w fun e w' => e = .returned (.string ⟨(Lib.toLowerA s.data.toList).toArray⟩) ∧ Below w.heap.size w w' := Any.strings_ToLower_ascii Tryd.lays159 Tryd.Builder_Extra_159 s w hs hascii
def Tryd.lays137_ren : Go.Shelf.Ren := ⟨fun | 137 => 53 | 217 => 69 | 266 => 78 | n => n, fun | 9 => 9 | 5 => 5 | 3 => 3 | n => n, fun | n => n⟩
theorem Tryd.lays137 : Go.Proofs.Lays.n137 Tryd.prog Tryd.lays137_ren := {
 mixed := by kernel_rfl
 f137 := Tryd.func53.trans (congrArg some (by kernel_rfl))
 f217 := Tryd.func69.trans (congrArg some (by kernel_rfl))
 f266 := Tryd.func78.trans (congrArg some (by kernel_rfl))
 t3 := Tryd.underlying3
 a3 := Tryd.isAgg3
 z3 := Tryd.sizeOf3
 v3 := Tryd.zeroValue3
 t5 := Tryd.underlying5
 a5 := Tryd.isAgg5
 z5 := Tryd.sizeOf5
 v5 := Tryd.zeroValue5
 t9 := Tryd.underlying9
 a9 := Tryd.isAgg9
 z9 := Tryd.sizeOf9
 v9 := Tryd.zeroValue9 }
open Go.RowKit in
theorem Tryd.strings_IndexByte (s : ByteArray) (c : Int) (w : World) :
  Calls Tryd.prog 53 #[.string s, .int .u8 c] w fun e w' => e = .returned (.int .i64 (Lib.indexByte s.data.toList c.toNat.toUInt8)) ∧ w' = w := Any.strings_IndexByte Tryd.lays137 s c w
def Tryd.lays99_ren : Go.Shelf.Ren := ⟨fun | 99 => 14 | 206 => 38 | n => n, fun | 9 => 9 | 4 => 4 | 3 => 3 | n => n, fun | n => n⟩
theorem Tryd.lays99 : Go.Proofs.Lays.n99 Tryd.prog Tryd.lays99_ren := {
 mixed := by kernel_rfl
 f99 := Tryd.func14.trans (congrArg some (by kernel_rfl))
 f206 := Tryd.func38.trans (congrArg some (by kernel_rfl))
 t3 := Tryd.underlying3
 a3 := Tryd.isAgg3
 z3 := Tryd.sizeOf3
 v3 := Tryd.zeroValue3
 t4 := Tryd.underlying4
 a4 := Tryd.isAgg4
 z4 := Tryd.sizeOf4
 v4 := Tryd.zeroValue4
 t9 := Tryd.underlying9
 a9 := Tryd.isAgg9
 z9 := Tryd.sizeOf9
 v9 := Tryd.zeroValue9 }
open Go.RowKit Go.Lib in
theorem Tryd.strings_HasPrefix (s p : ByteArray) (w : World) :
  Calls Tryd.prog 14 #[.string s, .string p] w fun e w' => e = .returned (.bool (Lib.hasPrefix s.data.toList p.data.toList)) ∧ w' = w := Any.strings_HasPrefix Tryd.lays99 s p w
def Tryd.lays101_ren : Go.Shelf.Ren := ⟨fun | 101 => 9 | 208 => 28 | 206 => 38 | n => n, fun | 9 => 9 | 4 => 4 | 3 => 3 | n => n, fun | n => n⟩
theorem Tryd.lays101 : Go.Proofs.Lays.n101 Tryd.prog Tryd.lays101_ren := {
 mixed := by kernel_rfl
 f101 := Tryd.func9.trans (congrArg some (by kernel_rfl))
 f206 := Tryd.func38.trans (congrArg some (by kernel_rfl))
 f208 := Tryd.func28.trans (congrArg some (by kernel_rfl))
 t3 := Tryd.underlying3
 a3 := Tryd.isAgg3
 z3 := Tryd.sizeOf3
 v3 := Tryd.zeroValue3
 t4 := Tryd.underlying4
 a4 := Tryd.isAgg4
 z4 := Tryd.sizeOf4
 v4 := Tryd.zeroValue4
 t9 := Tryd.underlying9
 a9 := Tryd.isAgg9
 z9 := Tryd.sizeOf9
 v9 := Tryd.zeroValue9 }
open Go.RowKit Go.Lib in
theorem Tryd.strings_TrimPrefix (s p : ByteArray) (w : World) :
  Calls Tryd.prog 9 #[.string s, .string p] w fun e w' => e = .returned (.string ⟨(Lib.trimPrefix s.data.toList p.data.toList).toArray⟩) ∧ w' = w := Any.strings_TrimPrefix Tryd.lays101 s p w
def Tryd.lays105_ren : Go.Shelf.Ren := ⟨fun | 105 => 11 | 212 => 29 | 99 => 14 | 165 => 30 | 166 => 31 | 170 => 32 | 169 => 33 | 263 => 54 | 264 => 55 | 206 => 38 | 240 => 56 | 241 => 57 | 276 => 70 | 277 => 71 | n => n, fun | 9 => 9 | 3 => 3 | 4 => 4 | 20 => 20 | 0 => 0 | 46 => 65 | 109 => 66 | 5 => 5 | 72 => 70 | 76 => 74 | 51 => 56 | 146 => 95 | 53 => 64 | 148 => 99 | 70 => 68 | 37 => 59 | 75 => 73 | 127 => 101 | 164 => 112 | 80 => 76 | n => n, fun | n => n⟩
theorem Tryd.lays105 : Go.Proofs.Lays.n105 Tryd.prog Tryd.lays105_ren := {
 mixed := by kernel_rfl
 f99 := Tryd.func14.trans (congrArg some (by kernel_rfl))
 f105 := Tryd.func11.trans (congrArg some (by kernel_rfl))
 f165 := Tryd.func30.trans (congrArg some (by kernel_rfl))
 f166 := Tryd.func31.trans (congrArg some (by kernel_rfl))
 f169 := Tryd.func33.trans (congrArg some (by kernel_rfl))
 f170 := Tryd.func32.trans (congrArg some (by kernel_rfl))
 f206 := Tryd.func38.trans (congrArg some (by kernel_rfl))
 f212 := Tryd.func29.trans (congrArg some (by kernel_rfl))
 f240 := Tryd.func56.trans (congrArg some (by kernel_rfl))
 f241 := Tryd.func57.trans (congrArg some (by kernel_rfl))
 f263 := Tryd.func54.trans (congrArg some (by kernel_rfl))
 f264 := Tryd.func55.trans (congrArg some (by kernel_rfl))
 f276 := Tryd.func70.trans (congrArg some (by kernel_rfl))
 f277 := Tryd.func71.trans (congrArg some (by kernel_rfl))
 t0 := Tryd.underlying0
 a0 := Tryd.isAgg0
 z0 := Tryd.sizeOf0
 v0 := Tryd.zeroValue0
 t3 := Tryd.underlying3
 a3 := Tryd.isAgg3
 z3 := Tryd.sizeOf3
 v3 := Tryd.zeroValue3
 t4 := Tryd.underlying4
 a4 := Tryd.isAgg4
 z4 := Tryd.sizeOf4
 v4 := Tryd.zeroValue4
 t5 := Tryd.underlying5
 a5 := Tryd.isAgg5
 z5 := Tryd.sizeOf5
 v5 := Tryd.zeroValue5
 t9 := Tryd.underlying9
 a9 := Tryd.isAgg9
 z9 := Tryd.sizeOf9
 v9 := Tryd.zeroValue9
 t20 := Tryd.underlying20
 a20 := Tryd.isAgg20
 z20 := Tryd.sizeOf20
 v20 := Tryd.zeroValue20
 t37 := Tryd.underlying59
 a37 := Tryd.isAgg59
 z37 := Tryd.sizeOf59
 v37 := Tryd.zeroValue59
 t46 := Tryd.underlying65
 a46 := Tryd.isAgg65
 z46 := Tryd.sizeOf65
 v46 := Tryd.zeroValue65
 t51 := Tryd.underlying56
 a51 := Tryd.isAgg56
 z51 := Tryd.sizeOf56
 v51 := Tryd.zeroValue56
 t53 := Tryd.underlying64
 a53 := Tryd.isAgg64
 z53 := Tryd.sizeOf64
 v53 := Tryd.zeroValue64
 t70 := Tryd.underlying68
 a70 := Tryd.isAgg68
 z70 := Tryd.sizeOf68
 v70 := Tryd.zeroValue68
 t72 := Tryd.underlying70
 a72 := Tryd.isAgg70
 z72 := Tryd.sizeOf70
 v72 := Tryd.zeroValue70
 t75 := Tryd.underlying73
 a75 := Tryd.isAgg73
 z75 := Tryd.sizeOf73
 v75 := Tryd.zeroValue73
 t76 := Tryd.underlying74
 a76 := Tryd.isAgg74
 z76 := Tryd.sizeOf74
 v76 := Tryd.zeroValue74
 t109 := Tryd.underlying66
 a109 := Tryd.isAgg66
 z109 := Tryd.sizeOf66
 v109 := Tryd.zeroValue66
 t127 := Tryd.underlying101
 a127 := Tryd.isAgg101
 z127 := Tryd.sizeOf101
 v127 := Tryd.zeroValue101
 t146 := Tryd.underlying95
 a146 := Tryd.isAgg95
 z146 := Tryd.sizeOf95
 v146 := Tryd.zeroValue95
 t148 := Tryd.underlying99
 a148 := Tryd.isAgg99
 z148 := Tryd.sizeOf99
 v148 := Tryd.zeroValue99
 t164 := Tryd.underlying112
 a164 := Tryd.isAgg112
 z164 := Tryd.sizeOf112
 v164 := Tryd.zeroValue112 }
theorem Tryd.Builder_Extra_105 : Builder.Extra Tryd.prog Tryd.lays105_ren := {
 sizeBuilder := by kernel_rfl
 liesBuilder := by kernel_rfl
 t5 := Tryd.underlying5
 a5 := Tryd.isAgg5
 z5 := Tryd.sizeOf5
 v5 := Tryd.zeroValue5
 infoByte := by kernel_rfl
 cellsByte := by kernel_rfl
 sizeByte := by kernel_rfl
 neB5 := by decide }
open Go.RowKit Go.Lib in
theorem Tryd.strings_Repeat (s : ByteArray) (c : Nat) (w : World) (hc : c ≤ 9223372036854775807) (hlen : s.size * c ≤ 140737488355328) :
  Calls Tryd.prog 11 #[.string s, .int .i64 c] w fun e w' => e = .returned (.string ⟨(Lib.repeatL s.data.toList c).toArray⟩) ∧ Below w.heap.size w w' := Any.strings_Repeat Tryd.lays105 Tryd.Builder_Extra_105 s c w hc hlen
end Go.Proofs
/- The contract of the program's twos. -/
namespace Go.Proofs.YthpjmhhfcechmaaDoor
open Go.RowKit Ma

theorem own_drewn {w : World} {base n G : Nat} {cur : Array Value} (hb : base ≤ w.heap.size) (hG : G ≤ maxLen) (hs : cur.size = G) (hn : n ≤ G) :
  (w.drew.alloc (.cells cur 56)).ownsRow base 56 1 (.slice (some ⟨w.heap.size, 0, none⟩) n G) n (cur.toList.take n) := by
 refine ⟨by simp; omega, .inr ⟨w.heap.size, G, cur, rfl, hb, ?_, hn, hG, by omega, by simp⟩⟩
 show (w.drew.heap.push (Obj.cells cur 56))[w.heap.size]? = _
 exact Array.getElem?_push_size
theorem size_zeroes (v : Value) (n : Nat) : (Builtin.zeroCells #[v] n).size = n := by
 simp [Builtin.zeroCells]
set_option maxHeartbeats 1600000 in
theorem grow_c {w : World} {base : Nat} {v : Value} {xs : List Int} {n : Nat} (ho : Own w base 56 .u32 v xs) (hb : base ≤ w.heap.size) (hn0 : 0 < n) (hn : n ≤ 1000000) (hl : xs.length ≤ 1000000) (hxn : xs.length ≤ n) :
  Calls Tryd.prog 67 #[v, .int .i64 n] w fun e w' => ∃ g c vs, e = .returned (.slice (some ⟨g, 0, none⟩) xs.length c) ∧ n ≤ c ∧ c ≤ 9223372036854775807 ∧ w'.ownsRow base 56 1 (.slice (some ⟨g, 0, none⟩) n c) n vs ∧ vs.take xs.length = xs.map (Value.int .u32) ∧ Nw w w' := by
 obtain ⟨i0, hi, hz0, hz1, hz2⟩ := info_parts info_u32
 obtain ⟨hlen, ⟨hv, h0⟩ | ⟨g, cap, cur, hv, hbg, hg, hc, hm, hs, ht⟩⟩ := ho
 ·subst hv
  have hx : xs = [] := List.eq_nil_of_length_eq_zero h0
  subst hx
  have := Any8.slices_Grow_grow Tryd.growU i0 (.int .u32 0) hi hz0 (by omega) none 0 0 n [] w (by omega) (by omega) (by rw [hz2]; omega) (by omega) (by simp) (fun _ => rfl) (fun a ha => by cases ha)
  rw [show Tryd.growU_ren.t 25 = 56 from rfl] at this
  obtain ⟨G, hG⟩ : ∃ G, G = grownCap w (0 + n) 0 56 := ⟨_, rfl⟩
  have g1 := grownCap_ge w (0 + n) 0 56
  have g2 := grownCap_le_maxLen w (0 + n) 0 56 (by unfold maxLen; omega)
  refine this.mono fun e w' ⟨e1, e2⟩ => ?_
  rw [← hG] at e1 e2 g1 g2
  subst e2
  refine ⟨w.heap.size, G, _, e1, by omega, by unfold maxLen at g2; omega, own_drewn hb g2 ?_ (by omega), by simp, (Nw.refl w).drew.alloc _⟩
  have z1 := size_zeroes (.int .u32 0) (0 + n - 0)
  have z2 := size_zeroes (.int .u32 0) (G - (0 + n))
  have zc : (Value.int .u32 0).cells = #[.int .u32 0] := rfl
  rw [zc, Array.size_append, Array.size_append, z1, z2]
  simp; omega
 ·subst hv
  have hlx : xs.length ≤ cap := hc
  by_cases hroom : xs.length + n ≤ cap
  ·have := Any8.slices_Grow_room Tryd.growU (some ⟨g, 0, none⟩) xs.length cap n w hlx (by unfold maxLen at hm; omega) (by omega) hroom
   refine this.mono fun e w' ⟨e1, e2⟩ => ?_
   subst e2
   refine ⟨g, cap, cur.toList.take n, e1, by omega, by unfold maxLen at hm; omega, ⟨by simp; omega, .inr ⟨g, cap, cur, rfl, hbg, hg, by omega, hm, hs, by simp⟩⟩, ?_, Nw.refl _⟩
   rw [List.take_take, Nat.min_eq_left hxn, ← ht]; simp
  ·have := Any8.slices_Grow_grow Tryd.growU i0 (.int .u32 0) hi hz0 (by omega) (some ⟨g, 0, none⟩) xs.length cap n cur.toList w hlx (by omega) (by rw [hz2]; omega) (by omega) (by rw [hz1]; simpa using hs) (fun h => by cases h) (fun a ha j v hj => ?_)
   ·rw [show Tryd.growU_ren.t 25 = 56 from rfl] at this
    obtain ⟨G, hG⟩ : ∃ G, G = grownCap w (xs.length + n) cap 56 := ⟨_, rfl⟩
    have g1 := grownCap_ge w (xs.length + n) cap 56
    have g2 := grownCap_le_maxLen w (xs.length + n) cap 56 (by unfold maxLen; omega)
    refine this.mono fun e w' ⟨e1, e2⟩ => ?_
    rw [← hG] at e1 e2 g1 g2
    subst e2
    refine ⟨w.heap.size, G, _, e1, by omega, by unfold maxLen at g2; omega, own_drewn hb g2 ?_ (by omega), ?_, (Nw.refl w).drew.alloc _⟩
    ·have z1 := size_zeroes (.int .u32 0) (xs.length + n - cap)
     have z2 := size_zeroes (.int .u32 0) (G - (xs.length + n))
     have zc : (Value.int .u32 0).cells = #[.int .u32 0] := rfl
     rw [zc, Array.size_append, Array.size_append, z1, z2]
     simp; omega
    ·rw [List.take_take, Nat.min_eq_left hxn]
     rw [← ht]
     simp only [Array.toList_append, List.append_assoc, Nat.mul_one]
     rw [List.take_append_of_le_length (by simp; omega)]
   ·clear hz0 hz1 hz2 hi
    obtain rfl : a = ⟨g, 0, none⟩ := by simpa using ha.symm
    rw [add_at]
    obtain ⟨hj1, hj2⟩ := List.getElem?_eq_some_iff.1 hj
    have hrow : w.ownsRow base 56 1 (.slice (some ⟨g, 0, none⟩) cap cap) cap cur.toList := ⟨by simpa using hs, .inr ⟨g, cap, cur, rfl, hbg, hg, Nat.le_refl _, hm, hs, by rw [← hs, List.take_of_length_le (by simp)]⟩⟩
    rw [World.ownsRow.cellAt hrow j (by simp at hj1; omega)]
    exact hj
end Go.Proofs.YthpjmhhfcechmaaDoor
/- The contract of the program's twos. -/
namespace Go.Proofs.YthpjmhhfcechmaaDoor
open Go.RowKit Ma

structure TwAt (ys : List Int) (m i : Nat) (f : Int → Int) (vs : List Value) : Prop where
 le : i ≤ m
 len : vs.length = m
 done : ∀ j, j < i → vs[j]? = some (.int .u32 (f (at0 ys j)))
 rest : ∀ j, i ≤ j → j < ys.length → vs[j]? = some (.int .u32 (at0 ys j))
theorem TwAt.start {ys : List Int} {m : Nat} {f : Int → Int} {vs : List Value} (hl : vs.length = m) (ht : vs.take ys.length = ys.map (Value.int .u32)) : TwAt ys m 0 f vs :=
 ⟨by omega, hl, fun j hj => by omega, fun j _ hj => by
  have : (vs.take ys.length)[j]? = vs[j]? := by rw [List.getElem?_take, if_pos hj]
  rw [← this, ht, List.getElem?_map, List.getElem?_eq_getElem hj, at0_of_lt hj]; rfl⟩
theorem TwAt.step {ys : List Int} {m i : Nat} {f : Int → Int} {vs : List Value} (h : TwAt ys m i f vs) (hi : i < m) : TwAt ys m (i + 1) f (vs.set i (.int .u32 (f (at0 ys i)))) := by
 obtain ⟨h1, h2, h3, h4⟩ := h
 refine ⟨by omega, by simp [h2], fun j hj => ?_, fun j hj hj2 => ?_⟩
 ·by_cases e : j = i
  ·subst e; rw [List.getElem?_set_self (by omega)]
  ·rw [List.getElem?_set_ne (by omega)]; exact h3 j (by omega)
 ·rw [List.getElem?_set_ne (by omega)]; exact h4 j (by omega) hj2
theorem TwAt.step2 {ys : List Int} {m i : Nat} {f : Int → Int} {vs : List Value} (h : TwAt ys m i f vs) (hi : i < m) (u : Value) : TwAt ys m (i + 1) f ((vs.set i u).set i (.int .u32 (f (at0 ys i)))) := by
 rw [List.set_set]; exact h.step hi
theorem TwAt.all {ys : List Int} {m : Nat} {f : Int → Int} {vs : List Value} (h : TwAt ys m m f vs) : vs = ((List.range m).map fun j => f (at0 ys j)).map (Value.int .u32) := by
 apply List.ext_getElem?
 intro j
 by_cases hj : j < m
 ·rw [h.done j hj]; simp [hj]
 ·rw [List.getElem?_eq_none (by rw [h.len]; omega), List.getElem?_eq_none (by simp; omega)]
theorem lv_range_id (b : Int) (m : Nat) : ∀ ys : List Int, ys.length ≤ m → lv b ((List.range m).map fun j => at0 ys j) = lv b ys := by
 intro ys hl
 have key : ∀ k, k ≤ m → lv b ((List.range k).map fun j => at0 ys j) = lv b (ys.take k) := by
  intro k hk
  induction k with
  | zero => simp [lv]
  | succ k ih =>
   rw [List.range_succ, List.map_append, List.map_singleton, lv_snoc, ih (by omega)]
   simp only [List.length_map, List.length_range]
   by_cases h : k < ys.length
   ·rw [lv_take_succ _ _ _ h]
   ·rw [at0_ge (by omega), List.take_of_length_le (by omega), List.take_of_length_le (by omega)]; omega
 rw [key m (Nat.le_refl _), List.take_of_length_le hl]
theorem lv_flip (b : Int) (m : Nat) (ys : List Int) : lv b ((List.range m).map fun j => (b - 1) - at0 ys j) = b ^ m - 1 - lv b ((List.range m).map fun j => at0 ys j) := by
 induction m with
 | zero => simp [lv]
 | succ m ih =>
  rw [List.range_succ, List.map_append, List.map_singleton, lv_snoc, List.map_append, List.map_singleton, lv_snoc, ih, Int.pow_succ]
  simp only [List.length_map, List.length_range]
  grind
theorem twos_id {m : Nat} {ys : List Int} (dy : Ma.dg b32 ys) (hl : ys.length ≤ m) :
  Ma.dg b32 ((List.range m).map fun j => bits .xor .u32 (at0 ys j) 0) ∧ ((List.range m).map fun j => bits .xor .u32 (at0 ys j) 0).length = m ∧ lv b32 ((List.range m).map fun j => bits .xor .u32 (at0 ys j) 0) = lv b32 ys % b32 ^ m := by
 have e : ((List.range m).map fun j => bits .xor .u32 (at0 ys j) 0) = (List.range m).map fun j => at0 ys j := by
  apply List.map_congr_left
  intro j _
  exact flip0 _ (by have := dg_at dy (by decide) j; rw [b32_eq] at this; exact this)
 rw [e]
 refine ⟨fun x hx => ?_, by simp, ?_⟩
 ·obtain ⟨j, _, rfl⟩ := List.mem_map.1 hx
  exact dg_at dy (by decide) j
 ·rw [lv_range_id _ _ _ hl, Int.emod_eq_of_lt (lv_nonneg (by decide) dy) (Int.lt_of_lt_of_le (lv_lt (by decide) dy) (pow_le (by decide) hl))]
theorem twos_flip {m : Nat} {ys : List Int} {x : Int} (dy : Ma.dg b32 ys) (hl : ys.length ≤ m) (hx : lv b32 ys = -1 - x) :
  Ma.dg b32 ((List.range m).map fun j => bits .xor .u32 (at0 ys j) 4294967295) ∧ ((List.range m).map fun j => bits .xor .u32 (at0 ys j) 4294967295).length = m ∧ lv b32 ((List.range m).map fun j => bits .xor .u32 (at0 ys j) 4294967295) = x % b32 ^ m := by
 have e : ((List.range m).map fun j => bits .xor .u32 (at0 ys j) 4294967295) = (List.range m).map fun j => (b32 - 1) - at0 ys j := by
  apply List.map_congr_left
  intro j _
  rw [flip1 _ (by have := dg_at dy (by decide) j; rw [b32_eq] at this; exact this), b32_eq]
  omega
 rw [e]
 refine ⟨fun x hx => ?_, by simp, ?_⟩
 ·obtain ⟨j, _, rfl⟩ := List.mem_map.1 hx
  have := dg_at dy (by decide) j
  omega
 ·rw [lv_flip, lv_range_id _ _ _ hl, hx]
  have h1 := lv_nonneg (show (0 : Int) < b32 by decide) dy
  have h2 := lv_lt (show (0 : Int) < b32 by decide) dy
  have h3 := pow_le (b := b32) (by decide) hl
  have e2 : x % b32 ^ m = (x + b32 ^ m) % b32 ^ m := by rw [Int.add_emod_right]
  rw [e2, Int.emod_eq_of_lt (by omega) (by omega)]
  omega
theorem row_base {w : World} {b b' : Nat} {e : TypeId} {z : Nat} {v : Value} {n : Nat} {vs : List Value} (h : w.ownsRow b e z v n vs) (hb : b' ≤ b) : w.ownsRow b' e z v n vs := by
 obtain ⟨h1, h2 | ⟨g, cap, cur, hv, hbg, hr⟩⟩ := h
 ·exact ⟨h1, .inl h2⟩
 ·exact ⟨h1, .inr ⟨g, cap, cur, hv, by omega, hr⟩⟩
theorem row_ge {w : World} {b : Nat} {e : TypeId} {z n cap g : Nat} {vs : List Value} (h : w.ownsRow b e z (.slice (some ⟨g, 0, none⟩) n cap) n vs) : b ≤ g := (World.ownsRow.lt h g rfl).1
set_option maxHeartbeats 1600000 in
set_option maxRecDepth 100000 in
theorem twos_pos {x : Int} {A : Option Addr} {l c : Nat} {w : World} (m : Nat) (hx : RI w false A l c x) (hl : l ≤ 400000) (h0 : 0 < m) (hm : m ≤ 1000000) (hlm : l ≤ m) :
  Calls Tryd.prog 44 #[.agg #[.bool false, .slice A l c], .int .i64 m] w (Ret w (KO w.heap.size 56 .u32 fun ts => dg b32 ts ∧ ts.length = m ∧ lv b32 ts = x % b32 ^ m)) := by
 obtain ⟨xs, rfl, hc, rA, dx, tx, nx, rfl⟩ := hx
 have nw1 : Nw w ((w.alloc (.cells #[.bool false, .slice A xs.length c] 28)).alloc (.cells #[.bool false, .slice A xs.length c] 28)) := ((Nw.refl w).alloc _).alloc _
 have q0 : Has [(w.heap.size + 1, 1, Value.slice A xs.length c)] ((w.alloc (.cells #[.bool false, .slice A xs.length c] 28)).alloc (.cells #[.bool false, .slice A xs.length c] 28)) := ⟨by go_simp, trivial⟩
 have Q0 := Lib.hid q0
 have RA := Lib.hid (rA.kept nw1.kept)
 clear rA q0
 go_enter Tryd.func44, Tryd.ntmps44
 go_wp2_with (first
  | (go_at_call 50; refine (clone_o A c xs _ RA.out (by omega)).mono ?_; rintro e w1 ⟨v1, rfl, o1, hb1⟩)
  | (go_at_call 67; refine (grow_c (n := m) o1 hb1.size h0 hm (by omega) hlm).mono ?_; rintro e w2 ⟨g, cap, vs, rfl, hmc, hc63, ho, ht, hb2⟩; obtain ⟨q1, _⟩ := (Q0.out.nw hb1).nw hb2))
 have ho' := row_base (b' := w.heap.size + 1 + 1) ho (by first | omega | (simp; done))
 have hg := row_ge ho'
 have hts : TwAt xs m 0 (fun a => bits .xor .u32 a 0) vs := TwAt.start (by have := ho.1; simpa using this) ht
 have hn0 : Nw w w2 := (nw1.trans hb1).trans hb2
 clear ho ht
 go_loopw [23] (fun ci wr => ∃ (i : Nat) (us : List Value), ci = .int .i64 i ∧ wr.ownsRow (w.heap.size + 1 + 1) 56 1 (.slice (some ⟨g, 0, none⟩) m cap) m us ∧ TwAt xs m i (fun a => bits .xor .u32 a 0) us ∧ Nw w wr ∧ wr.cell? ⟨w.heap.size + 1, 1, none⟩ = w2.cell? ⟨w.heap.size + 1, 1, none⟩)
  (fun ci _ => m - (intOf ci).toNat)
 case atStart => exact ⟨0, vs, rfl, ho', hts, hn0, rfl⟩
 case round =>
  obtain ⟨i, us, rfl, hu, ht, hn, hq⟩ := hrel
  have hi := ht.le
  have hul := ht.len
  rw [q1] at hq
  clear ho' hts hn0
  by_cases him : i < m
  ·have fz := World.ownsRow.frozenAt hu i
   have ce := World.ownsRow.cellAt hu i (by omega)
   have hgne : w.heap.size + 1 ≠ g := by omega
   have HU := Lib.hid hu
   have HST := Lib.hid (ht.step him)
   have HST2 := Lib.hid (ht.step2 him (.int .u32 0))
   by_cases hy : i < xs.length
   ·have hrest := ht.rest i (Nat.le_refl _) hy
    rw [hrest] at ce
    clear hrest ht hu
    go_wp2
    exact ⟨⟨i + 1, _, by go_num, (World.ownsRow.stored HU.out i _).1, HST.out, hn.set (by simp; omega) _, by rw [World.cell?_setCell_other (h := by simp <;> omega), hq, q1]⟩, by simp [intOf]; omega⟩
   ·have hex : ∃ u0, us[i]? = some u0 := ⟨us[i]'(by omega), List.getElem?_eq_getElem _⟩
    obtain ⟨u0, hu0⟩ := hex
    rw [hu0] at ce
    have hy0 : at0 xs i = 0 := at0_ge (by omega)
    rw [hy0] at HST2
    clear hu0 ht hu hy0
    go_wp2
    exact ⟨⟨i + 1, _, by go_num, (World.ownsRow.stored (World.ownsRow.stored HU.out i _).1 i _).1, HST2.out, (hn.set (by simp; omega) _).set (by simp; omega) _, by rw [World.cell?_setCell_other (h := by simp <;> omega), World.cell?_setCell_other (h := by simp <;> omega), hq, q1]⟩, by simp [intOf]; omega⟩
  ·have hie : i = m := by omega
   have hall := (hie ▸ ht : TwAt xs m m (fun a => bits .xor .u32 a 0) us).all
   have HA := Lib.hid hall
   have HU := Lib.hid hu
   clear hall ht hu hie
   go_wp2
   go_ret
   exact ⟨_, rfl, ⟨(List.range m).map fun j => (fun a => bits .xor .u32 a 0) (at0 xs j), g, cap, by simp, row_base (by have := HU.out; rw [HA.out] at this; simpa [Own] using this) (by omega), (by simpa [sg] using twos_id dx hlm)⟩, hn⟩
set_option maxHeartbeats 1600000 in
set_option maxRecDepth 100000 in
theorem twos_neg {x : Int} {A : Option Addr} {l c : Nat} {w : World} (m : Nat) (hx : RI w true A l c x) (hl : l ≤ 400000) (h0 : 0 < m) (hm : m ≤ 1000000) (hlm : l ≤ m) :
  Calls Tryd.prog 44 #[.agg #[.bool true, .slice A l c], .int .i64 m] w (Ret w (KO w.heap.size 56 .u32 fun ts => dg b32 ts ∧ ts.length = m ∧ lv b32 ts = x % b32 ^ m)) := by
 have hxa := hx.abs_lt
 have hx0 : x < 0 := by
  obtain ⟨xs, _, _, _, d, t, nz, rfl⟩ := hx
  have := top_le (show (0 : Int) < b32 by decide) d t (nz rfl)
  have := pos_pow (show (0 : Int) < b32 by decide) (xs.length - 1)
  simp [sg]; omega
 have nw1 : Nw w ((w.alloc (.cells #[.bool true, .slice A l c] 28)).alloc (.cells #[.bool true, .slice A l c] 28)) := ((Nw.refl w).alloc _).alloc _
 have sg0 : Sg [] (w.heap.size + 1) 2 ((w.alloc (.cells #[.bool true, .slice A l c] 28)).alloc (.cells #[.bool true, .slice A l c] 28)) := by
  refine ⟨trivial, ?_, by go_simp⟩
  have := box_two (w.alloc (.cells #[.bool true, .slice A l c] 28)) 28 true A l c
  simpa using this
 have SG := Lib.hid sg0
 have HX := Lib.hid (hx.kept nw1.kept)
 clear hx sg0
 go_enter Tryd.func44, Tryd.ntmps44
 go_wp2_with (go_at_call 66; refine (complement_c HX.out hl).mono ?_; rintro e w0 ⟨_, rfl, ⟨m1, D1, l1, c1, rfl, hi⟩, hb⟩; have b2 := (SG.out.nw hb).2.1; obtain ⟨⟨v0, hv0, hn0⟩, hf0⟩ := b2 0 (by omega); obtain ⟨⟨v1, hv1, hn1⟩, hf1⟩ := b2 1 (by omega))
 have hl1 : l1 ≤ l := hi.len_le l (by omega) (by omega)
 obtain ⟨ys, rfl, hyc, rY, dy, ty, ny, ey⟩ := hi
 have hyn := lv_nonneg (show (0 : Int) < b32 by decide) dy
 have hey : lv b32 ys = -1 - x := by
  cases m1
  ·simpa [sg] using ey.symm
  ·simp [sg] at ey; omega
 have HEY := Lib.hid hey
 clear hey ey hyn
 obtain ⟨W3, eW3, hR, k0, k1⟩ := store_two (m := m1) (D := D1) (l := ys.length) (c := c1) b2
 rw [eW3]
 have RY := Lib.hid (rY.kept hR.2.1)
 have Q0 := Lib.hid k1
 have nw3 : Nw w W3 := (nw1.trans hb).rr hR (by omega)
 have hsz3 := hR.2.2.1
 have hsz0 := hb.size
 have hszz : w.heap.size + 1 + 1 ≤ W3.heap.size := by simp at hsz0; omega
 clear hv0 hf0 hv1 hf1 hn0 hn1 b2 eW3 rY k0 k1
 go_wp2_with (first
  | (go_at_call 50; refine (clone_o D1 c1 ys _ RY.out (by omega)).mono ?_; rintro e w1 ⟨v1, rfl, o1, hb1⟩)
  | (go_at_call 67; refine (grow_c (n := m) o1 hb1.size h0 hm (by omega) (by omega)).mono ?_; rintro e w2 ⟨g, cap, vs, rfl, hmc, hc63, ho, ht, hb2⟩; have q1 := hb2.c (hb1.c Q0.out)))
 have hly : ys.length ≤ m := by omega
 have ho' := row_base (b' := w.heap.size + 1 + 1) ho (by first | omega | (simp; done))
 have hg := row_ge ho'
 have hts : TwAt ys m 0 (fun a => bits .xor .u32 a 4294967295) vs := TwAt.start (by have := ho.1; simpa using this) ht
 have hn0 : Nw w w2 := (nw3.trans hb1).trans hb2
 clear ho ht
 go_loopw [23] (fun ci wr => ∃ (i : Nat) (us : List Value), ci = .int .i64 i ∧ wr.ownsRow (w.heap.size + 1 + 1) 56 1 (.slice (some ⟨g, 0, none⟩) m cap) m us ∧ TwAt ys m i (fun a => bits .xor .u32 a 4294967295) us ∧ Nw w wr ∧ wr.cell? ⟨w.heap.size + 1, 1, none⟩ = w2.cell? ⟨w.heap.size + 1, 1, none⟩)
  (fun ci _ => m - (intOf ci).toNat)
 case atStart => exact ⟨0, vs, rfl, ho', hts, hn0, rfl⟩
 case round =>
  obtain ⟨i, us, rfl, hu, ht, hn, hq⟩ := hrel
  have hi := ht.le
  have hul := ht.len
  rw [q1] at hq
  clear ho' hts hn0
  by_cases him : i < m
  ·have fz := World.ownsRow.frozenAt hu i
   have ce := World.ownsRow.cellAt hu i (by omega)
   have hgne : w.heap.size + 1 ≠ g := by omega
   have HU := Lib.hid hu
   have HST := Lib.hid (ht.step him)
   have HST2 := Lib.hid (ht.step2 him (.int .u32 0))
   by_cases hy : i < ys.length
   ·have hrest := ht.rest i (Nat.le_refl _) hy
    rw [hrest] at ce
    clear hrest ht hu
    go_wp2
    exact ⟨⟨i + 1, _, by go_num, (World.ownsRow.stored HU.out i _).1, HST.out, hn.set (by simp; omega) _, by rw [World.cell?_setCell_other (h := by simp <;> omega), hq, q1]⟩, by simp [intOf]; omega⟩
   ·have hex : ∃ u0, us[i]? = some u0 := ⟨us[i]'(by omega), List.getElem?_eq_getElem _⟩
    obtain ⟨u0, hu0⟩ := hex
    rw [hu0] at ce
    have hy0 : at0 ys i = 0 := at0_ge (by omega)
    rw [hy0] at HST2
    clear hu0 ht hu hy0
    go_wp2
    exact ⟨⟨i + 1, _, by go_num, (World.ownsRow.stored (World.ownsRow.stored HU.out i _).1 i _).1, HST2.out, (hn.set (by simp; omega) _).set (by simp; omega) _, by rw [World.cell?_setCell_other (h := by simp <;> omega), World.cell?_setCell_other (h := by simp <;> omega), hq, q1]⟩, by simp [intOf]; omega⟩
  ·have hie : i = m := by omega
   have hall := (hie ▸ ht : TwAt ys m m (fun a => bits .xor .u32 a 4294967295) us).all
   have HA := Lib.hid hall
   have HU := Lib.hid hu
   clear hall ht hu hie
   go_wp2
   go_ret
   exact ⟨_, rfl, ⟨(List.range m).map fun j => (fun a => bits .xor .u32 a 4294967295) (at0 ys j), g, cap, by simp, row_base (by have := HU.out; rw [HA.out] at this; simpa [Own] using this) (by omega), (twos_flip dy hly HEY.out)⟩, hn⟩
theorem twos_c {x : Int} {n : Bool} {A : Option Addr} {l c : Nat} {w : World} (m : Nat) (hx : RI w n A l c x) (hl : l ≤ 400000) (h0 : 0 < m) (hm : m ≤ 1000000) (hlm : l ≤ m) :
  Calls Tryd.prog 44 #[.agg #[.bool n, .slice A l c], .int .i64 m] w (Ret w (KO w.heap.size 56 .u32 fun ts => dg b32 ts ∧ ts.length = m ∧ lv b32 ts = x % b32 ^ m)) := by
 cases n
 ·exact twos_pos m hx hl h0 hm hlm
 ·exact twos_neg m hx hl h0 hm hlm
end Go.Proofs.YthpjmhhfcechmaaDoor
/- The contract of the program's untwos. -/
namespace Go.Proofs.YthpjmhhfcechmaaDoor
open Go.RowKit Ma

def sx (m : Nat) (v : Int) : Int := if 2 * v < b32 ^ m then v else v - b32 ^ m
theorem half_top {ts : List Int} (d : Ma.dg b32 ts) (h : 0 < ts.length) : (2 * lv b32 ts < b32 ^ ts.length ↔ at0 ts (ts.length - 1) < 2147483648) := by
 have e := lv_take_succ b32 ts (ts.length - 1) (by omega)
 rw [Nat.sub_add_cancel h, List.take_length] at e
 have d2 := dg_take d (ts.length - 1)
 have h1 := lv_nonneg (show (0 : Int) < b32 by decide) d2
 have h2 := lv_lt (show (0 : Int) < b32 by decide) d2
 have hl : (ts.take (ts.length - 1)).length = ts.length - 1 := by simp
 rw [hl] at h2
 have e2 : b32 ^ ts.length = b32 ^ (ts.length - 1) * b32 := by rw [← Int.pow_succ]; congr 1; omega
 have hp := pos_pow (show (0 : Int) < b32 by decide) (ts.length - 1)
 rw [e, e2, b32_eq]
 generalize at0 ts (ts.length - 1) = t at *
 rw [b32_eq] at *
 generalize (4294967296 : Int) ^ (ts.length - 1) = p at *
 generalize lv 4294967296 (ts.take (ts.length - 1)) = u at *
 constructor
 ·intro h3
  apply Classical.byContradiction
  intro h4
  have : p * 2147483648 ≤ p * t := Int.mul_le_mul_of_nonneg_left (by omega) (by omega)
  omega
 ·intro h3
  have : p * t ≤ p * 2147483647 := Int.mul_le_mul_of_nonneg_left (by omega) (by omega)
  omega
theorem flip_all (m : Nat) {ts : List Int} (d : Ma.dg b32 ts) (hl : ts.length = m) : Ma.dg b32 ((List.range m).map fun j => bits .xor .u32 IntKind.u32.max (at0 ts j)) ∧ ((List.range m).map fun j => bits .xor .u32 IntKind.u32.max (at0 ts j)).length = m ∧ lv b32 ((List.range m).map fun j => bits .xor .u32 IntKind.u32.max (at0 ts j)) = b32 ^ m - 1 - lv b32 ts := by
 have e : ((List.range m).map fun j => bits .xor .u32 IntKind.u32.max (at0 ts j)) = (List.range m).map fun j => (b32 - 1) - at0 ts j := by
  apply List.map_congr_left
  intro j _
  rw [flip2 _ (by have := dg_at d (by decide) j; rw [b32_eq] at this; exact this), b32_eq]
  omega
 rw [e]
 refine ⟨fun x hx => ?_, by simp, ?_⟩
 ·obtain ⟨j, _, rfl⟩ := List.mem_map.1 hx
  have := dg_at d (by decide) j
  omega
 ·rw [lv_flip, lv_range_id _ _ _ (by omega)]
theorem Box.cellset {r n g i : Nat} {W : World} (hb : Box r n W) (h : r < g) (v : Value) : Box r n (W.setCell ⟨g, i, none⟩ v) := fun o ho => by
 obtain ⟨⟨x, hx, hn⟩, hf⟩ := hb o ho
 exact ⟨⟨x, by rw [World.cell?_setCell_other (h := by simp <;> omega)]; exact hx, hn⟩, by simp [World.frozen?_setCell]; exact hf⟩
set_option maxHeartbeats 1600000 in
set_option maxRecDepth 100000 in
theorem untwos_c {A : Option Addr} {c : Nat} {ts : List Int} {w : World} (rA : Rd w .u32 A ts) (hc : ts.length ≤ c) (d : dg b32 ts) (hl : ts.length ≤ 400000) (h0 : 0 < ts.length) :
  Calls Tryd.prog 45 #[.slice A ts.length c] w (Ret w (KI (sx ts.length (lv b32 ts)))) := by
 have hh := half_top d h0
 have nw1 : Nw w (w.alloc (.cells #[.bool false, .slice none 0 0] 28)) := (Nw.refl w).alloc _
 have sg0 : Sg [] w.heap.size 2 (w.alloc (.cells #[.bool false, .slice none 0 0] 28)) := ⟨trivial, box_two w 28 false none 0 0, by go_simp⟩
 obtain ⟨ad, hA, hcell⟩ := (rA.kept nw1.kept).2 (ts.length - 1) (by omega)
 subst hA
 obtain ⟨t0, t1⟩ := dg_at d (by decide) (ts.length - 1)
 have RA := Lib.hid (rA.kept nw1.kept)
 have SG := Lib.hid sg0
 clear rA sg0
 obtain ⟨t, ht⟩ : ∃ t, at0 ts (ts.length - 1) = t := ⟨_, rfl⟩
 rw [ht] at hh t0 t1 hcell
 rw [b32_eq] at t1
 have HH := Lib.hid hh
 clear ht hh
 have hzb : ((ts.length : Int) == 0) = false := by rw [beq_eq_false_iff_ne]; omega
 by_cases hs : t < 2147483648
 ·have hv : sx ts.length (lv b32 ts) = lv b32 ts := by unfold sx; rw [if_pos (HH.out.2 hs)]
  have HV := Lib.hid hv
  have hq : t / 2147483648 = 0 := by omega
  clear hv HH
  go_enter Tryd.func45, Tryd.ntmps45
  go_wp2_with (go_at_call 22; refine (make_c (n := false) RA.out d (by omega)).mono ?_; rintro e w2 ⟨_, rfl, ⟨m, D, l2, c2, rfl, hi⟩, hb2⟩; have b2 := (SG.out.nw hb2).2.1; obtain ⟨⟨v0, hv0, hn0⟩, hf0⟩ := b2 0 (by omega); obtain ⟨⟨v1, hv1, hn1⟩, hf1⟩ := b2 1 (by omega))
  have hi' := hi.eq (z' := sx ts.length (lv b32 ts)) (by rw [HV.out]; rfl)
  exact bodyPost_ret (v := .agg #[.bool m, .slice D l2 c2]) (by simp [results, Tryd.results45, go_sem, hv0, hv1]) rfl (Ret.I (hi'.kept (store_I b2 hi').1.2.1) ((nw1.trans hb2).rr (store_I b2 hi').1 (by omega)))
 ·have hv : sx ts.length (lv b32 ts) = lv b32 ts - b32 ^ ts.length := by unfold sx; rw [if_neg (fun h => hs (HH.out.1 h))]
  have HV := Lib.hid hv
  have hq : t / 2147483648 = 1 := by omega
  clear hv HH
  go_enter Tryd.func45, Tryd.ntmps45
  go_wp2_with (go_at_call 50; refine (clone_o (some ad) c ts _ RA.out (by omega)).mono ?_; rintro e w1 ⟨v1, rfl, o1, hb1⟩; obtain ⟨g, cap, rfl⟩ := o1.some' (by intro e; subst e; simp at h0))
  have ho' : w1.ownsRow (w.heap.size + 1) 56 1 (.slice (some ⟨g, 0, none⟩) ts.length cap) ts.length (ts.map (Value.int .u32)) := row_base (b' := w.heap.size + 1) o1 (by simp)
  have hg := row_ge ho'
  have hts : TwAt ts ts.length 0 (fun a => bits .xor .u32 IntKind.u32.max a) (ts.map (Value.int .u32)) := TwAt.start (by simp) (by rw [List.take_of_length_le (by simp)])
  have hn0 : Nw w w1 := nw1.trans hb1
  clear o1 hcell
  have SG1 := Lib.hid (SG.out.nw hb1)
  go_loopw [24] (fun ci wr => ∃ (i : Nat) (us : List Value), ci = .int .i64 i ∧ wr.ownsRow (w.heap.size + 1) 56 1 (.slice (some ⟨g, 0, none⟩) ts.length cap) ts.length us ∧ TwAt ts ts.length i (fun a => bits .xor .u32 IntKind.u32.max a) us ∧ Nw w wr ∧ Sg [] w.heap.size 2 wr)
   (fun ci _ => ts.length - (intOf ci).toNat)
  case atStart => exact ⟨0, _, rfl, ho', hts, hn0, SG1.out⟩
  case round =>
   obtain ⟨i, us, rfl, hu, ht, hn, hsg⟩ := hrel
   have hi := ht.le
   have hul := ht.len
   clear ho' hts hn0
   by_cases him : i < ts.length
   ·have fz := World.ownsRow.frozenAt hu i
    have ce := World.ownsRow.cellAt hu i (by omega)
    have HU := Lib.hid hu
    have HST := Lib.hid (ht.step him)
    have HSG := Lib.hid hsg
    have hrest := ht.rest i (Nat.le_refl _) him
    rw [hrest] at ce
    clear hrest ht hu hsg
    go_wp2
    exact ⟨⟨i + 1, _, by go_num, (World.ownsRow.stored HU.out i _).1, HST.out, hn.set (by simp; omega) _, ⟨trivial, HSG.out.2.1.cellset (by omega) _, by have := HSG.out.2.2; simp; omega⟩⟩, by simp [intOf]; omega⟩
   ·have hie : i = ts.length := by omega
    have hall := (hie ▸ ht : TwAt ts ts.length ts.length _ us).all
    have hw2 : Own wr (w.heap.size + 1) 56 .u32 (.slice (some ⟨g, 0, none⟩) ts.length cap) ((List.range ts.length).map fun j => bits .xor .u32 IntKind.u32.max (at0 ts j)) := by rw [hall] at hu; simpa [Own] using hu
    obtain ⟨hlen2, hc2, rd2⟩ := hw2.rdg
    obtain ⟨d2, l2', lv2⟩ := flip_all ts.length d rfl
    obtain ⟨Z, hZ⟩ : ∃ Z, Z = (List.range ts.length).map fun j => bits .xor .u32 IntKind.u32.max (at0 ts j) := ⟨_, rfl⟩
    rw [← hZ] at rd2 d2 lv2 hlen2
    have LV2 := Lib.hid lv2
    have HL2 := Lib.hid hlen2
    have HSG := Lib.hid hsg
    have hln := lv_nonneg (show (0 : Int) < b32 by decide) d2
    have hlt := lv_lt (show (0 : Int) < b32 by decide) d2
    have HLN := Lib.hid hln
    have HLT := Lib.hid hlt
    clear hall ht hu hie hsg hw2 hlen2 lv2 l2' hZ hln hlt
    go_wp2_with (first
     | (go_at_call 27; refine (made_l HL2.out false rd2 (by rw [← HL2.out]; exact hc2) d2).mono ?_; rintro e w5 ⟨_, rfl, ⟨m5, D5, l5, c5, rfl, hi5⟩, hb5⟩)
     | (go_at_call 66; refine (complement_c hi5 (Nat.le_trans (hi5.len_le ts.length (by have := HLN.out; have := pos_pow (show (0 : Int) < b32 by decide) ts.length; simp [sg]; omega) (by have := HLT.out; rw [← HL2.out] at this; simpa [sg] using this)) hl)).mono ?_; rintro e w6 ⟨_, rfl, ⟨m6, D6, l6, c6, rfl, hi6⟩, hb6⟩; have b2 := ((HSG.out.nw hb5).nw hb6).2.1; obtain ⟨⟨v0, hv0, hn0⟩, hf0⟩ := b2 0 (by omega); obtain ⟨⟨v1, hv1, hn1⟩, hf1⟩ := b2 1 (by omega)))
    have hi' := hi6.eq (z' := sx ts.length (lv b32 ts)) (by rw [HV.out, LV2.out]; simp [sg]; omega)
    exact bodyPost_ret (v := .agg #[.bool m6, .slice D6 l6 c6]) (by simp [results, Tryd.results45, go_sem, hv0, hv1]) rfl (Ret.I (hi'.kept (store_I b2 hi').1.2.1) (((hn.trans hb5).trans hb6).rr (store_I b2 hi').1 (by omega)))
end Go.Proofs.YthpjmhhfcechmaaDoor
