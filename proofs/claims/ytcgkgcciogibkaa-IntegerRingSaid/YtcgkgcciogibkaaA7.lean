/- The contracts of the program's Make, Limbs, small, New and complement; of Odd. -/
import Derived.Test.YtcgkgcciogibkaaA6
set_option linter.unusedVariables false
set_option linter.unusedSimpArgs false
namespace Go.Proofs.Ytcgkgcciogibkaa
open Go.RowKit Ma

set_option maxHeartbeats 1600000 in
set_option maxRecDepth 100000 in
theorem make_c {n : Bool} {A : Option Addr} {c : Nat} {xs : List Int} {w : World} (rA : Rd w .u32 A xs) (dx : dg b32 xs) (hl : xs.length ≤ 1000000) :
    Calls Try.prog 68 #[.bool n, .slice A xs.length c] w (Ret w (KI (sg n (lv b32 xs)))) := by
  have RA := Lib.hid rA
  clear rA
  have nw1 : Nw w (w.alloc (.cells #[.bool false, .slice none 0 0] 28)) := (Nw.refl w).alloc _
  have sg0 : Sg [] w.heap.size 2 (w.alloc (.cells #[.bool false, .slice none 0 0] 28)) := ⟨trivial, box_two w 28 false none 0 0, by go_simp⟩
  go_enter Try.func68, Try.ntmps68
  go_wp2_with (first
    | (go_at_call 112; refine (clone_c A c xs _ (RA.out.kept nw1.kept) hl).mono ?_; rintro e w1 ⟨_, rfl, ⟨zs, C, cc, rfl, hcc, rC, rfl⟩, hb⟩)
    | (go_at_call 81; refine (made_c n C cc xs _ rC hcc dx).mono ?_; rintro e w2 ⟨_, rfl, ⟨m, D, l2, c2, rfl, hi⟩, hb2⟩; have b2 := ((sg0.nw hb).nw hb2).2.1; obtain ⟨⟨v0, hv0, hn0⟩, hf0⟩ := b2 0 (by omega); obtain ⟨⟨v1, hv1, hn1⟩, hf1⟩ := b2 1 (by omega)))
  exact bodyPost_ret (v := .agg #[.bool m, .slice D l2 c2]) (by simp [results, Try.results68, go_sem, hv0, hv1]) rfl (Ret.I (hi.kept (store_I b2 hi).1.2.1) (((nw1.trans hb).trans hb2).rr (store_I b2 hi).1 (Nat.le_refl _)))

set_option maxHeartbeats 1600000 in
theorem limbs_c {x : Int} {n : Bool} {A : Option Addr} {l c : Nat} {w : World} (hx : RI w n A l c x) (hl : l ≤ 1000000) :
    Calls Try.prog 76 #[.agg #[.bool n, .slice A l c]] w (Ret w (K2 (KV (.bool n)) (KL .u32 fun zs => Num b32 n zs x))) := by
  obtain ⟨xs, rfl, hc, rA, nx⟩ := hx
  have RA := Lib.hid rA
  have NX := Lib.hid nx
  clear rA nx
  have nw1 : Nw w (w.alloc (.cells #[.bool n, .slice A xs.length c] 28)) := (Nw.refl w).alloc _
  have sg0 : Sg [(w.heap.size, 0, Value.bool n), (w.heap.size, 1, Value.slice A xs.length c)] (w.heap.size + 1) 0 (w.alloc (.cells #[.bool n, .slice A xs.length c] 28)) := ⟨⟨by go_simp, by go_simp, trivial⟩, box_zero _ _, by go_simp⟩
  go_enter Try.func76, Try.ntmps76
  go_wp2
  have n1 : Nw w _ := (nw1).drew
  have hw : w.heap.size ≤ w.heap.size + 1 := by omega
  refine region_std [(w.heap.size, 0, Value.bool n), (w.heap.size, 1, Value.slice A xs.length c)] (w.heap.size + 1) 0 1000 [(4, KL .u32 (fun zs => xs = zs))] (by kernel_rfl) (by kernel_rfl) (by kernel_rfl) (by kernel_rfl) ?_ ⟨.inr (KL.st _ _), trivial⟩ (sg0.nw (Nw.refl _).drew) ?_
  · first | trivial | (simp only [Low, and_true]; omega)
  repeat
    apply Rg.wpK_quiet rfl rfl
    case hq => intro W hS; obtain ⟨⟨q1, q2, _⟩, _⟩ := hS; go_simp; exact rfl
    case he => exact (by simp only [Act.put, List.setIfInBounds_toArray, List.set_cons_zero, List.set_cons_succ]; exact rfl)
  apply Rg.wpK_know rfl rfl
  case ha =>
    intro W hR hS hF
    have hn := n1.rr hR hw
    obtain ⟨⟨q1, q2, _⟩, hB, hr⟩ := hS
    unfold Rg.gives
    go_simp
    exact Rg.gives_enter (call_inr (clone_c A c xs _ (RA.out.kept hn.kept) hl) hr)
  intro u hu
  obtain ⟨W0, hw1, hw2, hf⟩ := hu
  obtain ⟨zs, C4, c4, e0, hx⟩ := Rg.upd_at rfl (hf 4)
  obtain ⟨l4, e1⟩ : ∃ n, n = zs.length := ⟨_, rfl⟩
  rw [← e1] at e0
  subst e0
  clear hx e1
  have hx := trivial
  refine ⟨_, (by simp only [Act.put, List.setIfInBounds_toArray, List.set_cons_zero, List.set_cons_succ]; exact rfl), ?_⟩
  clear hf hw1 hw2 hx W0
  repeat
    apply Rg.wpK_quiet rfl rfl
    case hq => intro W hS; obtain ⟨⟨q1, q2, _⟩, _⟩ := hS; go_simp; exact rfl
    case he => exact (by simp only [Act.put, List.setIfInBounds_toArray, List.set_cons_zero, List.set_cons_succ]; exact rfl)
  refine Rg.wpK_end fun w9 hR hS hF => ?_
  have hn := n1.rr hR hw
  have h4 := KL.slice (Rg.upd_at rfl (hF 4))
  go_wp2
  go_ret2
  obtain ⟨zs, rfl, h1, h2, rfl⟩ := h4
  exact ⟨_, rfl, ⟨_, _, rfl, rfl, ⟨_, C4, c4, rfl, h1, h2, NX.out⟩⟩, hn⟩

set_option maxHeartbeats 1600000 in
set_option maxRecDepth 100000 in
theorem small_c {u : Int} {w : World} (hu : 0 ≤ u ∧ u < 18446744073709551616) :
    Calls Try.prog 93 #[.int .u64 u] w (Ret w (KL .u32 fun zs => dg b32 zs ∧ lv b32 zs = u)) := by
  obtain ⟨hu0, hu1⟩ := hu
  have dz : dg b32 [u % 4294967296, u / 4294967296] := by
    intro x hx
    rw [b32_eq]
    simp at hx
    omega
  have lz : lv b32 [u % 4294967296, u / 4294967296] = u := by
    simp only [lv, b32_eq]; omega
  have DZ := Lib.hid dz
  have LZ := Lib.hid lz
  clear dz lz
  go_enter Try.func93, Try.ntmps93
  go_wp2_with (go_at_call 114; refine (trimmed_c _ 2 [u % 4294967296, u / 4294967296] _ (Rd.new2 _ _ _ _ _) (by simp)).mono ?_; rintro e w1 ⟨rfl, rfl⟩)
  go_ret
  have hlen := trim_len [u % 4294967296, u / 4294967296]
  exact Ret.L (Rd.new2 _ _ _ _ _).trim (by simpa using hlen) ⟨trim_dg DZ.out, by rw [trim_lv]; exact LZ.out⟩ ((Nw.refl w).alloc _)

set_option maxHeartbeats 1600000 in
set_option maxRecDepth 100000 in
theorem new_c {x : Int} {w : World} (hx : -9223372036854775808 ≤ x ∧ x < 9223372036854775808) :
    Calls Try.prog 41 #[.int .i64 x] w (Ret w (KI x)) := by
  obtain ⟨hx0, hx1⟩ := hx
  have nw1 : Nw w (w.alloc (.cells #[.bool false, .slice none 0 0] 28)) := (Nw.refl w).alloc _
  have sg0 : Sg [] w.heap.size 2 (w.alloc (.cells #[.bool false, .slice none 0 0] 28)) := ⟨trivial, box_two w 28 false none 0 0, by go_simp⟩
  by_cases hneg : x < 0
  · have hu : 0 ≤ -x ∧ -x < 18446744073709551616 := by omega
    have hwx : IntKind.u64.wrap (-IntKind.u64.wrap x) = -x := by simp only [IntKind.wrap_u64]; omega
    go_enter Try.func41, Try.ntmps41
    go_wp2_with (first
      | (go_at_call 93; refine (small_c (u := -x) hu).mono ?_; rintro e w1 ⟨_, rfl, ⟨zs, C, cc, rfl, hcc, rC, dz, ez⟩, hb⟩; have EZ := Lib.hid ez; clear ez)
      | (go_at_call 81; refine (made_c true C cc zs _ rC hcc dz).mono ?_; rintro e w2 ⟨_, rfl, ⟨m, D, l2, c2, rfl, hi⟩, hb2⟩; have b2 := ((sg0.nw hb).nw hb2).2.1; obtain ⟨⟨v0, hv0, hn0⟩, hf0⟩ := b2 0 (by omega); obtain ⟨⟨v1, hv1, hn1⟩, hf1⟩ := b2 1 (by omega)))
    have hi' := hi.eq (z' := x) (by rw [EZ.out]; unfold sg; (rw [if_pos rfl]; omega))
    exact bodyPost_ret (v := .agg #[.bool m, .slice D l2 c2]) (by simp [results, Try.results41, go_sem, hv0, hv1]) rfl (Ret.I (hi'.kept (store_I b2 hi').1.2.1) (((nw1.trans hb).trans hb2).rr (store_I b2 hi').1 (Nat.le_refl _)))
  · go_enter Try.func41, Try.ntmps41
    go_wp2_with (first
      | (go_at_call 93; refine (small_c (u := x) ⟨by omega, by omega⟩).mono ?_; rintro e w1 ⟨_, rfl, ⟨zs, C, cc, rfl, hcc, rC, dz, ez⟩, hb⟩; have EZ := Lib.hid ez; clear ez)
      | (go_at_call 81; refine (made_c false C cc zs _ rC hcc dz).mono ?_; rintro e w2 ⟨_, rfl, ⟨m, D, l2, c2, rfl, hi⟩, hb2⟩; have b2 := ((sg0.nw hb).nw hb2).2.1; obtain ⟨⟨v0, hv0, hn0⟩, hf0⟩ := b2 0 (by omega); obtain ⟨⟨v1, hv1, hn1⟩, hf1⟩ := b2 1 (by omega)))
    have hi' := hi.eq (z' := x) (by rw [EZ.out]; unfold sg; rfl)
    exact bodyPost_ret (v := .agg #[.bool m, .slice D l2 c2]) (by simp [results, Try.results41, go_sem, hv0, hv1]) rfl (Ret.I (hi'.kept (store_I b2 hi').1.2.1) (((nw1.trans hb).trans hb2).rr (store_I b2 hi').1 (Nat.le_refl _)))

set_option maxHeartbeats 1600000 in
theorem complement_c {x : Int} {n : Bool} {A : Option Addr} {l c : Nat} {w : World} (hx : RI w n A l c x) (hl : l ≤ 400000) :
    Calls Try.prog 110 #[.agg #[.bool n, .slice A l c]] w (Ret w (KI (-1 - x))) := by
  have hx2 := hx.abs_lt
  have HX := Lib.hid hx
  have HX2 := Lib.hid hx2
  clear hx hx2
  have nw1 : Nw w ((w.alloc (.cells #[.bool n, .slice A l c] 28)).alloc (.cells #[.bool false, .slice none 0 0] 28)) := ((Nw.refl w).alloc _).alloc _
  have sg0 : Sg [(w.heap.size, 0, Value.bool n), (w.heap.size, 1, Value.slice A l c)] (w.heap.size + 1) 2 ((w.alloc (.cells #[.bool n, .slice A l c] 28)).alloc (.cells #[.bool false, .slice none 0 0] 28)) := by
    refine ⟨⟨by go_simp, by go_simp, trivial⟩, ?_, by go_simp⟩
    have := box_two (w.alloc (.cells #[.bool n, .slice A l c] 28)) 28 false none 0 0
    simpa using this
  go_enter Try.func110, Try.ntmps110
  go_wp2_with (first
    | (go_at_call 32; refine (neg_c (HX.out.kept nw1.kept)).mono ?_; rintro e w1 ⟨_, rfl, ⟨m1, D1, l1, c1, rfl, i1⟩, hb1⟩)
    | (go_at_call 41; refine (new_c (x := 1) (by omega)).mono ?_; rintro e w2 ⟨_, rfl, ⟨m2, D2, l2, c2, rfl, i2⟩, hb2⟩)
    | (go_at_call 26; refine (sub_c (i1.kept hb2.kept) i2 (Nat.le_trans (i1.len_le l (by have := HX2.out; omega) (by have := HX2.out; omega)) (by omega)) (Nat.le_trans (i2.len_le 1 (by decide) (by decide)) (by omega))).mono ?_; rintro e w3 ⟨_, rfl, ⟨m3, D3, l3, c3, rfl, i3⟩, hb3⟩; have b2 := (((sg0.nw hb1).nw hb2).nw hb3).2.1; obtain ⟨⟨v0, hv0, hn0⟩, hf0⟩ := b2 0 (by omega); obtain ⟨⟨v1, hv1, hn1⟩, hf1⟩ := b2 1 (by omega)))
  have hi' := i3.eq (z' := -1 - x) (by omega)
  exact bodyPost_ret (v := .agg #[.bool m3, .slice D3 l3 c3]) (by simp [results, Try.results110, go_sem, hv0, hv1]) rfl (Ret.I (hi'.kept (store_I b2 hi').1.2.1) ((((nw1.trans hb1).trans hb2).trans hb3).rr (store_I b2 hi').1 (by omega)))
end Go.Proofs.Ytcgkgcciogibkaa
