/- Parts Ld, Sd, Jg, Syn, Gc, Da2, Ia, in one file. -/
import Derived.Test.YtcgkgcciogibkaaK3
import Derived.Test.YtcgkgcciogibkaaK4
import Derived.Test.YtcgkgcciogibkaaK5
import Derived.Test.YtcgkgcciogibkaaLActs2
import Derived.Test.YtcgkgcciogibkaaLActs3
import Derived.Test.YtcgkgcciogibkaaLActs4
/- The contract of the program's Divide, whole. -/
set_option linter.unusedVariables false
set_option linter.unusedSimpArgs false
namespace Go.Proofs.Ytcgkgcciogibkaa
open Go.RowKit Ma

theorem long_l {A B : Option Addr} {l l' c d : Nat} {xs ys : List Int} {w : World} (e : l = xs.length) (e' : l' = ys.length) (rA : Rd w .u32 A xs) (rB : Rd w .u32 B ys) (dx : dg b32 xs) (dy : dg b32 ys) (hl : xs.length ≤ 500000) (hn : 2 ≤ ys.length) (hle : ys.length ≤ xs.length) (ht : top ys) :
    Calls Try.prog 86 #[.slice A l c, .slice B l' d] w (Ret w (K2 (KL .u32 fun zs => dg b32 zs ∧ lv b32 zs = lv b32 xs / lv b32 ys ∧ zs.length ≤ xs.length) (KL .u32 fun zs => dg b32 zs ∧ lv b32 zs = lv b32 xs % lv b32 ys ∧ zs.length = ys.length))) := by
  subst e e'
  exact Sy.long_c rA rB dx dy hl hn hle ht
set_option maxHeartbeats 3200000 in
set_option maxRecDepth 100000 in
theorem divide_2 {x y : Int} {n m : Bool} {A B : Option Addr} {l l' c d : Nat} {w : World} (hx : RI w n A l c x) (hy : RI w m B l' d y) (hl : l ≤ 500000) (h2 : 2 ≤ l') (h1 : y.natAbs ≤ x.natAbs) :
    Calls Try.prog 29 #[.agg #[.bool n, .slice A l c], .agg #[.bool m, .slice B l' d]] w (Ret w (K3 (KI (x.tdiv y)) (KI (x.tmod y)) (KV (.int .i64 0)))) := by
  obtain ⟨xs, rfl, hc, rA, dx, tx, nx, rfl⟩ := hx
  obtain ⟨ys, rfl, hd, rB, dy, ty, ny, rfl⟩ := hy
  have hxn := lv_nonneg (show (0 : Int) < b32 by decide) dx
  have hyn := lv_nonneg (show (0 : Int) < b32 by decide) dy
  have e1 := sg_natAbs n _ hxn
  have e2 := sg_natAbs m _ hyn
  have HQ := Lib.hid (sg_tdiv n m _ _ hxn hyn)
  have HR := Lib.hid (sg_tmod n m _ _ hxn hyn)
  have hge : lv b32 ys ≤ lv b32 xs := by omega
  have hle := length_le (show (1 : Int) < b32 by decide) dy dx ty hge
  have hcm := Lib.hid (cmp_ge hge)
  have nw1 : Nw w ((((w.alloc (.cells #[.bool n, .slice A xs.length c] 28)).alloc (.cells #[.bool m, .slice B ys.length d] 28)).alloc (.cells #[.bool false, .slice none 0 0] 28)).alloc (.cells #[.bool false, .slice none 0 0] 28)) := ((((Nw.refl w).alloc _).alloc _).alloc _).alloc _
  have sg0 : Sg2 [(w.heap.size, 0, Value.bool n), (w.heap.size, 1, Value.slice A xs.length c), (w.heap.size + 1, 0, Value.bool m), (w.heap.size + 1, 1, Value.slice B ys.length d)] (w.heap.size + 1 + 1) (w.heap.size + 1 + 1 + 1) ((((w.alloc (.cells #[.bool n, .slice A xs.length c] 28)).alloc (.cells #[.bool m, .slice B ys.length d] 28)).alloc (.cells #[.bool false, .slice none 0 0] 28)).alloc (.cells #[.bool false, .slice none 0 0] 28)) := by
    refine ⟨⟨by go_simp, by go_simp, by go_simp, by go_simp, trivial⟩, ?_, ?_, by go_simp⟩
    · have h1 := box_two ((w.alloc (.cells #[.bool n, .slice A xs.length c] 28)).alloc (.cells #[.bool m, .slice B ys.length d] 28)) 28 false none 0 0
      have h2 := h1.below ((Nw.refl _).alloc (.cells #[.bool false, .slice none 0 0] 28))
      simpa using h2
    · have h1 := box_two (((w.alloc (.cells #[.bool n, .slice A xs.length c] 28)).alloc (.cells #[.bool m, .slice B ys.length d] 28)).alloc (.cells #[.bool false, .slice none 0 0] 28)) 28 false none 0 0
      simpa using h1
  have SG := Lib.hid sg0
  have RA := Lib.hid (rA.kept nw1.kept)
  have RB := Lib.hid (rB.kept nw1.kept)
  clear rA rB e1 e2 h1 hge hxn hyn
  go_enter Try.func29, Try.ntmps29
  go_wp2_with (go_at_call 83; refine (compared_c A B c d xs ys _ RA.out RB.out dx dy tx ty).mono ?_; rintro e w1 ⟨_, rfl, hk, hb⟩; have hcm1 := hcm.out; generalize cmp (lv b32 xs) (lv b32 ys) = cm at hcm1 hk; subst hk; obtain ⟨⟨q1, q2, q3, q4, _⟩, B1, B2, _⟩ := SG.out.nw hb; obtain ⟨⟨u0, hu0, hm0⟩, hf0⟩ := B1 0 (by omega); obtain ⟨⟨u1, hu1, hm1⟩, hf1⟩ := B1 1 (by omega); obtain ⟨⟨t0, ht0, hk0⟩, hg0⟩ := B2 0 (by omega); obtain ⟨⟨t1, ht1, hk1⟩, hg1⟩ := B2 1 (by omega))
  clear q1 q2 q3 q4 B1 B2 hu0 hu1 ht0 ht1 hf0 hf1 hg0 hg1 hm0 hm1 hk0 hk1
  refine (long_l rfl rfl (RA.out.kept hb.kept) (RB.out.kept hb.kept) dx dy hl h2 hle ty).mono ?_
  rintro e w2 ⟨_, rfl, ⟨v1, v2, rfl, ⟨zq, A1, c1, rfl, hq1, rq, dq, eq, lq⟩, ⟨zr, A2, c2, rfl, hr1, rr, dr, er, lr⟩⟩, hb2⟩
  have nw2 := nw1.trans (hb.trans hb2)
  have S2 := Lib.hid (SG.out.nw (hb.trans hb2))
  have RQ := Lib.hid rq
  have RR := Lib.hid rr
  have HQ1 := Lib.hid hq1
  have HR1 := Lib.hid hr1
  have EQ := Lib.hid eq
  have ER := Lib.hid er
  clear rq rr hq1 hr1 eq er lq lr
  go_wp2
  have n1 : Nw w _ := (nw2).drew
  have hw : w.heap.size ≤ w.heap.size + 1 + 1 := by omega
  refine region_two [(w.heap.size, 0, Value.bool n), (w.heap.size, 1, Value.slice A xs.length c), (w.heap.size + 1, 0, Value.bool m), (w.heap.size + 1, 1, Value.slice B ys.length d)] (w.heap.size + 1 + 1) (w.heap.size + 1 + 1 + 1) 1000 (KB (w.heap.size + 1 + 1) (sg (!(n == m)) (lv b32 xs / lv b32 ys)) undef) (KB (w.heap.size + 1 + 1 + 1) (sg n (lv b32 xs % lv b32 ys)) undef) [(2, KI (sg (!(n == m)) (lv b32 xs / lv b32 ys))), (6, KI (sg n (lv b32 xs % lv b32 ys))), (7, fun _ W => (KB (w.heap.size + 1 + 1) (sg (!(n == m)) (lv b32 xs / lv b32 ys)) undef) W), (8, fun _ W => (KB (w.heap.size + 1 + 1 + 1) (sg n (lv b32 xs % lv b32 ys)) undef) W)] (by kernel_rfl) (by kernel_rfl) (by kernel_rfl) (by kernel_rfl) ?_ ⟨St2.st (KI.st _), St2.st (KI.st _), St2.r, St2.s, trivial⟩ ((S2.out.nw (Nw.refl _).drew)) ?_
  · first | trivial | (simp only [Low, and_true]; omega)
  repeat
    apply Rg.wpK_quiet rfl rfl
    case hq => intro W hS; obtain ⟨⟨q1, q2, q3, q4, _⟩, _⟩ := hS; go_simp; exact rfl
    case he => exact (by simp only [Act.put, List.setIfInBounds_toArray, List.set_cons_zero, List.set_cons_succ]; exact rfl)
  apply Rg.wpK_know rfl rfl
  case ha =>
    intro W hR hS hF
    have hn := n1.r2 hR hw
    obtain ⟨⟨q1, q2, q3, q4, _⟩, hB1, hB2, hr⟩ := hS
    unfold Rg.gives
    go_simp
    exact Rg.gives_enter (call_r2 (KB.nwst _ _) (KB.nwst _ _) (ret_eq (made_l rfl (!(n == m)) ((RQ.out.kept (Nw.refl _).drew.kept).kept hR.2.1) HQ1.out dq) (by rw [EQ.out])) hr)
  intro u hu
  obtain ⟨W0, hw1, hw2, hf⟩ := hu
  obtain ⟨m2, D2, l2, c2, rfl, hx⟩ := Rg.upd_at rfl (hf 2)
  refine ⟨_, rfl, ?_⟩
  (first | (rw [put_list]; dsimp only [List.set_cons_zero, List.set_cons_succ]) | rw [put_none])
  clear hf hw1 hw2 hx W0
  repeat
    apply Rg.wpK_quiet rfl rfl
    case hq => intro W hS; obtain ⟨⟨q1, q2, q3, q4, _⟩, _⟩ := hS; go_simp; exact rfl
    case he => exact (by simp only [Act.put, List.setIfInBounds_toArray, List.set_cons_zero, List.set_cons_succ]; exact rfl)
  apply Rg.wpK_know rfl rfl
  case ha =>
    intro W hR hS hF
    have hn := n1.r2 hR hw
    obtain ⟨⟨q1, q2, q3, q4, _⟩, hB1, hB2, hr⟩ := hS
    unfold Rg.gives
    go_simp
    exact Rg.gives_enter (call_r2 (KB.nwst _ _) (KB.nwst _ _) (ret_eq (made_l rfl n ((RR.out.kept (Nw.refl _).drew.kept).kept hR.2.1) HR1.out dr) (by rw [ER.out])) hr)
  intro u hu
  obtain ⟨W0, hw1, hw2, hf⟩ := hu
  obtain ⟨m6, D6, l6, c6, rfl, hx⟩ := Rg.upd_at rfl (hf 6)
  refine ⟨_, rfl, ?_⟩
  (first | (rw [put_list]; dsimp only [List.set_cons_zero, List.set_cons_succ]) | rw [put_none])
  clear hf hw1 hw2 hx W0
  repeat
    apply Rg.wpK_quiet rfl rfl
    case hq => intro W hS; obtain ⟨⟨q1, q2, q3, q4, _⟩, _⟩ := hS; go_simp; exact rfl
    case he => exact (by simp only [Act.put, List.setIfInBounds_toArray, List.set_cons_zero, List.set_cons_succ]; exact rfl)
  apply Rg.wpK_know rfl rfl
  case ha =>
    intro W hR hS hF
    have hn := n1.r2 hR hw
    obtain ⟨⟨q1, q2, q3, q4, _⟩, hB1, hB2, hr⟩ := hS
    have i2 := KI.agg (Rg.upd_at rfl (Rg.upd_off rfl (hF 2 (by kernel_rfl))))
    obtain ⟨⟨v0, hv0, hn0⟩, hf0⟩ := hB1 0 (by omega)
    obtain ⟨⟨v1, hv1, hn1⟩, hf1⟩ := hB1 1 (by omega)
    unfold Rg.gives
    go_simp
    exact Rg.gives_skip (store_I1 (by omega) hB1 i2)
  intro u hu
  obtain ⟨W0, hw1, hw2, hf⟩ := hu
  have hx := trivial
  refine ⟨_, rfl, ?_⟩
  (first | (rw [put_list]; dsimp only [List.set_cons_zero, List.set_cons_succ]) | rw [put_none])
  clear hf hw1 hw2 hx W0
  repeat
    apply Rg.wpK_quiet rfl rfl
    case hq => intro W hS; obtain ⟨⟨q1, q2, q3, q4, _⟩, _⟩ := hS; go_simp; exact rfl
    case he => exact (by simp only [Act.put, List.setIfInBounds_toArray, List.set_cons_zero, List.set_cons_succ]; exact rfl)
  apply Rg.wpK_know rfl rfl
  case ha =>
    intro W hR hS hF
    have hn := n1.r2 hR hw
    obtain ⟨⟨q1, q2, q3, q4, _⟩, hB1, hB2, hr⟩ := hS
    have i6 := KI.agg (Rg.upd_at rfl (Rg.upd_off rfl (hF 6 (by kernel_rfl))))
    obtain ⟨⟨v0, hv0, hn0⟩, hf0⟩ := hB2 0 (by omega)
    obtain ⟨⟨v1, hv1, hn1⟩, hf1⟩ := hB2 1 (by omega)
    unfold Rg.gives
    go_simp
    exact Rg.gives_skip (store_I2 (by omega) hB2 i6)
  intro u hu
  obtain ⟨W0, hw1, hw2, hf⟩ := hu
  have hx := trivial
  refine ⟨_, rfl, ?_⟩
  (first | (rw [put_list]; dsimp only [List.set_cons_zero, List.set_cons_succ]) | rw [put_none])
  clear hf hw1 hw2 hx W0
  repeat
    apply Rg.wpK_quiet rfl rfl
    case hq => intro W hS; obtain ⟨⟨q1, q2, q3, q4, _⟩, _⟩ := hS; go_simp; exact rfl
    case he => exact (by simp only [Act.put, List.setIfInBounds_toArray, List.set_cons_zero, List.set_cons_succ]; exact rfl)
  refine Rg.wpK_end fun w9 hR hS hF => ?_
  have hn := n1.r2 hR hw
  have b1 := Rg.upd_at rfl (Rg.upd_off rfl (hF 7))
  have b2 := Rg.upd_at rfl (hF 8)
  obtain ⟨m1, D1, l1, c1, p0, p1, i1⟩ := b1
  obtain ⟨m2, D2, l2, c2, p2, p3, i2⟩ := b2
  go_wp2
  exact bodyPost_ret (v := .tuple #[.agg #[.bool m1, .slice D1 l1 c1], .agg #[.bool m2, .slice D2 l2 c2], .int .i64 0]) (by simp [results, Try.results29, go_sem, p0, p1, p2, p3]) rfl ⟨_, rfl, ⟨_, _, _, rfl, ⟨_, _, _, _, rfl, i1.eq HQ.out.symm⟩, ⟨_, _, _, _, rfl, i2.eq HR.out.symm⟩, rfl⟩, hn⟩
end Go.Proofs.Ytcgkgcciogibkaa
/- Divide, in the form that the rules want. -/
set_option linter.unusedVariables false
set_option linter.unusedSimpArgs false
namespace Go.Proofs.Ytcgkgcciogibkaa
open Go.RowKit Ma
theorem divide_c {x y : Int} {n m : Bool} {A B : Option Addr} {l l' c d : Nat} {w : World} (hx : RI w n A l c x) (hy : RI w m B l' d y) (hl : l ≤ 500000) (hy0 : y ≠ 0) :
    Calls Try.prog 29 #[.agg #[.bool n, .slice A l c], .agg #[.bool m, .slice B l' d]] w (Ret w (K3 (KI (x.tdiv y)) (KI (x.tmod y)) (KV (.int .i64 0)))) := by
  by_cases h : l' ≤ 1 ∨ x.natAbs < y.natAbs
  · exact divide_1 hx hy hl hy0 h
  · exact divide_2 hx hy hl (by omega) (by omega)
namespace Sy
open Go
theorem ce_div : CE 29 := fun args W => by go_simp
variable {x y : Int} {a b : Nat}
theorem k_div (hx : bd a x) (ha : a ≤ 300000) (hy : y ≠ 0) : CallOk 29 [KI x, KI y] (K3 (KI (x.tdiv y)) (KI (x.tmod y)) (KV (.int .i64 0))) := callII ce_div fun W n A l c m B l' d h1 h2 => divide_c h1 h2 (by have := h1.le hx ha; omega) hy
theorem k_div0 : CallOk 29 [KI x, KI 0] (K3 (KI 0) (KI 0) (KV (.int .i64 6))) := callII ce_div fun W n A l c m B l' d h1 h2 => divide_0 h1 h2
end Sy
/-! ### Bounds of quotients -/
theorem bd.tdiv {a : Nat} {x y : Int} (h : bd a x) : bd a (x.tdiv y) := by
  have h1 : (x.tdiv y).natAbs ≤ x.natAbs := by rw [Int.natAbs_tdiv]; exact Nat.div_le_self _ _
  unfold bd at *
  omega
theorem bd.tmod {a : Nat} {x y : Int} (h : bd a x) : bd a (x.tmod y) := by
  have h1 : (x.tmod y).natAbs ≤ x.natAbs := by rw [Int.natAbs_tmod]; exact Nat.mod_le _ _
  unfold bd at *
  omega
theorem bd.tmod2 {b : Nat} {x y : Int} (h : bd b y) (hy : y ≠ 0) : bd b (x.tmod y) := by
  have h1 : (x.tmod y).natAbs < y.natAbs := by rw [Int.natAbs_tmod]; exact Nat.mod_lt _ (by omega)
  unfold bd at *
  omega
end Go.Proofs.Ytcgkgcciogibkaa
/- The reference's Gcd, by rules. -/
set_option linter.unusedVariables false
set_option linter.unusedSimpArgs false
namespace Go.Proofs.Ytcgkgcciogibkaa.Sy
open Go Go.RowKit Ma
theorem ce_jgcd : CE 40 := fun args W => by go_simp
set_option maxHeartbeats 1600000 in
theorem k_jgcd0 {x y : Int} {n g : Nat} (X : bd n x) (Y : bd n y) (hn : n ≤ 300000) (hg : Nat.gcd x.natAbs y.natAbs = g) : CallOk 40 [KJ x, KJ y] (KJ (g : Int)) := by
  refine CallOk.enter (l := [.kw (KJ x), .kw (KJ y)]) 27 ce_jgcd Try.func40 rfl Try.ntmps40 (by simp) ⟨KJ.st _, rfl, KJ.st _, rfl, trivial⟩ fun w => ?_
  refine SC.seq ?_
  refine SC.region ?_
  refine PW.box (x := .tmp 0) (r := .kw (KJ (x))) (BI 31) rfl rfl rfl rfl rfl bJ rfl sh_J ?_
  refine PW.box (x := .tmp 1) (r := .kw (KJ (y))) (BI 31) rfl rfl rfl rfl rfl bJ rfl sh_J ?_
  refine PW.alloc (BI 31) rfl rfl rfl rfl rfl bJ ?_
  refine PW.nil ?_
  refine SX.then ?_
  refine SC.seq ?_
  refine SC.dx [.val 10 (.kw (KJ (x))), .val 11 (.kw (KJ (x.natAbs : Int))), .val 12 (.kw (KJ (y))), .val 13 (.kw (KJ (y.natAbs : Int))), .new 5 (BI 31), .new 6 (BI 31), .put 5 (BI 31) (.kw (KJ (x.natAbs : Int))), .put 6 (BI 31) (.kw (KJ (y.natAbs : Int)))] [([], [2]), ([0], []), ([], [3]), ([2], []), ([], []), ([], []), ([4, 1], []), ([5, 3], [])] rfl (by kernel_rfl) (by kernel_rfl) (by kernel_rfl) rfl ⟨?_, ?_, ?_, ?_, ?_, ?_, ?_, ?_, trivial⟩ ?_
  · exact DX.load rfl rfl rfl rfl rfl rfl
  · exact DX.call (r := .kw (KJ (x.natAbs : Int))) rfl rfl rfl rfl rfl rfl (KJ.st _) rfl (k_jabs)
  · exact DX.load rfl rfl rfl rfl rfl rfl
  · exact DX.call (r := .kw (KJ (y.natAbs : Int))) rfl rfl rfl rfl rfl rfl (KJ.st _) rfl (k_jabs)
  · exact DX.alloc (BI 31) rfl rfl rfl rfl bJ rfl
  · exact DX.alloc (BI 31) rfl rfl rfl rfl bJ rfl
  · exact DX.store (x := .tmp 11) (r := .kw (KJ (x.natAbs : Int))) rfl rfl rfl rfl rfl rfl sh_J
  · exact DX.store (x := .tmp 13) (r := .kw (KJ (y.natAbs : Int))) rfl rfl rfl rfl rfl rfl sh_J
  refine SX.then ?_
  refine SC.seq ?_
  refine SC.block ?_
  refine SC.loop (S := Nat × Nat) (fun ⟨a, b⟩ => [(4, .nb (BI 31)), (5, .bx (BI 31) (KJ ((a : Int)))), (6, .bx (BI 31) (KJ ((b : Int))))]) (fun ⟨a, b⟩ => Nat.gcd a b = g ∧ bd n (a : Int) ∧ bd n (b : Int)) (fun ⟨a, b⟩ => b) (x.natAbs, y.natAbs) ⟨hg, X.abs, Y.abs⟩ ⟨rfl, rfl, rfl, trivial⟩ ?_
  rintro ⟨a, b⟩ ⟨hi, A, B2⟩
  show SC _ _ _ _ [(4, .nb (BI 31)), (5, .bx (BI 31) (KJ ((a : Int)))), (6, .bx (BI 31) (KJ ((b : Int))))] _
  refine SC.seq ?_
  refine SC.seq ?_
  by_cases hb : (b : Int) = 0
  · obtain rfl : a = g := by rw [show b = 0 by omega] at hi; simpa using hi
    refine SC.region ?_
    refine PW.load rfl rfl rfl rfl rfl rfl ?_
    refine PW.call (r := .vl (.int .i64 (sgn ((b : Int))))) rfl rfl rfl rfl rfl rfl (KV.st _) rfl (k_jsign rfl) ?_
    refine PW.q2 (x := .tmp 15) (y := .const (.int .i64 0)) (.bool false) rfl rfl rfl rfl rfl (fun ρ W h1 h2 => by exact r_neF h1 h2 (by rw [hb]; rfl)) ?_
    refine PW.nil ?_
    refine SX.then ?_
    refine SC.cond (t := false) rfl ?_
    refine SC.exit ?_
    refine SX.thenE ?_
    refine SX.thenE ?_
    refine SX.blockE ?_
    refine SX.then ?_
    refine SC.seq ?_
    refine SC.region ?_
    refine PW.load rfl rfl rfl rfl rfl rfl ?_
    refine PW.store (x := .tmp 26) (r := .kw (KJ ((a : Int)))) rfl rfl rfl rfl rfl rfl sh_J ?_
    refine PW.nil ?_
    refine SX.then ?_
    refine SC.ret ?_
    exact SX.doneC (s := 4) (.inl rfl) rfl rfl rfl
  · refine SC.region ?_
    refine PW.load rfl rfl rfl rfl rfl rfl ?_
    refine PW.call (r := .vl (.int .i64 (sgn ((b : Int))))) rfl rfl rfl rfl rfl rfl (KV.st _) rfl (k_jsign rfl) ?_
    refine PW.q2 (x := .tmp 15) (y := .const (.int .i64 0)) (.bool true) rfl rfl rfl rfl rfl (fun ρ W h1 h2 => by exact r_neT h1 h2 (sgn_ne hb)) ?_
    refine PW.nil ?_
    refine SX.then ?_
    refine SC.cond (t := true) rfl ?_
    refine SC.skip ?_
    refine SX.then ?_
    refine SC.block ?_
    refine SC.seq ?_
    refine SC.region ?_
    refine PW.load rfl rfl rfl rfl rfl rfl ?_
    refine PW.load rfl rfl rfl rfl rfl rfl ?_
    refine PW.call (r := .kw (K3 (KJ (((a : Int)).tdiv ((b : Int)))) (KJ (((a : Int)).tmod ((b : Int)))) (KV (.int .i64 0)))) rfl rfl rfl rfl rfl rfl (K3.st (KJ.st _) (KJ.st _) (KV.st _)) rfl (k_jdiv A B2 (by omega) (by omega) hb) ?_
    refine PW.move rfl rfl rfl rfl rfl ?_
    refine PW.ext (r := .kw (KJ (((a : Int)).tdiv ((b : Int))))) rfl rfl rfl rfl rfl ex30 (KJ.st _) rfl ?_
    refine PW.ext (r := .kw (KJ (((a : Int)).tmod ((b : Int))))) rfl rfl rfl rfl rfl ex31 (KJ.st _) rfl ?_
    refine PW.ext (r := .vl (.int .i64 0)) rfl rfl rfl rfl rfl ex32v (KV.st _) rfl ?_
    refine PW.alloc (BI 31) rfl rfl rfl rfl rfl bJ ?_
    refine PW.alloc (BI 31) rfl rfl rfl rfl rfl bJ ?_
    refine PW.store (x := .tmp 21) (r := .kw (KJ (((a : Int)).tdiv ((b : Int))))) rfl rfl rfl rfl rfl rfl sh_J ?_
    refine PW.store (x := .tmp 22) (r := .kw (KJ (((a : Int)).tmod ((b : Int))))) rfl rfl rfl rfl rfl rfl sh_J ?_
    refine PW.assign rfl rfl rfl rfl rfl ?_
    refine PW.nil ?_
    refine SX.then ?_
    refine SC.dx [.val 24 (.kw (KJ ((b : Int)))), .val 25 (.kw (KJ (((a : Int)).tmod ((b : Int))))), .put 5 (BI 31) (.kw (KJ ((b : Int)))), .put 6 (BI 31) (.kw (KJ (((a : Int)).tmod ((b : Int)))))] [([], [6]), ([], [8]), ([0], [5]), ([1], [6])] rfl (by kernel_rfl) (by kernel_rfl) (by kernel_rfl) rfl ⟨?_, ?_, ?_, ?_, trivial⟩ ?_
    · exact DX.load rfl rfl rfl rfl rfl rfl
    · exact DX.load rfl rfl rfl rfl rfl rfl
    · exact DX.store (x := .tmp 24) (r := .kw (KJ ((b : Int)))) rfl rfl rfl rfl rfl rfl sh_J
    · exact DX.store (x := .tmp 25) (r := .kw (KJ (((a : Int)).tmod ((b : Int))))) rfl rfl rfl rfl rfl rfl sh_J
    refine SX.blockN ?_
    refine SX.back (b, a % b) ?_ ?_ ?_
    · exact ⟨by rw [← hi, Nat.gcd_comm a b, Nat.gcd_rec b a, Nat.gcd_comm], B2, (A.tmod (y := (b : Int)) : bd n ((a : Int).tmod (b : Int)))⟩
    · exact (show a % b < b from Nat.mod_lt _ (by omega))
    · exact ⟨rfl, rfl, rfl, trivial⟩
theorem k_jgcd {x y : Int} {a b : Nat} (X : bd a x) (Y : bd b y) (ha : a ≤ 300000) (hb : b ≤ 300000) : CallOk 40 [KJ x, KJ y] (KJ (Int.gcd x y : Int)) := k_jgcd0 (X.mono (Nat.le_max_left a b)) (Y.mono (Nat.le_max_right a b)) (by omega) rfl
end Go.Proofs.Ytcgkgcciogibkaa.Sy
/- A walk by rules: the laws' first statements: what came in as plain data. -/
set_option linter.unusedVariables false
set_option linter.unusedSimpArgs false
namespace Go.Proofs.Ytcgkgcciogibkaa.Sy
open Go Go.RowKit Ma
section
variable {B N : Nat} {w0 : World} {ops : Array Oper} {o : Oper} {rest : List Oper} {fr : List (Nat × AV)} {Q : Exit → Act → World → Prop} {d : Nat}
theorem loadV_run {T : TypeId} {s : Nat} {b : BT} {v : Value} {a : Act} {W : World} (hf : Fr B N w0 fr a W) (ho : o.op = .load T (.tmp s)) (hs : look fr s = some (.bx b (KV v))) (hT : b.T = T) : (execOp a.eval o).run Try.prog W = .ok (.value v) W := by
  obtain ⟨p, v', e, _, ⟨cs, hs1, hc⟩, hv, st, ok⟩ := hf.ho s _ hs
  obtain rfl : v' = v := hv
  have := run_val (ok.load v' cs W p hs1 fun i x hx => (hc i x hx).1)
  unfold execOp
  rw [ho]
  show (do pure (.value (← Instr.loadAt T (a.tmps.getD s undef))) : Sem Next).run Try.prog W = _
  rw [e, ← hT]
  exact this
theorem PW.loadV {T : TypeId} {s : Nat} {b : BT} {v : Value} (hw : wantB ops fr o = some true) (hd : o.dst = some d) (hN : Nat.blt d N = true) (ho : o.op = .load T (.tmp s)) (hs : look fr s = some (.bx b (KV v))) (hT : b.T = T) (hk : PW B N w0 ops rest ((d, .vl v) :: fr) Q) : PW B N w0 ops (o :: rest) fr Q :=
  PW.val (r := .vl v) hw hd hN rfl (fun a W hf => ⟨_, loadV_run hf ho hs hT, rfl⟩) hk
theorem DX.loadV {T : TypeId} {s : Nat} {b : BT} {v : Value} (hw : wantB ops fr o = some true) (hd : o.dst = some d) (hN : Nat.blt d N = true) (ho : o.op = .load T (.tmp s)) (hs : look fr s = some (.bx b (KV v))) (hT : b.T = T) : Eo B N w0 ops o fr (.val d (.vl v)) :=
  DX.val hw hd hN rfl (fun a W hf => ⟨_, loadV_run hf ho hs hT, rfl⟩)
/-- Short(most, x ..). -/
theorem PW.short {o2 : Oper} {d2 : Nat} {c : Call} (most : Nat) (ns : List Nn) {t : Bool} (ob : Obj) (hw : wantB ops fr o = some true) (hd : o.dst = some d) (hN : Nat.blt d N = true)
    (hq : ∀ a W, Fr B N w0 fr a W → (execOp a.eval o).run Try.prog W = .ok (.value (.slice (some ⟨W.heap.size, 0, none⟩) ns.length ns.length)) (W.alloc ob)) (hns : ∀ W : World, Ns (W.alloc ob) W.heap.size ns) (hL : ∀ x ∈ ns, x.2.2.1 ≤ 9223372036854775807) (hm : Nat.ble most 1000 = true) (hl : Nat.ble ns.length 1000 = true) (ht : shB most ns = t)
    (hw2 : wantB ops ((d, .kw KT) :: fr) o2 = some true) (hd2 : o2.dst = some d2) (hN2 : Nat.blt d2 N = true) (ho : o2.op = .call c) (hc : c.callee = .value (.func 14)) (ha : c.args = #[.const (.int .i64 (most : Int)), .tmp d])
    (hk : PW B N w0 ops rest ((d2, .vl (.bool t)) :: (d, .kw KT) :: fr) Q) : PW B N w0 ops (o :: o2 :: rest) fr Q :=
  PW.step hw fun a W hf K' hK' => by
    unfold Oper.wp
    rw [hq a W hf, Oper.upon_value, hd]
    have hf1 := (hf.nw ((Nw.refl W).alloc ob)).set (v := .vl (.slice (some ⟨W.heap.size, 0, none⟩) ns.length ns.length)) hN (u := .slice (some ⟨W.heap.size, 0, none⟩) ns.length ns.length) rfl rfl
    have hf2 := (hf.nw ((Nw.refl W).alloc ob)).set (v := .kw KT) hN (u := .slice (some ⟨W.heap.size, 0, none⟩) ns.length ns.length) ⟨trivial, KT.st⟩ rfl
    refine hK' _ _ (wpList_step fun K2 hK2 => ?_)
    rw [if_pos (wantB_spec hf2 hw2)]
    have s1 : (a.put (some d) (.slice (some ⟨W.heap.size, 0, none⟩) ns.length ns.length)).eval (.tmp d) = .slice (some ⟨W.heap.size, 0, none⟩) ns.length ns.length := hf1.vl (s := d) (by rw [look_cons, if_pos rfl])
    obtain ⟨dst, op, ty, pos, after, guard⟩ := o2
    simp only at ho hd2
    subst ho
    subst hd2
    unfold Oper.wp
    have ce : CE 14 := fun args W => by go_simp
    rw [run_call ce hc _ rfl ty _]
    simp only [Oper.upon]
    have e0 : c.args.map (a.put (some d) (.slice (some ⟨W.heap.size, 0, none⟩) ns.length ns.length)).eval = #[.int .i64 (most : Int), .slice (some ⟨W.heap.size, 0, none⟩) ns.length ns.length] := by
      rw [ha, List.map_toArray]; exact congrArg (fun z => #[Value.int .i64 (most : Int), z]) s1
    rw [e0]
    refine (short_l (b := W.heap.size) most ns rfl rfl (hns W) (Nat.le_of_ble_eq_true hm) (Nat.le_of_ble_eq_true hl) hL).mono fun e W' ⟨v, he, hv, hn⟩ => ?_
    subst he
    obtain rfl : v = _ := hv
    exact hK2 _ _ (hk _ _ ((hf2.nw hn).set hN2 (v := .vl (.bool t)) (by show Value.bool _ = _; rw [ht]) rfl))
end
section
variable {x y z : Operand} {dst : Option Tmp} {ty : TypeId} {pos : String} {after : Array Edge} {guard : Option (Nat × Bool)} {ρ : Operand → Value} {W : World}
variable {n1 n2 n3 : Bool} {A1 A2 A3 : Option Addr} {l1 l2 l3 c1 c2 c3 : Nat}
theorem r_bN1 (h1 : ρ x = .agg #[.bool n1, .slice A1 l1 c1]) : (execOp ρ ⟨dst, .buildSlice 87 1 #[(0, x)], ty, pos, after, guard⟩).run Try.prog W = .ok (.value (.slice (some ⟨W.heap.size, 0, none⟩) 1 1)) (W.alloc (.cells #[.bool n1, .slice A1 l1 c1] 24)) := by
  go_simp
theorem r_bN2 (h1 : ρ x = .agg #[.bool n1, .slice A1 l1 c1]) (h2 : ρ y = .agg #[.bool n2, .slice A2 l2 c2]) : (execOp ρ ⟨dst, .buildSlice 87 2 #[(0, x), (1, y)], ty, pos, after, guard⟩).run Try.prog W = .ok (.value (.slice (some ⟨W.heap.size, 0, none⟩) 2 2)) (W.alloc (.cells #[.bool n1, .slice A1 l1 c1, .bool n2, .slice A2 l2 c2] 24)) := by
  go_simp
end
section
variable {n1 n2 n3 : Bool} {A1 A2 A3 : Option Addr} {l1 l2 l3 c1 c2 c3 : Nat}
theorem ns_lit1 (W : World) : Ns (W.alloc (.cells #[.bool n1, .slice A1 l1 c1] 24)) W.heap.size [(n1, A1, l1, c1)] := by
  intro i n A l c e
  match i, e with
  | 0, e => simp at e; obtain ⟨rfl, rfl, rfl, rfl⟩ := e; exact ⟨by go_simp, by go_simp⟩
  | i + 1, e => simp at e
theorem ns_lit2 (W : World) : Ns (W.alloc (.cells #[.bool n1, .slice A1 l1 c1, .bool n2, .slice A2 l2 c2] 24)) W.heap.size [(n1, A1, l1, c1), (n2, A2, l2, c2)] := by
  intro i n A l c e
  match i, e with
  | 0, e => simp at e; obtain ⟨rfl, rfl, rfl, rfl⟩ := e; exact ⟨by go_simp, by go_simp⟩
  | 1, e => simp at e; obtain ⟨rfl, rfl, rfl, rfl⟩ := e; exact ⟨by go_simp, by go_simp⟩
  | i + 2, e => simp at e
theorem In.lim {w : World} {A : Option Addr} {l c : Nat} {xs : List Int} (h : In w A l c xs) : l ≤ 9223372036854775807 := h.1 ▸ h.2.2.1.1
theorem of_in {w W : World} {n : Bool} {A : Option Addr} {l c : Nat} {xs : List Int} {x : Int} (h : In w A l c xs) (be : Below w.heap.size w W) (hl : l ≤ 1000000) (hx : x = sg n (lv b32 xs)) : Calls Try.prog 16 #[.agg #[.bool n, .slice A l c]] W (Ret W (K2 (KI x) (KJ x))) := by
  obtain ⟨rfl, _, rd, d⟩ := h
  subst hx
  exact lawof_c (Rd.below rd be) d hl
end
end Go.Proofs.Ytcgkgcciogibkaa.Sy
/- The contract of the program's Gcd, by rules. -/
set_option linter.unusedVariables false
set_option linter.unusedSimpArgs false
namespace Go.Proofs.Ytcgkgcciogibkaa.Sy
open Go Go.RowKit Ma
theorem ce_gcd : CE 39 := fun args W => by go_simp
theorem sgn_one {x : Int} (h : 0 < x) : sgn x = 1 := by unfold sgn; rw [if_neg (by omega), if_neg (by omega)]
set_option maxHeartbeats 1600000 in
theorem k_gcd0 {x y : Int} {n g : Nat} (X : bd n x) (Y : bd n y) (hn : n ≤ 300000) (hg : Nat.gcd x.natAbs y.natAbs = g) : CallOk 39 [KI x, KI y] (KI (g : Int)) := by
  refine CallOk.enter (l := [.kw (KI x), .kw (KI y)]) 25 ce_gcd Try.func39 rfl Try.ntmps39 (by simp) ⟨KI.st _, rfl, KI.st _, rfl, trivial⟩ fun w => ?_
  refine SC.seq ?_
  refine SC.region ?_
  refine PW.box (x := .tmp 0) (r := .kw (KI (x))) (BI 28) rfl rfl rfl rfl rfl bI rfl sh_I ?_
  refine PW.box (x := .tmp 1) (r := .kw (KI (y))) (BI 28) rfl rfl rfl rfl rfl bI rfl sh_I ?_
  refine PW.alloc (BI 28) rfl rfl rfl rfl rfl bI ?_
  refine PW.nil ?_
  refine SX.then ?_
  refine SC.seq ?_
  refine SC.dx [.val 8 (.kw (KI (x))), .val 9 (.kw (KI ((x.natAbs : Int)))), .val 10 (.kw (KI (y))), .val 11 (.kw (KI ((y.natAbs : Int)))), .put 2 (BI 28) (.kw (KI ((x.natAbs : Int)))), .put 3 (BI 28) (.kw (KI ((y.natAbs : Int))))] [([], [2]), ([0], []), ([], [3]), ([2], []), ([1], [2]), ([3], [3])] rfl (by kernel_rfl) (by kernel_rfl) (by kernel_rfl) rfl ⟨?_, ?_, ?_, ?_, ?_, ?_, trivial⟩ ?_
  · exact DX.load rfl rfl rfl rfl rfl rfl
  · exact DX.call (r := .kw (KI ((x.natAbs : Int)))) rfl rfl rfl rfl rfl rfl (KI.st _) rfl (k_abs)
  · exact DX.load rfl rfl rfl rfl rfl rfl
  · exact DX.call (r := .kw (KI ((y.natAbs : Int)))) rfl rfl rfl rfl rfl rfl (KI.st _) rfl (k_abs)
  · exact DX.store (x := .tmp 9) (r := .kw (KI ((x.natAbs : Int)))) rfl rfl rfl rfl rfl rfl sh_I
  · exact DX.store (x := .tmp 11) (r := .kw (KI ((y.natAbs : Int)))) rfl rfl rfl rfl rfl rfl sh_I
  refine SX.then ?_
  refine SC.seq ?_
  refine SC.block ?_
  refine SC.loop (S := Nat × Nat) (fun ⟨a, b⟩ => [(2, .bx (BI 28) (KI ((a : Int)))), (3, .bx (BI 28) (KI ((b : Int)))), (4, .nb (BI 28))]) (fun ⟨a, b⟩ => Nat.gcd a b = g ∧ bd n (a : Int) ∧ bd n (b : Int)) (fun ⟨a, b⟩ => b) (x.natAbs, y.natAbs) ⟨hg, X.abs, Y.abs⟩ ⟨rfl, rfl, rfl, trivial⟩ ?_
  rintro ⟨a, b⟩ ⟨hi, A, B⟩
  show SC _ _ _ _ [(2, .bx (BI 28) (KI ((a : Int)))), (3, .bx (BI 28) (KI ((b : Int)))), (4, .nb (BI 28))] _
  refine SC.seq ?_
  refine SC.seq ?_
  by_cases hb : (b : Int) = 0
  · obtain rfl : b = 0 := by omega
    obtain rfl : a = g := by simpa using hi
    refine SC.region ?_
    refine PW.load rfl rfl rfl rfl rfl rfl ?_
    refine PW.call (r := .vl (.int .i64 0)) rfl rfl rfl rfl rfl rfl (KV.st _) rfl (k_sign (by rw [hb]; rfl)) ?_
    refine PW.q2 (x := .tmp 13) (y := .const (.int .i64 0)) (.bool false) rfl rfl rfl rfl rfl (fun ρ W h1 h2 => by go_simp) ?_
    refine PW.nil ?_
    refine SX.then ?_
    refine SC.cond (t := false) rfl ?_
    refine SC.exit ?_
    refine SX.thenE ?_
    refine SX.thenE ?_
    refine SX.blockE ?_
    refine SX.then ?_
    refine SC.seq ?_
    refine SC.region ?_
    refine PW.load rfl rfl rfl rfl rfl rfl ?_
    refine PW.store (x := .tmp 24) (r := .kw (KI ((a : Int)))) rfl rfl rfl rfl rfl rfl sh_I ?_
    refine PW.nil ?_
    refine SX.then ?_
    refine SC.ret ?_
    exact SX.doneC (s := 4) (.inl rfl) rfl rfl rfl
  · refine SC.region ?_
    refine PW.load rfl rfl rfl rfl rfl rfl ?_
    refine PW.call (r := .vl (.int .i64 1)) rfl rfl rfl rfl rfl rfl (KV.st _) rfl (k_sign (sgn_one (by omega))) ?_
    refine PW.q2 (x := .tmp 13) (y := .const (.int .i64 0)) (.bool true) rfl rfl rfl rfl rfl (fun ρ W h1 h2 => by go_simp) ?_
    refine PW.nil ?_
    refine SX.then ?_
    refine SC.cond (t := true) rfl ?_
    refine SC.skip ?_
    refine SX.then ?_
    refine SC.block ?_
    refine SC.seq ?_
    refine SC.region ?_
    refine PW.load rfl rfl rfl rfl rfl rfl ?_
    refine PW.load rfl rfl rfl rfl rfl rfl ?_
    refine PW.call (r := .kw (K3 (KI (((a : Int)).tdiv ((b : Int)))) (KI (((a : Int)).tmod ((b : Int)))) (KV (.int .i64 0)))) rfl rfl rfl rfl rfl rfl (K3.st (KI.st _) (KI.st _) (KV.st _)) rfl (k_div A (by first | decide | omega) hb) ?_
    refine PW.move rfl rfl rfl rfl rfl ?_
    refine PW.ext (r := .kw (KI (((a : Int)).tdiv ((b : Int))))) rfl rfl rfl rfl rfl ex30 (KI.st _) rfl ?_
    refine PW.ext (r := .kw (KI (((a : Int)).tmod ((b : Int))))) rfl rfl rfl rfl rfl ex31 (KI.st _) rfl ?_
    refine PW.ext (r := .vl (.int .i64 0)) rfl rfl rfl rfl rfl ex32v (KV.st _) rfl ?_
    refine PW.alloc (BI 28) rfl rfl rfl rfl rfl bI ?_
    refine PW.alloc (BI 28) rfl rfl rfl rfl rfl bI ?_
    refine PW.store (x := .tmp 19) (r := .kw (KI (((a : Int)).tdiv ((b : Int))))) rfl rfl rfl rfl rfl rfl sh_I ?_
    refine PW.store (x := .tmp 20) (r := .kw (KI (((a : Int)).tmod ((b : Int))))) rfl rfl rfl rfl rfl rfl sh_I ?_
    refine PW.assign rfl rfl rfl rfl rfl ?_
    refine PW.nil ?_
    refine SX.then ?_
    refine SC.dx [.val 22 (.kw (KI ((b : Int)))), .val 23 (.kw (KI (((a : Int)).tmod ((b : Int))))), .put 2 (BI 28) (.kw (KI ((b : Int)))), .put 3 (BI 28) (.kw (KI (((a : Int)).tmod ((b : Int)))))] [([], [3]), ([], [6]), ([0], [2]), ([1], [3])] rfl (by kernel_rfl) (by kernel_rfl) (by kernel_rfl) rfl ⟨?_, ?_, ?_, ?_, trivial⟩ ?_
    · exact DX.load rfl rfl rfl rfl rfl rfl
    · exact DX.load rfl rfl rfl rfl rfl rfl
    · exact DX.store (x := .tmp 22) (r := .kw (KI ((b : Int)))) rfl rfl rfl rfl rfl rfl sh_I
    · exact DX.store (x := .tmp 23) (r := .kw (KI (((a : Int)).tmod ((b : Int))))) rfl rfl rfl rfl rfl rfl sh_I
    refine SX.blockN ?_
    refine SX.back (b, a % b) ?_ ?_ ?_
    · exact ⟨by rw [← hi, Nat.gcd_comm a b, Nat.gcd_rec b a, Nat.gcd_comm], B, (A.tmod (y := (b : Int)) : bd n ((a : Int).tmod (b : Int)))⟩
    · exact (show a % b < b from Nat.mod_lt _ (by omega))
    · exact ⟨rfl, rfl, rfl, trivial⟩
theorem k_gcd {x y : Int} {a b : Nat} (X : bd a x) (Y : bd b y) (ha : a ≤ 300000) (hb : b ≤ 300000) : CallOk 39 [KI x, KI y] (KI (Int.gcd x y : Int)) := k_gcd0 (X.mono (Nat.le_max_left a b)) (Y.mono (Nat.le_max_right a b)) (by omega) rfl
end Go.Proofs.Ytcgkgcciogibkaa.Sy
/- IntegerDivides: the law behind its first statements, by rules. -/
set_option linter.unusedVariables false
set_option linter.unusedSimpArgs false
namespace Go.Proofs.Ytcgkgcciogibkaa.Sy
open Go Go.RowKit Ma
theorem k_div0' {x y : Int} (h : y = 0) : CallOk 29 [KI x, KI y] (K3 (KI 0) (KI 0) (KV (.int .i64 6))) := by subst h; exact k_div0
theorem sgn_nz {x : Int} (h : x ≠ 0) : sgn x ≠ 0 := by unfold sgn; split <;> simp_all
theorem mul_tdiv (x y : Int) : y * x.tdiv y + x.tmod y = x := Int.mul_tdiv_add_tmod x y
theorem sgn_tmod {x y : Int} (h : x.tmod y ≠ 0) : sgn (x.tmod y) = sgn x := by
  unfold sgn
  rcases Int.lt_trichotomy x 0 with hx | hx | hx
  · have h1 := Int.tmod_nonneg (a := -x) y (by omega)
    rw [Int.neg_tmod] at h1
    rw [if_pos (by omega), if_pos hx]
  · subst hx; simp at h
  · have := Int.tmod_nonneg (a := x) y (by omega)
    rw [if_neg (by omega), if_neg h, if_neg (by omega), if_neg (by omega)]
theorem nz_tmod {x y : Int} (h : x.tmod y ≠ 0) : x ≠ 0 := fun e => h (by rw [e]; exact Int.zero_tmod y)
theorem gcd_nz {x y : Int} (h : y ≠ 0) : (Int.gcd x y : Int) ≠ 0 := by
  intro e
  have : Int.gcd x y = 0 := by omega
  exact h (Int.gcd_eq_zero_iff.1 this).2
theorem gcd_mul (x y z : Int) : (Int.gcd (x * z) (y * z) : Int) = (Int.gcd x y : Int) * (z.natAbs : Int) := by rw [Int.gcd_mul_right, Int.natCast_mul]
theorem gcd_dvd {x y z : Int} (h1 : x.tmod z = 0) (h2 : y.tmod z = 0) : z ∣ (Int.gcd x y : Int) := Int.dvd_coe_gcd (Int.dvd_of_tmod_eq_zero h1) (Int.dvd_of_tmod_eq_zero h2)
theorem bd.gcd {x y : Int} {a b : Nat} (X : bd a x) (Y : bd b y) : bd (max a b) (Int.gcd x y : Int) := by
  have h1 := X.mono (Nat.le_max_left a b)
  have h2 := Y.mono (Nat.le_max_right a b)
  by_cases hy : y = 0
  · subst hy
    rw [Int.gcd_zero_right]
    exact h1.abs
  · have h3 : Int.gcd x y ≤ y.natAbs := Nat.le_of_dvd (by omega) (Nat.gcd_dvd_right _ _)
    unfold bd at *
    omega
section
variable {x y : Operand} {dst : Option Tmp} {ty : TypeId} {pos : String} {after : Array Edge} {guard : Option (Nat × Bool)} {ρ : Operand → Value} {W : World} {a b : Int}
theorem r_eqs (h1 : ρ x = .int .i64 a) (h2 : ρ y = .int .i64 b) (e : a ≠ b) : (execOp ρ ⟨dst, .binOp .eql 3 x y 3, ty, pos, after, guard⟩).run Try.prog W = .ok (.value (.bool false)) W := by
  have e1 : (a == b) = false := by simpa using e
  go_simp
theorem r_nes (h1 : ρ x = .int .i64 a) (h2 : ρ y = .int .i64 b) (e : a ≠ b) : (execOp ρ ⟨dst, .binOp .neq 3 x y 3, ty, pos, after, guard⟩).run Try.prog W = .ok (.value (.bool true)) W := by
  have e1 : (a == b) = false := by simpa using e
  have e2 : (a != b) = true := by simpa using e
  go_simp
end
set_option maxHeartbeats 6400000 in
set_option maxRecDepth 100000 in
theorem div_body {x y z : Int} {w0 : World} (X : bd 6 x) (Y : bd 6 y) (Z : bd 6 z) :
    SC w0.heap.size 187 w0 (restOf 4 Try.f6) [(6, .vl (.bool false)), (8, .bx (BI 28) (KI (x))), (9, .bx (BI 28) (KI (y))), (10, .bx (BI 28) (KI (z)))] (bodyPost Try.prog Try.f6 (Ret w0 (KV (.bool true)))) := by
  conv => arg 4; whnf
  refine SC.seq ?_
  by_cases hy : y = 0
  · refine SC.region ?_
    refine PW.load rfl rfl rfl rfl rfl rfl ?_
    refine PW.load rfl rfl rfl rfl rfl rfl ?_
    refine PW.call (r := .kw (K3 (KI (0)) (KI (0)) (KV (.int .i64 6)))) rfl rfl rfl rfl rfl rfl (K3.st (KI.st _) (KI.st _) (KV.st _)) rfl (k_div0' hy) ?_
    refine PW.move rfl rfl rfl rfl rfl ?_
    refine PW.ext (r := .kw (KI (0))) rfl rfl rfl rfl rfl ex30 (KI.st _) rfl ?_
    refine PW.ext (r := .kw (KI (0))) rfl rfl rfl rfl rfl ex31 (KI.st _) rfl ?_
    refine PW.ext (r := .vl (.int .i64 6)) rfl rfl rfl rfl rfl ex32v (KV.st _) rfl ?_
    refine PW.alloc (BI 28) rfl rfl rfl rfl rfl bI ?_
    refine PW.alloc (BI 28) rfl rfl rfl rfl rfl bI ?_
    refine PW.store (x := .tmp 54) (r := .kw (KI (0))) rfl rfl rfl rfl rfl rfl sh_I ?_
    refine PW.store (x := .tmp 55) (r := .kw (KI (0))) rfl rfl rfl rfl rfl rfl sh_I ?_
    refine PW.assign rfl rfl rfl rfl rfl ?_
    refine PW.nil ?_
    refine SX.then ?_
    refine SC.seq ?_
    refine SC.seq ?_
    refine SC.region ?_
    refine PW.load rfl rfl rfl rfl rfl rfl ?_
    refine PW.call (r := .vl (.int .i64 0)) rfl rfl rfl rfl rfl rfl (KV.st _) rfl (k_sign (by rw [hy]; rfl)) ?_
    refine PW.q2 (x := .tmp 58) (y := .const (.int .i64 0)) (.bool true) rfl rfl rfl rfl rfl (fun ρ W h1 h2 => by go_simp) ?_
    refine PW.nil ?_
    refine SX.then ?_
    refine SC.cond (t := true) rfl ?_
    refine SC.seq ?_
    refine SC.region ?_
    refine PW.move rfl rfl rfl rfl rfl ?_
    refine PW.q2 (x := .tmp 60) (y := .const (.int .i64 6)) (.bool true) rfl rfl rfl rfl rfl (fun ρ W h1 h2 => by go_simp) ?_
    refine PW.move rfl rfl rfl rfl rfl ?_
    refine PW.call (r := .vl (.bool true)) rfl rfl rfl rfl rfl rfl (KV.st _) rfl (k_awake) ?_
    refine PW.pick (t := true) rfl rfl rfl rfl rfl rfl ?_
    refine PW.assign rfl rfl rfl rfl rfl ?_
    refine PW.nil ?_
    refine SX.then ?_
    refine SC.ret ?_
    refine SX.thenR ?_
    exact SX.done (r := .vl (.bool true)) rfl rfl rfl
  · have hG : (Int.gcd x y : Int) ≠ 0 := gcd_nz hy
    have hG0 : 0 ≤ (Int.gcd x y : Int) := by omega
    refine SC.region ?_
    refine PW.load rfl rfl rfl rfl rfl rfl ?_
    refine PW.load rfl rfl rfl rfl rfl rfl ?_
    refine PW.call (r := .kw (K3 (KI (x.tdiv y)) (KI (x.tmod y)) (KV (.int .i64 0)))) rfl rfl rfl rfl rfl rfl (K3.st (KI.st _) (KI.st _) (KV.st _)) rfl (k_div X (by first | decide | omega) hy) ?_
    refine PW.move rfl rfl rfl rfl rfl ?_
    refine PW.ext (r := .kw (KI (x.tdiv y))) rfl rfl rfl rfl rfl ex30 (KI.st _) rfl ?_
    refine PW.ext (r := .kw (KI (x.tmod y))) rfl rfl rfl rfl rfl ex31 (KI.st _) rfl ?_
    refine PW.ext (r := .vl (.int .i64 0)) rfl rfl rfl rfl rfl ex32v (KV.st _) rfl ?_
    refine PW.alloc (BI 28) rfl rfl rfl rfl rfl bI ?_
    refine PW.alloc (BI 28) rfl rfl rfl rfl rfl bI ?_
    refine PW.store (x := .tmp 54) (r := .kw (KI (x.tdiv y))) rfl rfl rfl rfl rfl rfl sh_I ?_
    refine PW.store (x := .tmp 55) (r := .kw (KI (x.tmod y))) rfl rfl rfl rfl rfl rfl sh_I ?_
    refine PW.assign rfl rfl rfl rfl rfl ?_
    refine PW.nil ?_
    refine SX.then ?_
    refine SC.seq ?_
    refine SC.seq ?_
    refine SC.region ?_
    refine PW.load rfl rfl rfl rfl rfl rfl ?_
    refine PW.call (r := .vl (.int .i64 (sgn y))) rfl rfl rfl rfl rfl rfl (KV.st _) rfl (k_sign (rfl)) ?_
    refine PW.q2 (x := .tmp 58) (y := .const (.int .i64 0)) (.bool false) rfl rfl rfl rfl rfl (fun ρ W h1 h2 => by exact r_eqs h1 h2 (sgn_nz hy)) ?_
    refine PW.nil ?_
    refine SX.then ?_
    refine SC.cond (t := false) rfl ?_
    refine SC.skip ?_
    refine SX.then ?_
    refine SC.seq ?_
    refine SC.seq ?_
    by_cases hr : x.tmod y = 0
    · refine SC.dx [.val 65 (.vl (.int .i64 0)), .val 66 (.vl (.bool false)), .val 67 (.vl (.bool false)), .val 68 (.kw (KI (y))), .val 69 (.kw (KI (x.tdiv y))), .val 70 (.kw (KI (y * (x.tdiv y)))), .val 71 (.kw (KI (x.tmod y))), .val 72 (.kw (KI ((y * (x.tdiv y)) + (x.tmod y)))), .val 73 (.kw (KI (x))), .val 74 (.vl (.bool true)), .val 75 (.vl (.bool false)), .val 76 (.vl (.bool false)), .val 77 (.vl (.bool false)), .val 78 (.kw (KI (x.tmod y))), .val 79 (.kw (KI (((x.tmod y).natAbs : Int)))), .val 80 (.kw (KI (y))), .val 81 (.kw (KI ((y.natAbs : Int)))), .val 82 (.vl (.int .i64 (-1))), .val 83 (.vl (.bool false)), .val 84 (.vl (.bool false)), .val 85 (.vl (.bool false)), .val 86 (.kw (KI (x.tmod y))), .val 87 (.vl (.int .i64 0)), .val 88 (.vl (.bool false)), .val 89 (.vl (.bool false)), .val 90 (.vl (undef)), .val 91 (.vl (undef)), .val 92 (.vl (undef)), .val 93 (.vl (undef)), .val 94 (.vl (undef)), .val 95 (.vl (.bool false)), .val 96 (.vl (.bool false))] [([], [13]), ([0], []), ([1], []), ([2], [9]), ([2], [11]), ([3, 4, 2], []), ([2], [12]), ([5, 6, 2], []), ([2], [8]), ([7, 8, 2], []), ([9, 2], []), ([2, 10], []), ([11], []), ([12], [12]), ([13, 12], []), ([12], [9]), ([15, 12], []), ([14, 16, 12], []), ([17, 12], []), ([12, 18], []), ([19], []), ([20], [12]), ([21, 20], []), ([22, 20], []), ([23, 20], []), ([24], []), ([24], []), ([24], []), ([24], []), ([24], []), ([24, 20], []), ([20, 30], [])] rfl (by kernel_rfl) (by kernel_rfl) (by kernel_rfl) rfl ⟨?_, ?_, ?_, ?_, ?_, ?_, ?_, ?_, ?_, ?_, ?_, ?_, ?_, ?_, ?_, ?_, ?_, ?_, ?_, ?_, ?_, ?_, ?_, ?_, ?_, ?_, ?_, ?_, ?_, ?_, ?_, ?_, trivial⟩ ?_
      · exact DX.move rfl rfl rfl rfl rfl rfl
      · exact DX.q2 (x := .tmp 65) (y := .const (.int .i64 0)) (.bool false) rfl rfl rfl rfl rfl (fun ρ W h1 h2 => by go_simp)
      · exact DX.move rfl rfl rfl rfl rfl rfl
      · exact DX.load rfl rfl rfl rfl rfl rfl
      · exact DX.load rfl rfl rfl rfl rfl rfl
      · exact DX.call (r := .kw (KI (y * (x.tdiv y)))) rfl rfl rfl rfl rfl rfl (KI.st _) rfl (k_mul Y ((X).tdiv) (by first | decide | omega) (by first | decide | omega))
      · exact DX.load rfl rfl rfl rfl rfl rfl
      · exact DX.call (r := .kw (KI ((y * (x.tdiv y)) + (x.tmod y)))) rfl rfl rfl rfl rfl rfl (KI.st _) rfl (k_add (Y.mul ((X).tdiv)) ((X).tmod) (by first | decide | omega) (by first | decide | omega))
      · exact DX.load rfl rfl rfl rfl rfl rfl
      · exact DX.call (r := .vl (.bool true)) rfl rfl rfl rfl rfl rfl (KV.st _) rfl (k_same (mul_tdiv x y))
      · exact DX.q1 (x := .tmp 74) (.bool false) rfl rfl rfl rfl (fun ρ W h1 => by go_simp)
      · exact DX.pick (t := false) rfl rfl rfl rfl rfl rfl rfl
      · exact DX.move rfl rfl rfl rfl rfl rfl
      · exact DX.load rfl rfl rfl rfl rfl rfl
      · exact DX.call (r := .kw (KI (((x.tmod y).natAbs : Int)))) rfl rfl rfl rfl rfl rfl (KI.st _) rfl (k_abs)
      · exact DX.load rfl rfl rfl rfl rfl rfl
      · exact DX.call (r := .kw (KI ((y.natAbs : Int)))) rfl rfl rfl rfl rfl rfl (KI.st _) rfl (k_abs)
      · exact DX.call (r := .vl (.int .i64 (-1))) rfl rfl rfl rfl rfl rfl (KV.st _) rfl (k_cmp (cmp_lt (by rw [Int.natAbs_tmod]; have := Nat.mod_lt x.natAbs (show 0 < y.natAbs by omega); omega)))
      · exact DX.q2 (x := .tmp 82) (y := .const (.int .i64 0)) (.bool false) rfl rfl rfl rfl rfl (fun ρ W h1 h2 => by go_simp)
      · exact DX.pick (t := false) rfl rfl rfl rfl rfl rfl rfl
      · exact DX.move rfl rfl rfl rfl rfl rfl
      · exact DX.load rfl rfl rfl rfl rfl rfl
      · exact DX.call (r := .vl (.int .i64 0)) rfl rfl rfl rfl rfl rfl (KV.st _) rfl (k_sign (by rw [hr]; rfl))
      · exact DX.q2 (x := .tmp 87) (y := .const (.int .i64 0)) (.bool false) rfl rfl rfl rfl rfl (fun ρ W h1 h2 => by go_simp)
      · exact DX.move rfl rfl rfl rfl rfl rfl
      · exact DX.skip rfl rfl rfl
      · exact DX.skip rfl rfl rfl
      · exact DX.skip rfl rfl rfl
      · exact DX.skip rfl rfl rfl
      · exact DX.skip rfl rfl rfl
      · exact DX.pick (t := false) rfl rfl rfl rfl rfl rfl rfl
      · exact DX.pick (t := false) rfl rfl rfl rfl rfl rfl rfl
      refine SX.then ?_
      refine SC.cond (t := false) rfl ?_
      refine SC.skip ?_
      refine SX.then ?_
      refine SC.seq ?_
      refine SC.region ?_
      refine PW.load rfl rfl rfl rfl rfl rfl ?_
      refine PW.load rfl rfl rfl rfl rfl rfl ?_
      refine PW.call (r := .kw (KI ((Int.gcd x y : Int)))) rfl rfl rfl rfl rfl rfl (KI.st _) rfl (k_gcd X Y (by first | decide | omega) (by first | decide | omega)) ?_
      refine PW.alloc (BI 28) rfl rfl rfl rfl rfl bI ?_
      refine PW.store (x := .tmp 99) (r := .kw (KI ((Int.gcd x y : Int)))) rfl rfl rfl rfl rfl rfl sh_I ?_
      refine PW.nil ?_
      refine SX.then ?_
      refine SC.seq ?_
      refine SC.region ?_
      refine PW.load rfl rfl rfl rfl rfl rfl ?_
      refine PW.load rfl rfl rfl rfl rfl rfl ?_
      refine PW.call (r := .kw (K3 (KI (x.tdiv ((Int.gcd x y : Int)))) (KI (x.tmod ((Int.gcd x y : Int)))) (KV (.int .i64 0)))) rfl rfl rfl rfl rfl rfl (K3.st (KI.st _) (KI.st _) (KV.st _)) rfl (k_div X (by first | decide | omega) hG) ?_
      refine PW.move rfl rfl rfl rfl rfl ?_
      refine PW.ext (r := .kw (KI (x.tdiv ((Int.gcd x y : Int))))) rfl rfl rfl rfl rfl ex30 (KI.st _) rfl ?_
      refine PW.ext (r := .kw (KI (x.tmod ((Int.gcd x y : Int))))) rfl rfl rfl rfl rfl ex31 (KI.st _) rfl ?_
      refine PW.ext (r := .vl (.int .i64 0)) rfl rfl rfl rfl rfl ex32v (KV.st _) rfl ?_
      refine PW.alloc (BI 28) rfl rfl rfl rfl rfl bI ?_
      refine PW.alloc (BI 28) rfl rfl rfl rfl rfl bI ?_
      refine PW.store (x := .tmp 104) (r := .kw (KI (x.tdiv ((Int.gcd x y : Int))))) rfl rfl rfl rfl rfl rfl sh_I ?_
      refine PW.store (x := .tmp 105) (r := .kw (KI (x.tmod ((Int.gcd x y : Int))))) rfl rfl rfl rfl rfl rfl sh_I ?_
      refine PW.assign rfl rfl rfl rfl rfl ?_
      refine PW.nil ?_
      refine SX.then ?_
      refine SC.seq ?_
      refine SC.region ?_
      refine PW.load rfl rfl rfl rfl rfl rfl ?_
      refine PW.load rfl rfl rfl rfl rfl rfl ?_
      refine PW.call (r := .kw (K3 (KI (y.tdiv ((Int.gcd x y : Int)))) (KI (y.tmod ((Int.gcd x y : Int)))) (KV (.int .i64 0)))) rfl rfl rfl rfl rfl rfl (K3.st (KI.st _) (KI.st _) (KV.st _)) rfl (k_div Y (by first | decide | omega) hG) ?_
      refine PW.move rfl rfl rfl rfl rfl ?_
      refine PW.ext (r := .kw (KI (y.tdiv ((Int.gcd x y : Int))))) rfl rfl rfl rfl rfl ex30 (KI.st _) rfl ?_
      refine PW.ext (r := .kw (KI (y.tmod ((Int.gcd x y : Int))))) rfl rfl rfl rfl rfl ex31 (KI.st _) rfl ?_
      refine PW.ext (r := .vl (.int .i64 0)) rfl rfl rfl rfl rfl ex32v (KV.st _) rfl ?_
      refine PW.alloc (BI 28) rfl rfl rfl rfl rfl bI ?_
      refine PW.alloc (BI 28) rfl rfl rfl rfl rfl bI ?_
      refine PW.store (x := .tmp 111) (r := .kw (KI (y.tdiv ((Int.gcd x y : Int))))) rfl rfl rfl rfl rfl rfl sh_I ?_
      refine PW.store (x := .tmp 112) (r := .kw (KI (y.tmod ((Int.gcd x y : Int))))) rfl rfl rfl rfl rfl rfl sh_I ?_
      refine PW.assign rfl rfl rfl rfl rfl ?_
      refine PW.nil ?_
      refine SX.then ?_
      refine SC.seq ?_
      refine SC.seq ?_
      refine SC.dx [.val 114 (.vl (.int .i64 0)), .val 115 (.vl (.bool false)), .val 116 (.vl (.bool false)), .val 117 (.vl (.int .i64 0)), .val 118 (.vl (.bool false)), .val 119 (.vl (.bool false)), .val 120 (.vl (.bool false)), .val 121 (.kw (KI (x.tmod ((Int.gcd x y : Int))))), .val 122 (.vl (.int .i64 0)), .val 123 (.vl (.bool false)), .val 124 (.vl (.bool false)), .val 125 (.vl (.bool false)), .val 126 (.kw (KI (y.tmod ((Int.gcd x y : Int))))), .val 127 (.vl (.int .i64 0)), .val 128 (.vl (.bool false)), .val 129 (.vl (.bool false)), .val 130 (.vl (.bool false)), .val 131 (.kw (KI ((Int.gcd x y : Int)))), .val 132 (.vl (.int .i64 1)), .val 133 (.vl (.bool false)), .val 134 (.vl (.bool false)), .val 135 (.vl (.bool false)), .val 136 (.kw (KI (x))), .val 137 (.kw (KI (z))), .val 138 (.kw (KI (x * z))), .val 139 (.kw (KI (y))), .val 140 (.kw (KI (z))), .val 141 (.kw (KI (y * z))), .val 142 (.kw (KI ((Int.gcd (x * z) (y * z) : Int)))), .val 143 (.kw (KI ((Int.gcd x y : Int)))), .val 144 (.kw (KI (z))), .val 145 (.kw (KI ((z.natAbs : Int)))), .val 146 (.kw (KI (((Int.gcd x y : Int)) * ((z.natAbs : Int))))), .val 147 (.vl (.bool true)), .val 148 (.vl (.bool false)), .val 149 (.vl (.bool false))] [([], [13]), ([0], []), ([1], []), ([2], [19]), ([3, 2], []), ([2, 4], []), ([5], []), ([6], [16]), ([7, 6], []), ([8, 6], []), ([6, 9], []), ([10], []), ([11], [18]), ([12, 11], []), ([13, 11], []), ([11, 14], []), ([15], []), ([16], [14]), ([17, 16], []), ([18, 16], []), ([16, 19], []), ([20], []), ([21], [8]), ([21], [10]), ([22, 23, 21], []), ([21], [9]), ([21], [10]), ([25, 26, 21], []), ([24, 27, 21], []), ([21], [14]), ([21], [10]), ([30, 21], []), ([29, 31, 21], []), ([28, 32, 21], []), ([33, 21], []), ([21, 34], [])] rfl (by kernel_rfl) (by kernel_rfl) (by kernel_rfl) rfl ⟨?_, ?_, ?_, ?_, ?_, ?_, ?_, ?_, ?_, ?_, ?_, ?_, ?_, ?_, ?_, ?_, ?_, ?_, ?_, ?_, ?_, ?_, ?_, ?_, ?_, ?_, ?_, ?_, ?_, ?_, ?_, ?_, ?_, ?_, ?_, ?_, trivial⟩ ?_
      · exact DX.move rfl rfl rfl rfl rfl rfl
      · exact DX.q2 (x := .tmp 114) (y := .const (.int .i64 0)) (.bool false) rfl rfl rfl rfl rfl (fun ρ W h1 h2 => by go_simp)
      · exact DX.move rfl rfl rfl rfl rfl rfl
      · exact DX.move rfl rfl rfl rfl rfl rfl
      · exact DX.q2 (x := .tmp 117) (y := .const (.int .i64 0)) (.bool false) rfl rfl rfl rfl rfl (fun ρ W h1 h2 => by go_simp)
      · exact DX.pick (t := false) rfl rfl rfl rfl rfl rfl rfl
      · exact DX.move rfl rfl rfl rfl rfl rfl
      · exact DX.load rfl rfl rfl rfl rfl rfl
      · exact DX.call (r := .vl (.int .i64 0)) rfl rfl rfl rfl rfl rfl (KV.st _) rfl (k_sign (by rw [Int.tmod_eq_zero_of_dvd (Int.gcd_dvd_left ..)]; rfl))
      · exact DX.q2 (x := .tmp 122) (y := .const (.int .i64 0)) (.bool false) rfl rfl rfl rfl rfl (fun ρ W h1 h2 => by go_simp)
      · exact DX.pick (t := false) rfl rfl rfl rfl rfl rfl rfl
      · exact DX.move rfl rfl rfl rfl rfl rfl
      · exact DX.load rfl rfl rfl rfl rfl rfl
      · exact DX.call (r := .vl (.int .i64 0)) rfl rfl rfl rfl rfl rfl (KV.st _) rfl (k_sign (by rw [Int.tmod_eq_zero_of_dvd (Int.gcd_dvd_right ..)]; rfl))
      · exact DX.q2 (x := .tmp 127) (y := .const (.int .i64 0)) (.bool false) rfl rfl rfl rfl rfl (fun ρ W h1 h2 => by go_simp)
      · exact DX.pick (t := false) rfl rfl rfl rfl rfl rfl rfl
      · exact DX.move rfl rfl rfl rfl rfl rfl
      · exact DX.load rfl rfl rfl rfl rfl rfl
      · exact DX.call (r := .vl (.int .i64 1)) rfl rfl rfl rfl rfl rfl (KV.st _) rfl (k_sign (sgn_one (by omega)))
      · exact DX.q2 (x := .tmp 132) (y := .const (.int .i64 0)) (.bool false) rfl rfl rfl rfl rfl (fun ρ W h1 h2 => by go_simp)
      · exact DX.pick (t := false) rfl rfl rfl rfl rfl rfl rfl
      · exact DX.move rfl rfl rfl rfl rfl rfl
      · exact DX.load rfl rfl rfl rfl rfl rfl
      · exact DX.load rfl rfl rfl rfl rfl rfl
      · exact DX.call (r := .kw (KI (x * z))) rfl rfl rfl rfl rfl rfl (KI.st _) rfl (k_mul X Z (by first | decide | omega) (by first | decide | omega))
      · exact DX.load rfl rfl rfl rfl rfl rfl
      · exact DX.load rfl rfl rfl rfl rfl rfl
      · exact DX.call (r := .kw (KI (y * z))) rfl rfl rfl rfl rfl rfl (KI.st _) rfl (k_mul Y Z (by first | decide | omega) (by first | decide | omega))
      · exact DX.call (r := .kw (KI ((Int.gcd (x * z) (y * z) : Int)))) rfl rfl rfl rfl rfl rfl (KI.st _) rfl (k_gcd (X.mul Z) (Y.mul Z) (by first | decide | omega) (by first | decide | omega))
      · exact DX.load rfl rfl rfl rfl rfl rfl
      · exact DX.load rfl rfl rfl rfl rfl rfl
      · exact DX.call (r := .kw (KI ((z.natAbs : Int)))) rfl rfl rfl rfl rfl rfl (KI.st _) rfl (k_abs)
      · exact DX.call (r := .kw (KI (((Int.gcd x y : Int)) * ((z.natAbs : Int))))) rfl rfl rfl rfl rfl rfl (KI.st _) rfl (k_mul (bd.gcd X Y) Z.abs (by first | decide | omega) (by first | decide | omega))
      · exact DX.call (r := .vl (.bool true)) rfl rfl rfl rfl rfl rfl (KV.st _) rfl (k_same (gcd_mul x y z))
      · exact DX.q1 (x := .tmp 147) (.bool false) rfl rfl rfl rfl (fun ρ W h1 => by go_simp)
      · exact DX.pick (t := false) rfl rfl rfl rfl rfl rfl rfl
      refine SX.then ?_
      refine SC.cond (t := false) rfl ?_
      refine SC.skip ?_
      refine SX.then ?_
      refine SC.seq ?_
      refine SC.seq ?_
      by_cases hz : z = 0
      · refine SC.region ?_
        refine PW.load rfl rfl rfl rfl rfl rfl ?_
        refine PW.load rfl rfl rfl rfl rfl rfl ?_
        refine PW.call (r := .kw (K3 (KI (0)) (KI (0)) (KV (.int .i64 6)))) rfl rfl rfl rfl rfl rfl (K3.st (KI.st _) (KI.st _) (KV.st _)) rfl (k_div0' hz) ?_
        refine PW.move rfl rfl rfl rfl rfl ?_
        refine PW.ext (r := .kw (KI (0))) rfl rfl rfl rfl rfl ex30 (KI.st _) rfl ?_
        refine PW.ext (r := .kw (KI (0))) rfl rfl rfl rfl rfl ex31 (KI.st _) rfl ?_
        refine PW.ext (r := .vl (.int .i64 6)) rfl rfl rfl rfl rfl ex32v (KV.st _) rfl ?_
        refine PW.alloc (BI 28) rfl rfl rfl rfl rfl bI ?_
        refine PW.alloc (BI 28) rfl rfl rfl rfl rfl bI ?_
        refine PW.store (x := .tmp 154) (r := .kw (KI (0))) rfl rfl rfl rfl rfl rfl sh_I ?_
        refine PW.store (x := .tmp 155) (r := .kw (KI (0))) rfl rfl rfl rfl rfl rfl sh_I ?_
        refine PW.assign rfl rfl rfl rfl rfl ?_
        refine PW.nil ?_
        refine SX.then ?_
        refine SC.seq ?_
        refine SC.region ?_
        refine PW.move rfl rfl rfl rfl rfl ?_
        refine PW.q2 (x := .tmp 157) (y := .const (.int .i64 0)) (.bool false) rfl rfl rfl rfl rfl (fun ρ W h1 h2 => by go_simp) ?_
        refine PW.move rfl rfl rfl rfl rfl ?_
        refine PW.skip rfl rfl rfl ?_
        refine PW.skip rfl rfl rfl ?_
        refine PW.skip rfl rfl rfl ?_
        refine PW.pick (t := false) rfl rfl rfl rfl rfl rfl ?_
        refine PW.nil ?_
        refine SX.then ?_
        refine SC.cond (t := false) rfl ?_
        refine SC.skip ?_
        refine SX.then ?_
        refine SC.seq ?_
        refine SC.region ?_
        refine PW.call (r := .vl (.bool true)) rfl rfl rfl rfl rfl rfl (KV.st _) rfl (k_awake) ?_
        refine PW.assign rfl rfl rfl rfl rfl ?_
        refine PW.nil ?_
        refine SX.then ?_
        refine SC.ret ?_
        exact SX.done (r := .vl (.bool true)) rfl rfl rfl
      · refine SC.region ?_
        refine PW.load rfl rfl rfl rfl rfl rfl ?_
        refine PW.load rfl rfl rfl rfl rfl rfl ?_
        refine PW.call (r := .kw (K3 (KI (x.tdiv z)) (KI (x.tmod z)) (KV (.int .i64 0)))) rfl rfl rfl rfl rfl rfl (K3.st (KI.st _) (KI.st _) (KV.st _)) rfl (k_div X (by first | decide | omega) hz) ?_
        refine PW.move rfl rfl rfl rfl rfl ?_
        refine PW.ext (r := .kw (KI (x.tdiv z))) rfl rfl rfl rfl rfl ex30 (KI.st _) rfl ?_
        refine PW.ext (r := .kw (KI (x.tmod z))) rfl rfl rfl rfl rfl ex31 (KI.st _) rfl ?_
        refine PW.ext (r := .vl (.int .i64 0)) rfl rfl rfl rfl rfl ex32v (KV.st _) rfl ?_
        refine PW.alloc (BI 28) rfl rfl rfl rfl rfl bI ?_
        refine PW.alloc (BI 28) rfl rfl rfl rfl rfl bI ?_
        refine PW.store (x := .tmp 154) (r := .kw (KI (x.tdiv z))) rfl rfl rfl rfl rfl rfl sh_I ?_
        refine PW.store (x := .tmp 155) (r := .kw (KI (x.tmod z))) rfl rfl rfl rfl rfl rfl sh_I ?_
        refine PW.assign rfl rfl rfl rfl rfl ?_
        refine PW.nil ?_
        refine SX.then ?_
        refine SC.seq ?_
        by_cases h1 : x.tmod z = 0
        · refine SC.region ?_
          refine PW.move rfl rfl rfl rfl rfl ?_
          refine PW.q2 (x := .tmp 157) (y := .const (.int .i64 0)) (.bool true) rfl rfl rfl rfl rfl (fun ρ W h1 h2 => by go_simp) ?_
          refine PW.move rfl rfl rfl rfl rfl ?_
          refine PW.load rfl rfl rfl rfl rfl rfl ?_
          refine PW.call (r := .vl (.int .i64 0)) rfl rfl rfl rfl rfl rfl (KV.st _) rfl (k_sign (by rw [h1]; rfl)) ?_
          refine PW.q2 (x := .tmp 161) (y := .const (.int .i64 0)) (.bool true) rfl rfl rfl rfl rfl (fun ρ W h1 h2 => by go_simp) ?_
          refine PW.pick (t := true) rfl rfl rfl rfl rfl rfl ?_
          refine PW.nil ?_
          refine SX.then ?_
          refine SC.cond (t := true) rfl ?_
          refine SC.seq ?_
          refine SC.region ?_
          refine PW.load rfl rfl rfl rfl rfl rfl ?_
          refine PW.load rfl rfl rfl rfl rfl rfl ?_
          refine PW.call (r := .kw (K3 (KI (y.tdiv z)) (KI (y.tmod z)) (KV (.int .i64 0)))) rfl rfl rfl rfl rfl rfl (K3.st (KI.st _) (KI.st _) (KV.st _)) rfl (k_div Y (by first | decide | omega) hz) ?_
          refine PW.move rfl rfl rfl rfl rfl ?_
          refine PW.ext (r := .kw (KI (y.tdiv z))) rfl rfl rfl rfl rfl ex30 (KI.st _) rfl ?_
          refine PW.ext (r := .kw (KI (y.tmod z))) rfl rfl rfl rfl rfl ex31 (KI.st _) rfl ?_
          refine PW.ext (r := .vl (.int .i64 0)) rfl rfl rfl rfl rfl ex32v (KV.st _) rfl ?_
          refine PW.alloc (BI 28) rfl rfl rfl rfl rfl bI ?_
          refine PW.alloc (BI 28) rfl rfl rfl rfl rfl bI ?_
          refine PW.store (x := .tmp 168) (r := .kw (KI (y.tdiv z))) rfl rfl rfl rfl rfl rfl sh_I ?_
          refine PW.store (x := .tmp 169) (r := .kw (KI (y.tmod z))) rfl rfl rfl rfl rfl rfl sh_I ?_
          refine PW.assign rfl rfl rfl rfl rfl ?_
          refine PW.nil ?_
          refine SX.then ?_
          refine SC.seq ?_
          refine SC.region ?_
          refine PW.load rfl rfl rfl rfl rfl rfl ?_
          refine PW.load rfl rfl rfl rfl rfl rfl ?_
          refine PW.call (r := .kw (K3 (KI (((Int.gcd x y : Int)).tdiv z)) (KI (((Int.gcd x y : Int)).tmod z)) (KV (.int .i64 0)))) rfl rfl rfl rfl rfl rfl (K3.st (KI.st _) (KI.st _) (KV.st _)) rfl (k_div (bd.gcd X Y) (by first | decide | omega) hz) ?_
          refine PW.move rfl rfl rfl rfl rfl ?_
          refine PW.ext (r := .kw (KI (((Int.gcd x y : Int)).tdiv z))) rfl rfl rfl rfl rfl ex30 (KI.st _) rfl ?_
          refine PW.ext (r := .kw (KI (((Int.gcd x y : Int)).tmod z))) rfl rfl rfl rfl rfl ex31 (KI.st _) rfl ?_
          refine PW.ext (r := .vl (.int .i64 0)) rfl rfl rfl rfl rfl ex32v (KV.st _) rfl ?_
          refine PW.alloc (BI 28) rfl rfl rfl rfl rfl bI ?_
          refine PW.alloc (BI 28) rfl rfl rfl rfl rfl bI ?_
          refine PW.store (x := .tmp 175) (r := .kw (KI (((Int.gcd x y : Int)).tdiv z))) rfl rfl rfl rfl rfl rfl sh_I ?_
          refine PW.store (x := .tmp 176) (r := .kw (KI (((Int.gcd x y : Int)).tmod z))) rfl rfl rfl rfl rfl rfl sh_I ?_
          refine PW.assign rfl rfl rfl rfl rfl ?_
          refine PW.nil ?_
          refine SX.then ?_
          refine SC.seq ?_
          by_cases h2 : y.tmod z = 0
          · refine SC.region ?_
            refine PW.load rfl rfl rfl rfl rfl rfl ?_
            refine PW.call (r := .vl (.int .i64 0)) rfl rfl rfl rfl rfl rfl (KV.st _) rfl (k_sign (by rw [h2]; rfl)) ?_
            refine PW.q2 (x := .tmp 179) (y := .const (.int .i64 0)) (.bool true) rfl rfl rfl rfl rfl (fun ρ W h1 h2 => by go_simp) ?_
            refine PW.move rfl rfl rfl rfl rfl ?_
            refine PW.load rfl rfl rfl rfl rfl rfl ?_
            refine PW.call (r := .vl (.int .i64 0)) rfl rfl rfl rfl rfl rfl (KV.st _) rfl (k_sign (by rw [Int.tmod_eq_zero_of_dvd (gcd_dvd h1 h2)]; rfl)) ?_
            refine PW.q2 (x := .tmp 183) (y := .const (.int .i64 0)) (.bool false) rfl rfl rfl rfl rfl (fun ρ W h1 h2 => by go_simp) ?_
            refine PW.pick (t := true) rfl rfl rfl rfl rfl rfl ?_
            refine PW.nil ?_
            refine SX.then ?_
            refine SC.cond (t := false) rfl ?_
            refine SC.skip ?_
            refine SX.then ?_
            refine SC.seq ?_
            refine SC.region ?_
            refine PW.call (r := .vl (.bool true)) rfl rfl rfl rfl rfl rfl (KV.st _) rfl (k_awake) ?_
            refine PW.assign rfl rfl rfl rfl rfl ?_
            refine PW.nil ?_
            refine SX.then ?_
            refine SC.ret ?_
            exact SX.done (r := .vl (.bool true)) rfl rfl rfl
          · have hz2 := h2
            refine SC.region ?_
            refine PW.load rfl rfl rfl rfl rfl rfl ?_
            refine PW.call (r := .vl (.int .i64 (sgn (y.tmod z)))) rfl rfl rfl rfl rfl rfl (KV.st _) rfl (k_sign (rfl)) ?_
            refine PW.q2 (x := .tmp 179) (y := .const (.int .i64 0)) (.bool false) rfl rfl rfl rfl rfl (fun ρ W h1 h2 => by exact r_eqs h1 h2 (sgn_nz hz2)) ?_
            refine PW.move rfl rfl rfl rfl rfl ?_
            refine PW.skip rfl rfl rfl ?_
            refine PW.skip rfl rfl rfl ?_
            refine PW.skip rfl rfl rfl ?_
            refine PW.pick (t := false) rfl rfl rfl rfl rfl rfl ?_
            refine PW.nil ?_
            refine SX.then ?_
            refine SC.cond (t := false) rfl ?_
            refine SC.skip ?_
            refine SX.then ?_
            refine SC.seq ?_
            refine SC.region ?_
            refine PW.call (r := .vl (.bool true)) rfl rfl rfl rfl rfl rfl (KV.st _) rfl (k_awake) ?_
            refine PW.assign rfl rfl rfl rfl rfl ?_
            refine PW.nil ?_
            refine SX.then ?_
            refine SC.ret ?_
            exact SX.done (r := .vl (.bool true)) rfl rfl rfl
        · have hz1 := h1
          refine SC.region ?_
          refine PW.move rfl rfl rfl rfl rfl ?_
          refine PW.q2 (x := .tmp 157) (y := .const (.int .i64 0)) (.bool true) rfl rfl rfl rfl rfl (fun ρ W h1 h2 => by go_simp) ?_
          refine PW.move rfl rfl rfl rfl rfl ?_
          refine PW.load rfl rfl rfl rfl rfl rfl ?_
          refine PW.call (r := .vl (.int .i64 (sgn (x.tmod z)))) rfl rfl rfl rfl rfl rfl (KV.st _) rfl (k_sign (rfl)) ?_
          refine PW.q2 (x := .tmp 161) (y := .const (.int .i64 0)) (.bool false) rfl rfl rfl rfl rfl (fun ρ W h1 h2 => by exact r_eqs h1 h2 (sgn_nz hz1)) ?_
          refine PW.pick (t := true) rfl rfl rfl rfl rfl rfl ?_
          refine PW.nil ?_
          refine SX.then ?_
          refine SC.cond (t := false) rfl ?_
          refine SC.skip ?_
          refine SX.then ?_
          refine SC.seq ?_
          refine SC.region ?_
          refine PW.call (r := .vl (.bool true)) rfl rfl rfl rfl rfl rfl (KV.st _) rfl (k_awake) ?_
          refine PW.assign rfl rfl rfl rfl rfl ?_
          refine PW.nil ?_
          refine SX.then ?_
          refine SC.ret ?_
          exact SX.done (r := .vl (.bool true)) rfl rfl rfl
    · refine SC.dx [.val 65 (.vl (.int .i64 0)), .val 66 (.vl (.bool false)), .val 67 (.vl (.bool false)), .val 68 (.kw (KI (y))), .val 69 (.kw (KI (x.tdiv y))), .val 70 (.kw (KI (y * (x.tdiv y)))), .val 71 (.kw (KI (x.tmod y))), .val 72 (.kw (KI ((y * (x.tdiv y)) + (x.tmod y)))), .val 73 (.kw (KI (x))), .val 74 (.vl (.bool true)), .val 75 (.vl (.bool false)), .val 76 (.vl (.bool false)), .val 77 (.vl (.bool false)), .val 78 (.kw (KI (x.tmod y))), .val 79 (.kw (KI (((x.tmod y).natAbs : Int)))), .val 80 (.kw (KI (y))), .val 81 (.kw (KI ((y.natAbs : Int)))), .val 82 (.vl (.int .i64 (-1))), .val 83 (.vl (.bool false)), .val 84 (.vl (.bool false)), .val 85 (.vl (.bool false)), .val 86 (.kw (KI (x.tmod y))), .val 87 (.vl (.int .i64 (sgn x))), .val 88 (.vl (.bool true)), .val 89 (.vl (.bool true)), .val 90 (.kw (KI (x.tmod y))), .val 91 (.vl (.int .i64 (sgn x))), .val 92 (.kw (KI (x))), .val 93 (.vl (.int .i64 (sgn x))), .val 94 (.vl (.bool false)), .val 95 (.vl (.bool false)), .val 96 (.vl (.bool false))] [([], [13]), ([0], []), ([1], []), ([2], [9]), ([2], [11]), ([3, 4, 2], []), ([2], [12]), ([5, 6, 2], []), ([2], [8]), ([7, 8, 2], []), ([9, 2], []), ([2, 10], []), ([11], []), ([12], [12]), ([13, 12], []), ([12], [9]), ([15, 12], []), ([14, 16, 12], []), ([17, 12], []), ([12, 18], []), ([19], []), ([20], [12]), ([21, 20], []), ([22, 20], []), ([23, 20], []), ([24], [12]), ([25, 24], []), ([24], [8]), ([27, 24], []), ([26, 28, 24], []), ([24, 29, 20], []), ([20, 30], [])] rfl (by kernel_rfl) (by kernel_rfl) (by kernel_rfl) rfl ⟨?_, ?_, ?_, ?_, ?_, ?_, ?_, ?_, ?_, ?_, ?_, ?_, ?_, ?_, ?_, ?_, ?_, ?_, ?_, ?_, ?_, ?_, ?_, ?_, ?_, ?_, ?_, ?_, ?_, ?_, ?_, ?_, trivial⟩ ?_
      · exact DX.move rfl rfl rfl rfl rfl rfl
      · exact DX.q2 (x := .tmp 65) (y := .const (.int .i64 0)) (.bool false) rfl rfl rfl rfl rfl (fun ρ W h1 h2 => by go_simp)
      · exact DX.move rfl rfl rfl rfl rfl rfl
      · exact DX.load rfl rfl rfl rfl rfl rfl
      · exact DX.load rfl rfl rfl rfl rfl rfl
      · exact DX.call (r := .kw (KI (y * (x.tdiv y)))) rfl rfl rfl rfl rfl rfl (KI.st _) rfl (k_mul Y ((X).tdiv) (by first | decide | omega) (by first | decide | omega))
      · exact DX.load rfl rfl rfl rfl rfl rfl
      · exact DX.call (r := .kw (KI ((y * (x.tdiv y)) + (x.tmod y)))) rfl rfl rfl rfl rfl rfl (KI.st _) rfl (k_add (Y.mul ((X).tdiv)) ((X).tmod) (by first | decide | omega) (by first | decide | omega))
      · exact DX.load rfl rfl rfl rfl rfl rfl
      · exact DX.call (r := .vl (.bool true)) rfl rfl rfl rfl rfl rfl (KV.st _) rfl (k_same (mul_tdiv x y))
      · exact DX.q1 (x := .tmp 74) (.bool false) rfl rfl rfl rfl (fun ρ W h1 => by go_simp)
      · exact DX.pick (t := false) rfl rfl rfl rfl rfl rfl rfl
      · exact DX.move rfl rfl rfl rfl rfl rfl
      · exact DX.load rfl rfl rfl rfl rfl rfl
      · exact DX.call (r := .kw (KI (((x.tmod y).natAbs : Int)))) rfl rfl rfl rfl rfl rfl (KI.st _) rfl (k_abs)
      · exact DX.load rfl rfl rfl rfl rfl rfl
      · exact DX.call (r := .kw (KI ((y.natAbs : Int)))) rfl rfl rfl rfl rfl rfl (KI.st _) rfl (k_abs)
      · exact DX.call (r := .vl (.int .i64 (-1))) rfl rfl rfl rfl rfl rfl (KV.st _) rfl (k_cmp (cmp_lt (by rw [Int.natAbs_tmod]; have := Nat.mod_lt x.natAbs (show 0 < y.natAbs by omega); omega)))
      · exact DX.q2 (x := .tmp 82) (y := .const (.int .i64 0)) (.bool false) rfl rfl rfl rfl rfl (fun ρ W h1 h2 => by go_simp)
      · exact DX.pick (t := false) rfl rfl rfl rfl rfl rfl rfl
      · exact DX.move rfl rfl rfl rfl rfl rfl
      · exact DX.load rfl rfl rfl rfl rfl rfl
      · exact DX.call (r := .vl (.int .i64 (sgn x))) rfl rfl rfl rfl rfl rfl (KV.st _) rfl (k_sign (sgn_tmod hr))
      · exact DX.q2 (x := .tmp 87) (y := .const (.int .i64 0)) (.bool true) rfl rfl rfl rfl rfl (fun ρ W h1 h2 => by exact r_nes h1 h2 (sgn_nz (nz_tmod hr)))
      · exact DX.move rfl rfl rfl rfl rfl rfl
      · exact DX.load rfl rfl rfl rfl rfl rfl
      · exact DX.call (r := .vl (.int .i64 (sgn x))) rfl rfl rfl rfl rfl rfl (KV.st _) rfl (k_sign (sgn_tmod hr))
      · exact DX.load rfl rfl rfl rfl rfl rfl
      · exact DX.call (r := .vl (.int .i64 (sgn x))) rfl rfl rfl rfl rfl rfl (KV.st _) rfl (k_sign (rfl))
      · exact DX.q2 (x := .tmp 91) (y := .tmp 93) (.bool false) rfl rfl rfl rfl rfl (fun ρ W h1 h2 => by go_simp)
      · exact DX.pick (t := true) rfl rfl rfl rfl rfl rfl rfl
      · exact DX.pick (t := false) rfl rfl rfl rfl rfl rfl rfl
      refine SX.then ?_
      refine SC.cond (t := false) rfl ?_
      refine SC.skip ?_
      refine SX.then ?_
      refine SC.seq ?_
      refine SC.region ?_
      refine PW.load rfl rfl rfl rfl rfl rfl ?_
      refine PW.load rfl rfl rfl rfl rfl rfl ?_
      refine PW.call (r := .kw (KI ((Int.gcd x y : Int)))) rfl rfl rfl rfl rfl rfl (KI.st _) rfl (k_gcd X Y (by first | decide | omega) (by first | decide | omega)) ?_
      refine PW.alloc (BI 28) rfl rfl rfl rfl rfl bI ?_
      refine PW.store (x := .tmp 99) (r := .kw (KI ((Int.gcd x y : Int)))) rfl rfl rfl rfl rfl rfl sh_I ?_
      refine PW.nil ?_
      refine SX.then ?_
      refine SC.seq ?_
      refine SC.region ?_
      refine PW.load rfl rfl rfl rfl rfl rfl ?_
      refine PW.load rfl rfl rfl rfl rfl rfl ?_
      refine PW.call (r := .kw (K3 (KI (x.tdiv ((Int.gcd x y : Int)))) (KI (x.tmod ((Int.gcd x y : Int)))) (KV (.int .i64 0)))) rfl rfl rfl rfl rfl rfl (K3.st (KI.st _) (KI.st _) (KV.st _)) rfl (k_div X (by first | decide | omega) hG) ?_
      refine PW.move rfl rfl rfl rfl rfl ?_
      refine PW.ext (r := .kw (KI (x.tdiv ((Int.gcd x y : Int))))) rfl rfl rfl rfl rfl ex30 (KI.st _) rfl ?_
      refine PW.ext (r := .kw (KI (x.tmod ((Int.gcd x y : Int))))) rfl rfl rfl rfl rfl ex31 (KI.st _) rfl ?_
      refine PW.ext (r := .vl (.int .i64 0)) rfl rfl rfl rfl rfl ex32v (KV.st _) rfl ?_
      refine PW.alloc (BI 28) rfl rfl rfl rfl rfl bI ?_
      refine PW.alloc (BI 28) rfl rfl rfl rfl rfl bI ?_
      refine PW.store (x := .tmp 104) (r := .kw (KI (x.tdiv ((Int.gcd x y : Int))))) rfl rfl rfl rfl rfl rfl sh_I ?_
      refine PW.store (x := .tmp 105) (r := .kw (KI (x.tmod ((Int.gcd x y : Int))))) rfl rfl rfl rfl rfl rfl sh_I ?_
      refine PW.assign rfl rfl rfl rfl rfl ?_
      refine PW.nil ?_
      refine SX.then ?_
      refine SC.seq ?_
      refine SC.region ?_
      refine PW.load rfl rfl rfl rfl rfl rfl ?_
      refine PW.load rfl rfl rfl rfl rfl rfl ?_
      refine PW.call (r := .kw (K3 (KI (y.tdiv ((Int.gcd x y : Int)))) (KI (y.tmod ((Int.gcd x y : Int)))) (KV (.int .i64 0)))) rfl rfl rfl rfl rfl rfl (K3.st (KI.st _) (KI.st _) (KV.st _)) rfl (k_div Y (by first | decide | omega) hG) ?_
      refine PW.move rfl rfl rfl rfl rfl ?_
      refine PW.ext (r := .kw (KI (y.tdiv ((Int.gcd x y : Int))))) rfl rfl rfl rfl rfl ex30 (KI.st _) rfl ?_
      refine PW.ext (r := .kw (KI (y.tmod ((Int.gcd x y : Int))))) rfl rfl rfl rfl rfl ex31 (KI.st _) rfl ?_
      refine PW.ext (r := .vl (.int .i64 0)) rfl rfl rfl rfl rfl ex32v (KV.st _) rfl ?_
      refine PW.alloc (BI 28) rfl rfl rfl rfl rfl bI ?_
      refine PW.alloc (BI 28) rfl rfl rfl rfl rfl bI ?_
      refine PW.store (x := .tmp 111) (r := .kw (KI (y.tdiv ((Int.gcd x y : Int))))) rfl rfl rfl rfl rfl rfl sh_I ?_
      refine PW.store (x := .tmp 112) (r := .kw (KI (y.tmod ((Int.gcd x y : Int))))) rfl rfl rfl rfl rfl rfl sh_I ?_
      refine PW.assign rfl rfl rfl rfl rfl ?_
      refine PW.nil ?_
      refine SX.then ?_
      refine SC.seq ?_
      refine SC.seq ?_
      refine SC.dx [.val 114 (.vl (.int .i64 0)), .val 115 (.vl (.bool false)), .val 116 (.vl (.bool false)), .val 117 (.vl (.int .i64 0)), .val 118 (.vl (.bool false)), .val 119 (.vl (.bool false)), .val 120 (.vl (.bool false)), .val 121 (.kw (KI (x.tmod ((Int.gcd x y : Int))))), .val 122 (.vl (.int .i64 0)), .val 123 (.vl (.bool false)), .val 124 (.vl (.bool false)), .val 125 (.vl (.bool false)), .val 126 (.kw (KI (y.tmod ((Int.gcd x y : Int))))), .val 127 (.vl (.int .i64 0)), .val 128 (.vl (.bool false)), .val 129 (.vl (.bool false)), .val 130 (.vl (.bool false)), .val 131 (.kw (KI ((Int.gcd x y : Int)))), .val 132 (.vl (.int .i64 1)), .val 133 (.vl (.bool false)), .val 134 (.vl (.bool false)), .val 135 (.vl (.bool false)), .val 136 (.kw (KI (x))), .val 137 (.kw (KI (z))), .val 138 (.kw (KI (x * z))), .val 139 (.kw (KI (y))), .val 140 (.kw (KI (z))), .val 141 (.kw (KI (y * z))), .val 142 (.kw (KI ((Int.gcd (x * z) (y * z) : Int)))), .val 143 (.kw (KI ((Int.gcd x y : Int)))), .val 144 (.kw (KI (z))), .val 145 (.kw (KI ((z.natAbs : Int)))), .val 146 (.kw (KI (((Int.gcd x y : Int)) * ((z.natAbs : Int))))), .val 147 (.vl (.bool true)), .val 148 (.vl (.bool false)), .val 149 (.vl (.bool false))] [([], [13]), ([0], []), ([1], []), ([2], [19]), ([3, 2], []), ([2, 4], []), ([5], []), ([6], [16]), ([7, 6], []), ([8, 6], []), ([6, 9], []), ([10], []), ([11], [18]), ([12, 11], []), ([13, 11], []), ([11, 14], []), ([15], []), ([16], [14]), ([17, 16], []), ([18, 16], []), ([16, 19], []), ([20], []), ([21], [8]), ([21], [10]), ([22, 23, 21], []), ([21], [9]), ([21], [10]), ([25, 26, 21], []), ([24, 27, 21], []), ([21], [14]), ([21], [10]), ([30, 21], []), ([29, 31, 21], []), ([28, 32, 21], []), ([33, 21], []), ([21, 34], [])] rfl (by kernel_rfl) (by kernel_rfl) (by kernel_rfl) rfl ⟨?_, ?_, ?_, ?_, ?_, ?_, ?_, ?_, ?_, ?_, ?_, ?_, ?_, ?_, ?_, ?_, ?_, ?_, ?_, ?_, ?_, ?_, ?_, ?_, ?_, ?_, ?_, ?_, ?_, ?_, ?_, ?_, ?_, ?_, ?_, ?_, trivial⟩ ?_
      · exact DX.move rfl rfl rfl rfl rfl rfl
      · exact DX.q2 (x := .tmp 114) (y := .const (.int .i64 0)) (.bool false) rfl rfl rfl rfl rfl (fun ρ W h1 h2 => by go_simp)
      · exact DX.move rfl rfl rfl rfl rfl rfl
      · exact DX.move rfl rfl rfl rfl rfl rfl
      · exact DX.q2 (x := .tmp 117) (y := .const (.int .i64 0)) (.bool false) rfl rfl rfl rfl rfl (fun ρ W h1 h2 => by go_simp)
      · exact DX.pick (t := false) rfl rfl rfl rfl rfl rfl rfl
      · exact DX.move rfl rfl rfl rfl rfl rfl
      · exact DX.load rfl rfl rfl rfl rfl rfl
      · exact DX.call (r := .vl (.int .i64 0)) rfl rfl rfl rfl rfl rfl (KV.st _) rfl (k_sign (by rw [Int.tmod_eq_zero_of_dvd (Int.gcd_dvd_left ..)]; rfl))
      · exact DX.q2 (x := .tmp 122) (y := .const (.int .i64 0)) (.bool false) rfl rfl rfl rfl rfl (fun ρ W h1 h2 => by go_simp)
      · exact DX.pick (t := false) rfl rfl rfl rfl rfl rfl rfl
      · exact DX.move rfl rfl rfl rfl rfl rfl
      · exact DX.load rfl rfl rfl rfl rfl rfl
      · exact DX.call (r := .vl (.int .i64 0)) rfl rfl rfl rfl rfl rfl (KV.st _) rfl (k_sign (by rw [Int.tmod_eq_zero_of_dvd (Int.gcd_dvd_right ..)]; rfl))
      · exact DX.q2 (x := .tmp 127) (y := .const (.int .i64 0)) (.bool false) rfl rfl rfl rfl rfl (fun ρ W h1 h2 => by go_simp)
      · exact DX.pick (t := false) rfl rfl rfl rfl rfl rfl rfl
      · exact DX.move rfl rfl rfl rfl rfl rfl
      · exact DX.load rfl rfl rfl rfl rfl rfl
      · exact DX.call (r := .vl (.int .i64 1)) rfl rfl rfl rfl rfl rfl (KV.st _) rfl (k_sign (sgn_one (by omega)))
      · exact DX.q2 (x := .tmp 132) (y := .const (.int .i64 0)) (.bool false) rfl rfl rfl rfl rfl (fun ρ W h1 h2 => by go_simp)
      · exact DX.pick (t := false) rfl rfl rfl rfl rfl rfl rfl
      · exact DX.move rfl rfl rfl rfl rfl rfl
      · exact DX.load rfl rfl rfl rfl rfl rfl
      · exact DX.load rfl rfl rfl rfl rfl rfl
      · exact DX.call (r := .kw (KI (x * z))) rfl rfl rfl rfl rfl rfl (KI.st _) rfl (k_mul X Z (by first | decide | omega) (by first | decide | omega))
      · exact DX.load rfl rfl rfl rfl rfl rfl
      · exact DX.load rfl rfl rfl rfl rfl rfl
      · exact DX.call (r := .kw (KI (y * z))) rfl rfl rfl rfl rfl rfl (KI.st _) rfl (k_mul Y Z (by first | decide | omega) (by first | decide | omega))
      · exact DX.call (r := .kw (KI ((Int.gcd (x * z) (y * z) : Int)))) rfl rfl rfl rfl rfl rfl (KI.st _) rfl (k_gcd (X.mul Z) (Y.mul Z) (by first | decide | omega) (by first | decide | omega))
      · exact DX.load rfl rfl rfl rfl rfl rfl
      · exact DX.load rfl rfl rfl rfl rfl rfl
      · exact DX.call (r := .kw (KI ((z.natAbs : Int)))) rfl rfl rfl rfl rfl rfl (KI.st _) rfl (k_abs)
      · exact DX.call (r := .kw (KI (((Int.gcd x y : Int)) * ((z.natAbs : Int))))) rfl rfl rfl rfl rfl rfl (KI.st _) rfl (k_mul (bd.gcd X Y) Z.abs (by first | decide | omega) (by first | decide | omega))
      · exact DX.call (r := .vl (.bool true)) rfl rfl rfl rfl rfl rfl (KV.st _) rfl (k_same (gcd_mul x y z))
      · exact DX.q1 (x := .tmp 147) (.bool false) rfl rfl rfl rfl (fun ρ W h1 => by go_simp)
      · exact DX.pick (t := false) rfl rfl rfl rfl rfl rfl rfl
      refine SX.then ?_
      refine SC.cond (t := false) rfl ?_
      refine SC.skip ?_
      refine SX.then ?_
      refine SC.seq ?_
      refine SC.seq ?_
      by_cases hz : z = 0
      · refine SC.region ?_
        refine PW.load rfl rfl rfl rfl rfl rfl ?_
        refine PW.load rfl rfl rfl rfl rfl rfl ?_
        refine PW.call (r := .kw (K3 (KI (0)) (KI (0)) (KV (.int .i64 6)))) rfl rfl rfl rfl rfl rfl (K3.st (KI.st _) (KI.st _) (KV.st _)) rfl (k_div0' hz) ?_
        refine PW.move rfl rfl rfl rfl rfl ?_
        refine PW.ext (r := .kw (KI (0))) rfl rfl rfl rfl rfl ex30 (KI.st _) rfl ?_
        refine PW.ext (r := .kw (KI (0))) rfl rfl rfl rfl rfl ex31 (KI.st _) rfl ?_
        refine PW.ext (r := .vl (.int .i64 6)) rfl rfl rfl rfl rfl ex32v (KV.st _) rfl ?_
        refine PW.alloc (BI 28) rfl rfl rfl rfl rfl bI ?_
        refine PW.alloc (BI 28) rfl rfl rfl rfl rfl bI ?_
        refine PW.store (x := .tmp 154) (r := .kw (KI (0))) rfl rfl rfl rfl rfl rfl sh_I ?_
        refine PW.store (x := .tmp 155) (r := .kw (KI (0))) rfl rfl rfl rfl rfl rfl sh_I ?_
        refine PW.assign rfl rfl rfl rfl rfl ?_
        refine PW.nil ?_
        refine SX.then ?_
        refine SC.seq ?_
        refine SC.region ?_
        refine PW.move rfl rfl rfl rfl rfl ?_
        refine PW.q2 (x := .tmp 157) (y := .const (.int .i64 0)) (.bool false) rfl rfl rfl rfl rfl (fun ρ W h1 h2 => by go_simp) ?_
        refine PW.move rfl rfl rfl rfl rfl ?_
        refine PW.skip rfl rfl rfl ?_
        refine PW.skip rfl rfl rfl ?_
        refine PW.skip rfl rfl rfl ?_
        refine PW.pick (t := false) rfl rfl rfl rfl rfl rfl ?_
        refine PW.nil ?_
        refine SX.then ?_
        refine SC.cond (t := false) rfl ?_
        refine SC.skip ?_
        refine SX.then ?_
        refine SC.seq ?_
        refine SC.region ?_
        refine PW.call (r := .vl (.bool true)) rfl rfl rfl rfl rfl rfl (KV.st _) rfl (k_awake) ?_
        refine PW.assign rfl rfl rfl rfl rfl ?_
        refine PW.nil ?_
        refine SX.then ?_
        refine SC.ret ?_
        exact SX.done (r := .vl (.bool true)) rfl rfl rfl
      · refine SC.region ?_
        refine PW.load rfl rfl rfl rfl rfl rfl ?_
        refine PW.load rfl rfl rfl rfl rfl rfl ?_
        refine PW.call (r := .kw (K3 (KI (x.tdiv z)) (KI (x.tmod z)) (KV (.int .i64 0)))) rfl rfl rfl rfl rfl rfl (K3.st (KI.st _) (KI.st _) (KV.st _)) rfl (k_div X (by first | decide | omega) hz) ?_
        refine PW.move rfl rfl rfl rfl rfl ?_
        refine PW.ext (r := .kw (KI (x.tdiv z))) rfl rfl rfl rfl rfl ex30 (KI.st _) rfl ?_
        refine PW.ext (r := .kw (KI (x.tmod z))) rfl rfl rfl rfl rfl ex31 (KI.st _) rfl ?_
        refine PW.ext (r := .vl (.int .i64 0)) rfl rfl rfl rfl rfl ex32v (KV.st _) rfl ?_
        refine PW.alloc (BI 28) rfl rfl rfl rfl rfl bI ?_
        refine PW.alloc (BI 28) rfl rfl rfl rfl rfl bI ?_
        refine PW.store (x := .tmp 154) (r := .kw (KI (x.tdiv z))) rfl rfl rfl rfl rfl rfl sh_I ?_
        refine PW.store (x := .tmp 155) (r := .kw (KI (x.tmod z))) rfl rfl rfl rfl rfl rfl sh_I ?_
        refine PW.assign rfl rfl rfl rfl rfl ?_
        refine PW.nil ?_
        refine SX.then ?_
        refine SC.seq ?_
        by_cases h1 : x.tmod z = 0
        · refine SC.region ?_
          refine PW.move rfl rfl rfl rfl rfl ?_
          refine PW.q2 (x := .tmp 157) (y := .const (.int .i64 0)) (.bool true) rfl rfl rfl rfl rfl (fun ρ W h1 h2 => by go_simp) ?_
          refine PW.move rfl rfl rfl rfl rfl ?_
          refine PW.load rfl rfl rfl rfl rfl rfl ?_
          refine PW.call (r := .vl (.int .i64 0)) rfl rfl rfl rfl rfl rfl (KV.st _) rfl (k_sign (by rw [h1]; rfl)) ?_
          refine PW.q2 (x := .tmp 161) (y := .const (.int .i64 0)) (.bool true) rfl rfl rfl rfl rfl (fun ρ W h1 h2 => by go_simp) ?_
          refine PW.pick (t := true) rfl rfl rfl rfl rfl rfl ?_
          refine PW.nil ?_
          refine SX.then ?_
          refine SC.cond (t := true) rfl ?_
          refine SC.seq ?_
          refine SC.region ?_
          refine PW.load rfl rfl rfl rfl rfl rfl ?_
          refine PW.load rfl rfl rfl rfl rfl rfl ?_
          refine PW.call (r := .kw (K3 (KI (y.tdiv z)) (KI (y.tmod z)) (KV (.int .i64 0)))) rfl rfl rfl rfl rfl rfl (K3.st (KI.st _) (KI.st _) (KV.st _)) rfl (k_div Y (by first | decide | omega) hz) ?_
          refine PW.move rfl rfl rfl rfl rfl ?_
          refine PW.ext (r := .kw (KI (y.tdiv z))) rfl rfl rfl rfl rfl ex30 (KI.st _) rfl ?_
          refine PW.ext (r := .kw (KI (y.tmod z))) rfl rfl rfl rfl rfl ex31 (KI.st _) rfl ?_
          refine PW.ext (r := .vl (.int .i64 0)) rfl rfl rfl rfl rfl ex32v (KV.st _) rfl ?_
          refine PW.alloc (BI 28) rfl rfl rfl rfl rfl bI ?_
          refine PW.alloc (BI 28) rfl rfl rfl rfl rfl bI ?_
          refine PW.store (x := .tmp 168) (r := .kw (KI (y.tdiv z))) rfl rfl rfl rfl rfl rfl sh_I ?_
          refine PW.store (x := .tmp 169) (r := .kw (KI (y.tmod z))) rfl rfl rfl rfl rfl rfl sh_I ?_
          refine PW.assign rfl rfl rfl rfl rfl ?_
          refine PW.nil ?_
          refine SX.then ?_
          refine SC.seq ?_
          refine SC.region ?_
          refine PW.load rfl rfl rfl rfl rfl rfl ?_
          refine PW.load rfl rfl rfl rfl rfl rfl ?_
          refine PW.call (r := .kw (K3 (KI (((Int.gcd x y : Int)).tdiv z)) (KI (((Int.gcd x y : Int)).tmod z)) (KV (.int .i64 0)))) rfl rfl rfl rfl rfl rfl (K3.st (KI.st _) (KI.st _) (KV.st _)) rfl (k_div (bd.gcd X Y) (by first | decide | omega) hz) ?_
          refine PW.move rfl rfl rfl rfl rfl ?_
          refine PW.ext (r := .kw (KI (((Int.gcd x y : Int)).tdiv z))) rfl rfl rfl rfl rfl ex30 (KI.st _) rfl ?_
          refine PW.ext (r := .kw (KI (((Int.gcd x y : Int)).tmod z))) rfl rfl rfl rfl rfl ex31 (KI.st _) rfl ?_
          refine PW.ext (r := .vl (.int .i64 0)) rfl rfl rfl rfl rfl ex32v (KV.st _) rfl ?_
          refine PW.alloc (BI 28) rfl rfl rfl rfl rfl bI ?_
          refine PW.alloc (BI 28) rfl rfl rfl rfl rfl bI ?_
          refine PW.store (x := .tmp 175) (r := .kw (KI (((Int.gcd x y : Int)).tdiv z))) rfl rfl rfl rfl rfl rfl sh_I ?_
          refine PW.store (x := .tmp 176) (r := .kw (KI (((Int.gcd x y : Int)).tmod z))) rfl rfl rfl rfl rfl rfl sh_I ?_
          refine PW.assign rfl rfl rfl rfl rfl ?_
          refine PW.nil ?_
          refine SX.then ?_
          refine SC.seq ?_
          by_cases h2 : y.tmod z = 0
          · refine SC.region ?_
            refine PW.load rfl rfl rfl rfl rfl rfl ?_
            refine PW.call (r := .vl (.int .i64 0)) rfl rfl rfl rfl rfl rfl (KV.st _) rfl (k_sign (by rw [h2]; rfl)) ?_
            refine PW.q2 (x := .tmp 179) (y := .const (.int .i64 0)) (.bool true) rfl rfl rfl rfl rfl (fun ρ W h1 h2 => by go_simp) ?_
            refine PW.move rfl rfl rfl rfl rfl ?_
            refine PW.load rfl rfl rfl rfl rfl rfl ?_
            refine PW.call (r := .vl (.int .i64 0)) rfl rfl rfl rfl rfl rfl (KV.st _) rfl (k_sign (by rw [Int.tmod_eq_zero_of_dvd (gcd_dvd h1 h2)]; rfl)) ?_
            refine PW.q2 (x := .tmp 183) (y := .const (.int .i64 0)) (.bool false) rfl rfl rfl rfl rfl (fun ρ W h1 h2 => by go_simp) ?_
            refine PW.pick (t := true) rfl rfl rfl rfl rfl rfl ?_
            refine PW.nil ?_
            refine SX.then ?_
            refine SC.cond (t := false) rfl ?_
            refine SC.skip ?_
            refine SX.then ?_
            refine SC.seq ?_
            refine SC.region ?_
            refine PW.call (r := .vl (.bool true)) rfl rfl rfl rfl rfl rfl (KV.st _) rfl (k_awake) ?_
            refine PW.assign rfl rfl rfl rfl rfl ?_
            refine PW.nil ?_
            refine SX.then ?_
            refine SC.ret ?_
            exact SX.done (r := .vl (.bool true)) rfl rfl rfl
          · have hz2 := h2
            refine SC.region ?_
            refine PW.load rfl rfl rfl rfl rfl rfl ?_
            refine PW.call (r := .vl (.int .i64 (sgn (y.tmod z)))) rfl rfl rfl rfl rfl rfl (KV.st _) rfl (k_sign (rfl)) ?_
            refine PW.q2 (x := .tmp 179) (y := .const (.int .i64 0)) (.bool false) rfl rfl rfl rfl rfl (fun ρ W h1 h2 => by exact r_eqs h1 h2 (sgn_nz hz2)) ?_
            refine PW.move rfl rfl rfl rfl rfl ?_
            refine PW.skip rfl rfl rfl ?_
            refine PW.skip rfl rfl rfl ?_
            refine PW.skip rfl rfl rfl ?_
            refine PW.pick (t := false) rfl rfl rfl rfl rfl rfl ?_
            refine PW.nil ?_
            refine SX.then ?_
            refine SC.cond (t := false) rfl ?_
            refine SC.skip ?_
            refine SX.then ?_
            refine SC.seq ?_
            refine SC.region ?_
            refine PW.call (r := .vl (.bool true)) rfl rfl rfl rfl rfl rfl (KV.st _) rfl (k_awake) ?_
            refine PW.assign rfl rfl rfl rfl rfl ?_
            refine PW.nil ?_
            refine SX.then ?_
            refine SC.ret ?_
            exact SX.done (r := .vl (.bool true)) rfl rfl rfl
        · have hz1 := h1
          refine SC.region ?_
          refine PW.move rfl rfl rfl rfl rfl ?_
          refine PW.q2 (x := .tmp 157) (y := .const (.int .i64 0)) (.bool true) rfl rfl rfl rfl rfl (fun ρ W h1 h2 => by go_simp) ?_
          refine PW.move rfl rfl rfl rfl rfl ?_
          refine PW.load rfl rfl rfl rfl rfl rfl ?_
          refine PW.call (r := .vl (.int .i64 (sgn (x.tmod z)))) rfl rfl rfl rfl rfl rfl (KV.st _) rfl (k_sign (rfl)) ?_
          refine PW.q2 (x := .tmp 161) (y := .const (.int .i64 0)) (.bool false) rfl rfl rfl rfl rfl (fun ρ W h1 h2 => by exact r_eqs h1 h2 (sgn_nz hz1)) ?_
          refine PW.pick (t := true) rfl rfl rfl rfl rfl rfl ?_
          refine PW.nil ?_
          refine SX.then ?_
          refine SC.cond (t := false) rfl ?_
          refine SC.skip ?_
          refine SX.then ?_
          refine SC.seq ?_
          refine SC.region ?_
          refine PW.call (r := .vl (.bool true)) rfl rfl rfl rfl rfl rfl (KV.st _) rfl (k_awake) ?_
          refine PW.assign rfl rfl rfl rfl rfl ?_
          refine PW.nil ?_
          refine SX.then ?_
          refine SC.ret ?_
          exact SX.done (r := .vl (.bool true)) rfl rfl rfl
end Go.Proofs.Ytcgkgcciogibkaa.Sy
/- IntegerActs: the walk, by rules. -/
set_option linter.unusedVariables false
set_option linter.unusedSimpArgs false
namespace Go.Proofs.Ytcgkgcciogibkaa
open Go.RowKit Ma Sy
set_option maxHeartbeats 12800000 in
set_option maxRecDepth 100000 in
theorem integerActs_walk {n1 n2 : Bool} {A1 A2 : Option Addr} {l1 l2 c1 c2 : Nat} {xs1 xs2 : List Int}  {w : World} (h1 : In w A1 l1 c1 xs1) (h2 : In w A2 l2 c2 xs2) :
    Calls Try.prog 5 #[.agg #[.bool n1, .slice A1 l1 c1], .agg #[.bool n2, .slice A2 l2 c2]] w (Ret w (KV (.bool true))) := by
  obtain ⟨x, hz1⟩ : ∃ z, z = sg n1 (lv b32 xs1) := ⟨_, rfl⟩
  obtain ⟨y, hz2⟩ : ∃ z, z = sg n2 (lv b32 xs2) := ⟨_, rfl⟩
  refine calls_sc (l := [.vl (.agg #[.bool n1, .slice A1 l1 c1]), .vl (.agg #[.bool n2, .slice A2 l2 c2])]) (us := [.agg #[.bool n1, .slice A1 l1 c1], .agg #[.bool n2, .slice A2 l2 c2]]) 120 Try.func5 rfl Try.ntmps5 (by simp) ⟨rfl, rfl, rfl, rfl, trivial⟩ ?_
  refine SC.seq ?_
  refine SC.region ?_
  refine PW.box (x := .tmp 0) (r := .vl (.agg #[.bool n1, .slice A1 l1 c1])) (BI 24) rfl rfl rfl rfl rfl bN rfl sh_V ?_
  refine PW.box (x := .tmp 1) (r := .vl (.agg #[.bool n2, .slice A2 l2 c2])) (BI 24) rfl rfl rfl rfl rfl bN rfl sh_V ?_
  refine PW.assign rfl rfl rfl rfl rfl ?_
  refine PW.nil ?_
  refine SX.then ?_
  refine SC.seq ?_
  refine SC.seq ?_
  by_cases hs : shB 8 [(n1, A1, l1, c1), (n2, A2, l2, c2)] = true
  · have hlehs : l1 ≤ 8 ∧ l2 ≤ 8 := by simpa [shB] using hs
    have X : bd 8 x := hz1 ▸ bd_sg h1.2.2.2 (by have := h1.1; omega)
    have Y : bd 8 y := hz2 ▸ bd_sg h2.2.2.2 (by have := h2.1; omega)
    have hl1 : l1 ≤ 8 := by omega
    have hl2 : l2 ≤ 8 := by omega
    refine SC.region ?_
    refine PW.loadV rfl rfl rfl rfl rfl rfl ?_
    refine PW.loadV rfl rfl rfl rfl rfl rfl ?_
    refine PW.short 8 [(n1, A1, l1, c1), (n2, A2, l2, c2)] _ rfl rfl rfl (fun a W hf => r_bN2 (hf.vl (s := 15) rfl) (hf.vl (s := 16) rfl)) (fun W => ns_lit2 W) (by simp; exact ⟨In.lim h1, In.lim h2⟩) rfl rfl hs rfl rfl rfl rfl rfl rfl ?_
    refine PW.q1 (x := .tmp 18) (.bool false) rfl rfl rfl rfl (fun ρ W h1 => by go_simp) ?_
    refine PW.nil ?_
    refine SX.then ?_
    refine SC.cond (t := false) rfl ?_
    refine SC.skip ?_
    refine SX.then ?_
    refine SC.seq ?_
    refine SC.region ?_
    refine PW.loadV rfl rfl rfl rfl rfl rfl ?_
    refine PW.callG (r := .kw (K2 (KI (x)) (KJ (x)))) ce_of rfl rfl rfl rfl rfl (K2.st (KI.st _) (KJ.st _)) rfl (fun a W hf => by have e1 := hf.vl (s := 22) rfl; show Calls Try.prog _ #[a.tmps.getD 22 undef] W _; rw [e1]; exact of_in h1 hf.be (by omega) hz1) ?_
    refine PW.move rfl rfl rfl rfl rfl ?_
    refine PW.ext (r := .kw (KI (x))) rfl rfl rfl rfl rfl ex20 (KI.st _) rfl ?_
    refine PW.ext (r := .kw (KJ (x))) rfl rfl rfl rfl rfl ex21 (KJ.st _) rfl ?_
    refine PW.alloc (BI 28) rfl rfl rfl rfl rfl bI ?_
    refine PW.alloc (BI 31) rfl rfl rfl rfl rfl bJ ?_
    refine PW.store (x := .tmp 24) (r := .kw (KI (x))) rfl rfl rfl rfl rfl rfl sh_I ?_
    refine PW.store (x := .tmp 25) (r := .kw (KJ (x))) rfl rfl rfl rfl rfl rfl sh_J ?_
    refine PW.nil ?_
    refine SX.then ?_
    refine SC.seq ?_
    refine SC.region ?_
    refine PW.loadV rfl rfl rfl rfl rfl rfl ?_
    refine PW.callG (r := .kw (K2 (KI (y)) (KJ (y)))) ce_of rfl rfl rfl rfl rfl (K2.st (KI.st _) (KJ.st _)) rfl (fun a W hf => by have e1 := hf.vl (s := 27) rfl; show Calls Try.prog _ #[a.tmps.getD 27 undef] W _; rw [e1]; exact of_in h2 hf.be (by omega) hz2) ?_
    refine PW.move rfl rfl rfl rfl rfl ?_
    refine PW.ext (r := .kw (KI (y))) rfl rfl rfl rfl rfl ex20 (KI.st _) rfl ?_
    refine PW.ext (r := .kw (KJ (y))) rfl rfl rfl rfl rfl ex21 (KJ.st _) rfl ?_
    refine PW.alloc (BI 28) rfl rfl rfl rfl rfl bI ?_
    refine PW.alloc (BI 31) rfl rfl rfl rfl rfl bJ ?_
    refine PW.store (x := .tmp 29) (r := .kw (KI (y))) rfl rfl rfl rfl rfl rfl sh_I ?_
    refine PW.store (x := .tmp 30) (r := .kw (KJ (y))) rfl rfl rfl rfl rfl rfl sh_J ?_
    refine PW.nil ?_
    refine SX.then ?_
    refine SC.seq ?_
    by_cases hy : y = 0
    · refine SC.region ?_
      refine PW.load rfl rfl rfl rfl rfl rfl ?_
      refine PW.load rfl rfl rfl rfl rfl rfl ?_
      refine PW.call (r := .kw (K3 (KI (0)) (KI (0)) (KV (.int .i64 6)))) rfl rfl rfl rfl rfl rfl (K3.st (KI.st _) (KI.st _) (KV.st _)) rfl (k_div0' hy) ?_
      refine PW.move rfl rfl rfl rfl rfl ?_
      refine PW.ext (r := .kw (KI (0))) rfl rfl rfl rfl rfl ex30 (KI.st _) rfl ?_
      refine PW.ext (r := .kw (KI (0))) rfl rfl rfl rfl rfl ex31 (KI.st _) rfl ?_
      refine PW.ext (r := .vl (.int .i64 6)) rfl rfl rfl rfl rfl ex32v (KV.st _) rfl ?_
      refine PW.alloc (BI 28) rfl rfl rfl rfl rfl bI ?_
      refine PW.alloc (BI 28) rfl rfl rfl rfl rfl bI ?_
      refine PW.store (x := .tmp 35) (r := .kw (KI (0))) rfl rfl rfl rfl rfl rfl sh_I ?_
      refine PW.store (x := .tmp 36) (r := .kw (KI (0))) rfl rfl rfl rfl rfl rfl sh_I ?_
      refine PW.assign rfl rfl rfl rfl rfl ?_
      refine PW.nil ?_
      refine SX.then ?_
      refine SC.seq ?_
      refine SC.region ?_
      refine PW.load rfl rfl rfl rfl rfl rfl ?_
      refine PW.load rfl rfl rfl rfl rfl rfl ?_
      refine PW.call (r := .kw (K3 (KJ (0)) (KJ (0)) (KV (.int .i64 6)))) rfl rfl rfl rfl rfl rfl (K3.st (KJ.st _) (KJ.st _) (KV.st _)) rfl (k_jdiv0 hy) ?_
      refine PW.move rfl rfl rfl rfl rfl ?_
      refine PW.ext (r := .kw (KJ (0))) rfl rfl rfl rfl rfl ex30 (KJ.st _) rfl ?_
      refine PW.ext (r := .kw (KJ (0))) rfl rfl rfl rfl rfl ex31 (KJ.st _) rfl ?_
      refine PW.ext (r := .vl (.int .i64 6)) rfl rfl rfl rfl rfl ex32v (KV.st _) rfl ?_
      refine PW.alloc (BI 31) rfl rfl rfl rfl rfl bJ ?_
      refine PW.alloc (BI 31) rfl rfl rfl rfl rfl bJ ?_
      refine PW.store (x := .tmp 42) (r := .kw (KJ (0))) rfl rfl rfl rfl rfl rfl sh_J ?_
      refine PW.store (x := .tmp 43) (r := .kw (KJ (0))) rfl rfl rfl rfl rfl rfl sh_J ?_
      refine PW.assign rfl rfl rfl rfl rfl ?_
      refine PW.nil ?_
      refine SX.then ?_
      refine SC.seq ?_
      refine SC.dx [.val 45 (.kw (KI (x))), .val 46 (.kw (KI (y))), .val 47 (.vl (.int .i64 (cmp x y))), .val 48 (.kw (KJ (x))), .val 49 (.kw (KJ (y))), .val 50 (.vl (.int .i64 (cmp x y))), .val 51 (.vl (.bool true)), .val 52 (.vl (.bool true)), .val 53 (.kw (KI (x))), .val 54 (.kw (KI (-x))), .val 55 (.kw (KJ (x))), .val 56 (.kw (KJ (-x))), .val 57 (.vl (.bool true)), .val 58 (.vl (.bool true)), .val 59 (.vl (.bool true)), .val 60 (.kw (KI (x))), .val 61 (.kw (KI ((x.natAbs : Int)))), .val 62 (.kw (KJ (x))), .val 63 (.kw (KJ ((x.natAbs : Int)))), .val 64 (.vl (.bool true)), .val 65 (.vl (.bool true)), .val 66 (.vl (.bool true)), .val 67 (.kw (KI (x))), .val 68 (.kw (KI (y))), .val 69 (.kw (KI (x + y))), .val 70 (.kw (KJ (x))), .val 71 (.kw (KJ (y))), .val 72 (.kw (KJ (x + y))), .val 73 (.vl (.bool true)), .val 74 (.vl (.bool true)), .val 75 (.vl (.bool true)), .val 76 (.kw (KI (x))), .val 77 (.kw (KI (y))), .val 78 (.kw (KI (x - y))), .val 79 (.kw (KJ (x))), .val 80 (.kw (KJ (y))), .val 81 (.kw (KJ (x - y))), .val 82 (.vl (.bool true)), .val 83 (.vl (.bool true)), .val 84 (.vl (.bool true)), .val 85 (.kw (KI (x))), .val 86 (.kw (KI (y))), .val 87 (.kw (KI (x * y))), .val 88 (.kw (KJ (x))), .val 89 (.kw (KJ (y))), .val 90 (.kw (KJ (x * y))), .val 91 (.vl (.bool true)), .val 92 (.vl (.bool true)), .val 93 (.vl (.bool true)), .val 94 (.vl (.int .i64 6)), .val 95 (.vl (.int .i64 6)), .val 96 (.vl (.bool true)), .val 97 (.vl (.bool true)), .val 98 (.vl (.bool true)), .val 99 (.kw (KI (0))), .val 100 (.kw (KJ (0))), .val 101 (.vl (.bool true)), .val 102 (.vl (.bool true)), .val 103 (.vl (.bool true)), .val 104 (.kw (KI (0))), .val 105 (.kw (KJ (0))), .val 106 (.vl (.bool true)), .val 107 (.vl (.bool true)), .val 108 (.vl (.bool true)), .val 109 (.kw (KI (x))), .val 110 (.kw (KI (y))), .val 111 (.kw (KI ((Int.gcd x y : Int)))), .val 112 (.kw (KJ (x))), .val 113 (.kw (KJ (y))), .val 114 (.kw (KJ ((Int.gcd x y : Int)))), .val 115 (.vl (.bool true)), .val 116 (.vl (.bool true)), .val 117 (.vl (.bool true)), .val 118 (.vl (.bool true)), .val 119 (.vl (.bool true)), .val 4 (.vl (.bool true))] [([], [5]), ([], [7]), ([0, 1], []), ([], [6]), ([], [8]), ([3, 4], []), ([2, 5], []), ([6], []), ([7], [5]), ([8, 7], []), ([7], [6]), ([10, 7], []), ([9, 11, 7], []), ([7, 12], []), ([13], []), ([14], [5]), ([15, 14], []), ([14], [6]), ([17, 14], []), ([16, 18, 14], []), ([14, 19], []), ([20], []), ([21], [5]), ([21], [7]), ([22, 23, 21], []), ([21], [6]), ([21], [8]), ([25, 26, 21], []), ([24, 27, 21], []), ([21, 28], []), ([29], []), ([30], [5]), ([30], [7]), ([31, 32, 30], []), ([30], [6]), ([30], [8]), ([34, 35, 30], []), ([33, 36, 30], []), ([30, 37], []), ([38], []), ([39], [5]), ([39], [7]), ([40, 41, 39], []), ([39], [6]), ([39], [8]), ([43, 44, 39], []), ([42, 45, 39], []), ([39, 46], []), ([47], []), ([48], [11]), ([48], [14]), ([49, 50, 48], []), ([48, 51], []), ([52], []), ([53], [9]), ([53], [12]), ([54, 55, 53], []), ([53, 56], []), ([57], []), ([58], [10]), ([58], [13]), ([59, 60, 58], []), ([58, 61], []), ([62], []), ([63], [5]), ([63], [7]), ([64, 65, 63], []), ([63], [6]), ([63], [8]), ([67, 68, 63], []), ([66, 69, 63], []), ([63, 70], []), ([71], []), ([72], []), ([72, 73], []), ([74], [])] rfl (by kernel_rfl) (by kernel_rfl) (by kernel_rfl) rfl ⟨?_, ?_, ?_, ?_, ?_, ?_, ?_, ?_, ?_, ?_, ?_, ?_, ?_, ?_, ?_, ?_, ?_, ?_, ?_, ?_, ?_, ?_, ?_, ?_, ?_, ?_, ?_, ?_, ?_, ?_, ?_, ?_, ?_, ?_, ?_, ?_, ?_, ?_, ?_, ?_, ?_, ?_, ?_, ?_, ?_, ?_, ?_, ?_, ?_, ?_, ?_, ?_, ?_, ?_, ?_, ?_, ?_, ?_, ?_, ?_, ?_, ?_, ?_, ?_, ?_, ?_, ?_, ?_, ?_, ?_, ?_, ?_, ?_, ?_, ?_, ?_, trivial⟩ ?_
      · exact DX.load rfl rfl rfl rfl rfl rfl
      · exact DX.load rfl rfl rfl rfl rfl rfl
      · exact DX.call (r := .vl (.int .i64 (cmp x y))) rfl rfl rfl rfl rfl rfl (KV.st _) rfl (k_cmp rfl)
      · exact DX.load rfl rfl rfl rfl rfl rfl
      · exact DX.load rfl rfl rfl rfl rfl rfl
      · exact DX.call (r := .vl (.int .i64 (cmp x y))) rfl rfl rfl rfl rfl rfl (KV.st _) rfl (k_jcmp X Y (by first | decide | omega) (by first | decide | omega) rfl)
      · exact DX.q2 (x := .tmp 47) (y := .tmp 50) (.bool true) rfl rfl rfl rfl rfl (fun ρ W h1 h2 => by go_simp)
      · exact DX.move rfl rfl rfl rfl rfl rfl
      · exact DX.load rfl rfl rfl rfl rfl rfl
      · exact DX.call (r := .kw (KI (-x))) rfl rfl rfl rfl rfl rfl (KI.st _) rfl (k_neg)
      · exact DX.load rfl rfl rfl rfl rfl rfl
      · exact DX.call (r := .kw (KJ (-x))) rfl rfl rfl rfl rfl rfl (KJ.st _) rfl (k_jneg)
      · exact DX.call (r := .vl (.bool true)) rfl rfl rfl rfl rfl rfl (KV.st _) rfl (k_is X.neg (by first | decide | omega) rfl)
      · exact DX.pick (t := true) rfl rfl rfl rfl rfl rfl rfl
      · exact DX.move rfl rfl rfl rfl rfl rfl
      · exact DX.load rfl rfl rfl rfl rfl rfl
      · exact DX.call (r := .kw (KI ((x.natAbs : Int)))) rfl rfl rfl rfl rfl rfl (KI.st _) rfl (k_abs)
      · exact DX.load rfl rfl rfl rfl rfl rfl
      · exact DX.call (r := .kw (KJ ((x.natAbs : Int)))) rfl rfl rfl rfl rfl rfl (KJ.st _) rfl (k_jabs)
      · exact DX.call (r := .vl (.bool true)) rfl rfl rfl rfl rfl rfl (KV.st _) rfl (k_is X.abs (by first | decide | omega) rfl)
      · exact DX.pick (t := true) rfl rfl rfl rfl rfl rfl rfl
      · exact DX.move rfl rfl rfl rfl rfl rfl
      · exact DX.load rfl rfl rfl rfl rfl rfl
      · exact DX.load rfl rfl rfl rfl rfl rfl
      · exact DX.call (r := .kw (KI (x + y))) rfl rfl rfl rfl rfl rfl (KI.st _) rfl (k_add X Y (by first | decide | omega) (by first | decide | omega))
      · exact DX.load rfl rfl rfl rfl rfl rfl
      · exact DX.load rfl rfl rfl rfl rfl rfl
      · exact DX.call (r := .kw (KJ (x + y))) rfl rfl rfl rfl rfl rfl (KJ.st _) rfl (k_jadd X Y (by first | decide | omega) (by first | decide | omega))
      · exact DX.call (r := .vl (.bool true)) rfl rfl rfl rfl rfl rfl (KV.st _) rfl (k_is (X.add Y) (by first | decide | omega) rfl)
      · exact DX.pick (t := true) rfl rfl rfl rfl rfl rfl rfl
      · exact DX.move rfl rfl rfl rfl rfl rfl
      · exact DX.load rfl rfl rfl rfl rfl rfl
      · exact DX.load rfl rfl rfl rfl rfl rfl
      · exact DX.call (r := .kw (KI (x - y))) rfl rfl rfl rfl rfl rfl (KI.st _) rfl (k_sub X Y (by first | decide | omega) (by first | decide | omega))
      · exact DX.load rfl rfl rfl rfl rfl rfl
      · exact DX.load rfl rfl rfl rfl rfl rfl
      · exact DX.call (r := .kw (KJ (x - y))) rfl rfl rfl rfl rfl rfl (KJ.st _) rfl (k_jsub X Y (by first | decide | omega) (by first | decide | omega))
      · exact DX.call (r := .vl (.bool true)) rfl rfl rfl rfl rfl rfl (KV.st _) rfl (k_is (X.sub Y) (by first | decide | omega) rfl)
      · exact DX.pick (t := true) rfl rfl rfl rfl rfl rfl rfl
      · exact DX.move rfl rfl rfl rfl rfl rfl
      · exact DX.load rfl rfl rfl rfl rfl rfl
      · exact DX.load rfl rfl rfl rfl rfl rfl
      · exact DX.call (r := .kw (KI (x * y))) rfl rfl rfl rfl rfl rfl (KI.st _) rfl (k_mul X Y (by first | decide | omega) (by first | decide | omega))
      · exact DX.load rfl rfl rfl rfl rfl rfl
      · exact DX.load rfl rfl rfl rfl rfl rfl
      · exact DX.call (r := .kw (KJ (x * y))) rfl rfl rfl rfl rfl rfl (KJ.st _) rfl (k_jmul X Y (by first | decide | omega) (by first | decide | omega))
      · exact DX.call (r := .vl (.bool true)) rfl rfl rfl rfl rfl rfl (KV.st _) rfl (k_is (X.mul Y) (by first | decide | omega) rfl)
      · exact DX.pick (t := true) rfl rfl rfl rfl rfl rfl rfl
      · exact DX.move rfl rfl rfl rfl rfl rfl
      · exact DX.move rfl rfl rfl rfl rfl rfl
      · exact DX.move rfl rfl rfl rfl rfl rfl
      · exact DX.q2 (x := .tmp 94) (y := .tmp 95) (.bool true) rfl rfl rfl rfl rfl (fun ρ W h1 h2 => by go_simp)
      · exact DX.pick (t := true) rfl rfl rfl rfl rfl rfl rfl
      · exact DX.move rfl rfl rfl rfl rfl rfl
      · exact DX.load rfl rfl rfl rfl rfl rfl
      · exact DX.load rfl rfl rfl rfl rfl rfl
      · exact DX.call (r := .vl (.bool true)) rfl rfl rfl rfl rfl rfl (KV.st _) rfl (k_is (bd.zero (a := 1)) (by first | decide | omega) rfl)
      · exact DX.pick (t := true) rfl rfl rfl rfl rfl rfl rfl
      · exact DX.move rfl rfl rfl rfl rfl rfl
      · exact DX.load rfl rfl rfl rfl rfl rfl
      · exact DX.load rfl rfl rfl rfl rfl rfl
      · exact DX.call (r := .vl (.bool true)) rfl rfl rfl rfl rfl rfl (KV.st _) rfl (k_is (bd.zero (a := 1)) (by first | decide | omega) rfl)
      · exact DX.pick (t := true) rfl rfl rfl rfl rfl rfl rfl
      · exact DX.move rfl rfl rfl rfl rfl rfl
      · exact DX.load rfl rfl rfl rfl rfl rfl
      · exact DX.load rfl rfl rfl rfl rfl rfl
      · exact DX.call (r := .kw (KI ((Int.gcd x y : Int)))) rfl rfl rfl rfl rfl rfl (KI.st _) rfl (k_gcd X Y (by first | decide | omega) (by first | decide | omega))
      · exact DX.load rfl rfl rfl rfl rfl rfl
      · exact DX.load rfl rfl rfl rfl rfl rfl
      · exact DX.call (r := .kw (KJ ((Int.gcd x y : Int)))) rfl rfl rfl rfl rfl rfl (KJ.st _) rfl (k_jgcd X Y (by first | decide | omega) (by first | decide | omega))
      · exact DX.call (r := .vl (.bool true)) rfl rfl rfl rfl rfl rfl (KV.st _) rfl (k_is (bd.gcd X Y) (by first | decide | omega) rfl)
      · exact DX.pick (t := true) rfl rfl rfl rfl rfl rfl rfl
      · exact DX.move rfl rfl rfl rfl rfl rfl
      · exact DX.call (r := .vl (.bool true)) rfl rfl rfl rfl rfl rfl (KV.st _) rfl (k_awake)
      · exact DX.pick (t := true) rfl rfl rfl rfl rfl rfl rfl
      · exact DX.assign rfl rfl rfl rfl rfl rfl
      refine SX.then ?_
      refine SC.ret ?_
      exact SX.done (r := .vl (.bool true)) rfl rfl rfl
    · refine SC.region ?_
      refine PW.load rfl rfl rfl rfl rfl rfl ?_
      refine PW.load rfl rfl rfl rfl rfl rfl ?_
      refine PW.call (r := .kw (K3 (KI (x.tdiv y)) (KI (x.tmod y)) (KV (.int .i64 0)))) rfl rfl rfl rfl rfl rfl (K3.st (KI.st _) (KI.st _) (KV.st _)) rfl (k_div X (by first | decide | omega) hy) ?_
      refine PW.move rfl rfl rfl rfl rfl ?_
      refine PW.ext (r := .kw (KI (x.tdiv y))) rfl rfl rfl rfl rfl ex30 (KI.st _) rfl ?_
      refine PW.ext (r := .kw (KI (x.tmod y))) rfl rfl rfl rfl rfl ex31 (KI.st _) rfl ?_
      refine PW.ext (r := .vl (.int .i64 0)) rfl rfl rfl rfl rfl ex32v (KV.st _) rfl ?_
      refine PW.alloc (BI 28) rfl rfl rfl rfl rfl bI ?_
      refine PW.alloc (BI 28) rfl rfl rfl rfl rfl bI ?_
      refine PW.store (x := .tmp 35) (r := .kw (KI (x.tdiv y))) rfl rfl rfl rfl rfl rfl sh_I ?_
      refine PW.store (x := .tmp 36) (r := .kw (KI (x.tmod y))) rfl rfl rfl rfl rfl rfl sh_I ?_
      refine PW.assign rfl rfl rfl rfl rfl ?_
      refine PW.nil ?_
      refine SX.then ?_
      refine SC.seq ?_
      refine SC.region ?_
      refine PW.load rfl rfl rfl rfl rfl rfl ?_
      refine PW.load rfl rfl rfl rfl rfl rfl ?_
      refine PW.call (r := .kw (K3 (KJ (x.tdiv y)) (KJ (x.tmod y)) (KV (.int .i64 0)))) rfl rfl rfl rfl rfl rfl (K3.st (KJ.st _) (KJ.st _) (KV.st _)) rfl (k_jdiv X Y (by first | decide | omega) (by first | decide | omega) hy) ?_
      refine PW.move rfl rfl rfl rfl rfl ?_
      refine PW.ext (r := .kw (KJ (x.tdiv y))) rfl rfl rfl rfl rfl ex30 (KJ.st _) rfl ?_
      refine PW.ext (r := .kw (KJ (x.tmod y))) rfl rfl rfl rfl rfl ex31 (KJ.st _) rfl ?_
      refine PW.ext (r := .vl (.int .i64 0)) rfl rfl rfl rfl rfl ex32v (KV.st _) rfl ?_
      refine PW.alloc (BI 31) rfl rfl rfl rfl rfl bJ ?_
      refine PW.alloc (BI 31) rfl rfl rfl rfl rfl bJ ?_
      refine PW.store (x := .tmp 42) (r := .kw (KJ (x.tdiv y))) rfl rfl rfl rfl rfl rfl sh_J ?_
      refine PW.store (x := .tmp 43) (r := .kw (KJ (x.tmod y))) rfl rfl rfl rfl rfl rfl sh_J ?_
      refine PW.assign rfl rfl rfl rfl rfl ?_
      refine PW.nil ?_
      refine SX.then ?_
      refine SC.seq ?_
      refine SC.dx [.val 45 (.kw (KI (x))), .val 46 (.kw (KI (y))), .val 47 (.vl (.int .i64 (cmp x y))), .val 48 (.kw (KJ (x))), .val 49 (.kw (KJ (y))), .val 50 (.vl (.int .i64 (cmp x y))), .val 51 (.vl (.bool true)), .val 52 (.vl (.bool true)), .val 53 (.kw (KI (x))), .val 54 (.kw (KI (-x))), .val 55 (.kw (KJ (x))), .val 56 (.kw (KJ (-x))), .val 57 (.vl (.bool true)), .val 58 (.vl (.bool true)), .val 59 (.vl (.bool true)), .val 60 (.kw (KI (x))), .val 61 (.kw (KI ((x.natAbs : Int)))), .val 62 (.kw (KJ (x))), .val 63 (.kw (KJ ((x.natAbs : Int)))), .val 64 (.vl (.bool true)), .val 65 (.vl (.bool true)), .val 66 (.vl (.bool true)), .val 67 (.kw (KI (x))), .val 68 (.kw (KI (y))), .val 69 (.kw (KI (x + y))), .val 70 (.kw (KJ (x))), .val 71 (.kw (KJ (y))), .val 72 (.kw (KJ (x + y))), .val 73 (.vl (.bool true)), .val 74 (.vl (.bool true)), .val 75 (.vl (.bool true)), .val 76 (.kw (KI (x))), .val 77 (.kw (KI (y))), .val 78 (.kw (KI (x - y))), .val 79 (.kw (KJ (x))), .val 80 (.kw (KJ (y))), .val 81 (.kw (KJ (x - y))), .val 82 (.vl (.bool true)), .val 83 (.vl (.bool true)), .val 84 (.vl (.bool true)), .val 85 (.kw (KI (x))), .val 86 (.kw (KI (y))), .val 87 (.kw (KI (x * y))), .val 88 (.kw (KJ (x))), .val 89 (.kw (KJ (y))), .val 90 (.kw (KJ (x * y))), .val 91 (.vl (.bool true)), .val 92 (.vl (.bool true)), .val 93 (.vl (.bool true)), .val 94 (.vl (.int .i64 0)), .val 95 (.vl (.int .i64 0)), .val 96 (.vl (.bool true)), .val 97 (.vl (.bool true)), .val 98 (.vl (.bool true)), .val 99 (.kw (KI (x.tdiv y))), .val 100 (.kw (KJ (x.tdiv y))), .val 101 (.vl (.bool true)), .val 102 (.vl (.bool true)), .val 103 (.vl (.bool true)), .val 104 (.kw (KI (x.tmod y))), .val 105 (.kw (KJ (x.tmod y))), .val 106 (.vl (.bool true)), .val 107 (.vl (.bool true)), .val 108 (.vl (.bool true)), .val 109 (.kw (KI (x))), .val 110 (.kw (KI (y))), .val 111 (.kw (KI ((Int.gcd x y : Int)))), .val 112 (.kw (KJ (x))), .val 113 (.kw (KJ (y))), .val 114 (.kw (KJ ((Int.gcd x y : Int)))), .val 115 (.vl (.bool true)), .val 116 (.vl (.bool true)), .val 117 (.vl (.bool true)), .val 118 (.vl (.bool true)), .val 119 (.vl (.bool true)), .val 4 (.vl (.bool true))] [([], [5]), ([], [7]), ([0, 1], []), ([], [6]), ([], [8]), ([3, 4], []), ([2, 5], []), ([6], []), ([7], [5]), ([8, 7], []), ([7], [6]), ([10, 7], []), ([9, 11, 7], []), ([7, 12], []), ([13], []), ([14], [5]), ([15, 14], []), ([14], [6]), ([17, 14], []), ([16, 18, 14], []), ([14, 19], []), ([20], []), ([21], [5]), ([21], [7]), ([22, 23, 21], []), ([21], [6]), ([21], [8]), ([25, 26, 21], []), ([24, 27, 21], []), ([21, 28], []), ([29], []), ([30], [5]), ([30], [7]), ([31, 32, 30], []), ([30], [6]), ([30], [8]), ([34, 35, 30], []), ([33, 36, 30], []), ([30, 37], []), ([38], []), ([39], [5]), ([39], [7]), ([40, 41, 39], []), ([39], [6]), ([39], [8]), ([43, 44, 39], []), ([42, 45, 39], []), ([39, 46], []), ([47], []), ([48], [11]), ([48], [14]), ([49, 50, 48], []), ([48, 51], []), ([52], []), ([53], [9]), ([53], [12]), ([54, 55, 53], []), ([53, 56], []), ([57], []), ([58], [10]), ([58], [13]), ([59, 60, 58], []), ([58, 61], []), ([62], []), ([63], [5]), ([63], [7]), ([64, 65, 63], []), ([63], [6]), ([63], [8]), ([67, 68, 63], []), ([66, 69, 63], []), ([63, 70], []), ([71], []), ([72], []), ([72, 73], []), ([74], [])] rfl (by kernel_rfl) (by kernel_rfl) (by kernel_rfl) rfl ⟨?_, ?_, ?_, ?_, ?_, ?_, ?_, ?_, ?_, ?_, ?_, ?_, ?_, ?_, ?_, ?_, ?_, ?_, ?_, ?_, ?_, ?_, ?_, ?_, ?_, ?_, ?_, ?_, ?_, ?_, ?_, ?_, ?_, ?_, ?_, ?_, ?_, ?_, ?_, ?_, ?_, ?_, ?_, ?_, ?_, ?_, ?_, ?_, ?_, ?_, ?_, ?_, ?_, ?_, ?_, ?_, ?_, ?_, ?_, ?_, ?_, ?_, ?_, ?_, ?_, ?_, ?_, ?_, ?_, ?_, ?_, ?_, ?_, ?_, ?_, ?_, trivial⟩ ?_
      · exact DX.load rfl rfl rfl rfl rfl rfl
      · exact DX.load rfl rfl rfl rfl rfl rfl
      · exact DX.call (r := .vl (.int .i64 (cmp x y))) rfl rfl rfl rfl rfl rfl (KV.st _) rfl (k_cmp rfl)
      · exact DX.load rfl rfl rfl rfl rfl rfl
      · exact DX.load rfl rfl rfl rfl rfl rfl
      · exact DX.call (r := .vl (.int .i64 (cmp x y))) rfl rfl rfl rfl rfl rfl (KV.st _) rfl (k_jcmp X Y (by first | decide | omega) (by first | decide | omega) rfl)
      · exact DX.q2 (x := .tmp 47) (y := .tmp 50) (.bool true) rfl rfl rfl rfl rfl (fun ρ W h1 h2 => by go_simp)
      · exact DX.move rfl rfl rfl rfl rfl rfl
      · exact DX.load rfl rfl rfl rfl rfl rfl
      · exact DX.call (r := .kw (KI (-x))) rfl rfl rfl rfl rfl rfl (KI.st _) rfl (k_neg)
      · exact DX.load rfl rfl rfl rfl rfl rfl
      · exact DX.call (r := .kw (KJ (-x))) rfl rfl rfl rfl rfl rfl (KJ.st _) rfl (k_jneg)
      · exact DX.call (r := .vl (.bool true)) rfl rfl rfl rfl rfl rfl (KV.st _) rfl (k_is X.neg (by first | decide | omega) rfl)
      · exact DX.pick (t := true) rfl rfl rfl rfl rfl rfl rfl
      · exact DX.move rfl rfl rfl rfl rfl rfl
      · exact DX.load rfl rfl rfl rfl rfl rfl
      · exact DX.call (r := .kw (KI ((x.natAbs : Int)))) rfl rfl rfl rfl rfl rfl (KI.st _) rfl (k_abs)
      · exact DX.load rfl rfl rfl rfl rfl rfl
      · exact DX.call (r := .kw (KJ ((x.natAbs : Int)))) rfl rfl rfl rfl rfl rfl (KJ.st _) rfl (k_jabs)
      · exact DX.call (r := .vl (.bool true)) rfl rfl rfl rfl rfl rfl (KV.st _) rfl (k_is X.abs (by first | decide | omega) rfl)
      · exact DX.pick (t := true) rfl rfl rfl rfl rfl rfl rfl
      · exact DX.move rfl rfl rfl rfl rfl rfl
      · exact DX.load rfl rfl rfl rfl rfl rfl
      · exact DX.load rfl rfl rfl rfl rfl rfl
      · exact DX.call (r := .kw (KI (x + y))) rfl rfl rfl rfl rfl rfl (KI.st _) rfl (k_add X Y (by first | decide | omega) (by first | decide | omega))
      · exact DX.load rfl rfl rfl rfl rfl rfl
      · exact DX.load rfl rfl rfl rfl rfl rfl
      · exact DX.call (r := .kw (KJ (x + y))) rfl rfl rfl rfl rfl rfl (KJ.st _) rfl (k_jadd X Y (by first | decide | omega) (by first | decide | omega))
      · exact DX.call (r := .vl (.bool true)) rfl rfl rfl rfl rfl rfl (KV.st _) rfl (k_is (X.add Y) (by first | decide | omega) rfl)
      · exact DX.pick (t := true) rfl rfl rfl rfl rfl rfl rfl
      · exact DX.move rfl rfl rfl rfl rfl rfl
      · exact DX.load rfl rfl rfl rfl rfl rfl
      · exact DX.load rfl rfl rfl rfl rfl rfl
      · exact DX.call (r := .kw (KI (x - y))) rfl rfl rfl rfl rfl rfl (KI.st _) rfl (k_sub X Y (by first | decide | omega) (by first | decide | omega))
      · exact DX.load rfl rfl rfl rfl rfl rfl
      · exact DX.load rfl rfl rfl rfl rfl rfl
      · exact DX.call (r := .kw (KJ (x - y))) rfl rfl rfl rfl rfl rfl (KJ.st _) rfl (k_jsub X Y (by first | decide | omega) (by first | decide | omega))
      · exact DX.call (r := .vl (.bool true)) rfl rfl rfl rfl rfl rfl (KV.st _) rfl (k_is (X.sub Y) (by first | decide | omega) rfl)
      · exact DX.pick (t := true) rfl rfl rfl rfl rfl rfl rfl
      · exact DX.move rfl rfl rfl rfl rfl rfl
      · exact DX.load rfl rfl rfl rfl rfl rfl
      · exact DX.load rfl rfl rfl rfl rfl rfl
      · exact DX.call (r := .kw (KI (x * y))) rfl rfl rfl rfl rfl rfl (KI.st _) rfl (k_mul X Y (by first | decide | omega) (by first | decide | omega))
      · exact DX.load rfl rfl rfl rfl rfl rfl
      · exact DX.load rfl rfl rfl rfl rfl rfl
      · exact DX.call (r := .kw (KJ (x * y))) rfl rfl rfl rfl rfl rfl (KJ.st _) rfl (k_jmul X Y (by first | decide | omega) (by first | decide | omega))
      · exact DX.call (r := .vl (.bool true)) rfl rfl rfl rfl rfl rfl (KV.st _) rfl (k_is (X.mul Y) (by first | decide | omega) rfl)
      · exact DX.pick (t := true) rfl rfl rfl rfl rfl rfl rfl
      · exact DX.move rfl rfl rfl rfl rfl rfl
      · exact DX.move rfl rfl rfl rfl rfl rfl
      · exact DX.move rfl rfl rfl rfl rfl rfl
      · exact DX.q2 (x := .tmp 94) (y := .tmp 95) (.bool true) rfl rfl rfl rfl rfl (fun ρ W h1 h2 => by go_simp)
      · exact DX.pick (t := true) rfl rfl rfl rfl rfl rfl rfl
      · exact DX.move rfl rfl rfl rfl rfl rfl
      · exact DX.load rfl rfl rfl rfl rfl rfl
      · exact DX.load rfl rfl rfl rfl rfl rfl
      · exact DX.call (r := .vl (.bool true)) rfl rfl rfl rfl rfl rfl (KV.st _) rfl (k_is ((X).tdiv) (by first | decide | omega) rfl)
      · exact DX.pick (t := true) rfl rfl rfl rfl rfl rfl rfl
      · exact DX.move rfl rfl rfl rfl rfl rfl
      · exact DX.load rfl rfl rfl rfl rfl rfl
      · exact DX.load rfl rfl rfl rfl rfl rfl
      · exact DX.call (r := .vl (.bool true)) rfl rfl rfl rfl rfl rfl (KV.st _) rfl (k_is ((X).tmod) (by first | decide | omega) rfl)
      · exact DX.pick (t := true) rfl rfl rfl rfl rfl rfl rfl
      · exact DX.move rfl rfl rfl rfl rfl rfl
      · exact DX.load rfl rfl rfl rfl rfl rfl
      · exact DX.load rfl rfl rfl rfl rfl rfl
      · exact DX.call (r := .kw (KI ((Int.gcd x y : Int)))) rfl rfl rfl rfl rfl rfl (KI.st _) rfl (k_gcd X Y (by first | decide | omega) (by first | decide | omega))
      · exact DX.load rfl rfl rfl rfl rfl rfl
      · exact DX.load rfl rfl rfl rfl rfl rfl
      · exact DX.call (r := .kw (KJ ((Int.gcd x y : Int)))) rfl rfl rfl rfl rfl rfl (KJ.st _) rfl (k_jgcd X Y (by first | decide | omega) (by first | decide | omega))
      · exact DX.call (r := .vl (.bool true)) rfl rfl rfl rfl rfl rfl (KV.st _) rfl (k_is (bd.gcd X Y) (by first | decide | omega) rfl)
      · exact DX.pick (t := true) rfl rfl rfl rfl rfl rfl rfl
      · exact DX.move rfl rfl rfl rfl rfl rfl
      · exact DX.call (r := .vl (.bool true)) rfl rfl rfl rfl rfl rfl (KV.st _) rfl (k_awake)
      · exact DX.pick (t := true) rfl rfl rfl rfl rfl rfl rfl
      · exact DX.assign rfl rfl rfl rfl rfl rfl
      refine SX.then ?_
      refine SC.ret ?_
      exact SX.done (r := .vl (.bool true)) rfl rfl rfl
  · have hs : shB 8 [(n1, A1, l1, c1), (n2, A2, l2, c2)] = false := by simpa using hs
    refine SC.region ?_
    refine PW.loadV rfl rfl rfl rfl rfl rfl ?_
    refine PW.loadV rfl rfl rfl rfl rfl rfl ?_
    refine PW.short 8 [(n1, A1, l1, c1), (n2, A2, l2, c2)] _ rfl rfl rfl (fun a W hf => r_bN2 (hf.vl (s := 15) rfl) (hf.vl (s := 16) rfl)) (fun W => ns_lit2 W) (by simp; exact ⟨In.lim h1, In.lim h2⟩) rfl rfl hs rfl rfl rfl rfl rfl rfl ?_
    refine PW.q1 (x := .tmp 18) (.bool true) rfl rfl rfl rfl (fun ρ W h1 => by go_simp) ?_
    refine PW.nil ?_
    refine SX.then ?_
    refine SC.cond (t := true) rfl ?_
    refine SC.seq ?_
    refine SC.region ?_
    refine PW.call (r := .vl (.bool true)) rfl rfl rfl rfl rfl rfl (KV.st _) rfl (k_awake) ?_
    refine PW.assign rfl rfl rfl rfl rfl ?_
    refine PW.nil ?_
    refine SX.then ?_
    refine SC.ret ?_
    refine SX.thenR ?_
    exact SX.done (r := .vl (.bool true)) rfl rfl rfl
end Go.Proofs.Ytcgkgcciogibkaa
