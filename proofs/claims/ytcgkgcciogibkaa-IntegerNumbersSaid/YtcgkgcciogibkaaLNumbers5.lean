/- Parts Ld, Sd, Jg, Syn, Lw, Jw, Pw, Pk, in one file. -/
import Derived.Lib.RabinKarpLaws
import Derived.Test.YtcgkgcciogibkaaK3
import Derived.Test.YtcgkgcciogibkaaK4
import Derived.Test.YtcgkgcciogibkaaK5
import Derived.Test.YtcgkgcciogibkaaLNumbers1
import Derived.Test.YtcgkgcciogibkaaLNumbers2
import Derived.Test.YtcgkgcciogibkaaLNumbers3
import Derived.Test.YtcgkgcciogibkaaLNumbers4
/- The contract of the program's Divide, whole. -/
set_option linter.unusedVariables false
set_option linter.unusedSimpArgs false
namespace Go.Proofs.Ytcgkgcciogibkaa
open Go.RowKit Ma

theorem long_l {A B : Option Addr} {l l' c d : Nat} {xs ys : List Int} {w : World} (e : l = xs.length) (e' : l' = ys.length) (rA : Rd w .u32 A xs) (rB : Rd w .u32 B ys) (dx : dg b32 xs) (dy : dg b32 ys) (hl : xs.length ≤ 500000) (hn : 2 ≤ ys.length) (hle : ys.length ≤ xs.length) (ht : top ys) :
    Calls Try.prog 86 #[.slice A l c, .slice B l' d] w (Ret w (K2 (KL .u32 fun zs => dg b32 zs ∧ lv b32 zs = lv b32 xs / lv b32 ys ∧ zs.length ≤ xs.length) (KL .u32 fun zs => dg b32 zs ∧ lv b32 zs = lv b32 xs % lv b32 ys ∧ zs.length = ys.length))) := by
  subst e e'
  exact Sy.long_c rA rB dx dy hl hn hle ht
set_option maxHeartbeats 3200000 in
set_option maxRecDepth 100000 in
theorem divide_2 {x y : Int} {n m : Bool} {A B : Option Addr} {l l' c d : Nat} {w : World} (hx : RI w n A l c x) (hy : RI w m B l' d y) (hl : l ≤ 500000) (h2 : 2 ≤ l') (h1 : y.natAbs ≤ x.natAbs) :
    Calls Try.prog 29 #[.agg #[.bool n, .slice A l c], .agg #[.bool m, .slice B l' d]] w (Ret w (K3 (KI (x.tdiv y)) (KI (x.tmod y)) (KV (.int .i64 0)))) := by
  obtain ⟨xs, rfl, hc, rA, dx, tx, nx, rfl⟩ := hx
  obtain ⟨ys, rfl, hd, rB, dy, ty, ny, rfl⟩ := hy
  have hxn := lv_nonneg (show (0 : Int) < b32 by decide) dx
  have hyn := lv_nonneg (show (0 : Int) < b32 by decide) dy
  have e1 := sg_natAbs n _ hxn
  have e2 := sg_natAbs m _ hyn
  have HQ := Lib.hid (sg_tdiv n m _ _ hxn hyn)
  have HR := Lib.hid (sg_tmod n m _ _ hxn hyn)
  have hge : lv b32 ys ≤ lv b32 xs := by omega
  have hle := length_le (show (1 : Int) < b32 by decide) dy dx ty hge
  have hcm := Lib.hid (cmp_ge hge)
  have nw1 : Nw w ((((w.alloc (.cells #[.bool n, .slice A xs.length c] 28)).alloc (.cells #[.bool m, .slice B ys.length d] 28)).alloc (.cells #[.bool false, .slice none 0 0] 28)).alloc (.cells #[.bool false, .slice none 0 0] 28)) := ((((Nw.refl w).alloc _).alloc _).alloc _).alloc _
  have sg0 : Sg2 [(w.heap.size, 0, Value.bool n), (w.heap.size, 1, Value.slice A xs.length c), (w.heap.size + 1, 0, Value.bool m), (w.heap.size + 1, 1, Value.slice B ys.length d)] (w.heap.size + 1 + 1) (w.heap.size + 1 + 1 + 1) ((((w.alloc (.cells #[.bool n, .slice A xs.length c] 28)).alloc (.cells #[.bool m, .slice B ys.length d] 28)).alloc (.cells #[.bool false, .slice none 0 0] 28)).alloc (.cells #[.bool false, .slice none 0 0] 28)) := by
    refine ⟨⟨by go_simp, by go_simp, by go_simp, by go_simp, trivial⟩, ?_, ?_, by go_simp⟩
    · have h1 := box_two ((w.alloc (.cells #[.bool n, .slice A xs.length c] 28)).alloc (.cells #[.bool m, .slice B ys.length d] 28)) 28 false none 0 0
      have h2 := h1.below ((Nw.refl _).alloc (.cells #[.bool false, .slice none 0 0] 28))
      simpa using h2
    · have h1 := box_two (((w.alloc (.cells #[.bool n, .slice A xs.length c] 28)).alloc (.cells #[.bool m, .slice B ys.length d] 28)).alloc (.cells #[.bool false, .slice none 0 0] 28)) 28 false none 0 0
      simpa using h1
  have SG := Lib.hid sg0
  have RA := Lib.hid (rA.kept nw1.kept)
  have RB := Lib.hid (rB.kept nw1.kept)
  clear rA rB e1 e2 h1 hge hxn hyn
  go_enter Try.func29, Try.ntmps29
  go_wp2_with (go_at_call 83; refine (compared_c A B c d xs ys _ RA.out RB.out dx dy tx ty).mono ?_; rintro e w1 ⟨_, rfl, hk, hb⟩; have hcm1 := hcm.out; generalize cmp (lv b32 xs) (lv b32 ys) = cm at hcm1 hk; subst hk; obtain ⟨⟨q1, q2, q3, q4, _⟩, B1, B2, _⟩ := SG.out.nw hb; obtain ⟨⟨u0, hu0, hm0⟩, hf0⟩ := B1 0 (by omega); obtain ⟨⟨u1, hu1, hm1⟩, hf1⟩ := B1 1 (by omega); obtain ⟨⟨t0, ht0, hk0⟩, hg0⟩ := B2 0 (by omega); obtain ⟨⟨t1, ht1, hk1⟩, hg1⟩ := B2 1 (by omega))
  clear q1 q2 q3 q4 B1 B2 hu0 hu1 ht0 ht1 hf0 hf1 hg0 hg1 hm0 hm1 hk0 hk1
  refine (long_l rfl rfl (RA.out.kept hb.kept) (RB.out.kept hb.kept) dx dy hl h2 hle ty).mono ?_
  rintro e w2 ⟨_, rfl, ⟨v1, v2, rfl, ⟨zq, A1, c1, rfl, hq1, rq, dq, eq, lq⟩, ⟨zr, A2, c2, rfl, hr1, rr, dr, er, lr⟩⟩, hb2⟩
  have nw2 := nw1.trans (hb.trans hb2)
  have S2 := Lib.hid (SG.out.nw (hb.trans hb2))
  have RQ := Lib.hid rq
  have RR := Lib.hid rr
  have HQ1 := Lib.hid hq1
  have HR1 := Lib.hid hr1
  have EQ := Lib.hid eq
  have ER := Lib.hid er
  clear rq rr hq1 hr1 eq er lq lr
  go_wp2
  have n1 : Nw w _ := (nw2).drew
  have hw : w.heap.size ≤ w.heap.size + 1 + 1 := by omega
  refine region_two [(w.heap.size, 0, Value.bool n), (w.heap.size, 1, Value.slice A xs.length c), (w.heap.size + 1, 0, Value.bool m), (w.heap.size + 1, 1, Value.slice B ys.length d)] (w.heap.size + 1 + 1) (w.heap.size + 1 + 1 + 1) 1000 (KB (w.heap.size + 1 + 1) (sg (!(n == m)) (lv b32 xs / lv b32 ys)) undef) (KB (w.heap.size + 1 + 1 + 1) (sg n (lv b32 xs % lv b32 ys)) undef) [(2, KI (sg (!(n == m)) (lv b32 xs / lv b32 ys))), (6, KI (sg n (lv b32 xs % lv b32 ys))), (7, fun _ W => (KB (w.heap.size + 1 + 1) (sg (!(n == m)) (lv b32 xs / lv b32 ys)) undef) W), (8, fun _ W => (KB (w.heap.size + 1 + 1 + 1) (sg n (lv b32 xs % lv b32 ys)) undef) W)] (by kernel_rfl) (by kernel_rfl) (by kernel_rfl) (by kernel_rfl) ?_ ⟨St2.st (KI.st _), St2.st (KI.st _), St2.r, St2.s, trivial⟩ ((S2.out.nw (Nw.refl _).drew)) ?_
  · first | trivial | (simp only [Low, and_true]; omega)
  repeat
    apply Rg.wpK_quiet rfl rfl
    case hq => intro W hS; obtain ⟨⟨q1, q2, q3, q4, _⟩, _⟩ := hS; go_simp; exact rfl
    case he => exact (by simp only [Act.put, List.setIfInBounds_toArray, List.set_cons_zero, List.set_cons_succ]; exact rfl)
  apply Rg.wpK_know rfl rfl
  case ha =>
    intro W hR hS hF
    have hn := n1.r2 hR hw
    obtain ⟨⟨q1, q2, q3, q4, _⟩, hB1, hB2, hr⟩ := hS
    unfold Rg.gives
    go_simp
    exact Rg.gives_enter (call_r2 (KB.nwst _ _) (KB.nwst _ _) (ret_eq (made_l rfl (!(n == m)) ((RQ.out.kept (Nw.refl _).drew.kept).kept hR.2.1) HQ1.out dq) (by rw [EQ.out])) hr)
  intro u hu
  obtain ⟨W0, hw1, hw2, hf⟩ := hu
  obtain ⟨m2, D2, l2, c2, rfl, hx⟩ := Rg.upd_at rfl (hf 2)
  refine ⟨_, rfl, ?_⟩
  (first | (rw [put_list]; dsimp only [List.set_cons_zero, List.set_cons_succ]) | rw [put_none])
  clear hf hw1 hw2 hx W0
  repeat
    apply Rg.wpK_quiet rfl rfl
    case hq => intro W hS; obtain ⟨⟨q1, q2, q3, q4, _⟩, _⟩ := hS; go_simp; exact rfl
    case he => exact (by simp only [Act.put, List.setIfInBounds_toArray, List.set_cons_zero, List.set_cons_succ]; exact rfl)
  apply Rg.wpK_know rfl rfl
  case ha =>
    intro W hR hS hF
    have hn := n1.r2 hR hw
    obtain ⟨⟨q1, q2, q3, q4, _⟩, hB1, hB2, hr⟩ := hS
    unfold Rg.gives
    go_simp
    exact Rg.gives_enter (call_r2 (KB.nwst _ _) (KB.nwst _ _) (ret_eq (made_l rfl n ((RR.out.kept (Nw.refl _).drew.kept).kept hR.2.1) HR1.out dr) (by rw [ER.out])) hr)
  intro u hu
  obtain ⟨W0, hw1, hw2, hf⟩ := hu
  obtain ⟨m6, D6, l6, c6, rfl, hx⟩ := Rg.upd_at rfl (hf 6)
  refine ⟨_, rfl, ?_⟩
  (first | (rw [put_list]; dsimp only [List.set_cons_zero, List.set_cons_succ]) | rw [put_none])
  clear hf hw1 hw2 hx W0
  repeat
    apply Rg.wpK_quiet rfl rfl
    case hq => intro W hS; obtain ⟨⟨q1, q2, q3, q4, _⟩, _⟩ := hS; go_simp; exact rfl
    case he => exact (by simp only [Act.put, List.setIfInBounds_toArray, List.set_cons_zero, List.set_cons_succ]; exact rfl)
  apply Rg.wpK_know rfl rfl
  case ha =>
    intro W hR hS hF
    have hn := n1.r2 hR hw
    obtain ⟨⟨q1, q2, q3, q4, _⟩, hB1, hB2, hr⟩ := hS
    have i2 := KI.agg (Rg.upd_at rfl (Rg.upd_off rfl (hF 2 (by kernel_rfl))))
    obtain ⟨⟨v0, hv0, hn0⟩, hf0⟩ := hB1 0 (by omega)
    obtain ⟨⟨v1, hv1, hn1⟩, hf1⟩ := hB1 1 (by omega)
    unfold Rg.gives
    go_simp
    exact Rg.gives_skip (store_I1 (by omega) hB1 i2)
  intro u hu
  obtain ⟨W0, hw1, hw2, hf⟩ := hu
  have hx := trivial
  refine ⟨_, rfl, ?_⟩
  (first | (rw [put_list]; dsimp only [List.set_cons_zero, List.set_cons_succ]) | rw [put_none])
  clear hf hw1 hw2 hx W0
  repeat
    apply Rg.wpK_quiet rfl rfl
    case hq => intro W hS; obtain ⟨⟨q1, q2, q3, q4, _⟩, _⟩ := hS; go_simp; exact rfl
    case he => exact (by simp only [Act.put, List.setIfInBounds_toArray, List.set_cons_zero, List.set_cons_succ]; exact rfl)
  apply Rg.wpK_know rfl rfl
  case ha =>
    intro W hR hS hF
    have hn := n1.r2 hR hw
    obtain ⟨⟨q1, q2, q3, q4, _⟩, hB1, hB2, hr⟩ := hS
    have i6 := KI.agg (Rg.upd_at rfl (Rg.upd_off rfl (hF 6 (by kernel_rfl))))
    obtain ⟨⟨v0, hv0, hn0⟩, hf0⟩ := hB2 0 (by omega)
    obtain ⟨⟨v1, hv1, hn1⟩, hf1⟩ := hB2 1 (by omega)
    unfold Rg.gives
    go_simp
    exact Rg.gives_skip (store_I2 (by omega) hB2 i6)
  intro u hu
  obtain ⟨W0, hw1, hw2, hf⟩ := hu
  have hx := trivial
  refine ⟨_, rfl, ?_⟩
  (first | (rw [put_list]; dsimp only [List.set_cons_zero, List.set_cons_succ]) | rw [put_none])
  clear hf hw1 hw2 hx W0
  repeat
    apply Rg.wpK_quiet rfl rfl
    case hq => intro W hS; obtain ⟨⟨q1, q2, q3, q4, _⟩, _⟩ := hS; go_simp; exact rfl
    case he => exact (by simp only [Act.put, List.setIfInBounds_toArray, List.set_cons_zero, List.set_cons_succ]; exact rfl)
  refine Rg.wpK_end fun w9 hR hS hF => ?_
  have hn := n1.r2 hR hw
  have b1 := Rg.upd_at rfl (Rg.upd_off rfl (hF 7))
  have b2 := Rg.upd_at rfl (hF 8)
  obtain ⟨m1, D1, l1, c1, p0, p1, i1⟩ := b1
  obtain ⟨m2, D2, l2, c2, p2, p3, i2⟩ := b2
  go_wp2
  exact bodyPost_ret (v := .tuple #[.agg #[.bool m1, .slice D1 l1 c1], .agg #[.bool m2, .slice D2 l2 c2], .int .i64 0]) (by simp [results, Try.results29, go_sem, p0, p1, p2, p3]) rfl ⟨_, rfl, ⟨_, _, _, rfl, ⟨_, _, _, _, rfl, i1.eq HQ.out.symm⟩, ⟨_, _, _, _, rfl, i2.eq HR.out.symm⟩, rfl⟩, hn⟩
end Go.Proofs.Ytcgkgcciogibkaa
/- Divide, in the form that the rules want. -/
set_option linter.unusedVariables false
set_option linter.unusedSimpArgs false
namespace Go.Proofs.Ytcgkgcciogibkaa
open Go.RowKit Ma
theorem divide_c {x y : Int} {n m : Bool} {A B : Option Addr} {l l' c d : Nat} {w : World} (hx : RI w n A l c x) (hy : RI w m B l' d y) (hl : l ≤ 500000) (hy0 : y ≠ 0) :
    Calls Try.prog 29 #[.agg #[.bool n, .slice A l c], .agg #[.bool m, .slice B l' d]] w (Ret w (K3 (KI (x.tdiv y)) (KI (x.tmod y)) (KV (.int .i64 0)))) := by
  by_cases h : l' ≤ 1 ∨ x.natAbs < y.natAbs
  · exact divide_1 hx hy hl hy0 h
  · exact divide_2 hx hy hl (by omega) (by omega)
namespace Sy
open Go
theorem ce_div : CE 29 := fun args W => by go_simp
variable {x y : Int} {a b : Nat}
theorem k_div (hx : bd a x) (ha : a ≤ 300000) (hy : y ≠ 0) : CallOk 29 [KI x, KI y] (K3 (KI (x.tdiv y)) (KI (x.tmod y)) (KV (.int .i64 0))) := callII ce_div fun W n A l c m B l' d h1 h2 => divide_c h1 h2 (by have := h1.le hx ha; omega) hy
theorem k_div0 : CallOk 29 [KI x, KI 0] (K3 (KI 0) (KI 0) (KV (.int .i64 6))) := callII ce_div fun W n A l c m B l' d h1 h2 => divide_0 h1 h2
end Sy
/-! ### Bounds of quotients -/
theorem bd.tdiv {a : Nat} {x y : Int} (h : bd a x) : bd a (x.tdiv y) := by
  have h1 : (x.tdiv y).natAbs ≤ x.natAbs := by rw [Int.natAbs_tdiv]; exact Nat.div_le_self _ _
  unfold bd at *
  omega
theorem bd.tmod {a : Nat} {x y : Int} (h : bd a x) : bd a (x.tmod y) := by
  have h1 : (x.tmod y).natAbs ≤ x.natAbs := by rw [Int.natAbs_tmod]; exact Nat.mod_le _ _
  unfold bd at *
  omega
theorem bd.tmod2 {b : Nat} {x y : Int} (h : bd b y) (hy : y ≠ 0) : bd b (x.tmod y) := by
  have h1 : (x.tmod y).natAbs < y.natAbs := by rw [Int.natAbs_tmod]; exact Nat.mod_lt _ (by omega)
  unfold bd at *
  omega
end Go.Proofs.Ytcgkgcciogibkaa
/- The reference's Gcd, by rules. -/
set_option linter.unusedVariables false
set_option linter.unusedSimpArgs false
namespace Go.Proofs.Ytcgkgcciogibkaa.Sy
open Go Go.RowKit Ma
theorem ce_jgcd : CE 40 := fun args W => by go_simp
set_option maxHeartbeats 1600000 in
theorem k_jgcd0 {x y : Int} {n g : Nat} (X : bd n x) (Y : bd n y) (hn : n ≤ 300000) (hg : Nat.gcd x.natAbs y.natAbs = g) : CallOk 40 [KJ x, KJ y] (KJ (g : Int)) := by
  refine CallOk.enter (l := [.kw (KJ x), .kw (KJ y)]) 27 ce_jgcd Try.func40 rfl Try.ntmps40 (by simp) ⟨KJ.st _, rfl, KJ.st _, rfl, trivial⟩ fun w => ?_
  refine SC.seq ?_
  refine SC.region ?_
  refine PW.box (x := .tmp 0) (r := .kw (KJ (x))) (BI 31) rfl rfl rfl rfl rfl bJ rfl sh_J ?_
  refine PW.box (x := .tmp 1) (r := .kw (KJ (y))) (BI 31) rfl rfl rfl rfl rfl bJ rfl sh_J ?_
  refine PW.alloc (BI 31) rfl rfl rfl rfl rfl bJ ?_
  refine PW.nil ?_
  refine SX.then ?_
  refine SC.seq ?_
  refine SC.dx [.val 10 (.kw (KJ (x))), .val 11 (.kw (KJ (x.natAbs : Int))), .val 12 (.kw (KJ (y))), .val 13 (.kw (KJ (y.natAbs : Int))), .new 5 (BI 31), .new 6 (BI 31), .put 5 (BI 31) (.kw (KJ (x.natAbs : Int))), .put 6 (BI 31) (.kw (KJ (y.natAbs : Int)))] [([], [2]), ([0], []), ([], [3]), ([2], []), ([], []), ([], []), ([4, 1], []), ([5, 3], [])] rfl (by kernel_rfl) (by kernel_rfl) (by kernel_rfl) rfl ⟨?_, ?_, ?_, ?_, ?_, ?_, ?_, ?_, trivial⟩ ?_
  · exact DX.load rfl rfl rfl rfl rfl rfl
  · exact DX.call (r := .kw (KJ (x.natAbs : Int))) rfl rfl rfl rfl rfl rfl (KJ.st _) rfl (k_jabs)
  · exact DX.load rfl rfl rfl rfl rfl rfl
  · exact DX.call (r := .kw (KJ (y.natAbs : Int))) rfl rfl rfl rfl rfl rfl (KJ.st _) rfl (k_jabs)
  · exact DX.alloc (BI 31) rfl rfl rfl rfl bJ rfl
  · exact DX.alloc (BI 31) rfl rfl rfl rfl bJ rfl
  · exact DX.store (x := .tmp 11) (r := .kw (KJ (x.natAbs : Int))) rfl rfl rfl rfl rfl rfl sh_J
  · exact DX.store (x := .tmp 13) (r := .kw (KJ (y.natAbs : Int))) rfl rfl rfl rfl rfl rfl sh_J
  refine SX.then ?_
  refine SC.seq ?_
  refine SC.block ?_
  refine SC.loop (S := Nat × Nat) (fun ⟨a, b⟩ => [(4, .nb (BI 31)), (5, .bx (BI 31) (KJ ((a : Int)))), (6, .bx (BI 31) (KJ ((b : Int))))]) (fun ⟨a, b⟩ => Nat.gcd a b = g ∧ bd n (a : Int) ∧ bd n (b : Int)) (fun ⟨a, b⟩ => b) (x.natAbs, y.natAbs) ⟨hg, X.abs, Y.abs⟩ ⟨rfl, rfl, rfl, trivial⟩ ?_
  rintro ⟨a, b⟩ ⟨hi, A, B2⟩
  show SC _ _ _ _ [(4, .nb (BI 31)), (5, .bx (BI 31) (KJ ((a : Int)))), (6, .bx (BI 31) (KJ ((b : Int))))] _
  refine SC.seq ?_
  refine SC.seq ?_
  by_cases hb : (b : Int) = 0
  · obtain rfl : a = g := by rw [show b = 0 by omega] at hi; simpa using hi
    refine SC.region ?_
    refine PW.load rfl rfl rfl rfl rfl rfl ?_
    refine PW.call (r := .vl (.int .i64 (sgn ((b : Int))))) rfl rfl rfl rfl rfl rfl (KV.st _) rfl (k_jsign rfl) ?_
    refine PW.q2 (x := .tmp 15) (y := .const (.int .i64 0)) (.bool false) rfl rfl rfl rfl rfl (fun ρ W h1 h2 => by exact r_neF h1 h2 (by rw [hb]; rfl)) ?_
    refine PW.nil ?_
    refine SX.then ?_
    refine SC.cond (t := false) rfl ?_
    refine SC.exit ?_
    refine SX.thenE ?_
    refine SX.thenE ?_
    refine SX.blockE ?_
    refine SX.then ?_
    refine SC.seq ?_
    refine SC.region ?_
    refine PW.load rfl rfl rfl rfl rfl rfl ?_
    refine PW.store (x := .tmp 26) (r := .kw (KJ ((a : Int)))) rfl rfl rfl rfl rfl rfl sh_J ?_
    refine PW.nil ?_
    refine SX.then ?_
    refine SC.ret ?_
    exact SX.doneC (s := 4) (.inl rfl) rfl rfl rfl
  · refine SC.region ?_
    refine PW.load rfl rfl rfl rfl rfl rfl ?_
    refine PW.call (r := .vl (.int .i64 (sgn ((b : Int))))) rfl rfl rfl rfl rfl rfl (KV.st _) rfl (k_jsign rfl) ?_
    refine PW.q2 (x := .tmp 15) (y := .const (.int .i64 0)) (.bool true) rfl rfl rfl rfl rfl (fun ρ W h1 h2 => by exact r_neT h1 h2 (sgn_ne hb)) ?_
    refine PW.nil ?_
    refine SX.then ?_
    refine SC.cond (t := true) rfl ?_
    refine SC.skip ?_
    refine SX.then ?_
    refine SC.block ?_
    refine SC.seq ?_
    refine SC.region ?_
    refine PW.load rfl rfl rfl rfl rfl rfl ?_
    refine PW.load rfl rfl rfl rfl rfl rfl ?_
    refine PW.call (r := .kw (K3 (KJ (((a : Int)).tdiv ((b : Int)))) (KJ (((a : Int)).tmod ((b : Int)))) (KV (.int .i64 0)))) rfl rfl rfl rfl rfl rfl (K3.st (KJ.st _) (KJ.st _) (KV.st _)) rfl (k_jdiv A B2 (by omega) (by omega) hb) ?_
    refine PW.move rfl rfl rfl rfl rfl ?_
    refine PW.ext (r := .kw (KJ (((a : Int)).tdiv ((b : Int))))) rfl rfl rfl rfl rfl ex30 (KJ.st _) rfl ?_
    refine PW.ext (r := .kw (KJ (((a : Int)).tmod ((b : Int))))) rfl rfl rfl rfl rfl ex31 (KJ.st _) rfl ?_
    refine PW.ext (r := .vl (.int .i64 0)) rfl rfl rfl rfl rfl ex32v (KV.st _) rfl ?_
    refine PW.alloc (BI 31) rfl rfl rfl rfl rfl bJ ?_
    refine PW.alloc (BI 31) rfl rfl rfl rfl rfl bJ ?_
    refine PW.store (x := .tmp 21) (r := .kw (KJ (((a : Int)).tdiv ((b : Int))))) rfl rfl rfl rfl rfl rfl sh_J ?_
    refine PW.store (x := .tmp 22) (r := .kw (KJ (((a : Int)).tmod ((b : Int))))) rfl rfl rfl rfl rfl rfl sh_J ?_
    refine PW.assign rfl rfl rfl rfl rfl ?_
    refine PW.nil ?_
    refine SX.then ?_
    refine SC.dx [.val 24 (.kw (KJ ((b : Int)))), .val 25 (.kw (KJ (((a : Int)).tmod ((b : Int))))), .put 5 (BI 31) (.kw (KJ ((b : Int)))), .put 6 (BI 31) (.kw (KJ (((a : Int)).tmod ((b : Int)))))] [([], [6]), ([], [8]), ([0], [5]), ([1], [6])] rfl (by kernel_rfl) (by kernel_rfl) (by kernel_rfl) rfl ⟨?_, ?_, ?_, ?_, trivial⟩ ?_
    · exact DX.load rfl rfl rfl rfl rfl rfl
    · exact DX.load rfl rfl rfl rfl rfl rfl
    · exact DX.store (x := .tmp 24) (r := .kw (KJ ((b : Int)))) rfl rfl rfl rfl rfl rfl sh_J
    · exact DX.store (x := .tmp 25) (r := .kw (KJ (((a : Int)).tmod ((b : Int))))) rfl rfl rfl rfl rfl rfl sh_J
    refine SX.blockN ?_
    refine SX.back (b, a % b) ?_ ?_ ?_
    · exact ⟨by rw [← hi, Nat.gcd_comm a b, Nat.gcd_rec b a, Nat.gcd_comm], B2, (A.tmod (y := (b : Int)) : bd n ((a : Int).tmod (b : Int)))⟩
    · exact (show a % b < b from Nat.mod_lt _ (by omega))
    · exact ⟨rfl, rfl, rfl, trivial⟩
theorem k_jgcd {x y : Int} {a b : Nat} (X : bd a x) (Y : bd b y) (ha : a ≤ 300000) (hb : b ≤ 300000) : CallOk 40 [KJ x, KJ y] (KJ (Int.gcd x y : Int)) := k_jgcd0 (X.mono (Nat.le_max_left a b)) (Y.mono (Nat.le_max_right a b)) (by omega) rfl
end Go.Proofs.Ytcgkgcciogibkaa.Sy
/- A walk by rules: the laws' first statements: what came in as plain data. -/
set_option linter.unusedVariables false
set_option linter.unusedSimpArgs false
namespace Go.Proofs.Ytcgkgcciogibkaa.Sy
open Go Go.RowKit Ma
section
variable {B N : Nat} {w0 : World} {ops : Array Oper} {o : Oper} {rest : List Oper} {fr : List (Nat × AV)} {Q : Exit → Act → World → Prop} {d : Nat}
theorem loadV_run {T : TypeId} {s : Nat} {b : BT} {v : Value} {a : Act} {W : World} (hf : Fr B N w0 fr a W) (ho : o.op = .load T (.tmp s)) (hs : look fr s = some (.bx b (KV v))) (hT : b.T = T) : (execOp a.eval o).run Try.prog W = .ok (.value v) W := by
  obtain ⟨p, v', e, _, ⟨cs, hs1, hc⟩, hv, st, ok⟩ := hf.ho s _ hs
  obtain rfl : v' = v := hv
  have := run_val (ok.load v' cs W p hs1 fun i x hx => (hc i x hx).1)
  unfold execOp
  rw [ho]
  show (do pure (.value (← Instr.loadAt T (a.tmps.getD s undef))) : Sem Next).run Try.prog W = _
  rw [e, ← hT]
  exact this
theorem PW.loadV {T : TypeId} {s : Nat} {b : BT} {v : Value} (hw : wantB ops fr o = some true) (hd : o.dst = some d) (hN : Nat.blt d N = true) (ho : o.op = .load T (.tmp s)) (hs : look fr s = some (.bx b (KV v))) (hT : b.T = T) (hk : PW B N w0 ops rest ((d, .vl v) :: fr) Q) : PW B N w0 ops (o :: rest) fr Q :=
  PW.val (r := .vl v) hw hd hN rfl (fun a W hf => ⟨_, loadV_run hf ho hs hT, rfl⟩) hk
theorem DX.loadV {T : TypeId} {s : Nat} {b : BT} {v : Value} (hw : wantB ops fr o = some true) (hd : o.dst = some d) (hN : Nat.blt d N = true) (ho : o.op = .load T (.tmp s)) (hs : look fr s = some (.bx b (KV v))) (hT : b.T = T) : Eo B N w0 ops o fr (.val d (.vl v)) :=
  DX.val hw hd hN rfl (fun a W hf => ⟨_, loadV_run hf ho hs hT, rfl⟩)
/-- Short(most, x ..). -/
theorem PW.short {o2 : Oper} {d2 : Nat} {c : Call} (most : Nat) (ns : List Nn) {t : Bool} (ob : Obj) (hw : wantB ops fr o = some true) (hd : o.dst = some d) (hN : Nat.blt d N = true)
    (hq : ∀ a W, Fr B N w0 fr a W → (execOp a.eval o).run Try.prog W = .ok (.value (.slice (some ⟨W.heap.size, 0, none⟩) ns.length ns.length)) (W.alloc ob)) (hns : ∀ W : World, Ns (W.alloc ob) W.heap.size ns) (hL : ∀ x ∈ ns, x.2.2.1 ≤ 9223372036854775807) (hm : Nat.ble most 1000 = true) (hl : Nat.ble ns.length 1000 = true) (ht : shB most ns = t)
    (hw2 : wantB ops ((d, .kw KT) :: fr) o2 = some true) (hd2 : o2.dst = some d2) (hN2 : Nat.blt d2 N = true) (ho : o2.op = .call c) (hc : c.callee = .value (.func 14)) (ha : c.args = #[.const (.int .i64 (most : Int)), .tmp d])
    (hk : PW B N w0 ops rest ((d2, .vl (.bool t)) :: (d, .kw KT) :: fr) Q) : PW B N w0 ops (o :: o2 :: rest) fr Q :=
  PW.step hw fun a W hf K' hK' => by
    unfold Oper.wp
    rw [hq a W hf, Oper.upon_value, hd]
    have hf1 := (hf.nw ((Nw.refl W).alloc ob)).set (v := .vl (.slice (some ⟨W.heap.size, 0, none⟩) ns.length ns.length)) hN (u := .slice (some ⟨W.heap.size, 0, none⟩) ns.length ns.length) rfl rfl
    have hf2 := (hf.nw ((Nw.refl W).alloc ob)).set (v := .kw KT) hN (u := .slice (some ⟨W.heap.size, 0, none⟩) ns.length ns.length) ⟨trivial, KT.st⟩ rfl
    refine hK' _ _ (wpList_step fun K2 hK2 => ?_)
    rw [if_pos (wantB_spec hf2 hw2)]
    have s1 : (a.put (some d) (.slice (some ⟨W.heap.size, 0, none⟩) ns.length ns.length)).eval (.tmp d) = .slice (some ⟨W.heap.size, 0, none⟩) ns.length ns.length := hf1.vl (s := d) (by rw [look_cons, if_pos rfl])
    obtain ⟨dst, op, ty, pos, after, guard⟩ := o2
    simp only at ho hd2
    subst ho
    subst hd2
    unfold Oper.wp
    have ce : CE 14 := fun args W => by go_simp
    rw [run_call ce hc _ rfl ty _]
    simp only [Oper.upon]
    have e0 : c.args.map (a.put (some d) (.slice (some ⟨W.heap.size, 0, none⟩) ns.length ns.length)).eval = #[.int .i64 (most : Int), .slice (some ⟨W.heap.size, 0, none⟩) ns.length ns.length] := by
      rw [ha, List.map_toArray]; exact congrArg (fun z => #[Value.int .i64 (most : Int), z]) s1
    rw [e0]
    refine (short_l (b := W.heap.size) most ns rfl rfl (hns W) (Nat.le_of_ble_eq_true hm) (Nat.le_of_ble_eq_true hl) hL).mono fun e W' ⟨v, he, hv, hn⟩ => ?_
    subst he
    obtain rfl : v = _ := hv
    exact hK2 _ _ (hk _ _ ((hf2.nw hn).set hN2 (v := .vl (.bool t)) (by show Value.bool _ = _; rw [ht]) rfl))
end
section
variable {x y z : Operand} {dst : Option Tmp} {ty : TypeId} {pos : String} {after : Array Edge} {guard : Option (Nat × Bool)} {ρ : Operand → Value} {W : World}
variable {n1 n2 n3 : Bool} {A1 A2 A3 : Option Addr} {l1 l2 l3 c1 c2 c3 : Nat}
theorem r_bN1 (h1 : ρ x = .agg #[.bool n1, .slice A1 l1 c1]) : (execOp ρ ⟨dst, .buildSlice 87 1 #[(0, x)], ty, pos, after, guard⟩).run Try.prog W = .ok (.value (.slice (some ⟨W.heap.size, 0, none⟩) 1 1)) (W.alloc (.cells #[.bool n1, .slice A1 l1 c1] 24)) := by
  go_simp
theorem r_bN2 (h1 : ρ x = .agg #[.bool n1, .slice A1 l1 c1]) (h2 : ρ y = .agg #[.bool n2, .slice A2 l2 c2]) : (execOp ρ ⟨dst, .buildSlice 87 2 #[(0, x), (1, y)], ty, pos, after, guard⟩).run Try.prog W = .ok (.value (.slice (some ⟨W.heap.size, 0, none⟩) 2 2)) (W.alloc (.cells #[.bool n1, .slice A1 l1 c1, .bool n2, .slice A2 l2 c2] 24)) := by
  go_simp
end
section
variable {n1 n2 n3 : Bool} {A1 A2 A3 : Option Addr} {l1 l2 l3 c1 c2 c3 : Nat}
theorem ns_lit1 (W : World) : Ns (W.alloc (.cells #[.bool n1, .slice A1 l1 c1] 24)) W.heap.size [(n1, A1, l1, c1)] := by
  intro i n A l c e
  match i, e with
  | 0, e => simp at e; obtain ⟨rfl, rfl, rfl, rfl⟩ := e; exact ⟨by go_simp, by go_simp⟩
  | i + 1, e => simp at e
theorem ns_lit2 (W : World) : Ns (W.alloc (.cells #[.bool n1, .slice A1 l1 c1, .bool n2, .slice A2 l2 c2] 24)) W.heap.size [(n1, A1, l1, c1), (n2, A2, l2, c2)] := by
  intro i n A l c e
  match i, e with
  | 0, e => simp at e; obtain ⟨rfl, rfl, rfl, rfl⟩ := e; exact ⟨by go_simp, by go_simp⟩
  | 1, e => simp at e; obtain ⟨rfl, rfl, rfl, rfl⟩ := e; exact ⟨by go_simp, by go_simp⟩
  | i + 2, e => simp at e
theorem lit_i64 {n : Int} (h : (Lit.int .i64 n).wf = true) : -9223372036854775808 ≤ n ∧ n ≤ 9223372036854775807 := by
  simp only [Lit.wf, Bool.and_eq_true, decide_eq_true_eq] at h
  have hm : IntKind.i64.max = 9223372036854775807 := by simp [IntKind.max, IntKind.bits, IntKind.signed]
  have hn : IntKind.i64.min = -9223372036854775808 := by simp [IntKind.min, IntKind.bits, IntKind.signed]
  rw [hm, hn] at h
  exact h
theorem In.lim {w : World} {A : Option Addr} {l c : Nat} {xs : List Int} (h : In w A l c xs) : l ≤ 9223372036854775807 := h.1 ▸ h.2.2.1.1
theorem of_in {w W : World} {n : Bool} {A : Option Addr} {l c : Nat} {xs : List Int} {x : Int} (h : In w A l c xs) (be : Below w.heap.size w W) (hl : l ≤ 1000000) (hx : x = sg n (lv b32 xs)) : Calls Try.prog 16 #[.agg #[.bool n, .slice A l c]] W (Ret W (K2 (KI x) (KJ x))) := by
  obtain ⟨rfl, _, rd, d⟩ := h
  subst hx
  exact lawof_c (Rd.below rd be) d hl
end
end Go.Proofs.Ytcgkgcciogibkaa.Sy
/- Plain laws for the reference's width, bits, powers of two: digits to the base 65536. No program in sight. -/
set_option linter.unusedVariables false
set_option linter.unusedSimpArgs false
namespace Go.Proofs.Ytcgkgcciogibkaa.Ma
open Go
theorem pow16 (n : Nat) : (65536 : Int) ^ n = 2 ^ (16 * n) := by rw [Int.pow_mul]; rfl
theorem wid_half {t : Int} (h : 0 < t) : wid t = wid (t / 2) + 1 := by
  by_cases h1 : t = 1
  · subst h1; decide
  · have h2 : 0 < t / 2 := by omega
    have a1 := wid_lt (t / 2)
    have a2 := wid_le h2
    have a3 := wid_pos h2
    apply wid_of
    · rw [Int.pow_succ]; omega
    · omega
    · rw [show wid (t / 2) + 1 - 1 = wid (t / 2) - 1 + 1 by omega, Int.pow_succ]; omega
theorem wid_lvJ {zs : List Int} (d : dg 65536 zs) (t : top zs) (hne : zs ≠ []) : wid (lv 65536 zs) = 16 * (zs.length - 1) + wid (at0 zs (zs.length - 1)) := by
  have hl : 0 < zs.length := List.length_pos_iff.2 hne
  have e := lv_take_succ 65536 zs (zs.length - 1) (by omega)
  rw [Nat.sub_add_cancel hl, List.take_length] at e
  have a0 := lv_nonneg (b := 65536) (by decide) (dg_take d (zs.length - 1))
  have a1 := lv_lt (b := 65536) (by decide) (dg_take d (zs.length - 1))
  rw [List.length_take, Nat.min_eq_left (by omega)] at a1
  have b0 := dg_at d (by decide) (zs.length - 1)
  have b1 := (top_at hne).1 t
  rw [pow16] at e a1
  have c0 := wid_lt (at0 zs (zs.length - 1))
  have c1 := wid_le (z := at0 zs (zs.length - 1)) (by omega)
  have c2 := wid_pos (z := at0 zs (zs.length - 1)) (by omega)
  have hq : (0 : Int) < 2 ^ (16 * (zs.length - 1)) := Int.pow_pos (by decide)
  apply wid_of
  · rw [e, Int.pow_add]
    have : 2 ^ (16 * (zs.length - 1)) * (at0 zs (zs.length - 1) + 1) ≤ 2 ^ (16 * (zs.length - 1)) * (2 : Int) ^ wid (at0 zs (zs.length - 1)) := Int.mul_le_mul_of_nonneg_left (by omega) (by omega)
    rw [Int.mul_add] at this
    omega
  · omega
  · rw [e, show 16 * (zs.length - 1) + wid (at0 zs (zs.length - 1)) - 1 = 16 * (zs.length - 1) + (wid (at0 zs (zs.length - 1)) - 1) by omega, Int.pow_add]
    have : 2 ^ (16 * (zs.length - 1)) * (2 : Int) ^ (wid (at0 zs (zs.length - 1)) - 1) ≤ 2 ^ (16 * (zs.length - 1)) * at0 zs (zs.length - 1) := Int.mul_le_mul_of_nonneg_left c1 (by omega)
    omega
/-- The rounds of width. -/
def Wd (W : Nat) (n t : Int) : Prop := 0 ≤ t ∧ t < 65536 ∧ n + (wid t : Int) = W ∧ 0 ≤ n
theorem Wd.start {zs : List Int} (d : dg 65536 zs) (t : top zs) (hne : zs ≠ []) : Wd (wid (lv 65536 zs)) (16 * ((zs.length : Int) - 1)) (at0 zs (zs.length - 1)) := by
  have b0 := dg_at d (by decide) (zs.length - 1)
  have hl : 0 < zs.length := List.length_pos_iff.2 hne
  refine ⟨b0.1, b0.2, ?_, by omega⟩
  rw [wid_lvJ d t hne]; omega
theorem Wd.step {W : Nat} {n t : Int} (h : Wd W n t) (ht : 0 < t) : Wd W (n + 1) (t / 2) := by
  obtain ⟨h1, h2, h3, h4⟩ := h
  have := wid_half ht
  exact ⟨by omega, by omega, by omega, by omega⟩
theorem Wd.fin {W : Nat} {n t : Int} (h : Wd W n t) (ht : ¬ 0 < t) : n = W := by
  obtain ⟨h1, h2, h3, h4⟩ := h
  obtain rfl : t = 0 := by omega
  rw [wid_zero] at h3
  omega
theorem lv_tbJ {ts : List Int} (d : dg 65536 ts) (j k : Nat) (hk : k < 16) : tb (lv 65536 ts) (16 * j + k) = tb (at0 ts j) k := by
  have hp := pos_pow (show (0 : Int) < 65536 by decide) j
  rw [tb_shift, ← pow16]
  by_cases hj : j < ts.length
  · have e1 := lv_split 65536 ts j (by omega)
    have e2 := lv_drop 65536 ts j hj
    have t0 := lv_nonneg (show (0 : Int) < 65536 by decide) (dg_take d j)
    have t1 := lv_lt (show (0 : Int) < 65536 by decide) (dg_take d j)
    rw [List.length_take, Nat.min_eq_left (by omega)] at t1
    rw [e1, Int.add_mul_ediv_left _ _ (by omega), Int.ediv_eq_zero_of_lt t0 t1, Int.zero_add, e2]
    exact tb_add_mul _ _ (n := 16) hk
  · have t0 := lv_nonneg (show (0 : Int) < 65536 by decide) d
    have t1 := lv_lt (show (0 : Int) < 65536 by decide) d
    have t2 := pow_le (b := 65536) (by decide) (show ts.length ≤ j by omega)
    rw [Int.ediv_eq_zero_of_lt t0 (by omega), at0_ge (by omega)]
/-- The rounds of set. -/
theorem half_pow (t : Int) (k : Nat) : t / 2 ^ k / 2 = t / 2 ^ (k + 1) := by
  rw [Int.pow_succ, Int.ediv_ediv_of_nonneg (Int.le_of_lt (Int.pow_pos (by decide)))]
theorem set_fin {ts : List Int} (d : dg 65536 ts) (i : Nat) : decide (at0 ts (i / 16) / 2 ^ (i % 16) % 2 = 1) = tb (lv 65536 ts) i := by
  have := lv_tbJ d (i / 16) (i % 16) (by omega)
  rw [Nat.div_add_mod] at this
  rw [this]; rfl
/-- The rounds of Two. -/
def Tw (n i : Nat) (zs : List Int) : Prop := i ≤ n % 16 ∧ zs = (List.replicate (n / 16 + 1) 0).set (n / 16) (2 ^ i)
theorem Tw.start (n : Nat) : Tw n 0 ((List.replicate (n / 16 + 1) 0).set (n / 16) 1) := ⟨by omega, rfl⟩
theorem Tw.len {n i : Nat} {zs : List Int} (h : Tw n i zs) : zs.length = n / 16 + 1 := by rw [h.2]; simp
theorem at0_put_self {zs : List Int} {i : Nat} (x : Int) (h : i < zs.length) : at0 (zs.set i x) i = x := by simp [at0, List.getD_eq_getElem?_getD, h]
theorem at0_put_ne {zs : List Int} {i j : Nat} (x : Int) (h : i ≠ j) : at0 (zs.set i x) j = at0 zs j := by simp [at0, List.getD_eq_getElem?_getD, List.getElem?_set_ne h]
theorem Tw.at {n i : Nat} {zs : List Int} (h : Tw n i zs) : at0 zs (n / 16) = 2 ^ i := by rw [h.2]; exact at0_put_self _ (by simp)
theorem pow15 {i : Nat} (h : i ≤ 15) : (1 : Int) ≤ 2 ^ i ∧ (2 : Int) ^ i ≤ 32768 := by
  have h1 := pow_le (b := 2) (by decide) h
  have h2 : (0 : Int) < 2 ^ i := Int.pow_pos (by decide)
  have e : (2 : Int) ^ 15 = 32768 := by decide
  omega
theorem Tw.step {n i : Nat} {zs : List Int} (h : Tw n i zs) (hi : i < n % 16) : Tw n (i + 1) (zs.set (n / 16) (2 ^ i * 2)) := by
  refine ⟨by omega, ?_⟩
  rw [h.2, List.set_set, Int.pow_succ]
theorem Tw.fin {n : Nat} {zs : List Int} (h : Tw n (n % 16) zs) : dg 65536 zs ∧ lv 65536 zs = 2 ^ n := by
  have hp := pow15 (i := n % 16) (by omega)
  refine ⟨by rw [h.2]; exact dg_set (dg_replicate _ (by decide) (by decide)) _ (by omega) (by omega), ?_⟩
  rw [h.2, lv_set _ _ _ _ (by simp), lv_zeros, zeros_at]
  rw [pow16, Int.sub_zero, Int.zero_add, ← Int.pow_add]
  congr 1; omega
/-- The number whose bits are in the order of a list, with a sign from there on. -/
def BitsOf (z : Int) (ls : List Int) (g : Bool) : Prop := ∀ i, tb z i = if i < ls.length then decide (at0 ls i = 1) else g
/-- The same, without the sign. -/
def bflip (g : Bool) (z : Int) : Int := if g then -1 - z else z
theorem tb_bflip (g : Bool) (z : Int) (i : Nat) : tb (bflip g z) i = (tb z i != g) := by
  unfold bflip
  cases g
  · simp
  · simp [tb_compl]
theorem BitsOf.high {z : Int} {ls : List Int} {g : Bool} (h : BitsOf z ls g) : 0 ≤ bflip g z ∧ bflip g z < 2 ^ ls.length := by
  have hb : ∀ i, ls.length ≤ i → tb (bflip g z) i = false := fun i hi => by rw [tb_bflip, h i, if_neg (by omega)]; simp
  have hp : (0 : Int) < 2 ^ ls.length := Int.pow_pos (by decide)
  have q : bflip g z / 2 ^ ls.length = 0 := tb_ext fun i => by rw [← tb_shift, hb _ (by omega), tb_zero]
  have e := Int.mul_ediv_add_emod (bflip g z) (2 ^ ls.length)
  have r0 := Int.emod_nonneg (bflip g z) (Int.ne_of_gt hp)
  have r1 := Int.emod_lt_of_pos (bflip g z) hp
  rw [q, Int.mul_zero] at e
  omega
/-- The rounds of Of: bits from i on are in their digits. -/
def OfI (Z : Int) (n i : Nat) (ds : List Int) : Prop := i ≤ n ∧ ds.length = n / 16 + 1 ∧ ∀ j, j ≤ n / 16 → at0 ds j = Z / 2 ^ (max (16 * j) i) % 2 ^ (16 * (j + 1) - max (16 * j) i)
theorem OfI.start {Z : Int} {n : Nat} (h0 : 0 ≤ Z) (h1 : Z < 2 ^ n) : OfI Z n n (List.replicate (n / 16 + 1) 0) := by
  refine ⟨Nat.le_refl _, by simp, fun j hj => ?_⟩
  have e : at0 (List.replicate (n / 16 + 1) 0) j = 0 := zeros_at _ _
  have h2 := pow_le (b := 2) (by decide) (show n ≤ max (16 * j) n by omega)
  rw [e, Int.ediv_eq_zero_of_lt h0 (by omega)]
  simp
theorem OfI.bound {Z : Int} {n i : Nat} {ds : List Int} (h : OfI Z n (i + 1) ds) : 0 ≤ at0 ds (i / 16) ∧ at0 ds (i / 16) < 32768 := by
  obtain ⟨h1, h2, h3⟩ := h
  have e := h3 (i / 16) (by omega)
  have hp : (0 : Int) < 2 ^ (16 * (i / 16 + 1) - max (16 * (i / 16)) (i + 1)) := Int.pow_pos (by decide)
  have a0 := Int.emod_nonneg (Z / 2 ^ (max (16 * (i / 16)) (i + 1))) (Int.ne_of_gt hp)
  have a1 := Int.emod_lt_of_pos (Z / 2 ^ (max (16 * (i / 16)) (i + 1))) hp
  have a2 := (pow15 (i := 16 * (i / 16 + 1) - max (16 * (i / 16)) (i + 1)) (by omega)).2
  omega
theorem OfI.step {Z : Int} {n i : Nat} {ds : List Int} {y : Int} (h : OfI Z n (i + 1) ds) (hy : y = at0 ds (i / 16) * 2 + (if tb Z i then 1 else 0)) : OfI Z n i (ds.set (i / 16) y) := by
  obtain ⟨h1, h2, h3⟩ := h
  refine ⟨by omega, by simpa using h2, fun j hj => ?_⟩
  by_cases e : i / 16 = j
  · subst e
    rw [at0_put_self _ (by omega), hy, h3 _ hj, Nat.max_eq_right (by omega), Nat.max_eq_right (by omega)]
    have e2 : 16 * (i / 16 + 1) - i = 16 * (i / 16 + 1) - (i + 1) + 1 := by omega
    rw [e2, ← half_pow, Int.pow_succ]
    unfold tb
    generalize Z / 2 ^ i = q
    generalize (2 : Int) ^ (16 * (i / 16 + 1) - (i + 1)) = p
    have key : q % (p * 2) = q / 2 % p * 2 + q % 2 := by
      have e1 : q / (p * 2) = q / 2 / p := by rw [Int.mul_comm p 2, Int.ediv_ediv_of_nonneg (by decide)]
      rw [Int.emod_def, Int.emod_def (q / 2) p, e1]
      have e2 : p * 2 * (q / 2 / p) = 2 * (p * (q / 2 / p)) := by rw [Int.mul_comm p 2, Int.mul_assoc]
      rw [e2]
      omega
    rw [key]
    have : q % 2 = 0 ∨ q % 2 = 1 := by omega
    rcases this with h | h <;> simp [h]
  · rw [at0_put_ne _ e, h3 j hj]
    by_cases hlt : i < 16 * j
    · rw [Nat.max_eq_left (by omega), Nat.max_eq_left (by omega)]
    · rw [show 16 * (j + 1) - max (16 * j) (i + 1) = 0 by omega, show 16 * (j + 1) - max (16 * j) i = 0 by omega]
      simp
theorem OfI.dg {Z : Int} {n i : Nat} {ds : List Int} (h : OfI Z n i ds) : Ma.dg 65536 ds := by
  intro x hx
  obtain ⟨k, hk, rfl⟩ := List.getElem_of_mem hx
  have e := h.2.2 k (by have := h.2.1; omega)
  rw [at0_of_lt hk] at e
  have hp : (0 : Int) < 2 ^ (16 * (k + 1) - max (16 * k) i) := Int.pow_pos (by decide)
  have a0 := Int.emod_nonneg (Z / 2 ^ (max (16 * k) i)) (Int.ne_of_gt hp)
  have a1 := Int.emod_lt_of_pos (Z / 2 ^ (max (16 * k) i)) hp
  have a2 := pow_le (b := 2) (by decide) (show 16 * (k + 1) - max (16 * k) i ≤ 16 by omega)
  have e16 : (2 : Int) ^ 16 = 65536 := by decide
  omega
theorem OfI.fin {Z : Int} {n : Nat} {ds : List Int} (h : OfI Z n 0 ds) (h0 : 0 ≤ Z) (h1 : Z < 2 ^ n) : lv 65536 ds = Z := by
  have e := lv_digits (b := 65536) (V := Z) (by decide) (zs := ds) ds.length (Nat.le_refl _) (fun j hj => by
    rw [h.2.2 j (by have := h.2.1; omega), Nat.max_eq_left (by omega), show 16 * (j + 1) - 16 * j = 16 by omega, pow16]; rfl)
  rw [List.take_length] at e
  rw [e, h.2.1]
  refine Int.emod_eq_of_lt h0 ?_
  have := pow_le (b := 2) (by decide) (show n ≤ 16 * (n / 16 + 1) by omega)
  rw [pow16]; omega
end Go.Proofs.Ytcgkgcciogibkaa.Ma
/- The reference's width, set, Two, chosen, New by rules. -/
set_option linter.unusedVariables false
set_option linter.unusedSimpArgs false
namespace Go.Proofs.Ytcgkgcciogibkaa.Sy
open Go Go.RowKit Ma
theorem facJ0 {p : Nat} {m : Bool} {A : Option Addr} {l c : Nat} (W : World) (hh : Holds (BI 31) p (.agg #[.bool m, .slice A l c]) W) : (Instr.fieldAt 31 (ptr p) 0).run Try.prog W = .ok (.pointer (some ⟨p, 0, none⟩)) W := by
  obtain ⟨_, h0, h1⟩ := holdsV hh rfl
  go_simp
theorem facJ1 {p : Nat} {m : Bool} {A : Option Addr} {l c : Nat} (W : World) (hh : Holds (BI 31) p (.agg #[.bool m, .slice A l c]) W) : (Instr.fieldAt 31 (ptr p) 1).run Try.prog W = .ok (.pointer (some ⟨p, 1, none⟩)) W := by
  obtain ⟨_, h0, h1⟩ := holdsV hh rfl
  go_simp
theorem flcJ0 {T : TypeId} {p : Nat} {m : Bool} {A : Option Addr} {l c : Nat} (W : World) (hh : Holds (BI T) p (.agg #[.bool m, .slice A l c]) W) : (Instr.loadAt 4 (.pointer (some ⟨p, 0, none⟩))).run Try.prog W = .ok (.bool m) W := by
  obtain ⟨_, h0, h1⟩ := holdsV hh rfl
  go_simp
theorem flcJ1 {T : TypeId} {p : Nat} {m : Bool} {A : Option Addr} {l c : Nat} (W : World) (hh : Holds (BI T) p (.agg #[.bool m, .slice A l c]) W) : (Instr.loadAt 29 (.pointer (some ⟨p, 1, none⟩))).run Try.prog W = .ok (.slice A l c) W := by
  obtain ⟨_, h0, h1⟩ := holdsV hh rfl
  go_simp
theorem r_eqD {x y : Operand} {dst : Option Tmp} {ty : TypeId} {pos : String} {after : Array Edge} {guard : Option (Nat × Bool)} {ρ : Operand → Value} {W : World} {a b : Int} {t : Bool} (h1 : ρ x = .int .i64 a) (h2 : ρ y = .int .i64 b) (e : decide (a = b) = t) : (execOp ρ ⟨dst, .binOp .eql 3 x y 3, ty, pos, after, guard⟩).run Try.prog W = .ok (.value (.bool t)) W := by
  by_cases h : a = b
  · rw [decide_eq_true h] at e; subst e; exact r_eqT h1 h2 h
  · rw [decide_eq_false h] at e; subst e; exact r_eqF h1 h2 h
set_option maxHeartbeats 3200000 in
set_option maxRecDepth 100000 in
theorem rwidth_c {m : Bool} {A : Option Addr} {c : Nat} {xs : List Int} {w : World} (rA : Rd w .i64 A xs) (dx : dg 65536 xs) (hx : xs.length ≤ 2000000) (tx : top xs) :
    Calls Try.prog 95 #[.agg #[.bool m, .slice A xs.length c]] w (Ret w (KV (.int .i64 (wid (lv 65536 xs) : Int)))) := by
  have hW : wid (lv 65536 xs) ≤ 40000000 := by
    have := wid_le_of (z := lv 65536 xs) (n := 16 * xs.length) (by rw [← pow16]; exact lv_lt BJ_pos dx)
    omega
  refine calls_sc (l := [.vl (.agg #[.bool m, .slice A xs.length c])]) (us := [.agg #[.bool m, .slice A xs.length c]]) 29 Try.func95 rfl Try.ntmps95 (by simp) ⟨rfl, rfl, trivial⟩ ?_
  refine SC.seq ?_
  refine SC.region ?_
  refine PW.boxc (x := .tmp 0) (BI 31) rfl rfl rfl rfl rfl bJ rfl ⟨_, _, _, _, _, rfl, rfl⟩ fun pb1 => ?_
  refine PW.assign rfl rfl rfl rfl rfl ?_
  refine PW.nil ?_
  refine SX.then ?_
  refine SC.seq ?_
  refine SC.seq ?_
  by_cases h0 : xs.length = 0
  · refine SC.region ?_
    refine PW.fac ⟨pb1, 1, none⟩ rfl rfl rfl rfl rfl facJ1 ?_
    refine PW.flc (s := 1) (.slice A xs.length c) rfl rfl rfl rfl rfl rfl flcJ1 ?_
    refine PW.qn [(.tmp 6, .slice A xs.length c)] (.int .i64 (xs.length : Int)) rfl rfl rfl ⟨rfl, trivial⟩ (fun ρ W h => by obtain ⟨h1, _⟩ := h; exact r_lenI h1) ?_
    refine PW.q2 (x := .tmp 7) (y := .const (.int .i64 0)) (.bool true) rfl rfl rfl rfl rfl (fun ρ W h1 h2 => by exact r_eqT h1 h2 (by omega)) ?_
    refine PW.nil ?_
    refine SX.then ?_
    refine SC.cond (t := true) rfl ?_
    refine SC.seq ?_
    refine SC.region ?_
    refine PW.assign rfl rfl rfl rfl rfl ?_
    refine PW.nil ?_
    refine SX.then ?_
    refine SC.ret ?_
    refine SX.thenR ?_
    have hr : (wid (lv 65536 xs) : Int) = 0 := by rw [List.eq_nil_of_length_eq_zero h0]; rfl
    rw [hr]
    exact SX.done (s := 2) (r := .vl (.int .i64 0)) rfl rfl rfl
  · have hne : xs ≠ [] := fun h => h0 (by rw [h]; rfl)
    refine SC.region ?_
    refine PW.fac ⟨pb1, 1, none⟩ rfl rfl rfl rfl rfl facJ1 ?_
    refine PW.flc (s := 1) (.slice A xs.length c) rfl rfl rfl rfl rfl rfl flcJ1 ?_
    refine PW.qn [(.tmp 6, .slice A xs.length c)] (.int .i64 (xs.length : Int)) rfl rfl rfl ⟨rfl, trivial⟩ (fun ρ W h => by obtain ⟨h1, _⟩ := h; exact r_lenI h1) ?_
    refine PW.q2 (x := .tmp 7) (y := .const (.int .i64 0)) (.bool false) rfl rfl rfl rfl rfl (fun ρ W h1 h2 => by exact r_eqF h1 h2 (by omega)) ?_
    refine PW.nil ?_
    refine SX.then ?_
    refine SC.cond (t := false) rfl ?_
    refine SC.skip ?_
    refine SX.then ?_
    refine SC.seq ?_
    refine SC.region ?_
    refine PW.fac ⟨pb1, 1, none⟩ rfl rfl rfl rfl rfl facJ1 ?_
    refine PW.flc (s := 1) (.slice A xs.length c) rfl rfl rfl rfl rfl rfl flcJ1 ?_
    refine PW.qn [(.tmp 10, .slice A xs.length c)] (.int .i64 (xs.length : Int)) rfl rfl rfl ⟨rfl, trivial⟩ (fun ρ W h => by obtain ⟨h1, _⟩ := h; exact r_lenI h1) ?_
    refine PW.q2 (x := .tmp 11) (y := .const (.int .i64 1)) (.int .i64 ((xs.length : Int) - 1)) rfl rfl rfl rfl rfl (fun ρ W h1 h2 => by exact r_sub h1 h2 (rfl) (by omega)) ?_
    refine PW.q2 (x := .const (.int .i64 16)) (y := .tmp 12) (.int .i64 (16 * ((xs.length : Int) - 1))) rfl rfl rfl rfl rfl (fun ρ W h1 h2 => by exact r_mul h1 h2 (rfl) (by omega)) ?_
    refine PW.assign rfl rfl rfl rfl rfl ?_
    refine PW.nil ?_
    refine SX.then ?_
    refine SC.seq ?_
    refine SC.seq ?_
    refine SC.region ?_
    refine PW.fac ⟨pb1, 1, none⟩ rfl rfl rfl rfl rfl facJ1 ?_
    refine PW.flc (s := 1) (.slice A xs.length c) rfl rfl rfl rfl rfl rfl flcJ1 ?_
    refine PW.fac ⟨pb1, 1, none⟩ rfl rfl rfl rfl rfl facJ1 ?_
    refine PW.flc (s := 1) (.slice A xs.length c) rfl rfl rfl rfl rfl rfl flcJ1 ?_
    refine PW.qn [(.tmp 17, .slice A xs.length c)] (.int .i64 (xs.length : Int)) rfl rfl rfl ⟨rfl, trivial⟩ (fun ρ W h => by obtain ⟨h1, _⟩ := h; exact r_lenI h1) ?_
    refine PW.q2 (x := .tmp 18) (y := .const (.int .i64 1)) (.int .i64 ((xs.length - 1 : Nat))) rfl rfl rfl rfl rfl (fun ρ W h1 h2 => by exact r_sub h1 h2 (by omega) (by omega)) ?_
    refine PW.q2 (x := .tmp 15) (y := .tmp 19) (.pointer (padd A (xs.length - 1))) rfl rfl rfl rfl rfl (fun ρ W h1 h2 => r_idxRI rA h1 h2 (by omega)) ?_
    refine PW.iget (i := xs.length - 1) rfl rfl rfl rfl rfl rfl rA (by omega) r_l64 ?_
    refine PW.assign rfl rfl rfl rfl rfl ?_
    refine PW.nil ?_
    refine SX.then ?_
    refine SC.block ?_
    refine SC.loop (S := Int × Int) (fun ⟨n, t⟩ => [(3, .vl (.int .i64 (n))), (4, .vl (.int .i64 (t)))]) (fun ⟨n, t⟩ => Wd (wid (lv 65536 xs)) n t) (fun ⟨n, t⟩ => t.toNat) (16 * ((xs.length : Int) - 1), at0 xs (xs.length - 1)) (Wd.start dx tx hne) ⟨rfl, rfl, trivial⟩ ?_
    rintro ⟨n, t⟩ hP
    show SC _ _ _ _ [(3, .vl (.int .i64 (n))), (4, .vl (.int .i64 (t)))] _
    refine SC.seq ?_
    refine SC.seq ?_
    by_cases ht : 0 < t
    · refine SC.region ?_
      refine PW.move rfl rfl rfl rfl rfl ?_
      refine PW.q2 (x := .tmp 22) (y := .const (.int .i64 0)) (.bool true) rfl rfl rfl rfl rfl (fun ρ W h1 h2 => by exact r_gt h1 h2 (decide_eq_true ht)) ?_
      refine PW.nil ?_
      refine SX.then ?_
      refine SC.cond (t := true) rfl ?_
      refine SC.skip ?_
      refine SX.then ?_
      refine SC.seq ?_
      refine SC.block ?_
      refine SC.region ?_
      refine PW.move rfl rfl rfl rfl rfl ?_
      refine PW.q2 (x := .tmp 26) (y := .const (.int .i64 1)) (.int .i64 (n + 1)) rfl rfl rfl rfl rfl (fun ρ W h1 h2 => by exact r_add h1 h2 (rfl) (by have := hP.2.2.1; have := hP.2.2.2; omega)) ?_
      refine PW.assign rfl rfl rfl rfl rfl ?_
      refine PW.nil ?_
      refine SX.blockN ?_
      refine SX.then ?_
      refine SC.region ?_
      refine PW.move rfl rfl rfl rfl rfl ?_
      refine PW.q2 (x := .tmp 24) (y := .const (.int .i64 2)) (.int .i64 (t / 2)) rfl rfl rfl rfl rfl (fun ρ W h1 h2 => by exact r_quo h1 h2 (rfl) (by have := hP.2.1; have := hP.1; omega) (by decide)) ?_
      refine PW.assign rfl rfl rfl rfl rfl ?_
      refine PW.nil ?_
      refine SX.back (n + 1, t / 2) ?_ ?_ ?_
      · exact hP.step ht
      · exact (show (t / 2).toNat < t.toNat by omega)
      · exact ⟨rfl, rfl, trivial⟩
    · refine SC.region ?_
      refine PW.move rfl rfl rfl rfl rfl ?_
      refine PW.q2 (x := .tmp 22) (y := .const (.int .i64 0)) (.bool false) rfl rfl rfl rfl rfl (fun ρ W h1 h2 => by exact r_gt h1 h2 (decide_eq_false ht)) ?_
      refine PW.nil ?_
      refine SX.then ?_
      refine SC.cond (t := false) rfl ?_
      refine SC.exit ?_
      refine SX.thenE ?_
      refine SX.thenE ?_
      refine SX.blockE ?_
      refine SX.then ?_
      refine SC.seq ?_
      refine SC.region ?_
      refine PW.move rfl rfl rfl rfl rfl ?_
      refine PW.assign rfl rfl rfl rfl rfl ?_
      refine PW.nil ?_
      refine SX.then ?_
      refine SC.ret ?_
      have hr := hP.fin ht
      rw [← hr]
      exact SX.done (s := 2) (r := .vl (.int .i64 (n))) rfl rfl rfl

set_option maxHeartbeats 3200000 in
set_option maxRecDepth 100000 in
theorem rset_c {m : Bool} {A : Option Addr} {c : Nat} {xs : List Int} {w : World} (rA : Rd w .i64 A xs) (dx : dg 65536 xs) (hx : xs.length ≤ 2000000) {i : Nat} (hi : i ≤ 9223372036854775807) :
    Calls Try.prog 80 #[.agg #[.bool m, .slice A xs.length c], .int .i64 (i : Int)] w (Ret w (KV (.bool (tb (lv 65536 xs) i)))) := by
  refine calls_sc (l := [.vl (.agg #[.bool m, .slice A xs.length c]), .vl (.int .i64 (i : Int))]) (us := [.agg #[.bool m, .slice A xs.length c], .int .i64 (i : Int)]) 30 Try.func80 rfl Try.ntmps80 (by simp) ⟨rfl, rfl, rfl, rfl, trivial⟩ ?_
  refine SC.seq ?_
  refine SC.region ?_
  refine PW.boxc (x := .tmp 0) (BI 31) rfl rfl rfl rfl rfl bJ rfl ⟨_, _, _, _, _, rfl, rfl⟩ fun pb1 => ?_
  refine PW.assign rfl rfl rfl rfl rfl ?_
  refine PW.nil ?_
  refine SX.then ?_
  refine SC.seq ?_
  refine SC.seq ?_
  by_cases hg : ((i / 16 : Nat) : Int) ≥ (xs.length : Int)
  · refine SC.region ?_
    refine PW.move rfl rfl rfl rfl rfl ?_
    refine PW.q2 (x := .tmp 7) (y := .const (.int .i64 16)) (.int .i64 ((i / 16 : Nat))) rfl rfl rfl rfl rfl (fun ρ W h1 h2 => by exact r_quo h1 h2 (by omega) (by omega) (by decide)) ?_
    refine PW.fac ⟨pb1, 1, none⟩ rfl rfl rfl rfl rfl facJ1 ?_
    refine PW.flc (s := 2) (.slice A xs.length c) rfl rfl rfl rfl rfl rfl flcJ1 ?_
    refine PW.qn [(.tmp 10, .slice A xs.length c)] (.int .i64 (xs.length : Int)) rfl rfl rfl ⟨rfl, trivial⟩ (fun ρ W h => by obtain ⟨h1, _⟩ := h; exact r_lenI h1) ?_
    refine PW.q2 (x := .tmp 8) (y := .tmp 11) (.bool true) rfl rfl rfl rfl rfl (fun ρ W h1 h2 => by exact r_ge h1 h2 (decide_eq_true hg)) ?_
    refine PW.nil ?_
    refine SX.then ?_
    refine SC.cond (t := true) rfl ?_
    refine SC.seq ?_
    refine SC.region ?_
    refine PW.assign rfl rfl rfl rfl rfl ?_
    refine PW.nil ?_
    refine SX.then ?_
    refine SC.ret ?_
    refine SX.thenR ?_
    have hr : tb (lv 65536 xs) i = false := by rw [← set_fin dx i, at0_ge (by omega), Int.zero_ediv]; decide
    rw [hr]
    exact SX.done (s := 4) (r := .vl (.bool false)) rfl rfl rfl
  · refine SC.region ?_
    refine PW.move rfl rfl rfl rfl rfl ?_
    refine PW.q2 (x := .tmp 7) (y := .const (.int .i64 16)) (.int .i64 ((i / 16 : Nat))) rfl rfl rfl rfl rfl (fun ρ W h1 h2 => by exact r_quo h1 h2 (by omega) (by omega) (by decide)) ?_
    refine PW.fac ⟨pb1, 1, none⟩ rfl rfl rfl rfl rfl facJ1 ?_
    refine PW.flc (s := 2) (.slice A xs.length c) rfl rfl rfl rfl rfl rfl flcJ1 ?_
    refine PW.qn [(.tmp 10, .slice A xs.length c)] (.int .i64 (xs.length : Int)) rfl rfl rfl ⟨rfl, trivial⟩ (fun ρ W h => by obtain ⟨h1, _⟩ := h; exact r_lenI h1) ?_
    refine PW.q2 (x := .tmp 8) (y := .tmp 11) (.bool false) rfl rfl rfl rfl rfl (fun ρ W h1 h2 => by exact r_ge h1 h2 (decide_eq_false hg)) ?_
    refine PW.nil ?_
    refine SX.then ?_
    refine SC.cond (t := false) rfl ?_
    refine SC.skip ?_
    refine SX.then ?_
    refine SC.seq ?_
    refine SC.region ?_
    refine PW.fac ⟨pb1, 1, none⟩ rfl rfl rfl rfl rfl facJ1 ?_
    refine PW.flc (s := 2) (.slice A xs.length c) rfl rfl rfl rfl rfl rfl flcJ1 ?_
    refine PW.move rfl rfl rfl rfl rfl ?_
    refine PW.q2 (x := .tmp 15) (y := .const (.int .i64 16)) (.int .i64 ((i / 16 : Nat))) rfl rfl rfl rfl rfl (fun ρ W h1 h2 => by exact r_quo h1 h2 (by omega) (by omega) (by decide)) ?_
    refine PW.q2 (x := .tmp 14) (y := .tmp 16) (.pointer (padd A (i / 16))) rfl rfl rfl rfl rfl (fun ρ W h1 h2 => r_idxRI rA h1 h2 (by omega)) ?_
    refine PW.iget (i := i / 16) rfl rfl rfl rfl rfl rfl rA (by omega) r_l64 ?_
    refine PW.assign rfl rfl rfl rfl rfl ?_
    refine PW.nil ?_
    refine SX.then ?_
    refine SC.seq ?_
    refine SC.seq ?_
    refine SC.region ?_
    refine PW.assign rfl rfl rfl rfl rfl ?_
    refine PW.nil ?_
    refine SX.then ?_
    refine SC.block ?_
    refine SC.loop (S := Nat × Int) (fun ⟨k, t⟩ => [(1, .vl (.int .i64 (i : Int))), (5, .vl (.int .i64 (t))), (6, .vl (.int .i64 (k : Int)))]) (fun ⟨k, t⟩ => k ≤ i % 16 ∧ 0 ≤ t ∧ t < 65536 ∧ t = at0 xs (i / 16) / 2 ^ k) (fun ⟨k, t⟩ => i % 16 - k) (0, at0 xs (i / 16)) ⟨by omega, (dg_at dx BJ_pos _).1, (dg_at dx BJ_pos _).2, by simp⟩ ⟨rfl, rfl, rfl, trivial⟩ ?_
    rintro ⟨k, t⟩ ⟨hk0, h0, h4, h3⟩
    show SC _ _ _ _ [(1, .vl (.int .i64 (i : Int))), (5, .vl (.int .i64 (t))), (6, .vl (.int .i64 (k : Int)))] _
    refine SC.seq ?_
    refine SC.seq ?_
    by_cases hk : (k : Int) < ((i % 16 : Nat) : Int)
    · refine SC.region ?_
      refine PW.move rfl rfl rfl rfl rfl ?_
      refine PW.move rfl rfl rfl rfl rfl ?_
      refine PW.q2 (x := .tmp 20) (y := .const (.int .i64 16)) (.int .i64 ((i % 16 : Nat))) rfl rfl rfl rfl rfl (fun ρ W h1 h2 => by exact r_rem h1 h2 (by omega) (by omega) (by decide)) ?_
      refine PW.q2 (x := .tmp 19) (y := .tmp 21) (.bool true) rfl rfl rfl rfl rfl (fun ρ W h1 h2 => by exact r_lt h1 h2 (decide_eq_true hk)) ?_
      refine PW.nil ?_
      refine SX.then ?_
      refine SC.cond (t := true) rfl ?_
      refine SC.skip ?_
      refine SX.then ?_
      refine SC.seq ?_
      refine SC.block ?_
      refine SC.region ?_
      refine PW.move rfl rfl rfl rfl rfl ?_
      refine PW.q2 (x := .tmp 25) (y := .const (.int .i64 2)) (.int .i64 (t / 2)) rfl rfl rfl rfl rfl (fun ρ W h1 h2 => by exact r_quo h1 h2 (rfl) (by omega) (by decide)) ?_
      refine PW.assign rfl rfl rfl rfl rfl ?_
      refine PW.nil ?_
      refine SX.blockN ?_
      refine SX.then ?_
      refine SC.region ?_
      refine PW.move rfl rfl rfl rfl rfl ?_
      refine PW.q2 (x := .tmp 23) (y := .const (.int .i64 1)) (.int .i64 ((k + 1 : Nat))) rfl rfl rfl rfl rfl (fun ρ W h1 h2 => by exact r_add h1 h2 (by omega) (by omega)) ?_
      refine PW.assign rfl rfl rfl rfl rfl ?_
      refine PW.nil ?_
      refine SX.back (k + 1, t / 2) ?_ ?_ ?_
      · exact ⟨by omega, by omega, by omega, by rw [h3, half_pow]⟩
      · exact (show i % 16 - (k + 1) < i % 16 - k by omega)
      · exact ⟨rfl, rfl, rfl, trivial⟩
    · refine SC.region ?_
      refine PW.move rfl rfl rfl rfl rfl ?_
      refine PW.move rfl rfl rfl rfl rfl ?_
      refine PW.q2 (x := .tmp 20) (y := .const (.int .i64 16)) (.int .i64 ((i % 16 : Nat))) rfl rfl rfl rfl rfl (fun ρ W h1 h2 => by exact r_rem h1 h2 (by omega) (by omega) (by decide)) ?_
      refine PW.q2 (x := .tmp 19) (y := .tmp 21) (.bool false) rfl rfl rfl rfl rfl (fun ρ W h1 h2 => by exact r_lt h1 h2 (decide_eq_false hk)) ?_
      refine PW.nil ?_
      refine SX.then ?_
      refine SC.cond (t := false) rfl ?_
      refine SC.exit ?_
      refine SX.thenE ?_
      refine SX.thenE ?_
      refine SX.blockE ?_
      refine SX.then ?_
      refine SC.seq ?_
      refine SC.region ?_
      refine PW.move rfl rfl rfl rfl rfl ?_
      refine PW.q2 (x := .tmp 27) (y := .const (.int .i64 2)) (.int .i64 (t % 2)) rfl rfl rfl rfl rfl (fun ρ W h1 h2 => by exact r_rem h1 h2 (rfl) (by omega) (by decide)) ?_
      refine PW.q2 (x := .tmp 28) (y := .const (.int .i64 1)) (.bool (tb (lv 65536 xs) i)) rfl rfl rfl rfl rfl (fun ρ W h1 h2 => by exact r_eqD h1 h2 (by rw [h3, ← set_fin dx i, show k = i % 16 by omega])) ?_
      refine PW.assign rfl rfl rfl rfl rfl ?_
      refine PW.nil ?_
      refine SX.then ?_
      refine SC.ret ?_
      exact SX.done (s := 4) (r := .vl (.bool (tb (lv 65536 xs) i))) rfl rfl rfl

set_option maxHeartbeats 3200000 in
set_option maxRecDepth 100000 in
theorem rtwo_c {n : Nat} {w : World} (hn : n ≤ 4000000) :
    Calls Try.prog 104 #[.int .i64 (n : Int)] w (Ret w (KJ (2 ^ n))) := by
  refine calls_sc (l := [.vl (.int .i64 (n : Int))]) (us := [.int .i64 (n : Int)]) 28 Try.func104 rfl Try.ntmps104 (by simp) ⟨rfl, rfl, trivial⟩ ?_
  refine SC.seq ?_
  refine SC.region ?_
  refine PW.alloc (BI 31) rfl rfl rfl rfl rfl bJ ?_
  refine PW.nil ?_
  refine SX.then ?_
  refine SC.seq ?_
  refine SC.region ?_
  refine PW.move rfl rfl rfl rfl rfl ?_
  refine PW.q2 (x := .tmp 5) (y := .const (.int .i64 16)) (.int .i64 ((n / 16 : Nat))) rfl rfl rfl rfl rfl (fun ρ W h1 h2 => by exact r_quo h1 h2 (by omega) (by omega) (by decide)) ?_
  refine PW.q2 (x := .tmp 6) (y := .const (.int .i64 1)) (.int .i64 ((n / 16 + 1 : Nat))) rfl rfl rfl rfl rfl (fun ρ W h1 h2 => by exact r_add h1 h2 (by omega) (by omega)) ?_
  refine PW.make (n := (n / 16 + 1)) 28 rfl rfl rfl rfl rfl Try.underlying29 info_i64 (by omega) (by unfold maxLen; omega) fun g1 => ?_
  refine PW.assign rfl rfl rfl rfl rfl ?_
  refine PW.nil ?_
  refine SX.then ?_
  refine SC.seq ?_
  refine SC.region ?_
  refine PW.move rfl rfl rfl rfl rfl ?_
  refine PW.move rfl rfl rfl rfl rfl ?_
  refine PW.q2 (x := .tmp 10) (y := .const (.int .i64 16)) (.int .i64 ((n / 16 : Nat))) rfl rfl rfl rfl rfl (fun ρ W h1 h2 => by exact r_quo h1 h2 (by omega) (by omega) (by decide)) ?_
  refine PW.q2 (x := .tmp 9) (y := .tmp 11) (.pointer (some ⟨g1, n / 16, none⟩)) rfl rfl rfl rfl rfl (fun ρ W h1 h2 => r_idxI h1 h2 (by first | omega | (have := hP.len; omega) | (simp; done))) ?_
  refine PW.rstore (K := 28) (x := .const (.int .i64 1)) (i := n / 16) (y := 1) rfl rfl rfl rfl rfl (by first | omega | (have := hP.len; omega) | (simp; done)) rfl rfl r_s64 ?_
  refine PW.nil ?_
  refine SX.then ?_
  refine SC.seq ?_
  refine SC.seq ?_
  refine SC.region ?_
  refine PW.assign rfl rfl rfl rfl rfl ?_
  refine PW.nil ?_
  refine SX.then ?_
  refine SC.block ?_
  refine SC.loop (S := Nat × List Int) (fun ⟨i, zs⟩ => [(0, .vl (.int .i64 (n : Int))), (2, .nb (BI 31)), (3, .vl (.slice (some ⟨g1, 0, none⟩) (n / 16 + 1) (n / 16 + 1))), (4, .vl (.int .i64 (i : Int))), (28, .ro (.slice (some ⟨g1, 0, none⟩) (n / 16 + 1) (n / 16 + 1)) 3 (.int .i64) (zs))]) (fun ⟨i, zs⟩ => Tw n i zs) (fun ⟨i, zs⟩ => n % 16 - i) (0, (List.replicate (n / 16 + 1) 0).set (n / 16) 1) (Tw.start n) ⟨rfl, rfl, rfl, rfl, rfl, trivial⟩ ?_
  rintro ⟨i, zs⟩ hP
  show SC _ _ _ _ [(0, .vl (.int .i64 (n : Int))), (2, .nb (BI 31)), (3, .vl (.slice (some ⟨g1, 0, none⟩) (n / 16 + 1) (n / 16 + 1))), (4, .vl (.int .i64 (i : Int))), (28, .ro (.slice (some ⟨g1, 0, none⟩) (n / 16 + 1) (n / 16 + 1)) 3 (.int .i64) (zs))] _
  have hlen := hP.len
  refine SC.seq ?_
  refine SC.seq ?_
  by_cases hi : (i : Int) < ((n % 16 : Nat) : Int)
  · refine SC.region ?_
    refine PW.move rfl rfl rfl rfl rfl ?_
    refine PW.move rfl rfl rfl rfl rfl ?_
    refine PW.q2 (x := .tmp 14) (y := .const (.int .i64 16)) (.int .i64 ((n % 16 : Nat))) rfl rfl rfl rfl rfl (fun ρ W h1 h2 => by exact r_rem h1 h2 (by omega) (by omega) (by decide)) ?_
    refine PW.q2 (x := .tmp 13) (y := .tmp 15) (.bool true) rfl rfl rfl rfl rfl (fun ρ W h1 h2 => by exact r_lt h1 h2 (decide_eq_true hi)) ?_
    refine PW.nil ?_
    refine SX.then ?_
    refine SC.cond (t := true) rfl ?_
    refine SC.skip ?_
    refine SX.then ?_
    refine SC.seq ?_
    refine SC.block ?_
    refine SC.region ?_
    refine PW.move rfl rfl rfl rfl rfl ?_
    refine PW.move rfl rfl rfl rfl rfl ?_
    refine PW.q2 (x := .tmp 20) (y := .const (.int .i64 16)) (.int .i64 ((n / 16 : Nat))) rfl rfl rfl rfl rfl (fun ρ W h1 h2 => by exact r_quo h1 h2 (by omega) (by omega) (by decide)) ?_
    refine PW.q2 (x := .tmp 19) (y := .tmp 21) (.pointer (some ⟨g1, n / 16, none⟩)) rfl rfl rfl rfl rfl (fun ρ W h1 h2 => r_idxI h1 h2 (by first | omega | (have := hP.len; omega))) ?_
    refine PW.rload (K := 28) (i := n / 16) rfl rfl rfl rfl rfl rfl (by first | omega | (have := hP.len; omega)) r_l64 ?_
    refine PW.q2 (x := .tmp 23) (y := .const (.int .i64 2)) (.int .i64 (2 ^ i * 2)) rfl rfl rfl rfl rfl (fun ρ W h1 h2 => by exact r_mul h1 h2 (by rw [hP.at]) (by have := pow15 (i := i) (by have := hP.1; omega); omega)) ?_
    refine PW.q2 (x := .tmp 19) (y := .tmp 21) (.pointer (some ⟨g1, n / 16, none⟩)) rfl rfl rfl rfl rfl (fun ρ W h1 h2 => r_idxI h1 h2 (by first | omega | (have := hP.len; omega))) ?_
    refine PW.rstore (K := 28) (x := .tmp 24) (i := n / 16) (y := (2 ^ i * 2)) rfl rfl rfl rfl rfl (by first | omega | (have := hP.len; omega)) rfl rfl r_s64 ?_
    refine PW.nil ?_
    refine SX.blockN ?_
    refine SX.then ?_
    refine SC.region ?_
    refine PW.move rfl rfl rfl rfl rfl ?_
    refine PW.q2 (x := .tmp 17) (y := .const (.int .i64 1)) (.int .i64 ((i + 1 : Nat))) rfl rfl rfl rfl rfl (fun ρ W h1 h2 => by exact r_add h1 h2 (by omega) (by omega)) ?_
    refine PW.assign rfl rfl rfl rfl rfl ?_
    refine PW.nil ?_
    refine SX.back (i + 1, zs.set (n / 16) (2 ^ i * 2)) ?_ ?_ ?_
    · exact hP.step (by omega)
    · exact (show n % 16 - (i + 1) < n % 16 - i by omega)
    · exact ⟨rfl, rfl, rfl, rfl, rfl, trivial⟩
  · obtain rfl : i = n % 16 := by have := hP.1; omega
    refine SC.region ?_
    refine PW.move rfl rfl rfl rfl rfl ?_
    refine PW.move rfl rfl rfl rfl rfl ?_
    refine PW.q2 (x := .tmp 14) (y := .const (.int .i64 16)) (.int .i64 ((n % 16 : Nat))) rfl rfl rfl rfl rfl (fun ρ W h1 h2 => by exact r_rem h1 h2 (by omega) (by omega) (by decide)) ?_
    refine PW.q2 (x := .tmp 13) (y := .tmp 15) (.bool false) rfl rfl rfl rfl rfl (fun ρ W h1 h2 => by exact r_lt h1 h2 (decide_eq_false hi)) ?_
    refine PW.nil ?_
    refine SX.then ?_
    refine SC.cond (t := false) rfl ?_
    refine SC.exit ?_
    refine SX.thenE ?_
    refine SX.thenE ?_
    refine SX.blockE ?_
    refine SX.then ?_
    refine SC.seq ?_
    refine SC.region ?_
    refine PW.move rfl rfl rfl rfl rfl ?_
    refine PW.callG (r := .kw (KJ (2 ^ n))) ce_rmade rfl rfl rfl rfl rfl (KJ.st _) rfl (fun a W hf => by have h2 := hf.vl (s := 26) rfl; have own : OwF W _ _ (.int .i64) (.slice (some ⟨g1, 0, none⟩) (n / 16 + 1) (n / 16 + 1)) zs := hf.ho 28 _ rfl; obtain ⟨A4, c4, e4, hc4, rd4⟩ := Own.rd own; show Calls Try.prog _ #[.bool false, a.tmps.getD 26 undef] W _; rw [h2, e4, ← hP.fin.2]; exact rmade_c (n := false) rfl rd4 hc4 hP.fin.1) ?_
    refine PW.store (x := .tmp 27) (r := .kw (KJ (2 ^ n))) rfl rfl rfl rfl rfl rfl sh_J ?_
    refine PW.nil ?_
    refine SX.then ?_
    refine SC.ret ?_
    exact SX.doneC (s := 2) (.inl rfl) rfl rfl rfl

set_option maxHeartbeats 3200000 in
set_option maxRecDepth 100000 in
theorem rchosen_tt {p : Int} {w : World} (hp0 : 0 ≤ p) (hp1 : p ≤ 15) :
    Calls Try.prog 74 #[.int .i64 (p), .bool true, .bool true] w (Ret w (KV (.bool (ch p true true)))) := by
  refine calls_sc (l := [.vl (.int .i64 (p)), .vl (.bool true), .vl (.bool true)]) (us := [.int .i64 (p), .bool true, .bool true]) 23 Try.func74 rfl Try.ntmps74 (by simp) ⟨rfl, rfl, rfl, rfl, rfl, rfl, trivial⟩ ?_
  refine SC.seq ?_
  refine SC.region ?_
  refine PW.assign rfl rfl rfl rfl rfl ?_
  refine PW.nil ?_
  refine SX.then ?_
  refine SC.seq ?_
  refine SC.region ?_
  refine PW.assign rfl rfl rfl rfl rfl ?_
  refine PW.nil ?_
  refine SX.then ?_
  refine SC.seq ?_
  refine SC.seq ?_
  refine SC.region ?_
  refine PW.move rfl rfl rfl rfl rfl ?_
  refine PW.nil ?_
  refine SX.then ?_
  refine SC.cond (t := true) rfl ?_
  refine SC.region ?_
  refine PW.assign rfl rfl rfl rfl rfl ?_
  refine PW.nil ?_
  refine SX.then ?_
  refine SC.seq ?_
  refine SC.seq ?_
  refine SC.region ?_
  refine PW.move rfl rfl rfl rfl rfl ?_
  refine PW.nil ?_
  refine SX.then ?_
  refine SC.cond (t := true) rfl ?_
  refine SC.region ?_
  refine PW.move rfl rfl rfl rfl rfl ?_
  refine PW.q2 (x := .tmp 11) (y := .const (.int .i64 1)) (.int .i64 3) rfl rfl rfl rfl rfl (fun ρ W h1 h2 => by go_simp; rfl) ?_
  refine PW.assign rfl rfl rfl rfl rfl ?_
  refine PW.nil ?_
  refine SX.then ?_
  refine SC.seq ?_
  refine SC.seq ?_
  refine SC.region ?_
  refine PW.assign rfl rfl rfl rfl rfl ?_
  refine PW.nil ?_
  refine SX.then ?_
  refine SC.block ?_
  refine SC.loop (S := Nat × Int) (fun ⟨k, t⟩ => [(0, .vl (.int .i64 (t))), (7, .vl (.int .i64 3)), (8, .vl (.int .i64 (k : Int)))]) (fun ⟨k, t⟩ => k ≤ 3 ∧ 0 ≤ t ∧ t ≤ p ∧ t = p / 2 ^ k) (fun ⟨k, t⟩ => 3 - k) (0, p) ⟨by omega, by omega, by omega, by simp⟩ ⟨rfl, rfl, rfl, trivial⟩ ?_
  rintro ⟨k, t⟩ ⟨hk0, h0, h4, h3⟩
  show SC _ _ _ _ [(0, .vl (.int .i64 (t))), (7, .vl (.int .i64 3)), (8, .vl (.int .i64 (k : Int)))] _
  refine SC.seq ?_
  refine SC.seq ?_
  by_cases hk : (k : Int) < 3
  · refine SC.region ?_
    refine PW.move rfl rfl rfl rfl rfl ?_
    refine PW.move rfl rfl rfl rfl rfl ?_
    refine PW.q2 (x := .tmp 13) (y := .tmp 14) (.bool true) rfl rfl rfl rfl rfl (fun ρ W h1 h2 => by exact r_lt h1 h2 (decide_eq_true hk)) ?_
    refine PW.nil ?_
    refine SX.then ?_
    refine SC.cond (t := true) rfl ?_
    refine SC.skip ?_
    refine SX.then ?_
    refine SC.seq ?_
    refine SC.block ?_
    refine SC.region ?_
    refine PW.move rfl rfl rfl rfl rfl ?_
    refine PW.q2 (x := .tmp 18) (y := .const (.int .i64 2)) (.int .i64 (t / 2)) rfl rfl rfl rfl rfl (fun ρ W h1 h2 => by exact r_quo h1 h2 (rfl) (by omega) (by decide)) ?_
    refine PW.assign rfl rfl rfl rfl rfl ?_
    refine PW.nil ?_
    refine SX.blockN ?_
    refine SX.then ?_
    refine SC.region ?_
    refine PW.move rfl rfl rfl rfl rfl ?_
    refine PW.q2 (x := .tmp 16) (y := .const (.int .i64 1)) (.int .i64 ((k + 1 : Nat))) rfl rfl rfl rfl rfl (fun ρ W h1 h2 => by exact r_add h1 h2 (by omega) (by omega)) ?_
    refine PW.assign rfl rfl rfl rfl rfl ?_
    refine PW.nil ?_
    refine SX.back (k + 1, t / 2) ?_ ?_ ?_
    · exact ⟨by omega, by omega, by omega, by rw [h3, half_pow]⟩
    · exact (show 3 - (k + 1) < 3 - k by omega)
    · exact ⟨rfl, rfl, rfl, trivial⟩
  · refine SC.region ?_
    refine PW.move rfl rfl rfl rfl rfl ?_
    refine PW.move rfl rfl rfl rfl rfl ?_
    refine PW.q2 (x := .tmp 13) (y := .tmp 14) (.bool false) rfl rfl rfl rfl rfl (fun ρ W h1 h2 => by exact r_lt h1 h2 (decide_eq_false hk)) ?_
    refine PW.nil ?_
    refine SX.then ?_
    refine SC.cond (t := false) rfl ?_
    refine SC.exit ?_
    refine SX.thenE ?_
    refine SX.thenE ?_
    refine SX.blockE ?_
    refine SX.then ?_
    refine SC.seq ?_
    refine SC.region ?_
    refine PW.move rfl rfl rfl rfl rfl ?_
    refine PW.q2 (x := .tmp 20) (y := .const (.int .i64 2)) (.int .i64 (t % 2)) rfl rfl rfl rfl rfl (fun ρ W h1 h2 => by exact r_rem h1 h2 (rfl) (by omega) (by decide)) ?_
    refine PW.q2 (x := .tmp 21) (y := .const (.int .i64 1)) (.bool (ch p true true)) rfl rfl rfl rfl rfl (fun ρ W h1 h2 => by exact r_eqD h1 h2 (by obtain rfl : k = 3 := (by omega); rw [h3]; rfl)) ?_
    refine PW.assign rfl rfl rfl rfl rfl ?_
    refine PW.nil ?_
    refine SX.then ?_
    refine SC.ret ?_
    exact SX.done (s := 6) (r := .vl (.bool (ch p true true))) rfl rfl rfl

set_option maxHeartbeats 3200000 in
set_option maxRecDepth 100000 in
theorem rchosen_tf {p : Int} {w : World} (hp0 : 0 ≤ p) (hp1 : p ≤ 15) :
    Calls Try.prog 74 #[.int .i64 (p), .bool true, .bool false] w (Ret w (KV (.bool (ch p true false)))) := by
  refine calls_sc (l := [.vl (.int .i64 (p)), .vl (.bool true), .vl (.bool false)]) (us := [.int .i64 (p), .bool true, .bool false]) 23 Try.func74 rfl Try.ntmps74 (by simp) ⟨rfl, rfl, rfl, rfl, rfl, rfl, trivial⟩ ?_
  refine SC.seq ?_
  refine SC.region ?_
  refine PW.assign rfl rfl rfl rfl rfl ?_
  refine PW.nil ?_
  refine SX.then ?_
  refine SC.seq ?_
  refine SC.region ?_
  refine PW.assign rfl rfl rfl rfl rfl ?_
  refine PW.nil ?_
  refine SX.then ?_
  refine SC.seq ?_
  refine SC.seq ?_
  refine SC.region ?_
  refine PW.move rfl rfl rfl rfl rfl ?_
  refine PW.nil ?_
  refine SX.then ?_
  refine SC.cond (t := true) rfl ?_
  refine SC.region ?_
  refine PW.assign rfl rfl rfl rfl rfl ?_
  refine PW.nil ?_
  refine SX.then ?_
  refine SC.seq ?_
  refine SC.seq ?_
  refine SC.region ?_
  refine PW.move rfl rfl rfl rfl rfl ?_
  refine PW.nil ?_
  refine SX.then ?_
  refine SC.cond (t := false) rfl ?_
  refine SC.skip ?_
  refine SX.then ?_
  refine SC.seq ?_
  refine SC.seq ?_
  refine SC.region ?_
  refine PW.assign rfl rfl rfl rfl rfl ?_
  refine PW.nil ?_
  refine SX.then ?_
  refine SC.block ?_
  refine SC.loop (S := Nat × Int) (fun ⟨k, t⟩ => [(0, .vl (.int .i64 (t))), (7, .vl (.int .i64 2)), (8, .vl (.int .i64 (k : Int)))]) (fun ⟨k, t⟩ => k ≤ 2 ∧ 0 ≤ t ∧ t ≤ p ∧ t = p / 2 ^ k) (fun ⟨k, t⟩ => 2 - k) (0, p) ⟨by omega, by omega, by omega, by simp⟩ ⟨rfl, rfl, rfl, trivial⟩ ?_
  rintro ⟨k, t⟩ ⟨hk0, h0, h4, h3⟩
  show SC _ _ _ _ [(0, .vl (.int .i64 (t))), (7, .vl (.int .i64 2)), (8, .vl (.int .i64 (k : Int)))] _
  refine SC.seq ?_
  refine SC.seq ?_
  by_cases hk : (k : Int) < 2
  · refine SC.region ?_
    refine PW.move rfl rfl rfl rfl rfl ?_
    refine PW.move rfl rfl rfl rfl rfl ?_
    refine PW.q2 (x := .tmp 13) (y := .tmp 14) (.bool true) rfl rfl rfl rfl rfl (fun ρ W h1 h2 => by exact r_lt h1 h2 (decide_eq_true hk)) ?_
    refine PW.nil ?_
    refine SX.then ?_
    refine SC.cond (t := true) rfl ?_
    refine SC.skip ?_
    refine SX.then ?_
    refine SC.seq ?_
    refine SC.block ?_
    refine SC.region ?_
    refine PW.move rfl rfl rfl rfl rfl ?_
    refine PW.q2 (x := .tmp 18) (y := .const (.int .i64 2)) (.int .i64 (t / 2)) rfl rfl rfl rfl rfl (fun ρ W h1 h2 => by exact r_quo h1 h2 (rfl) (by omega) (by decide)) ?_
    refine PW.assign rfl rfl rfl rfl rfl ?_
    refine PW.nil ?_
    refine SX.blockN ?_
    refine SX.then ?_
    refine SC.region ?_
    refine PW.move rfl rfl rfl rfl rfl ?_
    refine PW.q2 (x := .tmp 16) (y := .const (.int .i64 1)) (.int .i64 ((k + 1 : Nat))) rfl rfl rfl rfl rfl (fun ρ W h1 h2 => by exact r_add h1 h2 (by omega) (by omega)) ?_
    refine PW.assign rfl rfl rfl rfl rfl ?_
    refine PW.nil ?_
    refine SX.back (k + 1, t / 2) ?_ ?_ ?_
    · exact ⟨by omega, by omega, by omega, by rw [h3, half_pow]⟩
    · exact (show 2 - (k + 1) < 2 - k by omega)
    · exact ⟨rfl, rfl, rfl, trivial⟩
  · refine SC.region ?_
    refine PW.move rfl rfl rfl rfl rfl ?_
    refine PW.move rfl rfl rfl rfl rfl ?_
    refine PW.q2 (x := .tmp 13) (y := .tmp 14) (.bool false) rfl rfl rfl rfl rfl (fun ρ W h1 h2 => by exact r_lt h1 h2 (decide_eq_false hk)) ?_
    refine PW.nil ?_
    refine SX.then ?_
    refine SC.cond (t := false) rfl ?_
    refine SC.exit ?_
    refine SX.thenE ?_
    refine SX.thenE ?_
    refine SX.blockE ?_
    refine SX.then ?_
    refine SC.seq ?_
    refine SC.region ?_
    refine PW.move rfl rfl rfl rfl rfl ?_
    refine PW.q2 (x := .tmp 20) (y := .const (.int .i64 2)) (.int .i64 (t % 2)) rfl rfl rfl rfl rfl (fun ρ W h1 h2 => by exact r_rem h1 h2 (rfl) (by omega) (by decide)) ?_
    refine PW.q2 (x := .tmp 21) (y := .const (.int .i64 1)) (.bool (ch p true false)) rfl rfl rfl rfl rfl (fun ρ W h1 h2 => by exact r_eqD h1 h2 (by obtain rfl : k = 2 := (by omega); rw [h3]; rfl)) ?_
    refine PW.assign rfl rfl rfl rfl rfl ?_
    refine PW.nil ?_
    refine SX.then ?_
    refine SC.ret ?_
    exact SX.done (s := 6) (r := .vl (.bool (ch p true false))) rfl rfl rfl

set_option maxHeartbeats 3200000 in
set_option maxRecDepth 100000 in
theorem rchosen_ft {p : Int} {w : World} (hp0 : 0 ≤ p) (hp1 : p ≤ 15) :
    Calls Try.prog 74 #[.int .i64 (p), .bool false, .bool true] w (Ret w (KV (.bool (ch p false true)))) := by
  refine calls_sc (l := [.vl (.int .i64 (p)), .vl (.bool false), .vl (.bool true)]) (us := [.int .i64 (p), .bool false, .bool true]) 23 Try.func74 rfl Try.ntmps74 (by simp) ⟨rfl, rfl, rfl, rfl, rfl, rfl, trivial⟩ ?_
  refine SC.seq ?_
  refine SC.region ?_
  refine PW.assign rfl rfl rfl rfl rfl ?_
  refine PW.nil ?_
  refine SX.then ?_
  refine SC.seq ?_
  refine SC.region ?_
  refine PW.assign rfl rfl rfl rfl rfl ?_
  refine PW.nil ?_
  refine SX.then ?_
  refine SC.seq ?_
  refine SC.seq ?_
  refine SC.region ?_
  refine PW.move rfl rfl rfl rfl rfl ?_
  refine PW.nil ?_
  refine SX.then ?_
  refine SC.cond (t := false) rfl ?_
  refine SC.skip ?_
  refine SX.then ?_
  refine SC.seq ?_
  refine SC.seq ?_
  refine SC.region ?_
  refine PW.move rfl rfl rfl rfl rfl ?_
  refine PW.nil ?_
  refine SX.then ?_
  refine SC.cond (t := true) rfl ?_
  refine SC.region ?_
  refine PW.move rfl rfl rfl rfl rfl ?_
  refine PW.q2 (x := .tmp 11) (y := .const (.int .i64 1)) (.int .i64 1) rfl rfl rfl rfl rfl (fun ρ W h1 h2 => by go_simp; rfl) ?_
  refine PW.assign rfl rfl rfl rfl rfl ?_
  refine PW.nil ?_
  refine SX.then ?_
  refine SC.seq ?_
  refine SC.seq ?_
  refine SC.region ?_
  refine PW.assign rfl rfl rfl rfl rfl ?_
  refine PW.nil ?_
  refine SX.then ?_
  refine SC.block ?_
  refine SC.loop (S := Nat × Int) (fun ⟨k, t⟩ => [(0, .vl (.int .i64 (t))), (7, .vl (.int .i64 1)), (8, .vl (.int .i64 (k : Int)))]) (fun ⟨k, t⟩ => k ≤ 1 ∧ 0 ≤ t ∧ t ≤ p ∧ t = p / 2 ^ k) (fun ⟨k, t⟩ => 1 - k) (0, p) ⟨by omega, by omega, by omega, by simp⟩ ⟨rfl, rfl, rfl, trivial⟩ ?_
  rintro ⟨k, t⟩ ⟨hk0, h0, h4, h3⟩
  show SC _ _ _ _ [(0, .vl (.int .i64 (t))), (7, .vl (.int .i64 1)), (8, .vl (.int .i64 (k : Int)))] _
  refine SC.seq ?_
  refine SC.seq ?_
  by_cases hk : (k : Int) < 1
  · refine SC.region ?_
    refine PW.move rfl rfl rfl rfl rfl ?_
    refine PW.move rfl rfl rfl rfl rfl ?_
    refine PW.q2 (x := .tmp 13) (y := .tmp 14) (.bool true) rfl rfl rfl rfl rfl (fun ρ W h1 h2 => by exact r_lt h1 h2 (decide_eq_true hk)) ?_
    refine PW.nil ?_
    refine SX.then ?_
    refine SC.cond (t := true) rfl ?_
    refine SC.skip ?_
    refine SX.then ?_
    refine SC.seq ?_
    refine SC.block ?_
    refine SC.region ?_
    refine PW.move rfl rfl rfl rfl rfl ?_
    refine PW.q2 (x := .tmp 18) (y := .const (.int .i64 2)) (.int .i64 (t / 2)) rfl rfl rfl rfl rfl (fun ρ W h1 h2 => by exact r_quo h1 h2 (rfl) (by omega) (by decide)) ?_
    refine PW.assign rfl rfl rfl rfl rfl ?_
    refine PW.nil ?_
    refine SX.blockN ?_
    refine SX.then ?_
    refine SC.region ?_
    refine PW.move rfl rfl rfl rfl rfl ?_
    refine PW.q2 (x := .tmp 16) (y := .const (.int .i64 1)) (.int .i64 ((k + 1 : Nat))) rfl rfl rfl rfl rfl (fun ρ W h1 h2 => by exact r_add h1 h2 (by omega) (by omega)) ?_
    refine PW.assign rfl rfl rfl rfl rfl ?_
    refine PW.nil ?_
    refine SX.back (k + 1, t / 2) ?_ ?_ ?_
    · exact ⟨by omega, by omega, by omega, by rw [h3, half_pow]⟩
    · exact (show 1 - (k + 1) < 1 - k by omega)
    · exact ⟨rfl, rfl, rfl, trivial⟩
  · refine SC.region ?_
    refine PW.move rfl rfl rfl rfl rfl ?_
    refine PW.move rfl rfl rfl rfl rfl ?_
    refine PW.q2 (x := .tmp 13) (y := .tmp 14) (.bool false) rfl rfl rfl rfl rfl (fun ρ W h1 h2 => by exact r_lt h1 h2 (decide_eq_false hk)) ?_
    refine PW.nil ?_
    refine SX.then ?_
    refine SC.cond (t := false) rfl ?_
    refine SC.exit ?_
    refine SX.thenE ?_
    refine SX.thenE ?_
    refine SX.blockE ?_
    refine SX.then ?_
    refine SC.seq ?_
    refine SC.region ?_
    refine PW.move rfl rfl rfl rfl rfl ?_
    refine PW.q2 (x := .tmp 20) (y := .const (.int .i64 2)) (.int .i64 (t % 2)) rfl rfl rfl rfl rfl (fun ρ W h1 h2 => by exact r_rem h1 h2 (rfl) (by omega) (by decide)) ?_
    refine PW.q2 (x := .tmp 21) (y := .const (.int .i64 1)) (.bool (ch p false true)) rfl rfl rfl rfl rfl (fun ρ W h1 h2 => by exact r_eqD h1 h2 (by obtain rfl : k = 1 := (by omega); rw [h3]; rfl)) ?_
    refine PW.assign rfl rfl rfl rfl rfl ?_
    refine PW.nil ?_
    refine SX.then ?_
    refine SC.ret ?_
    exact SX.done (s := 6) (r := .vl (.bool (ch p false true))) rfl rfl rfl

set_option maxHeartbeats 3200000 in
set_option maxRecDepth 100000 in
theorem rchosen_ff {p : Int} {w : World} (hp0 : 0 ≤ p) (hp1 : p ≤ 15) :
    Calls Try.prog 74 #[.int .i64 (p), .bool false, .bool false] w (Ret w (KV (.bool (ch p false false)))) := by
  refine calls_sc (l := [.vl (.int .i64 (p)), .vl (.bool false), .vl (.bool false)]) (us := [.int .i64 (p), .bool false, .bool false]) 23 Try.func74 rfl Try.ntmps74 (by simp) ⟨rfl, rfl, rfl, rfl, rfl, rfl, trivial⟩ ?_
  refine SC.seq ?_
  refine SC.region ?_
  refine PW.assign rfl rfl rfl rfl rfl ?_
  refine PW.nil ?_
  refine SX.then ?_
  refine SC.seq ?_
  refine SC.region ?_
  refine PW.assign rfl rfl rfl rfl rfl ?_
  refine PW.nil ?_
  refine SX.then ?_
  refine SC.seq ?_
  refine SC.seq ?_
  refine SC.region ?_
  refine PW.move rfl rfl rfl rfl rfl ?_
  refine PW.nil ?_
  refine SX.then ?_
  refine SC.cond (t := false) rfl ?_
  refine SC.skip ?_
  refine SX.then ?_
  refine SC.seq ?_
  refine SC.seq ?_
  refine SC.region ?_
  refine PW.move rfl rfl rfl rfl rfl ?_
  refine PW.nil ?_
  refine SX.then ?_
  refine SC.cond (t := false) rfl ?_
  refine SC.skip ?_
  refine SX.then ?_
  refine SC.seq ?_
  refine SC.seq ?_
  refine SC.region ?_
  refine PW.assign rfl rfl rfl rfl rfl ?_
  refine PW.nil ?_
  refine SX.then ?_
  refine SC.block ?_
  refine SC.loop (S := Nat × Int) (fun ⟨k, t⟩ => [(0, .vl (.int .i64 (t))), (7, .vl (.int .i64 0)), (8, .vl (.int .i64 (k : Int)))]) (fun ⟨k, t⟩ => k ≤ 0 ∧ 0 ≤ t ∧ t ≤ p ∧ t = p / 2 ^ k) (fun ⟨k, t⟩ => 0 - k) (0, p) ⟨by omega, by omega, by omega, by simp⟩ ⟨rfl, rfl, rfl, trivial⟩ ?_
  rintro ⟨k, t⟩ ⟨hk0, h0, h4, h3⟩
  show SC _ _ _ _ [(0, .vl (.int .i64 (t))), (7, .vl (.int .i64 0)), (8, .vl (.int .i64 (k : Int)))] _
  refine SC.seq ?_
  refine SC.seq ?_
  by_cases hk : (k : Int) < 0
  · refine SC.region ?_
    refine PW.move rfl rfl rfl rfl rfl ?_
    refine PW.move rfl rfl rfl rfl rfl ?_
    refine PW.q2 (x := .tmp 13) (y := .tmp 14) (.bool true) rfl rfl rfl rfl rfl (fun ρ W h1 h2 => by exact r_lt h1 h2 (decide_eq_true hk)) ?_
    refine PW.nil ?_
    refine SX.then ?_
    refine SC.cond (t := true) rfl ?_
    refine SC.skip ?_
    refine SX.then ?_
    refine SC.seq ?_
    refine SC.block ?_
    refine SC.region ?_
    refine PW.move rfl rfl rfl rfl rfl ?_
    refine PW.q2 (x := .tmp 18) (y := .const (.int .i64 2)) (.int .i64 (t / 2)) rfl rfl rfl rfl rfl (fun ρ W h1 h2 => by exact r_quo h1 h2 (rfl) (by omega) (by decide)) ?_
    refine PW.assign rfl rfl rfl rfl rfl ?_
    refine PW.nil ?_
    refine SX.blockN ?_
    refine SX.then ?_
    refine SC.region ?_
    refine PW.move rfl rfl rfl rfl rfl ?_
    refine PW.q2 (x := .tmp 16) (y := .const (.int .i64 1)) (.int .i64 ((k + 1 : Nat))) rfl rfl rfl rfl rfl (fun ρ W h1 h2 => by exact r_add h1 h2 (by omega) (by omega)) ?_
    refine PW.assign rfl rfl rfl rfl rfl ?_
    refine PW.nil ?_
    refine SX.back (k + 1, t / 2) ?_ ?_ ?_
    · exact ⟨by omega, by omega, by omega, by rw [h3, half_pow]⟩
    · exact (show 0 - (k + 1) < 0 - k by omega)
    · exact ⟨rfl, rfl, rfl, trivial⟩
  · refine SC.region ?_
    refine PW.move rfl rfl rfl rfl rfl ?_
    refine PW.move rfl rfl rfl rfl rfl ?_
    refine PW.q2 (x := .tmp 13) (y := .tmp 14) (.bool false) rfl rfl rfl rfl rfl (fun ρ W h1 h2 => by exact r_lt h1 h2 (decide_eq_false hk)) ?_
    refine PW.nil ?_
    refine SX.then ?_
    refine SC.cond (t := false) rfl ?_
    refine SC.exit ?_
    refine SX.thenE ?_
    refine SX.thenE ?_
    refine SX.blockE ?_
    refine SX.then ?_
    refine SC.seq ?_
    refine SC.region ?_
    refine PW.move rfl rfl rfl rfl rfl ?_
    refine PW.q2 (x := .tmp 20) (y := .const (.int .i64 2)) (.int .i64 (t % 2)) rfl rfl rfl rfl rfl (fun ρ W h1 h2 => by exact r_rem h1 h2 (rfl) (by omega) (by decide)) ?_
    refine PW.q2 (x := .tmp 21) (y := .const (.int .i64 1)) (.bool (ch p false false)) rfl rfl rfl rfl rfl (fun ρ W h1 h2 => by exact r_eqD h1 h2 (by obtain rfl : k = 0 := (by omega); rw [h3]; rfl)) ?_
    refine PW.assign rfl rfl rfl rfl rfl ?_
    refine PW.nil ?_
    refine SX.then ?_
    refine SC.ret ?_
    exact SX.done (s := 6) (r := .vl (.bool (ch p false false))) rfl rfl rfl

theorem ce_width : CE 95 := fun args W => by go_simp
theorem ce_set : CE 80 := fun args W => by go_simp
theorem ce_two : CE 104 := fun args W => by go_simp
theorem ce_chosen : CE 74 := fun args W => by go_simp
theorem ce_jnew : CE 42 := fun args W => by go_simp
theorem RJ.len {W : World} {n : Bool} {A : Option Addr} {l c k : Nat} {z : Int} (h : RJ W n A l c z) (X : bd k z) (hk : k ≤ 1000000) : l ≤ 2000000 := by
  refine Nat.le_trans (h.len_le (2 * k) ?_ ?_) (by omega)
  · have := X.1; unfold b16; rw [← pow65]; exact this
  · have := X.2; unfold b16; rw [← pow65]; exact this
theorem k_width {x : Int} {a : Nat} (X : bd a x) (ha : a ≤ 1000000) : CallOk 95 [KJ x] (KV (.int .i64 (wid ((x).natAbs) : Int))) :=
  call1 ce_width fun W u ⟨m, A, l, c, e, h⟩ => by
    subst e
    have hl := RJ.len h X ha
    obtain ⟨xs, rfl, hc, rd, d, e, t, _⟩ := RJ.num h
    rw [← e]
    exact rwidth_c rd d (by omega) t
theorem k_set {x : Int} {a i : Nat} (X : bd a x) (ha : a ≤ 1000000) (hi : i ≤ 9223372036854775807) : CallOk 80 [KJ x, KV (.int .i64 (i : Int))] (KV (.bool (tb (x.natAbs : Int) i))) :=
  call2 ce_set fun W u v ⟨m, A, l, c, e, h⟩ e2 => by
    subst e
    obtain rfl : v = _ := e2
    have hl := RJ.len h X ha
    obtain ⟨xs, rfl, hc, rd, d, e, t, _⟩ := RJ.num h
    rw [← e]
    exact rset_c rd d (by omega) hi
theorem k_two {n : Nat} (hn : n ≤ 4000000) : CallOk 104 [KV (.int .i64 (n : Int))] (KJ (2 ^ n)) := call1 ce_two fun W u e => by obtain rfl : u = _ := e; exact rtwo_c hn
theorem k_chosen {p : Int} {a b : Bool} (h0 : 0 ≤ p) (h1 : p ≤ 15) : CallOk 74 [KV (.int .i64 p), KV (.bool a), KV (.bool b)] (KV (.bool (ch p a b))) :=
  call3 ce_chosen fun W u v x e1 e2 e3 => by
    obtain rfl : u = _ := e1
    obtain rfl : v = _ := e2
    obtain rfl : x = _ := e3
    cases a <;> cases b
    · exact rchosen_ff h0 h1
    · exact rchosen_ft h0 h1
    · exact rchosen_tf h0 h1
    · exact rchosen_tt h0 h1
theorem k_jnew {x : Int} (h : -9223372036854775808 ≤ x ∧ x < 9223372036854775808) : CallOk 42 [KV (.int .i64 x)] (KJ x) := call1 ce_jnew fun W u e => by obtain rfl : u = _ := e; exact rnew_c h
end Go.Proofs.Ytcgkgcciogibkaa.Sy
/- The contract of the program's Power, by rules. -/
set_option linter.unusedVariables false
set_option linter.unusedSimpArgs false
namespace Go.Proofs.Ytcgkgcciogibkaa.Sy
open Go Go.RowKit Ma
theorem ce_power : CE 62 := fun args W => by go_simp
theorem and1_run {k : Nat} {x y : Operand} {dst : Option Tmp} {ty : TypeId} {pos : String} {after : Array Edge} {guard : Option (Nat × Bool)} {ρ : Operand → Value} {W : World} (h1 : ρ x = .int .i64 (k : Int)) (h2 : ρ y = .int .i64 1) (hk : k < 9223372036854775808) :
    (execOp ρ ⟨dst, .binOp .and 3 x y 3, ty, pos, after, guard⟩).run Try.prog W = .ok (.value (.int .i64 ((k % 2 : Nat) : Int))) W := by
  rw [← Go.Proofs.and_one k hk]
  go_simp
theorem quo_run {s m : Nat} {x y : Operand} {dst : Option Tmp} {ty : TypeId} {pos : String} {after : Array Edge} {guard : Option (Nat × Bool)} {ρ : Operand → Value} {W : World} (h1 : ρ x = .int .i64 65536) (h2 : ρ y = .int .i64 (s : Int)) (hs : 1 ≤ s) (hm : 65536 / s = m) :
    (execOp ρ ⟨dst, .binOp .quo 3 x y 3, ty, pos, after, guard⟩).run Try.prog W = .ok (.value (.int .i64 (m : Int))) W := by
  have h3 : ¬ (s : Int) = 0 := by omega
  have e : (m : Int) = 65536 / (s : Int) := by rw [← hm]; exact Int.natCast_ediv _ _
  have b1 : (0 : Int) ≤ 65536 / (s : Int) := Int.ediv_nonneg (by decide) (by omega)
  have b2 : (65536 : Int) / (s : Int) ≤ 65536 := Int.ediv_le_self _ (by decide)
  rw [e]
  clear e hm
  go_simp
  rw [if_neg (by omega), show Int.tdiv 65536 (s : Int) = 65536 / (s : Int) from Int.tdiv_eq_ediv_of_nonneg (by decide), IntWalk.i64_in _ ⟨by omega, by omega⟩]
set_option maxHeartbeats 1600000 in
theorem power_neg {x n : Int} (hn : n < 0) : CallOk 62 [KI x, KV (.int .i64 n)] (K2 (KI 0) (KV (.int .i64 1))) := by
  refine CallOk.enter (l := [.kw (KI x), .vl (.int .i64 n)]) 72 ce_power Try.func62 rfl Try.ntmps62 (by simp) ⟨KI.st _, rfl, KV.st _, rfl, trivial⟩ fun w => ?_
  refine SC.seq ?_
  refine SC.region ?_
  refine PW.box (x := .tmp 0) (r := .kw (KI (x))) (BI 28) rfl rfl rfl rfl rfl bI rfl sh_I ?_
  refine PW.alloc (BI 28) rfl rfl rfl rfl rfl bI ?_
  refine PW.assign rfl rfl rfl rfl rfl ?_
  refine PW.nil ?_
  refine SX.then ?_
  refine SC.seq ?_
  refine SC.seq ?_
  refine SC.region ?_
  refine PW.move rfl rfl rfl rfl rfl ?_
  refine PW.q2 (x := .tmp 11) (y := .const (.int .i64 0)) (.bool true) rfl rfl rfl rfl rfl (fun ρ W h1 h2 => by first | (go_simp; done) | (go_simp; rw [Int.tmod_eq_emod_of_nonneg (by omega)]; exact IntWalk.i64_in _ (by omega)) | (go_simp; omega)) ?_
  refine PW.nil ?_
  refine SX.then ?_
  refine SC.cond (t := true) rfl ?_
  refine SC.seq ?_
  refine SC.region ?_
  refine PW.val (r := .kw (KI (0))) rfl rfl rfl rfl (fun a W hf => ⟨.agg #[.bool false, .slice none 0 0], by go_simp, zeroI _ W W⟩) ?_
  refine PW.store (x := .tmp 13) (r := .kw (KI (0))) rfl rfl rfl rfl rfl rfl sh_I ?_
  refine PW.assign rfl rfl rfl rfl rfl ?_
  refine PW.nil ?_
  refine SX.then ?_
  refine SC.ret ?_
  refine SX.thenR ?_
  exact SX.done2 (s := 4) (t := 5) (r := .vl (.int .i64 1)) (.inl rfl) rfl rfl rfl rfl

set_option maxHeartbeats 1600000 in
theorem power_zero {x : Int} : CallOk 62 [KI x, KV (.int .i64 0)] (K2 (KI 1) (KV (.int .i64 0))) := by
  refine CallOk.enter (l := [.kw (KI x), .vl (.int .i64 0)]) 72 ce_power Try.func62 rfl Try.ntmps62 (by simp) ⟨KI.st _, rfl, KV.st _, rfl, trivial⟩ fun w => ?_
  refine SC.seq ?_
  refine SC.region ?_
  refine PW.box (x := .tmp 0) (r := .kw (KI (x))) (BI 28) rfl rfl rfl rfl rfl bI rfl sh_I ?_
  refine PW.alloc (BI 28) rfl rfl rfl rfl rfl bI ?_
  refine PW.assign rfl rfl rfl rfl rfl ?_
  refine PW.nil ?_
  refine SX.then ?_
  refine SC.seq ?_
  refine SC.seq ?_
  refine SC.region ?_
  refine PW.move rfl rfl rfl rfl rfl ?_
  refine PW.q2 (x := .tmp 11) (y := .const (.int .i64 0)) (.bool false) rfl rfl rfl rfl rfl (fun ρ W h1 h2 => by first | (go_simp; done) | (go_simp; rw [Int.tmod_eq_emod_of_nonneg (by omega)]; exact IntWalk.i64_in _ (by omega)) | (go_simp; omega)) ?_
  refine PW.nil ?_
  refine SX.then ?_
  refine SC.cond (t := false) rfl ?_
  refine SC.skip ?_
  refine SX.then ?_
  refine SC.seq ?_
  refine SC.region ?_
  refine PW.call (r := .kw (KI (1))) rfl rfl rfl rfl rfl rfl (KI.st _) rfl (k_new (by decide)) ?_
  refine PW.alloc (BI 28) rfl rfl rfl rfl rfl bI ?_
  refine PW.store (x := .tmp 14) (r := .kw (KI (1))) rfl rfl rfl rfl rfl rfl sh_I ?_
  refine PW.nil ?_
  refine SX.then ?_
  refine SC.seq ?_
  refine SC.seq ?_
  refine SC.dx [.val 15 (.vl (.int .i64 0)), .val 16 (.vl (.bool true)), .val 17 (.vl (.bool true)), .val 18 (.vl (undef)), .val 19 (.vl (undef)), .val 20 (.vl (undef)), .val 21 (.vl (undef)), .val 22 (.vl (undef)), .val 23 (.vl (.bool true))] [([], [1]), ([0], []), ([1], []), ([2], []), ([2], []), ([2], []), ([2], []), ([2], []), ([2], [])] rfl (by kernel_rfl) (by kernel_rfl) (by kernel_rfl) rfl ⟨?_, ?_, ?_, ?_, ?_, ?_, ?_, ?_, ?_, trivial⟩ ?_
  · exact DX.move rfl rfl rfl rfl rfl rfl
  · exact DX.q2 (x := .tmp 15) (y := .const (.int .i64 0)) (.bool true) rfl rfl rfl rfl rfl (fun ρ W h1 h2 => by first | (go_simp; done) | (go_simp; rw [Int.tmod_eq_emod_of_nonneg (by omega)]; exact IntWalk.i64_in _ (by omega)) | (go_simp; omega))
  · exact DX.move rfl rfl rfl rfl rfl rfl
  · exact DX.skip rfl rfl rfl
  · exact DX.skip rfl rfl rfl
  · exact DX.skip rfl rfl rfl
  · exact DX.skip rfl rfl rfl
  · exact DX.skip rfl rfl rfl
  · exact DX.pick (t := true) rfl rfl rfl rfl rfl rfl rfl
  refine SX.then ?_
  refine SC.cond (t := true) rfl ?_
  refine SC.seq ?_
  refine SC.block ?_
  refine SC.seq ?_
  refine SC.region ?_
  refine PW.move rfl rfl rfl rfl rfl ?_
  refine PW.q2 (x := .tmp 25) (y := .const (.int .i64 0)) (.bool true) rfl rfl rfl rfl rfl (fun ρ W h1 h2 => by first | (go_simp; done) | (go_simp; rw [Int.tmod_eq_emod_of_nonneg (by omega)]; exact IntWalk.i64_in _ (by omega)) | (go_simp; omega)) ?_
  refine PW.move rfl rfl rfl rfl rfl ?_
  refine PW.skip rfl rfl rfl ?_
  refine PW.skip rfl rfl rfl ?_
  refine PW.skip rfl rfl rfl ?_
  refine PW.skip rfl rfl rfl ?_
  refine PW.skip rfl rfl rfl ?_
  refine PW.skip rfl rfl rfl ?_
  refine PW.skip rfl rfl rfl ?_
  refine PW.pick (t := true) rfl rfl rfl rfl rfl rfl ?_
  refine PW.assign rfl rfl rfl rfl rfl ?_
  refine PW.nil ?_
  refine SX.then ?_
  refine SC.cond (t := true) rfl ?_
  refine SC.seq ?_
  refine SC.region ?_
  refine PW.load rfl rfl rfl rfl rfl rfl ?_
  refine PW.store (x := .tmp 36) (r := .kw (KI (1))) rfl rfl rfl rfl rfl rfl sh_I ?_
  refine PW.assign rfl rfl rfl rfl rfl ?_
  refine PW.nil ?_
  refine SX.then ?_
  refine SC.ret ?_
  refine SX.blockR ?_
  refine SX.thenR ?_
  refine SX.thenR ?_
  exact SX.done2 (s := 4) (t := 5) (r := .vl (.int .i64 0)) (.inl rfl) rfl rfl rfl rfl

set_option maxHeartbeats 1600000 in
theorem power_01 {x n : Int} (hx : 0 ≤ x) (hc : cmp (x.natAbs : Int) 1 ≤ 0) (hn : 1 ≤ n) (hn2 : n ≤ 9223372036854775807) : CallOk 62 [KI x, KV (.int .i64 n)] (K2 (KI x) (KV (.int .i64 0))) := by
  refine CallOk.enter (l := [.kw (KI x), .vl (.int .i64 n)]) 72 ce_power Try.func62 rfl Try.ntmps62 (by simp) ⟨KI.st _, rfl, KV.st _, rfl, trivial⟩ fun w => ?_
  refine SC.seq ?_
  refine SC.region ?_
  refine PW.box (x := .tmp 0) (r := .kw (KI (x))) (BI 28) rfl rfl rfl rfl rfl bI rfl sh_I ?_
  refine PW.alloc (BI 28) rfl rfl rfl rfl rfl bI ?_
  refine PW.assign rfl rfl rfl rfl rfl ?_
  refine PW.nil ?_
  refine SX.then ?_
  refine SC.seq ?_
  refine SC.seq ?_
  refine SC.region ?_
  refine PW.move rfl rfl rfl rfl rfl ?_
  refine PW.q2 (x := .tmp 11) (y := .const (.int .i64 0)) (.bool false) rfl rfl rfl rfl rfl (fun ρ W h1 h2 => by first | (go_simp; done) | (go_simp; rw [Int.tmod_eq_emod_of_nonneg (by omega)]; exact IntWalk.i64_in _ (by omega)) | (go_simp; omega)) ?_
  refine PW.nil ?_
  refine SX.then ?_
  refine SC.cond (t := false) rfl ?_
  refine SC.skip ?_
  refine SX.then ?_
  refine SC.seq ?_
  refine SC.region ?_
  refine PW.call (r := .kw (KI (1))) rfl rfl rfl rfl rfl rfl (KI.st _) rfl (k_new (by decide)) ?_
  refine PW.alloc (BI 28) rfl rfl rfl rfl rfl bI ?_
  refine PW.store (x := .tmp 14) (r := .kw (KI (1))) rfl rfl rfl rfl rfl rfl sh_I ?_
  refine PW.nil ?_
  refine SX.then ?_
  refine SC.seq ?_
  refine SC.seq ?_
  refine SC.dx [.val 15 (.vl (.int .i64 n)), .val 16 (.vl (.bool false)), .val 17 (.vl (.bool false)), .val 18 (.kw (KI (x))), .val 19 (.kw (KI ((x.natAbs : Int)))), .val 20 (.kw (KI (1))), .val 21 (.vl (.int .i64 (cmp (x.natAbs : Int) 1))), .val 22 (.vl (.bool true)), .val 23 (.vl (.bool true))] [([], [1]), ([0], []), ([1], []), ([2], [2]), ([3, 2], []), ([2], [6]), ([4, 5, 2], []), ([6, 2], []), ([2, 7], [])] rfl (by kernel_rfl) (by kernel_rfl) (by kernel_rfl) rfl ⟨?_, ?_, ?_, ?_, ?_, ?_, ?_, ?_, ?_, trivial⟩ ?_
  · exact DX.move rfl rfl rfl rfl rfl rfl
  · exact DX.q2 (x := .tmp 15) (y := .const (.int .i64 0)) (.bool false) rfl rfl rfl rfl rfl (fun ρ W h1 h2 => by first | (go_simp; done) | (go_simp; rw [Int.tmod_eq_emod_of_nonneg (by omega)]; exact IntWalk.i64_in _ (by omega)) | (go_simp; omega))
  · exact DX.move rfl rfl rfl rfl rfl rfl
  · exact DX.load rfl rfl rfl rfl rfl rfl
  · exact DX.call (r := .kw (KI ((x.natAbs : Int)))) rfl rfl rfl rfl rfl rfl (KI.st _) rfl (k_abs)
  · exact DX.load rfl rfl rfl rfl rfl rfl
  · exact DX.call (r := .vl (.int .i64 (cmp (x.natAbs : Int) 1))) rfl rfl rfl rfl rfl rfl (KV.st _) rfl (k_cmp (rfl))
  · exact DX.q2 (x := .tmp 21) (y := .const (.int .i64 0)) (.bool true) rfl rfl rfl rfl rfl (fun ρ W h1 h2 => by first | (go_simp; done) | (go_simp; exact hc))
  · exact DX.pick (t := false) rfl rfl rfl rfl rfl rfl rfl
  refine SX.then ?_
  refine SC.cond (t := true) rfl ?_
  refine SC.seq ?_
  refine SC.block ?_
  refine SC.seq ?_
  refine SC.region ?_
  refine PW.move rfl rfl rfl rfl rfl ?_
  refine PW.q2 (x := .tmp 25) (y := .const (.int .i64 0)) (.bool false) rfl rfl rfl rfl rfl (fun ρ W h1 h2 => by first | (go_simp; done) | (go_simp; rw [Int.tmod_eq_emod_of_nonneg (by omega)]; exact IntWalk.i64_in _ (by omega)) | (go_simp; omega)) ?_
  refine PW.move rfl rfl rfl rfl rfl ?_
  refine PW.fld (r := .vl (.bool false)) rfl rfl rfl rfl rfl rfl rfl rfl rfl rfl rfl (fun v W p hh hk => by obtain ⟨q, u, h1, h2, h3⟩ := fldI0 v W p hh hk; exact ⟨q, u, h1, h2, by rw [h3]; show Value.bool _ = _; rw [decide_eq_false (by omega)]⟩) (KV.st _) ?_
  refine PW.move rfl rfl rfl rfl rfl ?_
  refine PW.skip rfl rfl rfl ?_
  refine PW.skip rfl rfl rfl ?_
  refine PW.skip rfl rfl rfl ?_
  refine PW.pick (t := false) rfl rfl rfl rfl rfl rfl ?_
  refine PW.pick (t := false) rfl rfl rfl rfl rfl rfl ?_
  refine PW.assign rfl rfl rfl rfl rfl ?_
  refine PW.nil ?_
  refine SX.then ?_
  refine SC.cond (t := false) rfl ?_
  refine SC.skip ?_
  refine SX.blockN ?_
  refine SX.then ?_
  refine SC.seq ?_
  refine SC.region ?_
  refine PW.load rfl rfl rfl rfl rfl rfl ?_
  refine PW.store (x := .tmp 37) (r := .kw (KI (x))) rfl rfl rfl rfl rfl rfl sh_I ?_
  refine PW.assign rfl rfl rfl rfl rfl ?_
  refine PW.nil ?_
  refine SX.then ?_
  refine SC.ret ?_
  refine SX.thenR ?_
  exact SX.done2 (s := 4) (t := 5) (r := .vl (.int .i64 0)) (.inl rfl) rfl rfl rfl rfl

set_option maxHeartbeats 1600000 in
theorem power_m1e {x n : Int} (hx : x < 0) (hc : cmp (x.natAbs : Int) 1 ≤ 0) (hn : 1 ≤ n) (hn2 : n ≤ 9223372036854775807) (hp : n % 2 = 0) : CallOk 62 [KI x, KV (.int .i64 n)] (K2 (KI 1) (KV (.int .i64 0))) := by
  refine CallOk.enter (l := [.kw (KI x), .vl (.int .i64 n)]) 72 ce_power Try.func62 rfl Try.ntmps62 (by simp) ⟨KI.st _, rfl, KV.st _, rfl, trivial⟩ fun w => ?_
  refine SC.seq ?_
  refine SC.region ?_
  refine PW.box (x := .tmp 0) (r := .kw (KI (x))) (BI 28) rfl rfl rfl rfl rfl bI rfl sh_I ?_
  refine PW.alloc (BI 28) rfl rfl rfl rfl rfl bI ?_
  refine PW.assign rfl rfl rfl rfl rfl ?_
  refine PW.nil ?_
  refine SX.then ?_
  refine SC.seq ?_
  refine SC.seq ?_
  refine SC.region ?_
  refine PW.move rfl rfl rfl rfl rfl ?_
  refine PW.q2 (x := .tmp 11) (y := .const (.int .i64 0)) (.bool false) rfl rfl rfl rfl rfl (fun ρ W h1 h2 => by first | (go_simp; done) | (go_simp; rw [Int.tmod_eq_emod_of_nonneg (by omega)]; exact IntWalk.i64_in _ (by omega)) | (go_simp; omega)) ?_
  refine PW.nil ?_
  refine SX.then ?_
  refine SC.cond (t := false) rfl ?_
  refine SC.skip ?_
  refine SX.then ?_
  refine SC.seq ?_
  refine SC.region ?_
  refine PW.call (r := .kw (KI (1))) rfl rfl rfl rfl rfl rfl (KI.st _) rfl (k_new (by decide)) ?_
  refine PW.alloc (BI 28) rfl rfl rfl rfl rfl bI ?_
  refine PW.store (x := .tmp 14) (r := .kw (KI (1))) rfl rfl rfl rfl rfl rfl sh_I ?_
  refine PW.nil ?_
  refine SX.then ?_
  refine SC.seq ?_
  refine SC.seq ?_
  refine SC.dx [.val 15 (.vl (.int .i64 n)), .val 16 (.vl (.bool false)), .val 17 (.vl (.bool false)), .val 18 (.kw (KI (x))), .val 19 (.kw (KI ((x.natAbs : Int)))), .val 20 (.kw (KI (1))), .val 21 (.vl (.int .i64 (cmp (x.natAbs : Int) 1))), .val 22 (.vl (.bool true)), .val 23 (.vl (.bool true))] [([], [1]), ([0], []), ([1], []), ([2], [2]), ([3, 2], []), ([2], [6]), ([4, 5, 2], []), ([6, 2], []), ([2, 7], [])] rfl (by kernel_rfl) (by kernel_rfl) (by kernel_rfl) rfl ⟨?_, ?_, ?_, ?_, ?_, ?_, ?_, ?_, ?_, trivial⟩ ?_
  · exact DX.move rfl rfl rfl rfl rfl rfl
  · exact DX.q2 (x := .tmp 15) (y := .const (.int .i64 0)) (.bool false) rfl rfl rfl rfl rfl (fun ρ W h1 h2 => by first | (go_simp; done) | (go_simp; rw [Int.tmod_eq_emod_of_nonneg (by omega)]; exact IntWalk.i64_in _ (by omega)) | (go_simp; omega))
  · exact DX.move rfl rfl rfl rfl rfl rfl
  · exact DX.load rfl rfl rfl rfl rfl rfl
  · exact DX.call (r := .kw (KI ((x.natAbs : Int)))) rfl rfl rfl rfl rfl rfl (KI.st _) rfl (k_abs)
  · exact DX.load rfl rfl rfl rfl rfl rfl
  · exact DX.call (r := .vl (.int .i64 (cmp (x.natAbs : Int) 1))) rfl rfl rfl rfl rfl rfl (KV.st _) rfl (k_cmp (rfl))
  · exact DX.q2 (x := .tmp 21) (y := .const (.int .i64 0)) (.bool true) rfl rfl rfl rfl rfl (fun ρ W h1 h2 => by first | (go_simp; done) | (go_simp; exact hc))
  · exact DX.pick (t := false) rfl rfl rfl rfl rfl rfl rfl
  refine SX.then ?_
  refine SC.cond (t := true) rfl ?_
  refine SC.seq ?_
  refine SC.block ?_
  refine SC.seq ?_
  refine SC.region ?_
  refine PW.move rfl rfl rfl rfl rfl ?_
  refine PW.q2 (x := .tmp 25) (y := .const (.int .i64 0)) (.bool false) rfl rfl rfl rfl rfl (fun ρ W h1 h2 => by first | (go_simp; done) | (go_simp; rw [Int.tmod_eq_emod_of_nonneg (by omega)]; exact IntWalk.i64_in _ (by omega)) | (go_simp; omega)) ?_
  refine PW.move rfl rfl rfl rfl rfl ?_
  refine PW.fld (r := .vl (.bool true)) rfl rfl rfl rfl rfl rfl rfl rfl rfl rfl rfl (fun v W p hh hk => by obtain ⟨q, u, h1, h2, h3⟩ := fldI0 v W p hh hk; exact ⟨q, u, h1, h2, by rw [h3]; show Value.bool _ = _; rw [decide_eq_true (by omega)]⟩) (KV.st _) ?_
  refine PW.move rfl rfl rfl rfl rfl ?_
  refine PW.move rfl rfl rfl rfl rfl ?_
  refine PW.q2 (x := .tmp 31) (y := .const (.int .i64 2)) (.int .i64 0) rfl rfl rfl rfl rfl (fun ρ W h1 h2 => by have ht : n.tmod 2 = n % 2 := Int.tmod_eq_emod_of_nonneg (by omega); rw [hp] at ht; go_simp; first | done | exact IntWalk.i64_in _ (by omega)) ?_
  refine PW.q2 (x := .tmp 32) (y := .const (.int .i64 0)) (.bool true) rfl rfl rfl rfl rfl (fun ρ W h1 h2 => by go_simp) ?_
  refine PW.pick (t := true) rfl rfl rfl rfl rfl rfl ?_
  refine PW.pick (t := false) rfl rfl rfl rfl rfl rfl ?_
  refine PW.assign rfl rfl rfl rfl rfl ?_
  refine PW.nil ?_
  refine SX.then ?_
  refine SC.cond (t := true) rfl ?_
  refine SC.seq ?_
  refine SC.region ?_
  refine PW.load rfl rfl rfl rfl rfl rfl ?_
  refine PW.store (x := .tmp 36) (r := .kw (KI (1))) rfl rfl rfl rfl rfl rfl sh_I ?_
  refine PW.assign rfl rfl rfl rfl rfl ?_
  refine PW.nil ?_
  refine SX.then ?_
  refine SC.ret ?_
  refine SX.blockR ?_
  refine SX.thenR ?_
  refine SX.thenR ?_
  exact SX.done2 (s := 4) (t := 5) (r := .vl (.int .i64 0)) (.inl rfl) rfl rfl rfl rfl

set_option maxHeartbeats 1600000 in
theorem power_m1o {x n : Int} (hx : x < 0) (hc : cmp (x.natAbs : Int) 1 ≤ 0) (hn : 1 ≤ n) (hn2 : n ≤ 9223372036854775807) (hp : n % 2 = 1) : CallOk 62 [KI x, KV (.int .i64 n)] (K2 (KI x) (KV (.int .i64 0))) := by
  refine CallOk.enter (l := [.kw (KI x), .vl (.int .i64 n)]) 72 ce_power Try.func62 rfl Try.ntmps62 (by simp) ⟨KI.st _, rfl, KV.st _, rfl, trivial⟩ fun w => ?_
  refine SC.seq ?_
  refine SC.region ?_
  refine PW.box (x := .tmp 0) (r := .kw (KI (x))) (BI 28) rfl rfl rfl rfl rfl bI rfl sh_I ?_
  refine PW.alloc (BI 28) rfl rfl rfl rfl rfl bI ?_
  refine PW.assign rfl rfl rfl rfl rfl ?_
  refine PW.nil ?_
  refine SX.then ?_
  refine SC.seq ?_
  refine SC.seq ?_
  refine SC.region ?_
  refine PW.move rfl rfl rfl rfl rfl ?_
  refine PW.q2 (x := .tmp 11) (y := .const (.int .i64 0)) (.bool false) rfl rfl rfl rfl rfl (fun ρ W h1 h2 => by first | (go_simp; done) | (go_simp; rw [Int.tmod_eq_emod_of_nonneg (by omega)]; exact IntWalk.i64_in _ (by omega)) | (go_simp; omega)) ?_
  refine PW.nil ?_
  refine SX.then ?_
  refine SC.cond (t := false) rfl ?_
  refine SC.skip ?_
  refine SX.then ?_
  refine SC.seq ?_
  refine SC.region ?_
  refine PW.call (r := .kw (KI (1))) rfl rfl rfl rfl rfl rfl (KI.st _) rfl (k_new (by decide)) ?_
  refine PW.alloc (BI 28) rfl rfl rfl rfl rfl bI ?_
  refine PW.store (x := .tmp 14) (r := .kw (KI (1))) rfl rfl rfl rfl rfl rfl sh_I ?_
  refine PW.nil ?_
  refine SX.then ?_
  refine SC.seq ?_
  refine SC.seq ?_
  refine SC.dx [.val 15 (.vl (.int .i64 n)), .val 16 (.vl (.bool false)), .val 17 (.vl (.bool false)), .val 18 (.kw (KI (x))), .val 19 (.kw (KI ((x.natAbs : Int)))), .val 20 (.kw (KI (1))), .val 21 (.vl (.int .i64 (cmp (x.natAbs : Int) 1))), .val 22 (.vl (.bool true)), .val 23 (.vl (.bool true))] [([], [1]), ([0], []), ([1], []), ([2], [2]), ([3, 2], []), ([2], [6]), ([4, 5, 2], []), ([6, 2], []), ([2, 7], [])] rfl (by kernel_rfl) (by kernel_rfl) (by kernel_rfl) rfl ⟨?_, ?_, ?_, ?_, ?_, ?_, ?_, ?_, ?_, trivial⟩ ?_
  · exact DX.move rfl rfl rfl rfl rfl rfl
  · exact DX.q2 (x := .tmp 15) (y := .const (.int .i64 0)) (.bool false) rfl rfl rfl rfl rfl (fun ρ W h1 h2 => by first | (go_simp; done) | (go_simp; rw [Int.tmod_eq_emod_of_nonneg (by omega)]; exact IntWalk.i64_in _ (by omega)) | (go_simp; omega))
  · exact DX.move rfl rfl rfl rfl rfl rfl
  · exact DX.load rfl rfl rfl rfl rfl rfl
  · exact DX.call (r := .kw (KI ((x.natAbs : Int)))) rfl rfl rfl rfl rfl rfl (KI.st _) rfl (k_abs)
  · exact DX.load rfl rfl rfl rfl rfl rfl
  · exact DX.call (r := .vl (.int .i64 (cmp (x.natAbs : Int) 1))) rfl rfl rfl rfl rfl rfl (KV.st _) rfl (k_cmp (rfl))
  · exact DX.q2 (x := .tmp 21) (y := .const (.int .i64 0)) (.bool true) rfl rfl rfl rfl rfl (fun ρ W h1 h2 => by first | (go_simp; done) | (go_simp; exact hc))
  · exact DX.pick (t := false) rfl rfl rfl rfl rfl rfl rfl
  refine SX.then ?_
  refine SC.cond (t := true) rfl ?_
  refine SC.seq ?_
  refine SC.block ?_
  refine SC.seq ?_
  refine SC.region ?_
  refine PW.move rfl rfl rfl rfl rfl ?_
  refine PW.q2 (x := .tmp 25) (y := .const (.int .i64 0)) (.bool false) rfl rfl rfl rfl rfl (fun ρ W h1 h2 => by first | (go_simp; done) | (go_simp; rw [Int.tmod_eq_emod_of_nonneg (by omega)]; exact IntWalk.i64_in _ (by omega)) | (go_simp; omega)) ?_
  refine PW.move rfl rfl rfl rfl rfl ?_
  refine PW.fld (r := .vl (.bool true)) rfl rfl rfl rfl rfl rfl rfl rfl rfl rfl rfl (fun v W p hh hk => by obtain ⟨q, u, h1, h2, h3⟩ := fldI0 v W p hh hk; exact ⟨q, u, h1, h2, by rw [h3]; show Value.bool _ = _; rw [decide_eq_true (by omega)]⟩) (KV.st _) ?_
  refine PW.move rfl rfl rfl rfl rfl ?_
  refine PW.move rfl rfl rfl rfl rfl ?_
  refine PW.q2 (x := .tmp 31) (y := .const (.int .i64 2)) (.int .i64 1) rfl rfl rfl rfl rfl (fun ρ W h1 h2 => by have ht : n.tmod 2 = n % 2 := Int.tmod_eq_emod_of_nonneg (by omega); rw [hp] at ht; go_simp; first | done | exact IntWalk.i64_in _ (by omega)) ?_
  refine PW.q2 (x := .tmp 32) (y := .const (.int .i64 0)) (.bool false) rfl rfl rfl rfl rfl (fun ρ W h1 h2 => by go_simp) ?_
  refine PW.pick (t := true) rfl rfl rfl rfl rfl rfl ?_
  refine PW.pick (t := false) rfl rfl rfl rfl rfl rfl ?_
  refine PW.assign rfl rfl rfl rfl rfl ?_
  refine PW.nil ?_
  refine SX.then ?_
  refine SC.cond (t := false) rfl ?_
  refine SC.skip ?_
  refine SX.blockN ?_
  refine SX.then ?_
  refine SC.seq ?_
  refine SC.region ?_
  refine PW.load rfl rfl rfl rfl rfl rfl ?_
  refine PW.store (x := .tmp 37) (r := .kw (KI (x))) rfl rfl rfl rfl rfl rfl sh_I ?_
  refine PW.assign rfl rfl rfl rfl rfl ?_
  refine PW.nil ?_
  refine SX.then ?_
  refine SC.ret ?_
  refine SX.thenR ?_
  exact SX.done2 (s := 4) (t := 5) (r := .vl (.int .i64 0)) (.inl rfl) rfl rfl rfl rfl

set_option maxHeartbeats 1600000 in
theorem power_big {x : Int} {n s m : Nat} (hm : 65536 / s = m) (hx : 2 ≤ x.natAbs) (hc : 0 < cmp (x.natAbs : Int) 1) {a : Nat} (X : bd a x) (ha : a ≤ 100000) (hn : 1 ≤ n) (hn2 : n ≤ 9223372036854775807) (hs : wid (pat (x.natAbs : Int)) = s + 1) (hs1 : 1 ≤ s) (hs2 : s ≤ 9223372036854775806) : CallOk 62 [KI x, KV (.int .i64 (n : Int))] (if wid (pat (x ^ n)) ≤ 65536 then K2 (KI (x ^ n)) (KV (.int .i64 0)) else K2 (KI 0) (KV (.int .i64 14))) := by
  refine CallOk.enter (l := [.kw (KI x), .vl (.int .i64 (n : Int))]) 72 ce_power Try.func62 rfl Try.ntmps62 (by simp) ⟨KI.st _, rfl, KV.st _, rfl, trivial⟩ fun w => ?_
  refine SC.seq ?_
  refine SC.region ?_
  refine PW.box (x := .tmp 0) (r := .kw (KI (x))) (BI 28) rfl rfl rfl rfl rfl bI rfl sh_I ?_
  refine PW.alloc (BI 28) rfl rfl rfl rfl rfl bI ?_
  refine PW.assign rfl rfl rfl rfl rfl ?_
  refine PW.nil ?_
  refine SX.then ?_
  refine SC.seq ?_
  refine SC.seq ?_
  refine SC.region ?_
  refine PW.move rfl rfl rfl rfl rfl ?_
  refine PW.q2 (x := .tmp 11) (y := .const (.int .i64 0)) (.bool false) rfl rfl rfl rfl rfl (fun ρ W h1 h2 => by first | (go_simp; done) | (go_simp; rw [Int.tmod_eq_emod_of_nonneg (by omega)]; exact IntWalk.i64_in _ (by omega)) | (go_simp; omega)) ?_
  refine PW.nil ?_
  refine SX.then ?_
  refine SC.cond (t := false) rfl ?_
  refine SC.skip ?_
  refine SX.then ?_
  refine SC.seq ?_
  refine SC.region ?_
  refine PW.call (r := .kw (KI (1))) rfl rfl rfl rfl rfl rfl (KI.st _) rfl (k_new (by decide)) ?_
  refine PW.alloc (BI 28) rfl rfl rfl rfl rfl bI ?_
  refine PW.store (x := .tmp 14) (r := .kw (KI (1))) rfl rfl rfl rfl rfl rfl sh_I ?_
  refine PW.nil ?_
  refine SX.then ?_
  refine SC.seq ?_
  refine SC.seq ?_
  refine SC.dx [.val 15 (.vl (.int .i64 (n : Int))), .val 16 (.vl (.bool false)), .val 17 (.vl (.bool false)), .val 18 (.kw (KI (x))), .val 19 (.kw (KI ((x.natAbs : Int)))), .val 20 (.kw (KI (1))), .val 21 (.vl (.int .i64 (cmp (x.natAbs : Int) 1))), .val 22 (.vl (.bool false)), .val 23 (.vl (.bool false))] [([], [1]), ([0], []), ([1], []), ([2], [2]), ([3, 2], []), ([2], [6]), ([4, 5, 2], []), ([6, 2], []), ([2, 7], [])] rfl (by kernel_rfl) (by kernel_rfl) (by kernel_rfl) rfl ⟨?_, ?_, ?_, ?_, ?_, ?_, ?_, ?_, ?_, trivial⟩ ?_
  · exact DX.move rfl rfl rfl rfl rfl rfl
  · exact DX.q2 (x := .tmp 15) (y := .const (.int .i64 0)) (.bool false) rfl rfl rfl rfl rfl (fun ρ W h1 h2 => by first | (go_simp; done) | (go_simp; rw [Int.tmod_eq_emod_of_nonneg (by omega)]; exact IntWalk.i64_in _ (by omega)) | (go_simp; omega))
  · exact DX.move rfl rfl rfl rfl rfl rfl
  · exact DX.load rfl rfl rfl rfl rfl rfl
  · exact DX.call (r := .kw (KI ((x.natAbs : Int)))) rfl rfl rfl rfl rfl rfl (KI.st _) rfl (k_abs)
  · exact DX.load rfl rfl rfl rfl rfl rfl
  · exact DX.call (r := .vl (.int .i64 (cmp (x.natAbs : Int) 1))) rfl rfl rfl rfl rfl rfl (KV.st _) rfl (k_cmp (rfl))
  · exact DX.q2 (x := .tmp 21) (y := .const (.int .i64 0)) (.bool false) rfl rfl rfl rfl rfl (fun ρ W h1 h2 => by first | (go_simp; done) | (go_simp; exact hc))
  · exact DX.pick (t := false) rfl rfl rfl rfl rfl rfl rfl
  refine SX.then ?_
  refine SC.cond (t := false) rfl ?_
  refine SC.skip ?_
  refine SX.then ?_
  refine SC.seq ?_
  refine SC.seq ?_
  refine SC.region ?_
  refine PW.load rfl rfl rfl rfl rfl rfl ?_
  refine PW.call (r := .kw (KI ((x.natAbs : Int)))) rfl rfl rfl rfl rfl rfl (KI.st _) rfl (k_abs) ?_
  refine PW.call (r := .vl (.int .i64 ((s : Int) + 1))) rfl rfl rfl rfl rfl rfl (KV.st _) rfl (k_len X.abs (by first | decide | omega) (by rw [hs]; rfl)) ?_
  refine PW.q2 (x := .tmp 40) (y := .const (.int .i64 1)) (.int .i64 (s : Int)) rfl rfl rfl rfl rfl (fun ρ W h1 h2 => by first | (go_simp; done) | (go_simp; exact IntWalk.i64_in _ (by omega)) | (go_simp; exact Int.tmod_eq_emod_of_nonneg (by omega)) | (go_simp; exact Int.tdiv_eq_ediv_of_nonneg (by omega)) | (go_simp; exact (IntWalk.i64_in _ (by omega)).trans (by omega)) | (go_simp; rw [Int.tmod_eq_emod_of_nonneg (by omega)]; exact IntWalk.i64_in _ (by omega)) | (go_simp; omega)) ?_
  refine PW.assign rfl rfl rfl rfl rfl ?_
  refine PW.nil ?_
  refine SX.then ?_
  refine SC.seq ?_
  by_cases hq : m < n
  · refine SC.region ?_
    refine PW.move rfl rfl rfl rfl rfl ?_
    refine PW.q2 (x := .tmp 42) (y := .const (.int .i64 0)) (.bool true) rfl rfl rfl rfl rfl (fun ρ W h1 h2 => by first | (go_simp; done) | (go_simp; rw [Int.tmod_eq_emod_of_nonneg (by omega)]; exact IntWalk.i64_in _ (by omega)) | (go_simp; omega)) ?_
    refine PW.move rfl rfl rfl rfl rfl ?_
    refine PW.move rfl rfl rfl rfl rfl ?_
    refine PW.move rfl rfl rfl rfl rfl ?_
    refine PW.q2 (x := .const (.int .i64 65536)) (y := .tmp 46) (.int .i64 (m : Int)) rfl rfl rfl rfl rfl (fun ρ W h1 h2 => by exact quo_run h1 h2 hs1 hm) ?_
    refine PW.q2 (x := .tmp 45) (y := .tmp 47) (.bool true) rfl rfl rfl rfl rfl (fun ρ W h1 h2 => by first | (go_simp; done) | (go_simp; rw [Int.tmod_eq_emod_of_nonneg (by omega)]; exact IntWalk.i64_in _ (by omega)) | (go_simp; omega)) ?_
    refine PW.pick (t := true) rfl rfl rfl rfl rfl rfl ?_
    refine PW.nil ?_
    refine SX.then ?_
    refine SC.cond (t := true) rfl ?_
    refine SC.seq ?_
    refine SC.region ?_
    refine PW.val (r := .kw (KI (0))) rfl rfl rfl rfl (fun a W hf => ⟨.agg #[.bool false, .slice none 0 0], by go_simp, zeroI _ W W⟩) ?_
    refine PW.store (x := .tmp 50) (r := .kw (KI (0))) rfl rfl rfl rfl rfl rfl sh_I ?_
    refine PW.assign rfl rfl rfl rfl rfl ?_
    refine PW.nil ?_
    refine SX.then ?_
    refine SC.ret ?_
    refine SX.thenR ?_
    rw [if_neg (by have := pw_large (n := n) hx hs hs1 (by rw [hm]; exact hq); omega)]
    exact SX.done2 (s := 4) (t := 5) (r := .vl (.int .i64 14)) (.inl rfl) rfl rfl rfl rfl
  · obtain ⟨hX, hX0⟩ := pw_bits (n := n) hx hs hs1 (by rw [hm]; exact hq)
    refine SC.region ?_
    refine PW.move rfl rfl rfl rfl rfl ?_
    refine PW.q2 (x := .tmp 42) (y := .const (.int .i64 0)) (.bool true) rfl rfl rfl rfl rfl (fun ρ W h1 h2 => by first | (go_simp; done) | (go_simp; rw [Int.tmod_eq_emod_of_nonneg (by omega)]; exact IntWalk.i64_in _ (by omega)) | (go_simp; omega)) ?_
    refine PW.move rfl rfl rfl rfl rfl ?_
    refine PW.move rfl rfl rfl rfl rfl ?_
    refine PW.move rfl rfl rfl rfl rfl ?_
    refine PW.q2 (x := .const (.int .i64 65536)) (y := .tmp 46) (.int .i64 (m : Int)) rfl rfl rfl rfl rfl (fun ρ W h1 h2 => by exact quo_run h1 h2 hs1 hm) ?_
    refine PW.q2 (x := .tmp 45) (y := .tmp 47) (.bool false) rfl rfl rfl rfl rfl (fun ρ W h1 h2 => by first | (go_simp; done) | (go_simp; rw [Int.tmod_eq_emod_of_nonneg (by omega)]; exact IntWalk.i64_in _ (by omega)) | (go_simp; omega)) ?_
    refine PW.pick (t := true) rfl rfl rfl rfl rfl rfl ?_
    refine PW.nil ?_
    refine SX.then ?_
    refine SC.cond (t := false) rfl ?_
    refine SC.skip ?_
    refine SX.then ?_
    refine SC.seq ?_
    refine SC.dx [.val 51 (.kw (KI (1))), .val 52 (.kw (KI (x))), .new 8 (BI 28), .new 9 (BI 28), .put 8 (BI 28) (.kw (KI (1))), .put 9 (BI 28) (.kw (KI (x)))] [([], [6]), ([], [2]), ([], []), ([], []), ([2, 0], []), ([3, 1], [])] rfl (by kernel_rfl) (by kernel_rfl) (by kernel_rfl) rfl ⟨?_, ?_, ?_, ?_, ?_, ?_, trivial⟩ ?_
    · exact DX.load rfl rfl rfl rfl rfl rfl
    · exact DX.load rfl rfl rfl rfl rfl rfl
    · exact DX.alloc (BI 28) rfl rfl rfl rfl bI rfl
    · exact DX.alloc (BI 28) rfl rfl rfl rfl bI rfl
    · exact DX.store (x := .tmp 51) (r := .kw (KI (1))) rfl rfl rfl rfl rfl rfl sh_I
    · exact DX.store (x := .tmp 52) (r := .kw (KI (x))) rfl rfl rfl rfl rfl rfl sh_I
    refine SX.then ?_
    refine SC.seq ?_
    refine SC.seq ?_
    refine SC.region ?_
    refine PW.move rfl rfl rfl rfl rfl ?_
    refine PW.assign rfl rfl rfl rfl rfl ?_
    refine PW.nil ?_
    refine SX.then ?_
    refine SC.block ?_
    refine SC.loop (S := Int × Int × Nat) (fun ⟨o, b, k⟩ => [(4, .nb (BI 28)), (5, .vl (.int .i64 0)), (8, .bx (BI 28) (KI (o))), (9, .bx (BI 28) (KI (b))), (10, .vl (.int .i64 (k : Int)))]) (fun ⟨o, b, k⟩ => o * b ^ k = x ^ n ∧ 1 ≤ k ∧ k ≤ n) (fun ⟨o, b, k⟩ => k) (1, x, n) ⟨Int.one_mul _, hn, Nat.le_refl _⟩ ⟨rfl, rfl, rfl, rfl, rfl, trivial⟩ ?_
    rintro ⟨o, b, k⟩ ⟨hi, hk1, hkn⟩
    show SC _ _ _ _ [(4, .nb (BI 28)), (5, .vl (.int .i64 0)), (8, .bx (BI 28) (KI (o))), (9, .bx (BI 28) (KI (b))), (10, .vl (.int .i64 (k : Int)))] _
    obtain ⟨bo, bb⟩ := pw_bd hi hX0 hk1 hX
    refine SC.seq ?_
    refine SC.block ?_
    refine SC.seq ?_
    refine SC.seq ?_
    by_cases ho : k % 2 = 1
    · refine SC.region ?_
      refine PW.move rfl rfl rfl rfl rfl ?_
      refine PW.q2 (x := .tmp 56) (y := .const (.int .i64 1)) (.int .i64 ((k % 2 : Nat) : Int)) rfl rfl rfl rfl rfl (fun ρ W h1 h2 => by exact and1_run h1 h2 (by omega)) ?_
      refine PW.q2 (x := .tmp 57) (y := .const (.int .i64 1)) (.bool true) rfl rfl rfl rfl rfl (fun ρ W h1 h2 => by first | (go_simp; done) | (go_simp; rw [Int.tmod_eq_emod_of_nonneg (by omega)]; exact IntWalk.i64_in _ (by omega)) | (go_simp; omega)) ?_
      refine PW.nil ?_
      refine SX.then ?_
      refine SC.cond (t := true) rfl ?_
      refine SC.region ?_
      refine PW.load rfl rfl rfl rfl rfl rfl ?_
      refine PW.load rfl rfl rfl rfl rfl rfl ?_
      refine PW.call (r := .kw (KI (o * b))) rfl rfl rfl rfl rfl rfl (KI.st _) rfl (k_mul bo bb (by first | decide | omega) (by first | decide | omega)) ?_
      refine PW.store (x := .tmp 61) (r := .kw (KI (o * b))) rfl rfl rfl rfl rfl rfl sh_I ?_
      refine PW.nil ?_
      refine SX.then ?_
      refine SC.seq ?_
      refine SC.seq ?_
      by_cases he : k = 1
      · refine SC.region ?_
        refine PW.move rfl rfl rfl rfl rfl ?_
        refine PW.q2 (x := .tmp 62) (y := .const (.int .i64 1)) (.bool true) rfl rfl rfl rfl rfl (fun ρ W h1 h2 => by first | (go_simp; done) | (go_simp; rw [Int.tmod_eq_emod_of_nonneg (by omega)]; exact IntWalk.i64_in _ (by omega)) | (go_simp; omega)) ?_
        refine PW.nil ?_
        refine SX.then ?_
        refine SC.cond (t := true) rfl ?_
        refine SC.exit ?_
        have e8 : o * b = x ^ n := pw_end hi he
        rw [e8]
        refine SX.thenE ?_
        refine SX.blockX rfl ?_
        refine SX.thenE ?_
        refine SX.thenE ?_
        refine SX.blockE ?_
        refine SX.then ?_
        refine SC.seq ?_
        refine SC.seq ?_
        by_cases hl : 65536 < wid (pat (x ^ n))
        · refine SC.region ?_
          refine PW.load rfl rfl rfl rfl rfl rfl ?_
          refine PW.call (r := .vl (.int .i64 (wid (pat (x ^ n)) : Int))) rfl rfl rfl rfl rfl rfl (KV.st _) rfl (k_len hX (by first | decide | omega) (rfl)) ?_
          refine PW.q2 (x := .tmp 68) (y := .const (.int .i64 65536)) (.bool true) rfl rfl rfl rfl rfl (fun ρ W h1 h2 => by first | (go_simp; done) | (go_simp; rw [Int.tmod_eq_emod_of_nonneg (by omega)]; exact IntWalk.i64_in _ (by omega)) | (go_simp; omega)) ?_
          refine PW.nil ?_
          refine SX.then ?_
          refine SC.cond (t := true) rfl ?_
          refine SC.seq ?_
          refine SC.region ?_
          refine PW.val (r := .kw (KI (0))) rfl rfl rfl rfl (fun a W hf => ⟨.agg #[.bool false, .slice none 0 0], by go_simp, zeroI _ W W⟩) ?_
          refine PW.store (x := .tmp 70) (r := .kw (KI (0))) rfl rfl rfl rfl rfl rfl sh_I ?_
          refine PW.assign rfl rfl rfl rfl rfl ?_
          refine PW.nil ?_
          refine SX.then ?_
          refine SC.ret ?_
          refine SX.thenR ?_
          rw [if_neg (by omega)]
          exact SX.done2 (s := 4) (t := 5) (r := .vl (.int .i64 14)) (.inl rfl) rfl rfl rfl rfl
        · refine SC.region ?_
          refine PW.load rfl rfl rfl rfl rfl rfl ?_
          refine PW.call (r := .vl (.int .i64 (wid (pat (x ^ n)) : Int))) rfl rfl rfl rfl rfl rfl (KV.st _) rfl (k_len hX (by first | decide | omega) (rfl)) ?_
          refine PW.q2 (x := .tmp 68) (y := .const (.int .i64 65536)) (.bool false) rfl rfl rfl rfl rfl (fun ρ W h1 h2 => by first | (go_simp; done) | (go_simp; rw [Int.tmod_eq_emod_of_nonneg (by omega)]; exact IntWalk.i64_in _ (by omega)) | (go_simp; omega)) ?_
          refine PW.nil ?_
          refine SX.then ?_
          refine SC.cond (t := false) rfl ?_
          refine SC.skip ?_
          refine SX.then ?_
          refine SC.seq ?_
          refine SC.region ?_
          refine PW.load rfl rfl rfl rfl rfl rfl ?_
          refine PW.store (x := .tmp 71) (r := .kw (KI (x ^ n))) rfl rfl rfl rfl rfl rfl sh_I ?_
          refine PW.assign rfl rfl rfl rfl rfl ?_
          refine PW.nil ?_
          refine SX.then ?_
          refine SC.ret ?_
          rw [if_pos (by omega)]
          exact SX.done2 (s := 4) (t := 5) (r := .vl (.int .i64 0)) (.inl rfl) rfl rfl rfl rfl
      · refine SC.region ?_
        refine PW.move rfl rfl rfl rfl rfl ?_
        refine PW.q2 (x := .tmp 62) (y := .const (.int .i64 1)) (.bool false) rfl rfl rfl rfl rfl (fun ρ W h1 h2 => by first | (go_simp; done) | (go_simp; rw [Int.tmod_eq_emod_of_nonneg (by omega)]; exact IntWalk.i64_in _ (by omega)) | (go_simp; omega)) ?_
        refine PW.nil ?_
        refine SX.then ?_
        refine SC.cond (t := false) rfl ?_
        refine SC.skip ?_
        refine SX.then ?_
        refine SC.region ?_
        refine PW.load rfl rfl rfl rfl rfl rfl ?_
        refine PW.load rfl rfl rfl rfl rfl rfl ?_
        refine PW.call (r := .kw (KI (b * b))) rfl rfl rfl rfl rfl rfl (KI.st _) rfl (k_mul bb bb (by first | decide | omega) (by first | decide | omega)) ?_
        refine PW.store (x := .tmp 66) (r := .kw (KI (b * b))) rfl rfl rfl rfl rfl rfl sh_I ?_
        refine PW.nil ?_
        refine SX.blockN ?_
        refine SX.then ?_
        refine SC.region ?_
        refine PW.move rfl rfl rfl rfl rfl ?_
        refine PW.q2 (x := .tmp 54) (y := .const (.int .u64 1)) (.int .i64 ((k / 2 : Nat) : Int)) rfl rfl rfl rfl rfl (fun ρ W h1 h2 => by first | (go_simp; done) | (go_simp; omega)) ?_
        refine PW.assign rfl rfl rfl rfl rfl ?_
        refine PW.nil ?_
        refine SX.back (o * b, b * b, k / 2) ?_ ?_ ?_
        · exact ⟨pw_odd hi (by omega), by omega, by omega⟩
        · exact (show k / 2 < k by omega)
        · exact ⟨rfl, rfl, rfl, rfl, rfl, trivial⟩
    · refine SC.region ?_
      refine PW.move rfl rfl rfl rfl rfl ?_
      refine PW.q2 (x := .tmp 56) (y := .const (.int .i64 1)) (.int .i64 ((k % 2 : Nat) : Int)) rfl rfl rfl rfl rfl (fun ρ W h1 h2 => by exact and1_run h1 h2 (by omega)) ?_
      refine PW.q2 (x := .tmp 57) (y := .const (.int .i64 1)) (.bool false) rfl rfl rfl rfl rfl (fun ρ W h1 h2 => by first | (go_simp; done) | (go_simp; rw [Int.tmod_eq_emod_of_nonneg (by omega)]; exact IntWalk.i64_in _ (by omega)) | (go_simp; omega)) ?_
      refine PW.nil ?_
      refine SX.then ?_
      refine SC.cond (t := false) rfl ?_
      refine SC.skip ?_
      refine SX.then ?_
      refine SC.seq ?_
      refine SC.seq ?_
      refine SC.region ?_
      refine PW.move rfl rfl rfl rfl rfl ?_
      refine PW.q2 (x := .tmp 62) (y := .const (.int .i64 1)) (.bool false) rfl rfl rfl rfl rfl (fun ρ W h1 h2 => by first | (go_simp; done) | (go_simp; rw [Int.tmod_eq_emod_of_nonneg (by omega)]; exact IntWalk.i64_in _ (by omega)) | (go_simp; omega)) ?_
      refine PW.nil ?_
      refine SX.then ?_
      refine SC.cond (t := false) rfl ?_
      refine SC.skip ?_
      refine SX.then ?_
      refine SC.region ?_
      refine PW.load rfl rfl rfl rfl rfl rfl ?_
      refine PW.load rfl rfl rfl rfl rfl rfl ?_
      refine PW.call (r := .kw (KI (b * b))) rfl rfl rfl rfl rfl rfl (KI.st _) rfl (k_mul bb bb (by first | decide | omega) (by first | decide | omega)) ?_
      refine PW.store (x := .tmp 66) (r := .kw (KI (b * b))) rfl rfl rfl rfl rfl rfl sh_I ?_
      refine PW.nil ?_
      refine SX.blockN ?_
      refine SX.then ?_
      refine SC.region ?_
      refine PW.move rfl rfl rfl rfl rfl ?_
      refine PW.q2 (x := .tmp 54) (y := .const (.int .u64 1)) (.int .i64 ((k / 2 : Nat) : Int)) rfl rfl rfl rfl rfl (fun ρ W h1 h2 => by first | (go_simp; done) | (go_simp; omega)) ?_
      refine PW.assign rfl rfl rfl rfl rfl ?_
      refine PW.nil ?_
      refine SX.back (o, b * b, k / 2) ?_ ?_ ?_
      · exact ⟨pw_even hi (by omega), by omega, by omega⟩
      · exact (show k / 2 < k by omega)
      · exact ⟨rfl, rfl, rfl, rfl, rfl, trivial⟩

end Go.Proofs.Ytcgkgcciogibkaa.Sy
/- The contract of the program's Power, in one; powers of powers of two. -/
set_option linter.unusedVariables false
set_option linter.unusedSimpArgs false
namespace Go.Proofs.Ytcgkgcciogibkaa.Sy
open Go Go.RowKit Ma
/-- What Power hands back. -/
def KP (x : Int) (n : Nat) : Know := if wid (pat (x ^ n)) ≤ 65536 then K2 (KI (x ^ n)) (KV (.int .i64 0)) else K2 (KI 0) (KV (.int .i64 14))
theorem k_power {x : Int} {n a : Nat} (X : bd a x) (ha : a ≤ 100000) (hn2 : n ≤ 9223372036854775807) : CallOk 62 [KI x, KV (.int .i64 (n : Int))] (KP x n) := by
  unfold KP
  by_cases h0 : n = 0
  · subst h0
    rw [Int.pow_zero, if_pos (by decide)]
    exact power_zero
  · by_cases h1 : x.natAbs ≤ 1
    · have hc : cmp (x.natAbs : Int) 1 ≤ 0 := by unfold cmp; split <;> (try split) <;> omega
      by_cases hx : 0 ≤ x
      · have e : x ^ n = x := by
          rcases (show x = 0 ∨ x = 1 by omega) with rfl | rfl
          · exact Int.zero_pow h0
          · exact Int.one_pow
        rw [e, if_pos (by rcases (show x = 0 ∨ x = 1 by omega) with rfl | rfl <;> decide)]
        exact power_01 hx hc (by omega) (by omega)
      · obtain rfl : x = -1 := by omega
        by_cases hp : n % 2 = 0
        · have e : (-1 : Int) ^ n = 1 := by
            obtain ⟨m, rfl⟩ : ∃ m, n = 2 * m := ⟨n / 2, by omega⟩
            rw [Int.pow_mul, show (-1 : Int) ^ 2 = 1 by decide, Int.one_pow]
          rw [e, if_pos (by decide)]
          exact power_m1e (by decide) hc (by omega) (by omega) (by omega)
        · have e : (-1 : Int) ^ n = -1 := by
            obtain ⟨m, rfl⟩ : ∃ m, n = 2 * m + 1 := ⟨n / 2, by omega⟩
            rw [Int.pow_succ, Int.pow_mul, show (-1 : Int) ^ 2 = 1 by decide, Int.one_pow]
            decide
          rw [e, if_pos (by decide)]
          exact power_m1o (by decide) hc (by omega) (by omega) (by omega)
    · have hc : 0 < cmp (x.natAbs : Int) 1 := by unfold cmp; rw [if_neg (by omega), if_neg (by omega)]; decide
      have hw : 2 ≤ wid (pat (x.natAbs : Int)) := by
        rw [wid_nat _ (by omega)]
        apply Classical.byContradiction
        intro hq
        have := wid_lt (x.natAbs : Int)
        have h3 : (2 : Int) ^ wid (x.natAbs : Int) ≤ 2 ^ 1 := pow_le (by decide) (by omega)
        omega
      have hw2 : wid (pat (x.natAbs : Int)) ≤ 32 * a := by
        rw [wid_nat _ (by omega)]
        apply wid_le_of
        have := bd2.1 X
        omega
      exact power_big rfl (s := wid (pat (x.natAbs : Int)) - 1) (by omega) hc X ha (by omega) hn2 (by omega) (by omega) (by omega)
theorem KP.st (x : Int) (n : Nat) : St (KP x n) := by unfold KP; split <;> exact K2.st (KI.st _) (KV.st _)
theorem KP.ok {x : Int} {n : Nat} (h : wid (pat (x ^ n)) ≤ 65536) : KP x n = K2 (KI (x ^ n)) (KV (.int .i64 0)) := if_pos h
theorem KP.large {x : Int} {n : Nat} (h : 65536 < wid (pat (x ^ n))) : KP x n = K2 (KI 0) (KV (.int .i64 14)) := if_neg (by omega)
theorem k_power_ok {x : Int} {n a : Nat} (X : bd a x) (ha : a ≤ 100000) (hn2 : n ≤ 9223372036854775807) (h : wid (pat (x ^ n)) ≤ 65536) : CallOk 62 [KI x, KV (.int .i64 (n : Int))] (K2 (KI (x ^ n)) (KV (.int .i64 0))) := KP.ok h ▸ k_power X ha hn2
theorem k_power_large {x : Int} {n a : Nat} (X : bd a x) (ha : a ≤ 100000) (hn2 : n ≤ 9223372036854775807) (h : 65536 < wid (pat (x ^ n))) : CallOk 62 [KI x, KV (.int .i64 (n : Int))] (K2 (KI 0) (KV (.int .i64 14))) := KP.large h ▸ k_power X ha hn2
/-! ### Powers of powers of two -/
theorem wid_pow2 (j : Nat) : wid (2 ^ j) = j + 1 := by
  have hp : (0 : Int) < 2 ^ j := Int.pow_pos (by decide)
  exact wid_of (by rw [Int.pow_succ]; omega) (by omega) (by rw [Nat.add_sub_cancel]; exact Int.le_refl _)
theorem wid_pow2m (j : Nat) : wid (2 ^ j - 1) = j := by
  have hp : (0 : Int) < 2 ^ j := Int.pow_pos (by decide)
  cases j with
  | zero => decide
  | succ i =>
    have hi : (0 : Int) < 2 ^ i := Int.pow_pos (by decide)
    exact wid_of (by omega) (by omega) (by rw [Nat.add_sub_cancel, Int.pow_succ]; omega)
theorem pat_pow2 (j : Nat) : wid (pat (2 ^ j)) = j + 1 := by
  have hp : (0 : Int) < 2 ^ j := Int.pow_pos (by decide)
  rw [wid_nat _ (by omega), wid_pow2]
theorem pat_npow2 (j : Nat) : wid (pat (-(2 ^ j))) = j := by
  have hp : (0 : Int) < 2 ^ j := Int.pow_pos (by decide)
  have : pat (-(2 ^ j)) = 2 ^ j - 1 := by unfold pat; rw [if_pos (by omega)]; omega
  rw [this, wid_pow2m]
theorem npow_even {x : Int} {m : Nat} (h : m % 2 = 0) : (-x) ^ m = x ^ m := by
  obtain ⟨k, rfl⟩ : ∃ k, m = 2 * k := ⟨m / 2, by omega⟩
  rw [Int.pow_mul, Int.pow_mul, show (-x) ^ 2 = x ^ 2 by grind]
theorem npow_odd {x : Int} {m : Nat} (h : m % 2 = 1) : (-x) ^ m = -(x ^ m) := by
  obtain ⟨k, rfl⟩ : ∃ k, m = 2 * k + 1 := ⟨m / 2, by omega⟩
  rw [Int.pow_succ, Int.pow_succ, npow_even (by omega), Int.mul_neg]
end Go.Proofs.Ytcgkgcciogibkaa.Sy
