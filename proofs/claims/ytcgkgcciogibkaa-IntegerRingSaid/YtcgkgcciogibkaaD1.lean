/- IntegerRing: the walk. -/
import Derived.Test.YtcgkgcciogibkaaDa
import Derived.Test.YtcgkgcciogibkaaDb
import Derived.Test.YtcgkgcciogibkaaDc
import Derived.Deep.CutRange
import Derived.Deep.DeepCutAuto
set_option linter.unusedVariables false
set_option linter.unusedSimpArgs false
namespace Go.Proofs.Ytcgkgcciogibkaa
open Go.RowKit Ma

theorem cmp_swap (x y : Int) : cmp x y = -cmp y x := by unfold cmp; split <;> split <;> (try split) <;> (try split) <;> omega
theorem cmp_bd (x y : Int) : -1 ≤ cmp x y ∧ cmp x y ≤ 1 := by unfold cmp; split <;> (try split) <;> omega
theorem cmp_trans {x y z : Int} : cmp x y ≤ 0 → cmp y z ≤ 0 → ¬ 0 < cmp x z := by unfold cmp; split <;> (try split) <;> (try split) <;> (try split) <;> (try split) <;> (try split) <;> omega
theorem cmp_add (x y z : Int) : cmp (x + z) (y + z) = cmp x y := by
  unfold cmp
  by_cases h : x < y
  · rw [if_pos h, if_pos (by omega)]
  · rw [if_neg h, if_neg (by omega)]
    by_cases h' : x = y
    · rw [if_pos h', if_pos (by omega)]
    · rw [if_neg h', if_neg (by omega)]
theorem cmp_mul (x y z : Int) (h : 0 < sgn z) : cmp (x * z) (y * z) = cmp x y := by
  have hz : 0 < z := by unfold sgn at h; split at h <;> (try split at h) <;> omega
  unfold cmp
  by_cases h : x < y
  · rw [if_pos h, if_pos (Int.mul_lt_mul_of_pos_right h hz)]
  · rw [if_neg h, if_neg (by have := Int.mul_le_mul_of_nonneg_right (show y ≤ x by omega) (Int.le_of_lt hz); omega)]
    by_cases h' : x = y
    · rw [if_pos h', if_pos (by rw [h'])]
    · have := Int.mul_lt_mul_of_pos_right (show y < x by omega) hz
      rw [if_neg h', if_neg (by omega)]
set_option maxHeartbeats 25600000 in
set_option maxRecDepth 100000 in
theorem ring_w {n1 n2 n3 : Bool} {A1 A2 A3 : Option Addr} {l1 l2 l3 c1 c2 c3 : Nat} {xs1 xs2 xs3 : List Int} {w : World} (h1 : In w A1 l1 c1 xs1) (h2 : In w A2 l2 c2 xs2) (h3 : In w A3 l3 c3 xs3) :
    Calls Try.prog 4 #[.agg #[.bool n1, .slice A1 l1 c1], .agg #[.bool n2, .slice A2 l2 c2], .agg #[.bool n3, .slice A3 l3 c3]] w (Ret w (KV (.bool true))) := by
  have H1 := Lib.hid h1
  have H2 := Lib.hid h2
  have H3 := Lib.hid h3
  have b1 : l1 ≤ 9223372036854775807 := h1.1 ▸ h1.2.2.1.1
  have b2 : l2 ≤ 9223372036854775807 := h2.1 ▸ h2.2.2.1.1
  have b3 : l3 ≤ 9223372036854775807 := h3.1 ▸ h3.2.2.1.1
  clear h1 h2 h3
  obtain ⟨ns, hns⟩ : ∃ ns : List Nn, ns = [(n1, A1, l1, c1), (n2, A2, l2, c2), (n3, A3, l3, c3)] := ⟨_, rfl⟩
  have hL : ∀ x ∈ ns, x.2.2.1 ≤ 9223372036854775807 := by
    intro x hx
    rw [hns] at hx
    simp at hx
    rcases hx with rfl | rfl | rfl <;> assumption
  have hlen : ns.length = 3 := by rw [hns]; rfl
  have HNS := Lib.hid hns
  have HL := Lib.hid hL
  have HLEN := Lib.hid hlen
  clear hns hL hlen
  go_enter Try.func4, Try.ntmps4
  go_wp2_with fail
  obtain ⟨W0, hW0⟩ : ∃ W0, W0 = (((w.alloc (.cells #[.bool n1, .slice A1 l1 c1] 24)).alloc (.cells #[.bool n2, .slice A2 l2 c2] 24)).alloc (.cells #[.bool n3, .slice A3 l3 c3] 24)) := ⟨_, rfl⟩
  have nw0 : Nw w W0 := by rw [hW0]; exact (((Nw.refl w).alloc _).alloc _).alloc _
  have cw0 : Has [(w.heap.size, 0, Value.bool n1), (w.heap.size, 1, Value.slice A1 l1 c1), (w.heap.size + 1, 0, Value.bool n2), (w.heap.size + 1, 1, Value.slice A2 l2 c2), (w.heap.size + 1 + 1, 0, Value.bool n3), (w.heap.size + 1 + 1, 1, Value.slice A3 l3 c3)] W0 := by
    rw [hW0]; exact ⟨by go_simp, by go_simp, by go_simp, by go_simp, by go_simp, by go_simp, trivial⟩
  have sz0 : W0.heap.size = w.heap.size + 1 + 1 + 1 := by rw [hW0]; go_simp
  rw [← hW0, ← sz0]
  clear hW0 sz0
  obtain ⟨q1, q2, q3, q4, q5, q6, _⟩ := cw0
  have lit : ∀ (W : World), Ns (W.alloc (.cells #[.bool n1, .slice A1 l1 c1, .bool n2, .slice A2 l2 c2, .bool n3, .slice A3 l3 c3] 24)) W.heap.size ns := by
    intro W i n A l c e
    rw [HNS.out] at e
    match i, e with
    | 0, e => simp at e; obtain ⟨rfl, rfl, rfl, rfl⟩ := e; exact ⟨by go_simp, by go_simp⟩
    | 1, e => simp at e; obtain ⟨rfl, rfl, rfl, rfl⟩ := e; exact ⟨by go_simp, by go_simp⟩
    | 2, e => simp at e; obtain ⟨rfl, rfl, rfl, rfl⟩ := e; exact ⟨by go_simp, by go_simp⟩
    | i + 3, e => simp at e
  have LIT := Lib.hid lit
  clear lit
  refine (short_l 8 ns rfl HLEN.out.symm (LIT.out W0) (by decide) (by have := HLEN.out; omega) HL.out).mono ?_
  rintro e w1 ⟨_, rfl, hsv, hb1⟩
  have na : Nw W0 w1 := ((Nw.refl W0).alloc _).trans hb1
  by_cases hs : shB 8 ns = true
  · rw [hs] at hsv
    obtain rfl := hsv
    have q1 := na.c q1
    have q2 := na.c q2
    have q3 := na.c q3
    have q4 := na.c q4
    have q5 := na.c q5
    have q6 := na.c q6
    go_wp2_with fail
    obtain ⟨z1, hz1⟩ : ∃ z, z = sg n1 (lv b32 xs1) := ⟨_, rfl⟩
    obtain ⟨z2, hz2⟩ : ∃ z, z = sg n2 (lv b32 xs2) := ⟨_, rfl⟩
    obtain ⟨z3, hz3⟩ : ∃ z, z = sg n3 (lv b32 xs3) := ⟨_, rfl⟩
    have hle : l1 ≤ 8 ∧ l2 ≤ 8 ∧ l3 ≤ 8 := by
      have h9 := hs
      rw [HNS.out] at h9
      simpa [shB] using h9
    have Z1 : bd 8 z1 := hz1 ▸ bd_sg H1.out.2.2.2 (by have := H1.out.1; omega)
    have Z2 : bd 8 z2 := hz2 ▸ bd_sg H2.out.2.2.2 (by have := H2.out.1; omega)
    have Z3 : bd 8 z3 := hz3 ▸ bd_sg H3.out.2.2.2 (by have := H3.out.1; omega)
    have nal : Nw w (w1.alloc (.cells #[.bool n1, .slice A1 l1 c1, .bool n2, .slice A2 l2 c2, .bool n3, .slice A3 l3 c3] 24)) := (nw0.trans na).alloc _
    have hin : Ins (w1.alloc (.cells #[.bool n1, .slice A1 l1 c1, .bool n2, .slice A2 l2 c2, .bool n3, .slice A3 l3 c3] 24)) ns [z1, z2, z3] := by
      refine ⟨HLEN.out, fun i n A l c e => ?_⟩
      rw [HNS.out] at e
      have J1 := H1.out.nw nal
      have J2 := H2.out.nw nal
      have J3 := H3.out.nw nal
      match i, e with
      | 0, e => simp at e; obtain ⟨rfl, rfl, rfl, rfl⟩ := e; exact ⟨xs1, J1.1, J1.2.1, by have := J1.1; omega, J1.2.2.1, J1.2.2.2, hz1⟩
      | 1, e => simp at e; obtain ⟨rfl, rfl, rfl, rfl⟩ := e; exact ⟨xs2, J2.1, J2.2.1, by have := J2.1; omega, J2.2.2.1, J2.2.2.2, hz2⟩
      | 2, e => simp at e; obtain ⟨rfl, rfl, rfl, rfl⟩ := e; exact ⟨xs3, J3.1, J3.2.1, by have := J3.1; omega, J3.2.2.1, J3.2.2.2, hz3⟩
      | i + 3, e => simp at e
    clear hz1 hz2 hz3 hle
    refine (mades_l ns [z1, z2, z3] HLEN.out.symm (LIT.out w1) hin (by have := HLEN.out; omega) (by have := HLEN.out; omega)).mono ?_
    rintro e w2 ⟨_, rfl, hk, hb2⟩
    obtain ⟨g, c, m1, D1, k1, e1, m2, D2, k2, e2, m3, D3, k3, e3, rfl, hc3, ⟨p1, p2, p3, p4, p5, p6⟩, i1, i2, i3⟩ := hk.three
    have nb := nal.trans hb2
    clear hk hin nal hb2 q1 q2 q3 q4 q5 q6
    have I1 := Lib.hid i1
    have I2 := Lib.hid i2
    have I3 := Lib.hid i3
    clear i1 i2 i3
    go_upto_region 4 with (fail)
    go_cut [8, 9, 10] (fun v8 v9 v10 wx => ∃ P1 P2 P3 : Nat, v8 = .pointer (some ⟨P1, 0, none⟩) ∧ v9 = .pointer (some ⟨P2, 0, none⟩) ∧ v10 = .pointer (some ⟨P3, 0, none⟩) ∧ Nw w2 wx ∧ wx.cell? ⟨P1, 0, none⟩ = some (.bool m1) ∧ wx.cell? ⟨P1, 1, none⟩ = some (.slice D1 k1 e1) ∧ wx.cell? ⟨P2, 0, none⟩ = some (.bool m2) ∧ wx.cell? ⟨P2, 1, none⟩ = some (.slice D2 k2 e2) ∧ wx.cell? ⟨P3, 0, none⟩ = some (.bool m3) ∧ wx.cell? ⟨P3, 1, none⟩ = some (.slice D3 k3 e3))
    case first =>
      have hgs : g < w2.heap.size := World.block_lt_of_cell? w2 ⟨g, 0, none⟩ p1
      go_region_held3 (fun w' => w'.cell? ⟨g, 0, none⟩ = some (.bool m1) ∧ w'.cell? ⟨g, 1, none⟩ = some (.slice D1 k1 e1) ∧ w'.cell? ⟨g, 2, none⟩ = some (.bool m2) ∧ w'.cell? ⟨g, 3, none⟩ = some (.slice D2 k2 e2) ∧ w'.cell? ⟨g, 4, none⟩ = some (.bool m3) ∧ w'.cell? ⟨g, 5, none⟩ = some (.slice D3 k3 e3)) (exact ⟨Nw.c (by repeat (first | exact Nw.refl _ | apply Nw.drew | apply Nw.alloc)) p1, Nw.c (by repeat (first | exact Nw.refl _ | apply Nw.drew | apply Nw.alloc)) p2, Nw.c (by repeat (first | exact Nw.refl _ | apply Nw.drew | apply Nw.alloc)) p3, Nw.c (by repeat (first | exact Nw.refl _ | apply Nw.drew | apply Nw.alloc)) p4, Nw.c (by repeat (first | exact Nw.refl _ | apply Nw.drew | apply Nw.alloc)) p5, Nw.c (by repeat (first | exact Nw.refl _ | apply Nw.drew | apply Nw.alloc)) p6⟩) (fail)
      all_goals (go_wp2_with fail; go_meet; exact ⟨_, _, _, rfl, rfl, rfl, (by repeat (first | exact Nw.refl _ | apply Nw.drew | apply Nw.alloc)), by go_simp, by go_simp, by go_simp, by go_simp, by go_simp, by go_simp⟩)
    case rest =>
      obtain ⟨P1, P2, P3, rfl, rfl, rfl, nc, p1, p2, p3, p4, p5, p6⟩ := hcut
      have X1 := Lib.hid (I1.out.kept nc.kept)
      have X2 := Lib.hid (I2.out.kept nc.kept)
      have X3 := Lib.hid (I3.out.kept nc.kept)
      have L1 := I1.out.le5 Z1 (by decide)
      have L2 := I2.out.le5 Z2 (by decide)
      have L3 := I3.out.le5 Z3 (by decide)
      have ne := nb.trans nc
      clear nc nb LIT na hb1 q1 q2 q3 q4 q5 q6 nw0
      go_wp2
      refine ring_r5 p1 p2 p3 p4 p5 p6 X1 X2 X3 Z1 Z2 Z3 L1 L2 L3 fun w5 _ _ _ _ _ _ _ _ _ _ _ _ _ _ _ _ _ _ _ _ _ _ _ _ _ _ _ _ _ _ _ _ _ _ _ _ _ _ _ _ _ _ _ _ _ hS => ?_
      have p1 := hS.c p1
      have p2 := hS.c p2
      have p3 := hS.c p3
      have p4 := hS.c p4
      have p5 := hS.c p5
      have p6 := hS.c p6
      have X1 := Lib.hid (X1.out.kept hS.kept)
      have X2 := Lib.hid (X2.out.kept hS.kept)
      have X3 := Lib.hid (X3.out.kept hS.kept)
      have ne := ne.trans hS
      clear hS
      go_wp2
      refine ring_r7 p1 p2 p3 p4 p5 p6 X1 X2 X3 Z1 Z2 Z3 L1 L2 L3 fun w7 _ _ _ _ _ _ _ _ _ _ _ _ _ _ _ _ _ _ _ _ _ _ _ _ _ _ _ _ _ _ _ hS => ?_
      have p1 := hS.c p1
      have p2 := hS.c p2
      have p3 := hS.c p3
      have p4 := hS.c p4
      have p5 := hS.c p5
      have p6 := hS.c p6
      have X1 := Lib.hid (X1.out.kept hS.kept)
      have X2 := Lib.hid (X2.out.kept hS.kept)
      have X3 := Lib.hid (X3.out.kept hS.kept)
      have ne := ne.trans hS
      clear hS
      obtain ⟨c12, h12⟩ : ∃ c, c = cmp z1 z2 := ⟨_, rfl⟩
      obtain ⟨c21, h21⟩ : ∃ c, c = cmp z2 z1 := ⟨_, rfl⟩
      obtain ⟨c23, h23⟩ : ∃ c, c = cmp z2 z3 := ⟨_, rfl⟩
      obtain ⟨c13, h13⟩ : ∃ c, c = cmp z1 z3 := ⟨_, rfl⟩
      obtain ⟨s3, hs3⟩ : ∃ c, c = sgn z3 := ⟨_, rfl⟩
      have hA0 : c12 = -c21 := by rw [h12, h21]; exact cmp_swap _ _
      have hA : (c12 != -c21) = false := by rw [hA0]; simp
      have hlo : -1 ≤ c21 := by rw [h21]; exact (cmp_bd _ _).1
      have hhi : c21 ≤ 1 := by rw [h21]; exact (cmp_bd _ _).2
      have hW : IntKind.i64.wrap (-c21) = -c21 := IntWalk.i64_in _ (by omega)
      have htr : c12 ≤ 0 → c23 ≤ 0 → ¬ 0 < c13 := by rw [h12, h23, h13]; exact cmp_trans
      have hpl : cmp (z1 + z3) (z2 + z3) = c12 := by rw [h12]; exact cmp_add _ _ _
      have hml : 0 < s3 → cmp (z1 * z3) (z2 * z3) = c12 := by rw [h12, hs3]; exact cmp_mul _ _ _
      have H12 := Lib.hid h12
      have H21 := Lib.hid h21
      have H23 := Lib.hid h23
      have H13 := Lib.hid h13
      have HS3 := Lib.hid hs3
      have HPL := Lib.hid hpl
      have HML := Lib.hid hml
      clear h12 h21 h23 h13 hs3 hA0 hpl hml
      by_cases a1 : c12 ≤ 0
      · by_cases a2 : c23 ≤ 0
        · have a3 : decide (0 < c13) = false := decide_eq_false (htr a1 a2)
          clear htr
          by_cases a4 : 0 < s3
          · have HM := Lib.hid (HML.out a4)
            go_wp2
            refine ring_r9a p1 p2 p3 p4 p5 p6 X1 X2 X3 Z1 Z2 Z3 L1 L2 L3 hA hlo hhi hW H12 H21 H23 H13 HS3 HPL a1 a2 a3 a4 HM fun w8 _ _ _ _ _ _ _ _ _ _ _ _ _ _ _ _ _ _ _ _ _ _ _ _ _ _ _ _ _ _ _ _ _ _ _ _ _ _ _ _ _ _ _ _ _ _ _ _ _ _ _ _ _ _ _ _ hS => ?_
            have ne := ne.trans hS
            clear hS
            go_wp2_with fail
            refine (awake_c).mono ?_
            rintro e wz ⟨_, rfl, rfl, hbz⟩
            go_wp2
            go_ret
            exact Ret.V (Nw.trans ne hbz)
          · have B4 := Lib.hid (decide_eq_false a4 : decide (0 < s3) = false)
            go_wp2
            refine ring_r9b p1 p2 p3 p4 p5 p6 X1 X2 X3 Z1 Z2 Z3 L1 L2 L3 hA hlo hhi hW H12 H21 H23 H13 HS3 HPL a1 a2 a3 B4.out fun w8 _ _ _ _ _ _ _ _ _ _ _ _ _ _ _ _ _ _ _ _ _ _ _ _ _ _ _ _ _ _ _ _ _ _ _ _ _ _ _ _ _ _ _ _ _ _ _ _ _ _ _ _ _ _ _ _ hS => ?_
            have ne := ne.trans hS
            clear hS
            go_wp2_with fail
            refine (awake_c).mono ?_
            rintro e wz ⟨_, rfl, rfl, hbz⟩
            go_wp2
            go_ret
            exact Ret.V (Nw.trans ne hbz)
        · clear htr
          have B2 := Lib.hid (decide_eq_false a2 : decide (c23 ≤ 0) = false)
          by_cases a4 : 0 < s3
          · have HM := Lib.hid (HML.out a4)
            go_wp2
            refine ring_r9c p1 p2 p3 p4 p5 p6 X1 X2 X3 Z1 Z2 Z3 L1 L2 L3 hA hlo hhi hW H12 H21 H23 H13 HS3 HPL a1 B2.out a4 HM fun w8 _ _ _ _ _ _ _ _ _ _ _ _ _ _ _ _ _ _ _ _ _ _ _ _ _ _ _ _ _ _ _ _ _ _ _ _ _ _ _ _ _ _ _ _ _ _ _ _ _ _ _ _ _ _ _ _ hS => ?_
            have ne := ne.trans hS
            clear hS
            go_wp2_with fail
            refine (awake_c).mono ?_
            rintro e wz ⟨_, rfl, rfl, hbz⟩
            go_wp2
            go_ret
            exact Ret.V (Nw.trans ne hbz)
          · have B4 := Lib.hid (decide_eq_false a4 : decide (0 < s3) = false)
            go_wp2
            refine ring_r9d p1 p2 p3 p4 p5 p6 X1 X2 X3 Z1 Z2 Z3 L1 L2 L3 hA hlo hhi hW H12 H21 H23 H13 HS3 HPL a1 B2.out B4.out fun w8 _ _ _ _ _ _ _ _ _ _ _ _ _ _ _ _ _ _ _ _ _ _ _ _ _ _ _ _ _ _ _ _ _ _ _ _ _ _ _ _ _ _ _ _ _ _ _ _ _ _ _ _ _ _ _ _ hS => ?_
            have ne := ne.trans hS
            clear hS
            go_wp2_with fail
            refine (awake_c).mono ?_
            rintro e wz ⟨_, rfl, rfl, hbz⟩
            go_wp2
            go_ret
            exact Ret.V (Nw.trans ne hbz)
      · clear htr
        have B1 := Lib.hid (decide_eq_false a1 : decide (c12 ≤ 0) = false)
        by_cases a4 : 0 < s3
        · have HM := Lib.hid (HML.out a4)
          go_wp2
          refine ring_r9e p1 p2 p3 p4 p5 p6 X1 X2 X3 Z1 Z2 Z3 L1 L2 L3 hA hlo hhi hW H12 H21 H23 H13 HS3 HPL B1.out a4 HM fun w8 _ _ _ _ _ _ _ _ _ _ _ _ _ _ _ _ _ _ _ _ _ _ _ _ _ _ _ _ _ _ _ _ _ _ _ _ _ _ _ _ _ _ _ _ _ _ _ _ _ _ _ _ _ _ _ _ hS => ?_
          have ne := ne.trans hS
          clear hS
          go_wp2_with fail
          refine (awake_c).mono ?_
          rintro e wz ⟨_, rfl, rfl, hbz⟩
          go_wp2
          go_ret
          exact Ret.V (Nw.trans ne hbz)
        · have B4 := Lib.hid (decide_eq_false a4 : decide (0 < s3) = false)
          go_wp2
          refine ring_r9f p1 p2 p3 p4 p5 p6 X1 X2 X3 Z1 Z2 Z3 L1 L2 L3 hA hlo hhi hW H12 H21 H23 H13 HS3 HPL B1.out B4.out fun w8 _ _ _ _ _ _ _ _ _ _ _ _ _ _ _ _ _ _ _ _ _ _ _ _ _ _ _ _ _ _ _ _ _ _ _ _ _ _ _ _ _ _ _ _ _ _ _ _ _ _ _ _ _ _ _ _ hS => ?_
          have ne := ne.trans hS
          clear hS
          go_wp2_with fail
          refine (awake_c).mono ?_
          rintro e wz ⟨_, rfl, rfl, hbz⟩
          go_wp2
          go_ret
          exact Ret.V (Nw.trans ne hbz)
  · have hs : shB 8 ns = false := by simpa using hs
    rw [hs] at hsv
    obtain rfl := hsv
    go_wp2_with (go_at_call 15; refine (awake_c).mono ?_; rintro e w2 ⟨_, rfl, rfl, hb2⟩)
    go_ret
    exact Ret.V ((nw0.trans na).trans hb2)
end Go.Proofs.Ytcgkgcciogibkaa
