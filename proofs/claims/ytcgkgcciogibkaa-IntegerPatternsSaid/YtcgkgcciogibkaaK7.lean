/- Contracts and words, parts Pb, D2, in one file. -/
import Derived.Deep.CutRange
import Derived.Deep.DeepCutAuto
import Derived.RowKit
import Derived.Test.YtcgkgcciogibkaaK4
import Derived.Test.YtcgkgcciogibkaaK6
/- IntegerPatterns: the walk. -/
set_option linter.unusedVariables false
set_option linter.unusedSimpArgs false
namespace Go.Proofs.Ytcgkgcciogibkaa
open Go.RowKit Ma Sy

theorem wf_u8 {n : Int} (h : (Lit.int .u8 n).wf = true) : 0 ≤ n ∧ n ≤ 255 := by
  simp only [Lit.wf, Bool.and_eq_true, decide_eq_true_eq] at h
  have hm : IntKind.u8.max = 255 := by simp [IntKind.max, IntKind.bits, IntKind.signed]
  have hn : IntKind.u8.min = 0 := by simp [IntKind.min, IntKind.signed]
  rw [hm, hn] at h
  exact h
theorem wf_u16 {n : Int} (h : (Lit.int .u16 n).wf = true) : 0 ≤ n ∧ n ≤ 65535 := by
  simp only [Lit.wf, Bool.and_eq_true, decide_eq_true_eq] at h
  have hm : IntKind.u16.max = 65535 := by simp [IntKind.max, IntKind.bits, IntKind.signed]
  have hn : IntKind.u16.min = 0 := by simp [IntKind.min, IntKind.signed]
  rw [hm, hn] at h
  exact h
set_option maxHeartbeats 25600000 in
set_option maxRecDepth 100000 in
theorem pat_w {n1 n2 : Bool} {A1 A2 : Option Addr} {l1 l2 c1 c2 : Nat} {xs1 xs2 : List Int} {op : Int} {sz : Nat} {ps : Nat} {b : Int} {w : World} (h1 : In w A1 l1 c1 xs1) (h2 : In w A2 l2 c2 xs2) (o0 : 0 ≤ op) (o1 : op ≤ 255) (hsz : sz ≤ 255) (hps : ps ≤ 255) (o2 : 0 ≤ b) (o3 : b ≤ 65535) :
    Calls Try.prog 11 #[.agg #[.bool n1, .slice A1 l1 c1], .agg #[.bool n2, .slice A2 l2 c2], .int .u8 op, .int .u8 (sz : Int), .int .u8 (ps : Int), .int .u16 b] w (Ret w (KV (.bool true))) := by
  have H1 := Lib.hid h1
  have b1 : l1 ≤ 9223372036854775807 := h1.1 ▸ h1.2.2.1.1
  have H2 := Lib.hid h2
  have b2 : l2 ≤ 9223372036854775807 := h2.1 ▸ h2.2.2.1.1
  clear h1 h2
  obtain ⟨ns, hns⟩ : ∃ ns : List Nn, ns = [(n1, A1, l1, c1), (n2, A2, l2, c2)] := ⟨_, rfl⟩
  have hL : ∀ x ∈ ns, x.2.2.1 ≤ 9223372036854775807 := by
    intro x hx
    rw [hns] at hx
    simp at hx
    rcases hx with rfl | rfl <;> assumption
  have hlen : ns.length = 2 := by rw [hns]; rfl
  have HNS := Lib.hid hns
  have HL := Lib.hid hL
  have HLEN := Lib.hid hlen
  clear hns hL hlen
  go_enter Try.func11, Try.ntmps11
  go_wp2_with fail
  obtain ⟨W0, hW0⟩ : ∃ W0, W0 = ((w.alloc (.cells #[.bool n1, .slice A1 l1 c1] 24)).alloc (.cells #[.bool n2, .slice A2 l2 c2] 24)) := ⟨_, rfl⟩
  have nw0 : Nw w W0 := by rw [hW0]; exact ((Nw.refl w).alloc _).alloc _
  have cw0 : Has [(w.heap.size, 0, Value.bool n1), (w.heap.size, 1, Value.slice A1 l1 c1), (w.heap.size + 1, 0, Value.bool n2), (w.heap.size + 1, 1, Value.slice A2 l2 c2)] W0 := by
    rw [hW0]; exact ⟨by go_simp, by go_simp, by go_simp, by go_simp, trivial⟩
  have sz0 : W0.heap.size = w.heap.size + 1 + 1 := by rw [hW0]; go_simp
  rw [← hW0, ← sz0]
  clear hW0 sz0
  obtain ⟨q1, q2, q3, q4, _⟩ := cw0
  have lit : ∀ (W : World), Ns (W.alloc (.cells #[.bool n1, .slice A1 l1 c1, .bool n2, .slice A2 l2 c2] 24)) W.heap.size ns := by
    intro W i n A l c e
    rw [HNS.out] at e
    match i, e with
    | 0, e => simp at e; obtain ⟨rfl, rfl, rfl, rfl⟩ := e; exact ⟨by go_simp, by go_simp⟩
    | 1, e => simp at e; obtain ⟨rfl, rfl, rfl, rfl⟩ := e; exact ⟨by go_simp, by go_simp⟩
    | i + 2, e => simp at e
  have LIT := Lib.hid lit
  clear lit
  refine (short_l 6 ns rfl HLEN.out.symm (LIT.out W0) (by decide) (by have := HLEN.out; omega) HL.out).mono ?_
  rintro e w1 ⟨_, rfl, hsv, hb1⟩
  have na : Nw W0 w1 := ((Nw.refl W0).alloc _).trans hb1
  by_cases hs : shB 6 ns = true
  · rw [hs] at hsv
    obtain rfl := hsv
    have q1 := na.c q1
    have q2 := na.c q2
    have q3 := na.c q3
    have q4 := na.c q4
    go_wp2_with fail
    obtain ⟨z1, hz1⟩ : ∃ z, z = sg n1 (lv b32 xs1) := ⟨_, rfl⟩
    obtain ⟨z2, hz2⟩ : ∃ z, z = sg n2 (lv b32 xs2) := ⟨_, rfl⟩
    have hle : l1 ≤ 6 ∧ l2 ≤ 6 := by
      have h9 := hs
      rw [HNS.out] at h9
      simpa [shB] using h9
    have Z1 : bd 6 z1 := hz1 ▸ bd_sg H1.out.2.2.2 (by have := H1.out.1; omega)
    have Z2 : bd 6 z2 := hz2 ▸ bd_sg H2.out.2.2.2 (by have := H2.out.1; omega)
    have nal : Nw w (w1.alloc (.cells #[.bool n1, .slice A1 l1 c1, .bool n2, .slice A2 l2 c2] 24)) := (nw0.trans na).alloc _
    have hin : Ins (w1.alloc (.cells #[.bool n1, .slice A1 l1 c1, .bool n2, .slice A2 l2 c2] 24)) ns [z1, z2] := by
      refine ⟨HLEN.out, fun i n A l c e => ?_⟩
      rw [HNS.out] at e
      have J1 := H1.out.nw nal
      have J2 := H2.out.nw nal
      match i, e with
      | 0, e => simp at e; obtain ⟨rfl, rfl, rfl, rfl⟩ := e; exact ⟨xs1, J1.1, J1.2.1, by have := J1.1; omega, J1.2.2.1, J1.2.2.2, hz1⟩
      | 1, e => simp at e; obtain ⟨rfl, rfl, rfl, rfl⟩ := e; exact ⟨xs2, J2.1, J2.2.1, by have := J2.1; omega, J2.2.2.1, J2.2.2.2, hz2⟩
      | i + 2, e => simp at e
    clear hz1 hz2 hle
    refine (mades_l ns [z1, z2] HLEN.out.symm (LIT.out w1) hin (by have := HLEN.out; omega) (by have := HLEN.out; omega)).mono ?_
    rintro e w2 ⟨_, rfl, hk, hb2⟩
    obtain ⟨g, c, rs, rfl, hc3, hcn, hcl, hcr⟩ := hk
    obtain ⟨m1, D1, k1, e1, m2, D2, k2, e2, rfl⟩ : ∃ m1 D1 k1 e1 m2 D2 k2 e2, rs = [(m1, D1, k1, e1), (m2, D2, k2, e2)] := by
      match rs, hcl with
      | [⟨m1, D1, k1, e1⟩, ⟨m2, D2, k2, e2⟩], _ => exact ⟨m1, D1, k1, e1, m2, D2, k2, e2, rfl⟩
    have ⟨p1, p2⟩ := hcn 0 _ _ _ _ rfl
    have i1 := hcr 0 _ _ _ _ rfl
    have ⟨p3, p4⟩ := hcn 1 _ _ _ _ rfl
    have i2 := hcr 1 _ _ _ _ rfl
    have nb := nal.trans hb2
    clear hcn hcr hcl hin nal hb2 q1 q2 q3 q4
    have I1 := Lib.hid i1
    have I2 := Lib.hid i2
    clear i1 i2
    have hgs : g < w2.heap.size := World.block_lt_of_cell? w2 ⟨g, 0, none⟩ p1
    go_upto_region 4 with (fail)
    go_cut [14, 15] (fun v14 v15 wx => ∃ P1 P2 : Nat, v14 = .pointer (some ⟨P1, 0, none⟩) ∧ v15 = .pointer (some ⟨P2, 0, none⟩) ∧ w2.heap.size ≤ P1 ∧ w2.heap.size ≤ P2 ∧ P2 ≠ P1 ∧ Nw w2 wx ∧ wx.cell? ⟨P1, 0, none⟩ = some (.bool m1) ∧ wx.cell? ⟨P1, 1, none⟩ = some (.slice D1 k1 e1) ∧ wx.frozen? ⟨P1, 0, none⟩ = false ∧ wx.frozen? ⟨P1, 1, none⟩ = false ∧ wx.cell? ⟨P2, 0, none⟩ = some (.bool m2) ∧ wx.cell? ⟨P2, 1, none⟩ = some (.slice D2 k2 e2) ∧ wx.frozen? ⟨P2, 0, none⟩ = false ∧ wx.frozen? ⟨P2, 1, none⟩ = false)
    case first =>
      go_region_held3 (fun w' => w'.cell? ⟨g, 0, none⟩ = some (.bool m1) ∧ w'.cell? ⟨g, 1, none⟩ = some (.slice D1 k1 e1) ∧ w'.cell? ⟨g, 2, none⟩ = some (.bool m2) ∧ w'.cell? ⟨g, 3, none⟩ = some (.slice D2 k2 e2)) (exact ⟨Nw.c (by repeat (first | exact Nw.refl _ | apply Nw.drew | apply Nw.alloc)) p1, Nw.c (by repeat (first | exact Nw.refl _ | apply Nw.drew | apply Nw.alloc)) p2, Nw.c (by repeat (first | exact Nw.refl _ | apply Nw.drew | apply Nw.alloc)) p3, Nw.c (by repeat (first | exact Nw.refl _ | apply Nw.drew | apply Nw.alloc)) p4⟩) (fail)
      all_goals (go_wp2_with fail; go_meet; exact ⟨_, _, rfl, rfl, (by simp), (by simp), (by simp), (by repeat (first | exact Nw.refl _ | apply Nw.drew | apply Nw.alloc)), by go_simp, by go_simp, by go_simp, by go_simp, by go_simp, by go_simp, by go_simp, by go_simp⟩)
    case rest =>
      obtain ⟨P1, P2, rfl, rfl, g1, g2, e21, nc, p1, p2, f1, f2, p3, p4, f3, f4⟩ := hcut
      have X1 := I1.out.kept nc.kept
      have X2 := I2.out.kept nc.kept
      have ne := nb.trans nc
      have hwz : w.heap.size ≤ w2.heap.size := nb.size
      clear LIT na hb1 nw0
      apply_assumption
      refine SC.run (pat_body Z1 Z2 o0 o1 hsz hps o2 o3) ?_
      refine Fr.know ?_ rfl rfl
      refine Fr.know ?_ rfl rfl
      refine Fr.know ?_ rfl rfl
      refine Fr.know ?_ rfl rfl
      refine Fr.know ?_ rfl rfl
      refine Fr.bxs ?_ (Ho.two bI (by omega) p1 p2 f1 f2 X1) ?_
      rotate_left
      · intro j b k hj
        rw [look_cons] at hj
        split at hj
        · rename_i e; subst e; intro q; have q : Value.pointer (some ⟨P1, 0, none⟩) = .pointer (some ⟨P2, 0, none⟩) := q; simp at q <;> omega
        · skip
          cases hj
      refine Fr.bxs ?_ (Ho.two bI (by omega) p3 p4 f3 f4 X2) ?_
      rotate_left
      · intro j b k hj
        cases hj
      exact Fr.base rfl rfl ne ne.size
  · have hs : shB 6 ns = false := by simpa using hs
    rw [hs] at hsv
    obtain rfl := hsv
    go_wp2_with (go_at_call 15; refine (awake_c).mono ?_; rintro e w2 ⟨_, rfl, rfl, hb2⟩)
    go_ret
    exact Ret.V ((nw0.trans na).trans hb2)
theorem pat_walk {n1 n2 : Bool} {A1 A2 : Option Addr} {l1 l2 c1 c2 : Nat} {xs1 xs2 : List Int} {op sz ps b : Int} {w : World} (h1 : In w A1 l1 c1 xs1) (h2 : In w A2 l2 c2 xs2) (o : (Lit.int .u8 op).wf = true) (hsz : (Lit.int .u8 sz).wf = true) (hps : (Lit.int .u8 ps).wf = true) (hb : (Lit.int .u16 b).wf = true) :
    Calls Try.prog 11 #[.agg #[.bool n1, .slice A1 l1 c1], .agg #[.bool n2, .slice A2 l2 c2], .int .u8 op, .int .u8 sz, .int .u8 ps, .int .u16 b] w (Ret w (KV (.bool true))) := by
  have a1 := wf_u8 o
  have a2 := wf_u8 hsz
  have a3 := wf_u8 hps
  have a4 := wf_u16 hb
  obtain ⟨k, rfl⟩ : ∃ k : Nat, sz = k := ⟨sz.toNat, by omega⟩
  obtain ⟨p, rfl⟩ : ∃ k : Nat, ps = k := ⟨ps.toNat, by omega⟩
  exact pat_w h1 h2 a1.1 a1.2 (by omega) (by omega) a4.1 a4.2
end Go.Proofs.Ytcgkgcciogibkaa
/- How plain data that came in read. -/
set_option linter.unusedVariables false
set_option linter.unusedSimpArgs false
namespace Go.Proofs.Ytcgkgcciogibkaa
open Go.RowKit Ma
theorem In.nil (W : World) : In W none 0 0 [] := ⟨rfl, Nat.le_refl _, Rd.nil _ _ _, dg_nil _⟩
theorem In.of {W : World} {x : Addr} {l c : Nat} {zs : List Int} (hl : l ≤ c) (hm : c ≤ maxLen) (hz : zs.length = c) (hcell : ∀ i, i < zs.length → W.cell? (x.add i) = some (.int .u32 (zs.getD i 0))) (hw : ∀ n ∈ zs, (Lit.int .u32 n).wf = true) : In W (some x) l c (zs.take l) := by
  have h1 : (zs.take l).length = l := by rw [List.length_take]; omega
  refine ⟨h1.symm, hl, ⟨by rw [h1]; unfold maxLen at hm; omega, fun i hi => ⟨x, rfl, ?_⟩⟩, fun n hn => ?_⟩
  · rw [h1] at hi
    rw [hcell i (by omega)]
    simp only [at0, List.getD_eq_getElem?_getD, List.getElem?_take, hi, if_true]
  · have h2 := hw n (List.mem_of_mem_take hn)
    simp only [Lit.wf, Bool.and_eq_true, decide_eq_true_eq] at h2
    have hm : IntKind.u32.max = 4294967295 := by simp [IntKind.max, IntKind.bits, IntKind.signed]
    have hn : IntKind.u32.min = 0 := by simp [IntKind.min, IntKind.signed]
    rw [hm, hn] at h2
    rw [b32_eq]
    omega
end Go.Proofs.Ytcgkgcciogibkaa
