/- IntegerRing: the first two statements with calls. -/
import Derived.Test.YtcgkgcciogibkaaCa
import Derived.IntWalk
set_option linter.unusedVariables false
set_option linter.unusedSimpArgs false
namespace Go.Proofs.Ytcgkgcciogibkaa
open Go.RowKit Ma

set_option maxHeartbeats 25600000 in
set_option maxRecDepth 100000 in
theorem ring_r5 {z1 z2 z3 : Int} {m1 m2 m3 : Bool} {D1 D2 D3 : Option Addr} {k1 e1 k2 e2 k3 e3 P1 P2 P3 : Nat} {w : World} (p1 : w.cell? ⟨P1, 0, none⟩ = some (.bool m1)) (p2 : w.cell? ⟨P1, 1, none⟩ = some (.slice D1 k1 e1)) (p3 : w.cell? ⟨P2, 0, none⟩ = some (.bool m2)) (p4 : w.cell? ⟨P2, 1, none⟩ = some (.slice D2 k2 e2)) (p5 : w.cell? ⟨P3, 0, none⟩ = some (.bool m3)) (p6 : w.cell? ⟨P3, 1, none⟩ = some (.slice D3 k3 e3))
    (X1 : Hid (RI w m1 D1 k1 e1 z1)) (X2 : Hid (RI w m2 D2 k2 e2 z2)) (X3 : Hid (RI w m3 D3 k3 e3 z3)) (Z1 : bd 8 z1) (Z2 : bd 8 z2) (Z3 : bd 8 z3) (L1 : k1 ≤ 500000) (L2 : k2 ≤ 500000) (L3 : k3 ≤ 500000) {u0 u1 u2 u3 u4 u5 u6 u7 u11 u12 u13 u14 u15 u16 u17 u18 u19 u20 u21 u22 u23 u24 u25 u26 u27 u28 u29 u30 u31 u32 u33 u34 u35 u36 u37 u38 u39 u40 u41 u42 u43 u44 u45 u46 u47 u48 u49 u50 u51 u52 u53 u54 u55 u56 u57 u58 u59 u60 u61 u62 u63 u64 u65 u66 u67 u68 u69 u70 u71 u72 u73 u74 u75 u76 u77 u78 u79 u80 u81 u82 u83 u84 u85 u86 u87 u88 u89 u90 u91 u92 u93 u94 u95 u96 u97 u98 u99 u100 u101 u102 u103 u104 u105 u106 u107 u108 u109 u110 u111 u112 u113 u114 u115 u116 u117 u118 u119 u120 u121 u122 u123 u124 u125 u126 u127 u128 u129 u130 u131 u132 u133 u134 u135 u136 u137 u138 u139 u140 u141 u142 u143 u144 u145 u146 u147 u148 u149 u150 u151 u152 u153 u154 u155 u156 u157 u158 u159 u160 u161 u162 u163 u164 u165 u166 u167 : Value} {Q : Exit → Act → World → Prop}
    (hQ : ∀ (w9 : World) (v32 v33 v34 v35 v36 v37 v38 v39 v40 v41 v42 v43 v44 v45 v46 v47 v48 v49 v50 v51 v52 v53 v54 v55 v56 v57 v58 v59 v60 v61 v62 v63 v64 v65 v66 v67 v68 v69 v70 v71 v72 v73 v74 v75 v76 : Value), Nw w w9 → Q .normal ⟨#[u0, u1, u2, u3, u4, u5, u6, u7, .pointer (some ⟨P1, 0, none⟩), .pointer (some ⟨P2, 0, none⟩), .pointer (some ⟨P3, 0, none⟩), u11, u12, u13, u14, u15, u16, u17, u18, u19, u20, u21, u22, u23, u24, u25, u26, u27, u28, u29, u30, u31, v32, v33, v34, v35, v36, v37, v38, v39, v40, v41, v42, v43, v44, v45, v46, v47, v48, v49, v50, v51, v52, v53, v54, v55, v56, v57, v58, v59, v60, v61, v62, v63, v64, v65, v66, v67, v68, v69, v70, v71, v72, v73, v74, v75, v76, .bool false, u78, u79, u80, u81, u82, u83, u84, u85, u86, u87, u88, u89, u90, u91, u92, u93, u94, u95, u96, u97, u98, u99, u100, u101, u102, u103, u104, u105, u106, u107, u108, u109, u110, u111, u112, u113, u114, u115, u116, u117, u118, u119, u120, u121, u122, u123, u124, u125, u126, u127, u128, u129, u130, u131, u132, u133, u134, u135, u136, u137, u138, u139, u140, u141, u142, u143, u144, u145, u146, u147, u148, u149, u150, u151, u152, u153, u154, u155, u156, u157, u158, u159, u160, u161, u162, u163, u164, u165, u166, u167], []⟩ w9) :
    (regOf 5 Try.f4).wp Try.prog Q ⟨#[u0, u1, u2, u3, u4, u5, u6, u7, .pointer (some ⟨P1, 0, none⟩), .pointer (some ⟨P2, 0, none⟩), .pointer (some ⟨P3, 0, none⟩), u11, u12, u13, u14, u15, u16, u17, u18, u19, u20, u21, u22, u23, u24, u25, u26, u27, u28, u29, u30, u31, u32, u33, u34, u35, u36, u37, u38, u39, u40, u41, u42, u43, u44, u45, u46, u47, u48, u49, u50, u51, u52, u53, u54, u55, u56, u57, u58, u59, u60, u61, u62, u63, u64, u65, u66, u67, u68, u69, u70, u71, u72, u73, u74, u75, u76, u77, u78, u79, u80, u81, u82, u83, u84, u85, u86, u87, u88, u89, u90, u91, u92, u93, u94, u95, u96, u97, u98, u99, u100, u101, u102, u103, u104, u105, u106, u107, u108, u109, u110, u111, u112, u113, u114, u115, u116, u117, u118, u119, u120, u121, u122, u123, u124, u125, u126, u127, u128, u129, u130, u131, u132, u133, u134, u135, u136, u137, u138, u139, u140, u141, u142, u143, u144, u145, u146, u147, u148, u149, u150, u151, u152, u153, u154, u155, u156, u157, u158, u159, u160, u161, u162, u163, u164, u165, u166, u167], []⟩ w := by
  conv => arg 2; whnf
  have ne : Nw w w := Nw.refl w
  have n1 : Nw w _ := ne
  refine region_nw [(2, KI (z1 + z2)), (5, KI (z2 + z1)), (6, KV (.bool true)), (11, KI (z1 * z2)), (14, KI (z2 * z1)), (15, KV (.bool true)), (21, KI (z1 + z2)), (23, KI (z1 + z2 + z3)), (27, KI (z2 + z3)), (28, KI (z1 + (z2 + z3))), (29, KV (.bool true)), (35, KI (z1 * z2)), (37, KI (z1 * z2 * z3)), (41, KI (z2 * z3)), (42, KI (z1 * (z2 * z3))), (43, KV (.bool true))] (by kernel_rfl) (by kernel_rfl) (by kernel_rfl) (by kernel_rfl) ⟨SN.st (KI.st _), SN.st (KI.st _), SN.st (KV.st _), SN.st (KI.st _), SN.st (KI.st _), SN.st (KV.st _), SN.st (KI.st _), SN.st (KI.st _), SN.st (KI.st _), SN.st (KI.st _), SN.st (KV.st _), SN.st (KI.st _), SN.st (KI.st _), SN.st (KI.st _), SN.st (KI.st _), SN.st (KV.st _), trivial⟩ ?_
  iterate 2 (apply Rg.wpK_quiet rfl rfl; (case hq => (intro W hS; have q0 := hS.c p1; have q1 := hS.c p2; have q2 := hS.c p3; have q3 := hS.c p4; have q4 := hS.c p5; have q5 := hS.c p6; go_simp; exact rfl)); (case he => exact rfl); (first | (rw [put_list]; dsimp only [List.set_cons_zero, List.set_cons_succ]) | rw [put_none]))
  apply Rg.wpK_know rfl rfl
  case ha =>
    intro W hR hS hF
    have hn := n1.trans hS
    have q0 := hS.c p1
    have q1 := hS.c p2
    have q2 := hS.c p3
    have q3 := hS.c p4
    have q4 := hS.c p5
    have q5 := hS.c p6
    unfold Rg.gives
    go_simp
    exact Rg.gives_enter (call_nw (add_c (X1.out.kept hS.kept) (X2.out.kept hS.kept) L1 L2))
  intro u hu
  obtain ⟨W0, hw1, hw2, hf⟩ := hu
  obtain ⟨m2, D2, l2, c2, rfl, hx⟩ := Rg.upd_at rfl (hf 2)
  refine ⟨_, rfl, ?_⟩
  (first | (rw [put_list]; dsimp only [List.set_cons_zero, List.set_cons_succ]) | rw [put_none])
  clear hf hw1 hw2 hx W0
  iterate 2 (apply Rg.wpK_quiet rfl rfl; (case hq => (intro W hS; have q0 := hS.c p1; have q1 := hS.c p2; have q2 := hS.c p3; have q3 := hS.c p4; have q4 := hS.c p5; have q5 := hS.c p6; go_simp; exact rfl)); (case he => exact rfl); (first | (rw [put_list]; dsimp only [List.set_cons_zero, List.set_cons_succ]) | rw [put_none]))
  apply Rg.wpK_know rfl rfl
  case ha =>
    intro W hR hS hF
    have hn := n1.trans hS
    have q0 := hS.c p1
    have q1 := hS.c p2
    have q2 := hS.c p3
    have q3 := hS.c p4
    have q4 := hS.c p5
    have q5 := hS.c p6
    unfold Rg.gives
    go_simp
    exact Rg.gives_enter (call_nw (add_c (X2.out.kept hS.kept) (X1.out.kept hS.kept) L2 L1))
  intro u hu
  obtain ⟨W0, hw1, hw2, hf⟩ := hu
  obtain ⟨m5, D5, l5, c5, rfl, hx⟩ := Rg.upd_at rfl (hf 5)
  refine ⟨_, rfl, ?_⟩
  (first | (rw [put_list]; dsimp only [List.set_cons_zero, List.set_cons_succ]) | rw [put_none])
  clear hf hw1 hw2 hx W0
  apply Rg.wpK_know rfl rfl
  case ha =>
    intro W hR hS hF
    have hn := n1.trans hS
    have q0 := hS.c p1
    have q1 := hS.c p2
    have q2 := hS.c p3
    have q3 := hS.c p4
    have q4 := hS.c p5
    have q5 := hS.c p6
    have i2 := KI.agg (Rg.upd_at rfl (Rg.upd_off rfl (hF 2 (by kernel_rfl))))
    have i5 := KI.agg (Rg.upd_at rfl (hF 5 (by kernel_rfl)))
    unfold Rg.gives
    go_simp
    exact Rg.gives_enter (call_nw (same_c i2 i5 (Int.add_comm _ _)))
  intro u hu
  obtain ⟨W0, hw1, hw2, hf⟩ := hu
  obtain rfl := Rg.upd_at rfl (hf 6)
  have hx := trivial
  refine ⟨_, rfl, ?_⟩
  (first | (rw [put_list]; dsimp only [List.set_cons_zero, List.set_cons_succ]) | rw [put_none])
  clear hf hw1 hw2 hx W0
  iterate 4 (apply Rg.wpK_quiet rfl rfl; (case hq => (intro W hS; have q0 := hS.c p1; have q1 := hS.c p2; have q2 := hS.c p3; have q3 := hS.c p4; have q4 := hS.c p5; have q5 := hS.c p6; go_simp; exact rfl)); (case he => exact rfl); (first | (rw [put_list]; dsimp only [List.set_cons_zero, List.set_cons_succ]) | rw [put_none]))
  apply Rg.wpK_know rfl rfl
  case ha =>
    intro W hR hS hF
    have hn := n1.trans hS
    have q0 := hS.c p1
    have q1 := hS.c p2
    have q2 := hS.c p3
    have q3 := hS.c p4
    have q4 := hS.c p5
    have q5 := hS.c p6
    unfold Rg.gives
    go_simp
    exact Rg.gives_enter (call_nw (mul_c (X1.out.kept hS.kept) (X2.out.kept hS.kept) L1 L2))
  intro u hu
  obtain ⟨W0, hw1, hw2, hf⟩ := hu
  obtain ⟨m11, D11, l11, c11, rfl, hx⟩ := Rg.upd_at rfl (hf 11)
  refine ⟨_, rfl, ?_⟩
  (first | (rw [put_list]; dsimp only [List.set_cons_zero, List.set_cons_succ]) | rw [put_none])
  clear hf hw1 hw2 hx W0
  iterate 2 (apply Rg.wpK_quiet rfl rfl; (case hq => (intro W hS; have q0 := hS.c p1; have q1 := hS.c p2; have q2 := hS.c p3; have q3 := hS.c p4; have q4 := hS.c p5; have q5 := hS.c p6; go_simp; exact rfl)); (case he => exact rfl); (first | (rw [put_list]; dsimp only [List.set_cons_zero, List.set_cons_succ]) | rw [put_none]))
  apply Rg.wpK_know rfl rfl
  case ha =>
    intro W hR hS hF
    have hn := n1.trans hS
    have q0 := hS.c p1
    have q1 := hS.c p2
    have q2 := hS.c p3
    have q3 := hS.c p4
    have q4 := hS.c p5
    have q5 := hS.c p6
    unfold Rg.gives
    go_simp
    exact Rg.gives_enter (call_nw (mul_c (X2.out.kept hS.kept) (X1.out.kept hS.kept) L2 L1))
  intro u hu
  obtain ⟨W0, hw1, hw2, hf⟩ := hu
  obtain ⟨m14, D14, l14, c14, rfl, hx⟩ := Rg.upd_at rfl (hf 14)
  refine ⟨_, rfl, ?_⟩
  (first | (rw [put_list]; dsimp only [List.set_cons_zero, List.set_cons_succ]) | rw [put_none])
  clear hf hw1 hw2 hx W0
  apply Rg.wpK_know rfl rfl
  case ha =>
    intro W hR hS hF
    have hn := n1.trans hS
    have q0 := hS.c p1
    have q1 := hS.c p2
    have q2 := hS.c p3
    have q3 := hS.c p4
    have q4 := hS.c p5
    have q5 := hS.c p6
    have i11 := KI.agg (Rg.upd_at rfl (Rg.upd_off rfl (hF 11 (by kernel_rfl))))
    have i14 := KI.agg (Rg.upd_at rfl (hF 14 (by kernel_rfl)))
    unfold Rg.gives
    go_simp
    exact Rg.gives_enter (call_nw (same_c i11 i14 (Int.mul_comm _ _)))
  intro u hu
  obtain ⟨W0, hw1, hw2, hf⟩ := hu
  obtain rfl := Rg.upd_at rfl (hf 15)
  have hx := trivial
  refine ⟨_, rfl, ?_⟩
  (first | (rw [put_list]; dsimp only [List.set_cons_zero, List.set_cons_succ]) | rw [put_none])
  clear hf hw1 hw2 hx W0
  iterate 5 (apply Rg.wpK_quiet rfl rfl; (case hq => (intro W hS; have q0 := hS.c p1; have q1 := hS.c p2; have q2 := hS.c p3; have q3 := hS.c p4; have q4 := hS.c p5; have q5 := hS.c p6; go_simp; exact rfl)); (case he => exact rfl); (first | (rw [put_list]; dsimp only [List.set_cons_zero, List.set_cons_succ]) | rw [put_none]))
  apply Rg.wpK_know rfl rfl
  case ha =>
    intro W hR hS hF
    have hn := n1.trans hS
    have q0 := hS.c p1
    have q1 := hS.c p2
    have q2 := hS.c p3
    have q3 := hS.c p4
    have q4 := hS.c p5
    have q5 := hS.c p6
    unfold Rg.gives
    go_simp
    exact Rg.gives_enter (call_nw (add_c (X1.out.kept hS.kept) (X2.out.kept hS.kept) L1 L2))
  intro u hu
  obtain ⟨W0, hw1, hw2, hf⟩ := hu
  obtain ⟨m21, D21, l21, c21, rfl, hx⟩ := Rg.upd_at rfl (hf 21)
  refine ⟨_, rfl, ?_⟩
  (first | (rw [put_list]; dsimp only [List.set_cons_zero, List.set_cons_succ]) | rw [put_none])
  clear hf hw1 hw2 hx W0
  iterate 1 (apply Rg.wpK_quiet rfl rfl; (case hq => (intro W hS; have q0 := hS.c p1; have q1 := hS.c p2; have q2 := hS.c p3; have q3 := hS.c p4; have q4 := hS.c p5; have q5 := hS.c p6; go_simp; exact rfl)); (case he => exact rfl); (first | (rw [put_list]; dsimp only [List.set_cons_zero, List.set_cons_succ]) | rw [put_none]))
  apply Rg.wpK_know rfl rfl
  case ha =>
    intro W hR hS hF
    have hn := n1.trans hS
    have q0 := hS.c p1
    have q1 := hS.c p2
    have q2 := hS.c p3
    have q3 := hS.c p4
    have q4 := hS.c p5
    have q5 := hS.c p6
    have i21 := KI.agg (Rg.upd_at rfl (hF 21 (by kernel_rfl)))
    unfold Rg.gives
    go_simp
    exact Rg.gives_enter (call_nw (add_c i21 (X3.out.kept hS.kept) (i21.le5 (Z1.add Z2) (by decide)) L3))
  intro u hu
  obtain ⟨W0, hw1, hw2, hf⟩ := hu
  obtain ⟨m23, D23, l23, c23, rfl, hx⟩ := Rg.upd_at rfl (hf 23)
  refine ⟨_, rfl, ?_⟩
  (first | (rw [put_list]; dsimp only [List.set_cons_zero, List.set_cons_succ]) | rw [put_none])
  clear hf hw1 hw2 hx W0
  iterate 3 (apply Rg.wpK_quiet rfl rfl; (case hq => (intro W hS; have q0 := hS.c p1; have q1 := hS.c p2; have q2 := hS.c p3; have q3 := hS.c p4; have q4 := hS.c p5; have q5 := hS.c p6; go_simp; exact rfl)); (case he => exact rfl); (first | (rw [put_list]; dsimp only [List.set_cons_zero, List.set_cons_succ]) | rw [put_none]))
  apply Rg.wpK_know rfl rfl
  case ha =>
    intro W hR hS hF
    have hn := n1.trans hS
    have q0 := hS.c p1
    have q1 := hS.c p2
    have q2 := hS.c p3
    have q3 := hS.c p4
    have q4 := hS.c p5
    have q5 := hS.c p6
    unfold Rg.gives
    go_simp
    exact Rg.gives_enter (call_nw (add_c (X2.out.kept hS.kept) (X3.out.kept hS.kept) L2 L3))
  intro u hu
  obtain ⟨W0, hw1, hw2, hf⟩ := hu
  obtain ⟨m27, D27, l27, c27, rfl, hx⟩ := Rg.upd_at rfl (hf 27)
  refine ⟨_, rfl, ?_⟩
  (first | (rw [put_list]; dsimp only [List.set_cons_zero, List.set_cons_succ]) | rw [put_none])
  clear hf hw1 hw2 hx W0
  apply Rg.wpK_know rfl rfl
  case ha =>
    intro W hR hS hF
    have hn := n1.trans hS
    have q0 := hS.c p1
    have q1 := hS.c p2
    have q2 := hS.c p3
    have q3 := hS.c p4
    have q4 := hS.c p5
    have q5 := hS.c p6
    have i27 := KI.agg (Rg.upd_at rfl (hF 27 (by kernel_rfl)))
    unfold Rg.gives
    go_simp
    exact Rg.gives_enter (call_nw (add_c (X1.out.kept hS.kept) i27 L1 (i27.le5 (Z2.add Z3) (by decide))))
  intro u hu
  obtain ⟨W0, hw1, hw2, hf⟩ := hu
  obtain ⟨m28, D28, l28, c28, rfl, hx⟩ := Rg.upd_at rfl (hf 28)
  refine ⟨_, rfl, ?_⟩
  (first | (rw [put_list]; dsimp only [List.set_cons_zero, List.set_cons_succ]) | rw [put_none])
  clear hf hw1 hw2 hx W0
  apply Rg.wpK_know rfl rfl
  case ha =>
    intro W hR hS hF
    have hn := n1.trans hS
    have q0 := hS.c p1
    have q1 := hS.c p2
    have q2 := hS.c p3
    have q3 := hS.c p4
    have q4 := hS.c p5
    have q5 := hS.c p6
    have i23 := KI.agg (Rg.upd_at rfl (Rg.upd_off rfl (Rg.upd_off rfl (hF 23 (by kernel_rfl)))))
    have i28 := KI.agg (Rg.upd_at rfl (hF 28 (by kernel_rfl)))
    unfold Rg.gives
    go_simp
    exact Rg.gives_enter (call_nw (same_c i23 i28 (Int.add_assoc _ _ _)))
  intro u hu
  obtain ⟨W0, hw1, hw2, hf⟩ := hu
  obtain rfl := Rg.upd_at rfl (hf 29)
  have hx := trivial
  refine ⟨_, rfl, ?_⟩
  (first | (rw [put_list]; dsimp only [List.set_cons_zero, List.set_cons_succ]) | rw [put_none])
  clear hf hw1 hw2 hx W0
  iterate 5 (apply Rg.wpK_quiet rfl rfl; (case hq => (intro W hS; have q0 := hS.c p1; have q1 := hS.c p2; have q2 := hS.c p3; have q3 := hS.c p4; have q4 := hS.c p5; have q5 := hS.c p6; go_simp; exact rfl)); (case he => exact rfl); (first | (rw [put_list]; dsimp only [List.set_cons_zero, List.set_cons_succ]) | rw [put_none]))
  apply Rg.wpK_know rfl rfl
  case ha =>
    intro W hR hS hF
    have hn := n1.trans hS
    have q0 := hS.c p1
    have q1 := hS.c p2
    have q2 := hS.c p3
    have q3 := hS.c p4
    have q4 := hS.c p5
    have q5 := hS.c p6
    unfold Rg.gives
    go_simp
    exact Rg.gives_enter (call_nw (mul_c (X1.out.kept hS.kept) (X2.out.kept hS.kept) L1 L2))
  intro u hu
  obtain ⟨W0, hw1, hw2, hf⟩ := hu
  obtain ⟨m35, D35, l35, c35, rfl, hx⟩ := Rg.upd_at rfl (hf 35)
  refine ⟨_, rfl, ?_⟩
  (first | (rw [put_list]; dsimp only [List.set_cons_zero, List.set_cons_succ]) | rw [put_none])
  clear hf hw1 hw2 hx W0
  iterate 1 (apply Rg.wpK_quiet rfl rfl; (case hq => (intro W hS; have q0 := hS.c p1; have q1 := hS.c p2; have q2 := hS.c p3; have q3 := hS.c p4; have q4 := hS.c p5; have q5 := hS.c p6; go_simp; exact rfl)); (case he => exact rfl); (first | (rw [put_list]; dsimp only [List.set_cons_zero, List.set_cons_succ]) | rw [put_none]))
  apply Rg.wpK_know rfl rfl
  case ha =>
    intro W hR hS hF
    have hn := n1.trans hS
    have q0 := hS.c p1
    have q1 := hS.c p2
    have q2 := hS.c p3
    have q3 := hS.c p4
    have q4 := hS.c p5
    have q5 := hS.c p6
    have i35 := KI.agg (Rg.upd_at rfl (hF 35 (by kernel_rfl)))
    unfold Rg.gives
    go_simp
    exact Rg.gives_enter (call_nw (mul_c i35 (X3.out.kept hS.kept) (i35.le5 (Z1.mul Z2) (by decide)) L3))
  intro u hu
  obtain ⟨W0, hw1, hw2, hf⟩ := hu
  obtain ⟨m37, D37, l37, c37, rfl, hx⟩ := Rg.upd_at rfl (hf 37)
  refine ⟨_, rfl, ?_⟩
  (first | (rw [put_list]; dsimp only [List.set_cons_zero, List.set_cons_succ]) | rw [put_none])
  clear hf hw1 hw2 hx W0
  iterate 3 (apply Rg.wpK_quiet rfl rfl; (case hq => (intro W hS; have q0 := hS.c p1; have q1 := hS.c p2; have q2 := hS.c p3; have q3 := hS.c p4; have q4 := hS.c p5; have q5 := hS.c p6; go_simp; exact rfl)); (case he => exact rfl); (first | (rw [put_list]; dsimp only [List.set_cons_zero, List.set_cons_succ]) | rw [put_none]))
  apply Rg.wpK_know rfl rfl
  case ha =>
    intro W hR hS hF
    have hn := n1.trans hS
    have q0 := hS.c p1
    have q1 := hS.c p2
    have q2 := hS.c p3
    have q3 := hS.c p4
    have q4 := hS.c p5
    have q5 := hS.c p6
    unfold Rg.gives
    go_simp
    exact Rg.gives_enter (call_nw (mul_c (X2.out.kept hS.kept) (X3.out.kept hS.kept) L2 L3))
  intro u hu
  obtain ⟨W0, hw1, hw2, hf⟩ := hu
  obtain ⟨m41, D41, l41, c41, rfl, hx⟩ := Rg.upd_at rfl (hf 41)
  refine ⟨_, rfl, ?_⟩
  (first | (rw [put_list]; dsimp only [List.set_cons_zero, List.set_cons_succ]) | rw [put_none])
  clear hf hw1 hw2 hx W0
  apply Rg.wpK_know rfl rfl
  case ha =>
    intro W hR hS hF
    have hn := n1.trans hS
    have q0 := hS.c p1
    have q1 := hS.c p2
    have q2 := hS.c p3
    have q3 := hS.c p4
    have q4 := hS.c p5
    have q5 := hS.c p6
    have i41 := KI.agg (Rg.upd_at rfl (hF 41 (by kernel_rfl)))
    unfold Rg.gives
    go_simp
    exact Rg.gives_enter (call_nw (mul_c (X1.out.kept hS.kept) i41 L1 (i41.le5 (Z2.mul Z3) (by decide))))
  intro u hu
  obtain ⟨W0, hw1, hw2, hf⟩ := hu
  obtain ⟨m42, D42, l42, c42, rfl, hx⟩ := Rg.upd_at rfl (hf 42)
  refine ⟨_, rfl, ?_⟩
  (first | (rw [put_list]; dsimp only [List.set_cons_zero, List.set_cons_succ]) | rw [put_none])
  clear hf hw1 hw2 hx W0
  apply Rg.wpK_know rfl rfl
  case ha =>
    intro W hR hS hF
    have hn := n1.trans hS
    have q0 := hS.c p1
    have q1 := hS.c p2
    have q2 := hS.c p3
    have q3 := hS.c p4
    have q4 := hS.c p5
    have q5 := hS.c p6
    have i37 := KI.agg (Rg.upd_at rfl (Rg.upd_off rfl (Rg.upd_off rfl (hF 37 (by kernel_rfl)))))
    have i42 := KI.agg (Rg.upd_at rfl (hF 42 (by kernel_rfl)))
    unfold Rg.gives
    go_simp
    exact Rg.gives_enter (call_nw (same_c i37 i42 (Int.mul_assoc _ _ _)))
  intro u hu
  obtain ⟨W0, hw1, hw2, hf⟩ := hu
  obtain rfl := Rg.upd_at rfl (hf 43)
  have hx := trivial
  refine ⟨_, rfl, ?_⟩
  (first | (rw [put_list]; dsimp only [List.set_cons_zero, List.set_cons_succ]) | rw [put_none])
  clear hf hw1 hw2 hx W0
  iterate 2 (apply Rg.wpK_quiet rfl rfl; (case hq => (intro W hS; have q0 := hS.c p1; have q1 := hS.c p2; have q2 := hS.c p3; have q3 := hS.c p4; have q4 := hS.c p5; have q5 := hS.c p6; go_simp; exact rfl)); (case he => exact rfl); (first | (rw [put_list]; dsimp only [List.set_cons_zero, List.set_cons_succ]) | rw [put_none]))
  refine Rg.wpK_end fun w9 hR hS hF => ?_
  have hn := n1.trans hS
  have i2 := KI.agg (Rg.upd_at rfl (Rg.upd_off rfl (Rg.upd_off rfl (Rg.upd_off rfl (Rg.upd_off rfl (Rg.upd_off rfl (Rg.upd_off rfl (Rg.upd_off rfl (Rg.upd_off rfl (Rg.upd_off rfl (Rg.upd_off rfl (Rg.upd_off rfl (Rg.upd_off rfl (Rg.upd_off rfl (Rg.upd_off rfl (Rg.upd_off rfl (hF 2)))))))))))))))))
  have i5 := KI.agg (Rg.upd_at rfl (Rg.upd_off rfl (Rg.upd_off rfl (Rg.upd_off rfl (Rg.upd_off rfl (Rg.upd_off rfl (Rg.upd_off rfl (Rg.upd_off rfl (Rg.upd_off rfl (Rg.upd_off rfl (Rg.upd_off rfl (Rg.upd_off rfl (Rg.upd_off rfl (Rg.upd_off rfl (Rg.upd_off rfl (hF 5))))))))))))))))
  have i11 := KI.agg (Rg.upd_at rfl (Rg.upd_off rfl (Rg.upd_off rfl (Rg.upd_off rfl (Rg.upd_off rfl (Rg.upd_off rfl (Rg.upd_off rfl (Rg.upd_off rfl (Rg.upd_off rfl (Rg.upd_off rfl (Rg.upd_off rfl (Rg.upd_off rfl (Rg.upd_off rfl (hF 11))))))))))))))
  have i14 := KI.agg (Rg.upd_at rfl (Rg.upd_off rfl (Rg.upd_off rfl (Rg.upd_off rfl (Rg.upd_off rfl (Rg.upd_off rfl (Rg.upd_off rfl (Rg.upd_off rfl (Rg.upd_off rfl (Rg.upd_off rfl (Rg.upd_off rfl (Rg.upd_off rfl (hF 14)))))))))))))
  have i21 := KI.agg (Rg.upd_at rfl (Rg.upd_off rfl (Rg.upd_off rfl (Rg.upd_off rfl (Rg.upd_off rfl (Rg.upd_off rfl (Rg.upd_off rfl (Rg.upd_off rfl (Rg.upd_off rfl (Rg.upd_off rfl (hF 21)))))))))))
  have i23 := KI.agg (Rg.upd_at rfl (Rg.upd_off rfl (Rg.upd_off rfl (Rg.upd_off rfl (Rg.upd_off rfl (Rg.upd_off rfl (Rg.upd_off rfl (Rg.upd_off rfl (Rg.upd_off rfl (hF 23))))))))))
  have i27 := KI.agg (Rg.upd_at rfl (Rg.upd_off rfl (Rg.upd_off rfl (Rg.upd_off rfl (Rg.upd_off rfl (Rg.upd_off rfl (Rg.upd_off rfl (Rg.upd_off rfl (hF 27)))))))))
  have i28 := KI.agg (Rg.upd_at rfl (Rg.upd_off rfl (Rg.upd_off rfl (Rg.upd_off rfl (Rg.upd_off rfl (Rg.upd_off rfl (Rg.upd_off rfl (hF 28))))))))
  have i35 := KI.agg (Rg.upd_at rfl (Rg.upd_off rfl (Rg.upd_off rfl (Rg.upd_off rfl (Rg.upd_off rfl (hF 35))))))
  have i37 := KI.agg (Rg.upd_at rfl (Rg.upd_off rfl (Rg.upd_off rfl (Rg.upd_off rfl (hF 37)))))
  have i41 := KI.agg (Rg.upd_at rfl (Rg.upd_off rfl (Rg.upd_off rfl (hF 41))))
  have i42 := KI.agg (Rg.upd_at rfl (Rg.upd_off rfl (hF 42)))
  clear hF hR
  exact hQ w9 _ _ _ _ _ _ _ _ _ _ _ _ _ _ _ _ _ _ _ _ _ _ _ _ _ _ _ _ _ _ _ _ _ _ _ _ _ _ _ _ _ _ _ _ _ hS
set_option maxHeartbeats 25600000 in
set_option maxRecDepth 100000 in
theorem ring_r7 {z1 z2 z3 : Int} {m1 m2 m3 : Bool} {D1 D2 D3 : Option Addr} {k1 e1 k2 e2 k3 e3 P1 P2 P3 : Nat} {w : World} (p1 : w.cell? ⟨P1, 0, none⟩ = some (.bool m1)) (p2 : w.cell? ⟨P1, 1, none⟩ = some (.slice D1 k1 e1)) (p3 : w.cell? ⟨P2, 0, none⟩ = some (.bool m2)) (p4 : w.cell? ⟨P2, 1, none⟩ = some (.slice D2 k2 e2)) (p5 : w.cell? ⟨P3, 0, none⟩ = some (.bool m3)) (p6 : w.cell? ⟨P3, 1, none⟩ = some (.slice D3 k3 e3))
    (X1 : Hid (RI w m1 D1 k1 e1 z1)) (X2 : Hid (RI w m2 D2 k2 e2 z2)) (X3 : Hid (RI w m3 D3 k3 e3 z3)) (Z1 : bd 8 z1) (Z2 : bd 8 z2) (Z3 : bd 8 z3) (L1 : k1 ≤ 500000) (L2 : k2 ≤ 500000) (L3 : k3 ≤ 500000) {u0 u1 u2 u3 u4 u5 u6 u7 u11 u12 u13 u14 u15 u16 u17 u18 u19 u20 u21 u22 u23 u24 u25 u26 u27 u28 u29 u30 u31 u32 u33 u34 u35 u36 u37 u38 u39 u40 u41 u42 u43 u44 u45 u46 u47 u48 u49 u50 u51 u52 u53 u54 u55 u56 u57 u58 u59 u60 u61 u62 u63 u64 u65 u66 u67 u68 u69 u70 u71 u72 u73 u74 u75 u76 u77 u78 u79 u80 u81 u82 u83 u84 u85 u86 u87 u88 u89 u90 u91 u92 u93 u94 u95 u96 u97 u98 u99 u100 u101 u102 u103 u104 u105 u106 u107 u108 u109 u110 u111 u112 u113 u114 u115 u116 u117 u118 u119 u120 u121 u122 u123 u124 u125 u126 u127 u128 u129 u130 u131 u132 u133 u134 u135 u136 u137 u138 u139 u140 u141 u142 u143 u144 u145 u146 u147 u148 u149 u150 u151 u152 u153 u154 u155 u156 u157 u158 u159 u160 u161 u162 u163 u164 u165 u166 u167 : Value} {Q : Exit → Act → World → Prop}
    (hQ : ∀ (w9 : World) (v78 v79 v80 v81 v82 v83 v84 v85 v86 v87 v88 v89 v90 v91 v92 v93 v94 v95 v96 v97 v98 v99 v100 v101 v102 v103 v104 v105 v106 v107 v108 : Value), Nw w w9 → Q .normal ⟨#[u0, u1, u2, u3, u4, u5, u6, u7, .pointer (some ⟨P1, 0, none⟩), .pointer (some ⟨P2, 0, none⟩), .pointer (some ⟨P3, 0, none⟩), u11, u12, u13, u14, u15, u16, u17, u18, u19, u20, u21, u22, u23, u24, u25, u26, u27, u28, u29, u30, u31, u32, u33, u34, u35, u36, u37, u38, u39, u40, u41, u42, u43, u44, u45, u46, u47, u48, u49, u50, u51, u52, u53, u54, u55, u56, u57, u58, u59, u60, u61, u62, u63, u64, u65, u66, u67, u68, u69, u70, u71, u72, u73, u74, u75, u76, u77, v78, v79, v80, v81, v82, v83, v84, v85, v86, v87, v88, v89, v90, v91, v92, v93, v94, v95, v96, v97, v98, v99, v100, v101, v102, v103, v104, v105, v106, v107, v108, .bool false, u110, u111, u112, u113, u114, u115, u116, u117, u118, u119, u120, u121, u122, u123, u124, u125, u126, u127, u128, u129, u130, u131, u132, u133, u134, u135, u136, u137, u138, u139, u140, u141, u142, u143, u144, u145, u146, u147, u148, u149, u150, u151, u152, u153, u154, u155, u156, u157, u158, u159, u160, u161, u162, u163, u164, u165, u166, u167], []⟩ w9) :
    (regOf 7 Try.f4).wp Try.prog Q ⟨#[u0, u1, u2, u3, u4, u5, u6, u7, .pointer (some ⟨P1, 0, none⟩), .pointer (some ⟨P2, 0, none⟩), .pointer (some ⟨P3, 0, none⟩), u11, u12, u13, u14, u15, u16, u17, u18, u19, u20, u21, u22, u23, u24, u25, u26, u27, u28, u29, u30, u31, u32, u33, u34, u35, u36, u37, u38, u39, u40, u41, u42, u43, u44, u45, u46, u47, u48, u49, u50, u51, u52, u53, u54, u55, u56, u57, u58, u59, u60, u61, u62, u63, u64, u65, u66, u67, u68, u69, u70, u71, u72, u73, u74, u75, u76, u77, u78, u79, u80, u81, u82, u83, u84, u85, u86, u87, u88, u89, u90, u91, u92, u93, u94, u95, u96, u97, u98, u99, u100, u101, u102, u103, u104, u105, u106, u107, u108, u109, u110, u111, u112, u113, u114, u115, u116, u117, u118, u119, u120, u121, u122, u123, u124, u125, u126, u127, u128, u129, u130, u131, u132, u133, u134, u135, u136, u137, u138, u139, u140, u141, u142, u143, u144, u145, u146, u147, u148, u149, u150, u151, u152, u153, u154, u155, u156, u157, u158, u159, u160, u161, u162, u163, u164, u165, u166, u167], []⟩ w := by
  conv => arg 2; whnf
  have ne : Nw w w := Nw.refl w
  have n1 : Nw w _ := ne
  refine region_nw [(3, KI (z2 + z3)), (4, KI (z1 * (z2 + z3))), (7, KI (z1 * z2)), (10, KI (z1 * z3)), (11, KI (z1 * z2 + z1 * z3)), (12, KV (.bool true)), (17, KI (z1 + z2)), (19, KI (z1)), (21, KV (.bool true)), (27, KI (0)), (29, KV (.bool true))] (by kernel_rfl) (by kernel_rfl) (by kernel_rfl) (by kernel_rfl) ⟨SN.st (KI.st _), SN.st (KI.st _), SN.st (KI.st _), SN.st (KI.st _), SN.st (KI.st _), SN.st (KV.st _), SN.st (KI.st _), SN.st (KI.st _), SN.st (KV.st _), SN.st (KI.st _), SN.st (KV.st _), trivial⟩ ?_
  iterate 3 (apply Rg.wpK_quiet rfl rfl; (case hq => (intro W hS; have q0 := hS.c p1; have q1 := hS.c p2; have q2 := hS.c p3; have q3 := hS.c p4; have q4 := hS.c p5; have q5 := hS.c p6; go_simp; exact rfl)); (case he => exact rfl); (first | (rw [put_list]; dsimp only [List.set_cons_zero, List.set_cons_succ]) | rw [put_none]))
  apply Rg.wpK_know rfl rfl
  case ha =>
    intro W hR hS hF
    have hn := n1.trans hS
    have q0 := hS.c p1
    have q1 := hS.c p2
    have q2 := hS.c p3
    have q3 := hS.c p4
    have q4 := hS.c p5
    have q5 := hS.c p6
    unfold Rg.gives
    go_simp
    exact Rg.gives_enter (call_nw (add_c (X2.out.kept hS.kept) (X3.out.kept hS.kept) L2 L3))
  intro u hu
  obtain ⟨W0, hw1, hw2, hf⟩ := hu
  obtain ⟨m3, D3, l3, c3, rfl, hx⟩ := Rg.upd_at rfl (hf 3)
  refine ⟨_, rfl, ?_⟩
  (first | (rw [put_list]; dsimp only [List.set_cons_zero, List.set_cons_succ]) | rw [put_none])
  clear hf hw1 hw2 hx W0
  apply Rg.wpK_know rfl rfl
  case ha =>
    intro W hR hS hF
    have hn := n1.trans hS
    have q0 := hS.c p1
    have q1 := hS.c p2
    have q2 := hS.c p3
    have q3 := hS.c p4
    have q4 := hS.c p5
    have q5 := hS.c p6
    have i3 := KI.agg (Rg.upd_at rfl (hF 3 (by kernel_rfl)))
    unfold Rg.gives
    go_simp
    exact Rg.gives_enter (call_nw (mul_c (X1.out.kept hS.kept) i3 L1 (i3.le5 (Z2.add Z3) (by decide))))
  intro u hu
  obtain ⟨W0, hw1, hw2, hf⟩ := hu
  obtain ⟨m4, D4, l4, c4, rfl, hx⟩ := Rg.upd_at rfl (hf 4)
  refine ⟨_, rfl, ?_⟩
  (first | (rw [put_list]; dsimp only [List.set_cons_zero, List.set_cons_succ]) | rw [put_none])
  clear hf hw1 hw2 hx W0
  iterate 2 (apply Rg.wpK_quiet rfl rfl; (case hq => (intro W hS; have q0 := hS.c p1; have q1 := hS.c p2; have q2 := hS.c p3; have q3 := hS.c p4; have q4 := hS.c p5; have q5 := hS.c p6; go_simp; exact rfl)); (case he => exact rfl); (first | (rw [put_list]; dsimp only [List.set_cons_zero, List.set_cons_succ]) | rw [put_none]))
  apply Rg.wpK_know rfl rfl
  case ha =>
    intro W hR hS hF
    have hn := n1.trans hS
    have q0 := hS.c p1
    have q1 := hS.c p2
    have q2 := hS.c p3
    have q3 := hS.c p4
    have q4 := hS.c p5
    have q5 := hS.c p6
    unfold Rg.gives
    go_simp
    exact Rg.gives_enter (call_nw (mul_c (X1.out.kept hS.kept) (X2.out.kept hS.kept) L1 L2))
  intro u hu
  obtain ⟨W0, hw1, hw2, hf⟩ := hu
  obtain ⟨m7, D7, l7, c7, rfl, hx⟩ := Rg.upd_at rfl (hf 7)
  refine ⟨_, rfl, ?_⟩
  (first | (rw [put_list]; dsimp only [List.set_cons_zero, List.set_cons_succ]) | rw [put_none])
  clear hf hw1 hw2 hx W0
  iterate 2 (apply Rg.wpK_quiet rfl rfl; (case hq => (intro W hS; have q0 := hS.c p1; have q1 := hS.c p2; have q2 := hS.c p3; have q3 := hS.c p4; have q4 := hS.c p5; have q5 := hS.c p6; go_simp; exact rfl)); (case he => exact rfl); (first | (rw [put_list]; dsimp only [List.set_cons_zero, List.set_cons_succ]) | rw [put_none]))
  apply Rg.wpK_know rfl rfl
  case ha =>
    intro W hR hS hF
    have hn := n1.trans hS
    have q0 := hS.c p1
    have q1 := hS.c p2
    have q2 := hS.c p3
    have q3 := hS.c p4
    have q4 := hS.c p5
    have q5 := hS.c p6
    unfold Rg.gives
    go_simp
    exact Rg.gives_enter (call_nw (mul_c (X1.out.kept hS.kept) (X3.out.kept hS.kept) L1 L3))
  intro u hu
  obtain ⟨W0, hw1, hw2, hf⟩ := hu
  obtain ⟨m10, D10, l10, c10, rfl, hx⟩ := Rg.upd_at rfl (hf 10)
  refine ⟨_, rfl, ?_⟩
  (first | (rw [put_list]; dsimp only [List.set_cons_zero, List.set_cons_succ]) | rw [put_none])
  clear hf hw1 hw2 hx W0
  apply Rg.wpK_know rfl rfl
  case ha =>
    intro W hR hS hF
    have hn := n1.trans hS
    have q0 := hS.c p1
    have q1 := hS.c p2
    have q2 := hS.c p3
    have q3 := hS.c p4
    have q4 := hS.c p5
    have q5 := hS.c p6
    have i7 := KI.agg (Rg.upd_at rfl (Rg.upd_off rfl (hF 7 (by kernel_rfl))))
    have i10 := KI.agg (Rg.upd_at rfl (hF 10 (by kernel_rfl)))
    unfold Rg.gives
    go_simp
    exact Rg.gives_enter (call_nw (add_c i7 i10 (i7.le5 (Z1.mul Z2) (by decide)) (i10.le5 (Z1.mul Z3) (by decide))))
  intro u hu
  obtain ⟨W0, hw1, hw2, hf⟩ := hu
  obtain ⟨m11, D11, l11, c11, rfl, hx⟩ := Rg.upd_at rfl (hf 11)
  refine ⟨_, rfl, ?_⟩
  (first | (rw [put_list]; dsimp only [List.set_cons_zero, List.set_cons_succ]) | rw [put_none])
  clear hf hw1 hw2 hx W0
  apply Rg.wpK_know rfl rfl
  case ha =>
    intro W hR hS hF
    have hn := n1.trans hS
    have q0 := hS.c p1
    have q1 := hS.c p2
    have q2 := hS.c p3
    have q3 := hS.c p4
    have q4 := hS.c p5
    have q5 := hS.c p6
    have i4 := KI.agg (Rg.upd_at rfl (Rg.upd_off rfl (Rg.upd_off rfl (Rg.upd_off rfl (hF 4 (by kernel_rfl))))))
    have i11 := KI.agg (Rg.upd_at rfl (hF 11 (by kernel_rfl)))
    unfold Rg.gives
    go_simp
    exact Rg.gives_enter (call_nw (same_c i4 i11 (Int.mul_add _ _ _)))
  intro u hu
  obtain ⟨W0, hw1, hw2, hf⟩ := hu
  obtain rfl := Rg.upd_at rfl (hf 12)
  have hx := trivial
  refine ⟨_, rfl, ?_⟩
  (first | (rw [put_list]; dsimp only [List.set_cons_zero, List.set_cons_succ]) | rw [put_none])
  clear hf hw1 hw2 hx W0
  iterate 4 (apply Rg.wpK_quiet rfl rfl; (case hq => (intro W hS; have q0 := hS.c p1; have q1 := hS.c p2; have q2 := hS.c p3; have q3 := hS.c p4; have q4 := hS.c p5; have q5 := hS.c p6; go_simp; exact rfl)); (case he => exact rfl); (first | (rw [put_list]; dsimp only [List.set_cons_zero, List.set_cons_succ]) | rw [put_none]))
  apply Rg.wpK_know rfl rfl
  case ha =>
    intro W hR hS hF
    have hn := n1.trans hS
    have q0 := hS.c p1
    have q1 := hS.c p2
    have q2 := hS.c p3
    have q3 := hS.c p4
    have q4 := hS.c p5
    have q5 := hS.c p6
    unfold Rg.gives
    go_simp
    exact Rg.gives_enter (call_nw (add_c (X1.out.kept hS.kept) (X2.out.kept hS.kept) L1 L2))
  intro u hu
  obtain ⟨W0, hw1, hw2, hf⟩ := hu
  obtain ⟨m17, D17, l17, c17, rfl, hx⟩ := Rg.upd_at rfl (hf 17)
  refine ⟨_, rfl, ?_⟩
  (first | (rw [put_list]; dsimp only [List.set_cons_zero, List.set_cons_succ]) | rw [put_none])
  clear hf hw1 hw2 hx W0
  iterate 1 (apply Rg.wpK_quiet rfl rfl; (case hq => (intro W hS; have q0 := hS.c p1; have q1 := hS.c p2; have q2 := hS.c p3; have q3 := hS.c p4; have q4 := hS.c p5; have q5 := hS.c p6; go_simp; exact rfl)); (case he => exact rfl); (first | (rw [put_list]; dsimp only [List.set_cons_zero, List.set_cons_succ]) | rw [put_none]))
  apply Rg.wpK_know rfl rfl
  case ha =>
    intro W hR hS hF
    have hn := n1.trans hS
    have q0 := hS.c p1
    have q1 := hS.c p2
    have q2 := hS.c p3
    have q3 := hS.c p4
    have q4 := hS.c p5
    have q5 := hS.c p6
    have i17 := KI.agg (Rg.upd_at rfl (hF 17 (by kernel_rfl)))
    unfold Rg.gives
    go_simp
    exact Rg.gives_enter (call_nw (ret_eq (sub_c i17 (X2.out.kept hS.kept) (i17.le5 (Z1.add Z2) (by decide)) L2) (by rw [show z1 + z2 - z2 = z1 by omega])))
  intro u hu
  obtain ⟨W0, hw1, hw2, hf⟩ := hu
  obtain ⟨m19, D19, l19, c19, rfl, hx⟩ := Rg.upd_at rfl (hf 19)
  refine ⟨_, rfl, ?_⟩
  (first | (rw [put_list]; dsimp only [List.set_cons_zero, List.set_cons_succ]) | rw [put_none])
  clear hf hw1 hw2 hx W0
  iterate 1 (apply Rg.wpK_quiet rfl rfl; (case hq => (intro W hS; have q0 := hS.c p1; have q1 := hS.c p2; have q2 := hS.c p3; have q3 := hS.c p4; have q4 := hS.c p5; have q5 := hS.c p6; go_simp; exact rfl)); (case he => exact rfl); (first | (rw [put_list]; dsimp only [List.set_cons_zero, List.set_cons_succ]) | rw [put_none]))
  apply Rg.wpK_know rfl rfl
  case ha =>
    intro W hR hS hF
    have hn := n1.trans hS
    have q0 := hS.c p1
    have q1 := hS.c p2
    have q2 := hS.c p3
    have q3 := hS.c p4
    have q4 := hS.c p5
    have q5 := hS.c p6
    have i19 := KI.agg (Rg.upd_at rfl (hF 19 (by kernel_rfl)))
    unfold Rg.gives
    go_simp
    exact Rg.gives_enter (call_nw (same_c i19 (X1.out.kept hS.kept) rfl))
  intro u hu
  obtain ⟨W0, hw1, hw2, hf⟩ := hu
  obtain rfl := Rg.upd_at rfl (hf 21)
  have hx := trivial
  refine ⟨_, rfl, ?_⟩
  (first | (rw [put_list]; dsimp only [List.set_cons_zero, List.set_cons_succ]) | rw [put_none])
  clear hf hw1 hw2 hx W0
  iterate 5 (apply Rg.wpK_quiet rfl rfl; (case hq => (intro W hS; have q0 := hS.c p1; have q1 := hS.c p2; have q2 := hS.c p3; have q3 := hS.c p4; have q4 := hS.c p5; have q5 := hS.c p6; go_simp; exact rfl)); (case he => exact rfl); (first | (rw [put_list]; dsimp only [List.set_cons_zero, List.set_cons_succ]) | rw [put_none]))
  apply Rg.wpK_know rfl rfl
  case ha =>
    intro W hR hS hF
    have hn := n1.trans hS
    have q0 := hS.c p1
    have q1 := hS.c p2
    have q2 := hS.c p3
    have q3 := hS.c p4
    have q4 := hS.c p5
    have q5 := hS.c p6
    unfold Rg.gives
    go_simp
    exact Rg.gives_enter (call_nw (ret_eq (sub_c (X1.out.kept hS.kept) (X1.out.kept hS.kept) L1 L1) (by rw [Int.sub_self])))
  intro u hu
  obtain ⟨W0, hw1, hw2, hf⟩ := hu
  obtain ⟨m27, D27, l27, c27, rfl, hx⟩ := Rg.upd_at rfl (hf 27)
  refine ⟨_, rfl, ?_⟩
  (first | (rw [put_list]; dsimp only [List.set_cons_zero, List.set_cons_succ]) | rw [put_none])
  clear hf hw1 hw2 hx W0
  iterate 1 (apply Rg.wpK_quiet rfl rfl; (case hq => (intro W hS; have q0 := hS.c p1; have q1 := hS.c p2; have q2 := hS.c p3; have q3 := hS.c p4; have q4 := hS.c p5; have q5 := hS.c p6; go_simp; exact rfl)); (case he => exact rfl); (first | (rw [put_list]; dsimp only [List.set_cons_zero, List.set_cons_succ]) | rw [put_none]))
  apply Rg.wpK_know rfl rfl
  case ha =>
    intro W hR hS hF
    have hn := n1.trans hS
    have q0 := hS.c p1
    have q1 := hS.c p2
    have q2 := hS.c p3
    have q3 := hS.c p4
    have q4 := hS.c p5
    have q5 := hS.c p6
    have i27 := KI.agg (Rg.upd_at rfl (hF 27 (by kernel_rfl)))
    unfold Rg.gives
    go_simp
    exact Rg.gives_enter (call_nw (same_c i27 (RI.zero _) rfl))
  intro u hu
  obtain ⟨W0, hw1, hw2, hf⟩ := hu
  obtain rfl := Rg.upd_at rfl (hf 29)
  have hx := trivial
  refine ⟨_, rfl, ?_⟩
  (first | (rw [put_list]; dsimp only [List.set_cons_zero, List.set_cons_succ]) | rw [put_none])
  clear hf hw1 hw2 hx W0
  iterate 2 (apply Rg.wpK_quiet rfl rfl; (case hq => (intro W hS; have q0 := hS.c p1; have q1 := hS.c p2; have q2 := hS.c p3; have q3 := hS.c p4; have q4 := hS.c p5; have q5 := hS.c p6; go_simp; exact rfl)); (case he => exact rfl); (first | (rw [put_list]; dsimp only [List.set_cons_zero, List.set_cons_succ]) | rw [put_none]))
  refine Rg.wpK_end fun w9 hR hS hF => ?_
  have hn := n1.trans hS
  have i3 := KI.agg (Rg.upd_at rfl (Rg.upd_off rfl (Rg.upd_off rfl (Rg.upd_off rfl (Rg.upd_off rfl (Rg.upd_off rfl (Rg.upd_off rfl (Rg.upd_off rfl (Rg.upd_off rfl (Rg.upd_off rfl (Rg.upd_off rfl (hF 3))))))))))))
  have i4 := KI.agg (Rg.upd_at rfl (Rg.upd_off rfl (Rg.upd_off rfl (Rg.upd_off rfl (Rg.upd_off rfl (Rg.upd_off rfl (Rg.upd_off rfl (Rg.upd_off rfl (Rg.upd_off rfl (Rg.upd_off rfl (hF 4)))))))))))
  have i7 := KI.agg (Rg.upd_at rfl (Rg.upd_off rfl (Rg.upd_off rfl (Rg.upd_off rfl (Rg.upd_off rfl (Rg.upd_off rfl (Rg.upd_off rfl (Rg.upd_off rfl (Rg.upd_off rfl (hF 7))))))))))
  have i10 := KI.agg (Rg.upd_at rfl (Rg.upd_off rfl (Rg.upd_off rfl (Rg.upd_off rfl (Rg.upd_off rfl (Rg.upd_off rfl (Rg.upd_off rfl (Rg.upd_off rfl (hF 10)))))))))
  have i11 := KI.agg (Rg.upd_at rfl (Rg.upd_off rfl (Rg.upd_off rfl (Rg.upd_off rfl (Rg.upd_off rfl (Rg.upd_off rfl (Rg.upd_off rfl (hF 11))))))))
  have i17 := KI.agg (Rg.upd_at rfl (Rg.upd_off rfl (Rg.upd_off rfl (Rg.upd_off rfl (Rg.upd_off rfl (hF 17))))))
  have i19 := KI.agg (Rg.upd_at rfl (Rg.upd_off rfl (Rg.upd_off rfl (Rg.upd_off rfl (hF 19)))))
  have i27 := KI.agg (Rg.upd_at rfl (Rg.upd_off rfl (hF 27)))
  clear hF hR
  exact hQ w9 _ _ _ _ _ _ _ _ _ _ _ _ _ _ _ _ _ _ _ _ _ _ _ _ _ _ _ _ _ _ _ hS
end Go.Proofs.Ytcgkgcciogibkaa
