/- IntegerRing: the third statement with calls, by its ways. -/
import Derived.Test.YtcgkgcciogibkaaCa
import Derived.IntWalk
set_option linter.unusedVariables false
set_option linter.unusedSimpArgs false
namespace Go.Proofs.Ytcgkgcciogibkaa
open Go.RowKit Ma

set_option maxHeartbeats 25600000 in
set_option maxRecDepth 100000 in
theorem ring_r9d {z1 z2 z3 : Int} {m1 m2 m3 : Bool} {D1 D2 D3 : Option Addr} {k1 e1 k2 e2 k3 e3 P1 P2 P3 : Nat} {w : World} (p1 : w.cell? ⟨P1, 0, none⟩ = some (.bool m1)) (p2 : w.cell? ⟨P1, 1, none⟩ = some (.slice D1 k1 e1)) (p3 : w.cell? ⟨P2, 0, none⟩ = some (.bool m2)) (p4 : w.cell? ⟨P2, 1, none⟩ = some (.slice D2 k2 e2)) (p5 : w.cell? ⟨P3, 0, none⟩ = some (.bool m3)) (p6 : w.cell? ⟨P3, 1, none⟩ = some (.slice D3 k3 e3))
    (X1 : Hid (RI w m1 D1 k1 e1 z1)) (X2 : Hid (RI w m2 D2 k2 e2 z2)) (X3 : Hid (RI w m3 D3 k3 e3 z3)) (Z1 : bd 8 z1) (Z2 : bd 8 z2) (Z3 : bd 8 z3) (L1 : k1 ≤ 500000) (L2 : k2 ≤ 500000) (L3 : k3 ≤ 500000)
    {c12 c21 c23 c13 s3 : Int} (hA : (c12 != -c21) = false) (hlo : -1 ≤ c21) (hhi : c21 ≤ 1) (hW : IntKind.i64.wrap (-c21) = -c21) (H12 : Hid (c12 = cmp z1 z2)) (H21 : Hid (c21 = cmp z2 z1)) (H23 : Hid (c23 = cmp z2 z3)) (H13 : Hid (c13 = cmp z1 z3)) (HS3 : Hid (s3 = sgn z3)) (HPL : Hid (cmp (z1 + z3) (z2 + z3) = c12)) (a1 : c12 ≤ 0) (a2 : decide (c23 ≤ 0) = false) (a4 : decide (0 < s3) = false) {u0 u1 u2 u3 u4 u5 u6 u7 u11 u12 u13 u14 u15 u16 u17 u18 u19 u20 u21 u22 u23 u24 u25 u26 u27 u28 u29 u30 u31 u32 u33 u34 u35 u36 u37 u38 u39 u40 u41 u42 u43 u44 u45 u46 u47 u48 u49 u50 u51 u52 u53 u54 u55 u56 u57 u58 u59 u60 u61 u62 u63 u64 u65 u66 u67 u68 u69 u70 u71 u72 u73 u74 u75 u76 u77 u78 u79 u80 u81 u82 u83 u84 u85 u86 u87 u88 u89 u90 u91 u92 u93 u94 u95 u96 u97 u98 u99 u100 u101 u102 u103 u104 u105 u106 u107 u108 u109 u110 u111 u112 u113 u114 u115 u116 u117 u118 u119 u120 u121 u122 u123 u124 u125 u126 u127 u128 u129 u130 u131 u132 u133 u134 u135 u136 u137 u138 u139 u140 u141 u142 u143 u144 u145 u146 u147 u148 u149 u150 u151 u152 u153 u154 u155 u156 u157 u158 u159 u160 u161 u162 u163 u164 u165 u166 u167 : Value} {Q : Exit → Act → World → Prop}
    (hQ : ∀ (w9 : World) (v110 v111 v112 v113 v114 v115 v116 v117 v118 v119 v120 v121 v122 v123 v124 v125 v126 v127 v128 v129 v130 v131 v132 v133 v134 v135 v136 v137 v138 v139 v140 v141 v142 v143 v144 v145 v146 v147 v148 v149 v150 v151 v152 v153 v154 v155 v156 v157 v158 v159 v160 v161 v162 v163 v164 v165 : Value), Nw w w9 → Q .normal ⟨#[u0, u1, u2, u3, u4, u5, u6, u7, .pointer (some ⟨P1, 0, none⟩), .pointer (some ⟨P2, 0, none⟩), .pointer (some ⟨P3, 0, none⟩), u11, u12, u13, u14, u15, u16, u17, u18, u19, u20, u21, u22, u23, u24, u25, u26, u27, u28, u29, u30, u31, u32, u33, u34, u35, u36, u37, u38, u39, u40, u41, u42, u43, u44, u45, u46, u47, u48, u49, u50, u51, u52, u53, u54, u55, u56, u57, u58, u59, u60, u61, u62, u63, u64, u65, u66, u67, u68, u69, u70, u71, u72, u73, u74, u75, u76, u77, u78, u79, u80, u81, u82, u83, u84, u85, u86, u87, u88, u89, u90, u91, u92, u93, u94, u95, u96, u97, u98, u99, u100, u101, u102, u103, u104, u105, u106, u107, u108, u109, v110, v111, v112, v113, v114, v115, v116, v117, v118, v119, v120, v121, v122, v123, v124, v125, v126, v127, v128, v129, v130, v131, v132, v133, v134, v135, v136, v137, v138, v139, v140, v141, v142, v143, v144, v145, v146, v147, v148, v149, v150, v151, v152, v153, v154, v155, v156, v157, v158, v159, v160, v161, v162, v163, v164, v165, .bool false, u167], []⟩ w9) :
    (regOf 9 Try.f4).wp Try.prog Q ⟨#[u0, u1, u2, u3, u4, u5, u6, u7, .pointer (some ⟨P1, 0, none⟩), .pointer (some ⟨P2, 0, none⟩), .pointer (some ⟨P3, 0, none⟩), u11, u12, u13, u14, u15, u16, u17, u18, u19, u20, u21, u22, u23, u24, u25, u26, u27, u28, u29, u30, u31, u32, u33, u34, u35, u36, u37, u38, u39, u40, u41, u42, u43, u44, u45, u46, u47, u48, u49, u50, u51, u52, u53, u54, u55, u56, u57, u58, u59, u60, u61, u62, u63, u64, u65, u66, u67, u68, u69, u70, u71, u72, u73, u74, u75, u76, u77, u78, u79, u80, u81, u82, u83, u84, u85, u86, u87, u88, u89, u90, u91, u92, u93, u94, u95, u96, u97, u98, u99, u100, u101, u102, u103, u104, u105, u106, u107, u108, u109, u110, u111, u112, u113, u114, u115, u116, u117, u118, u119, u120, u121, u122, u123, u124, u125, u126, u127, u128, u129, u130, u131, u132, u133, u134, u135, u136, u137, u138, u139, u140, u141, u142, u143, u144, u145, u146, u147, u148, u149, u150, u151, u152, u153, u154, u155, u156, u157, u158, u159, u160, u161, u162, u163, u164, u165, u166, u167], []⟩ w := by
  conv => arg 2; whnf
  have ne : Nw w w := Nw.refl w
  have n1 : Nw w _ := ne
  refine region_nw [(2, KV (.int .i64 c12)), (5, KV (.int .i64 c21)), (11, KV (.int .i64 c12)), (16, KV (.int .i64 c23)), (29, KI (z1 + z3)), (32, KI (z2 + z3)), (33, KV (.int .i64 c12)), (36, KV (.int .i64 c12)), (41, KV (.int .i64 s3))] (by kernel_rfl) (by kernel_rfl) (by kernel_rfl) (by kernel_rfl) ⟨SN.st (KV.st _), SN.st (KV.st _), SN.st (KV.st _), SN.st (KV.st _), SN.st (KI.st _), SN.st (KI.st _), SN.st (KV.st _), SN.st (KV.st _), SN.st (KV.st _), trivial⟩ ?_
  iterate 2 (apply Rg.wpK_quiet rfl rfl; (case hq => (intro W hS; have q0 := hS.c p1; have q1 := hS.c p2; have q2 := hS.c p3; have q3 := hS.c p4; have q4 := hS.c p5; have q5 := hS.c p6; go_simp; exact rfl)); (case he => exact rfl); (first | (rw [put_list]; dsimp only [List.set_cons_zero, List.set_cons_succ]) | rw [put_none]))
  apply Rg.wpK_know rfl rfl
  case ha =>
    intro W hR hS hF
    have hn := n1.trans hS
    have q0 := hS.c p1
    have q1 := hS.c p2
    have q2 := hS.c p3
    have q3 := hS.c p4
    have q4 := hS.c p5
    have q5 := hS.c p6
    unfold Rg.gives
    go_simp
    exact Rg.gives_enter (call_nw (ret_eq (cmp_c (X1.out.kept hS.kept) (X2.out.kept hS.kept)) (by rw [H12.out])))
  intro u hu
  obtain ⟨W0, hw1, hw2, hf⟩ := hu
  obtain rfl := Rg.upd_at rfl (hf 2)
  have hx := trivial
  refine ⟨_, rfl, ?_⟩
  (first | (rw [put_list]; dsimp only [List.set_cons_zero, List.set_cons_succ]) | rw [put_none])
  clear hf hw1 hw2 hx W0
  iterate 2 (apply Rg.wpK_quiet rfl rfl; (case hq => (intro W hS; have q0 := hS.c p1; have q1 := hS.c p2; have q2 := hS.c p3; have q3 := hS.c p4; have q4 := hS.c p5; have q5 := hS.c p6; go_simp; exact rfl)); (case he => exact rfl); (first | (rw [put_list]; dsimp only [List.set_cons_zero, List.set_cons_succ]) | rw [put_none]))
  apply Rg.wpK_know rfl rfl
  case ha =>
    intro W hR hS hF
    have hn := n1.trans hS
    have q0 := hS.c p1
    have q1 := hS.c p2
    have q2 := hS.c p3
    have q3 := hS.c p4
    have q4 := hS.c p5
    have q5 := hS.c p6
    unfold Rg.gives
    go_simp
    exact Rg.gives_enter (call_nw (ret_eq (cmp_c (X2.out.kept hS.kept) (X1.out.kept hS.kept)) (by rw [H21.out])))
  intro u hu
  obtain ⟨W0, hw1, hw2, hf⟩ := hu
  obtain rfl := Rg.upd_at rfl (hf 5)
  have hx := trivial
  refine ⟨_, rfl, ?_⟩
  (first | (rw [put_list]; dsimp only [List.set_cons_zero, List.set_cons_succ]) | rw [put_none])
  clear hf hw1 hw2 hx W0
  iterate 5 (apply Rg.wpK_quiet rfl rfl; (case hq => (intro W hS; have q0 := hS.c p1; have q1 := hS.c p2; have q2 := hS.c p3; have q3 := hS.c p4; have q4 := hS.c p5; have q5 := hS.c p6; go_simp; exact rfl)); (case he => exact rfl); (first | (rw [put_list]; dsimp only [List.set_cons_zero, List.set_cons_succ]) | rw [put_none]))
  apply Rg.wpK_know rfl rfl
  case ha =>
    intro W hR hS hF
    have hn := n1.trans hS
    have q0 := hS.c p1
    have q1 := hS.c p2
    have q2 := hS.c p3
    have q3 := hS.c p4
    have q4 := hS.c p5
    have q5 := hS.c p6
    unfold Rg.gives
    go_simp
    exact Rg.gives_enter (call_nw (ret_eq (cmp_c (X1.out.kept hS.kept) (X2.out.kept hS.kept)) (by rw [H12.out])))
  intro u hu
  obtain ⟨W0, hw1, hw2, hf⟩ := hu
  obtain rfl := Rg.upd_at rfl (hf 11)
  have hx := trivial
  refine ⟨_, rfl, ?_⟩
  (first | (rw [put_list]; dsimp only [List.set_cons_zero, List.set_cons_succ]) | rw [put_none])
  clear hf hw1 hw2 hx W0
  iterate 4 (apply Rg.wpK_quiet rfl rfl; (case hq => (intro W hS; have q0 := hS.c p1; have q1 := hS.c p2; have q2 := hS.c p3; have q3 := hS.c p4; have q4 := hS.c p5; have q5 := hS.c p6; go_simp; exact rfl)); (case he => exact rfl); (first | (rw [put_list]; dsimp only [List.set_cons_zero, List.set_cons_succ]) | rw [put_none]))
  apply Rg.wpK_know rfl rfl
  case ha =>
    intro W hR hS hF
    have hn := n1.trans hS
    have q0 := hS.c p1
    have q1 := hS.c p2
    have q2 := hS.c p3
    have q3 := hS.c p4
    have q4 := hS.c p5
    have q5 := hS.c p6
    unfold Rg.gives
    go_simp
    exact Rg.gives_enter (call_nw (ret_eq (cmp_c (X2.out.kept hS.kept) (X3.out.kept hS.kept)) (by rw [H23.out])))
  intro u hu
  obtain ⟨W0, hw1, hw2, hf⟩ := hu
  obtain rfl := Rg.upd_at rfl (hf 16)
  have hx := trivial
  refine ⟨_, rfl, ?_⟩
  (first | (rw [put_list]; dsimp only [List.set_cons_zero, List.set_cons_succ]) | rw [put_none])
  clear hf hw1 hw2 hx W0
  iterate 3 (apply Rg.wpK_quiet rfl rfl; (case hq => (intro W hS; have q0 := hS.c p1; have q1 := hS.c p2; have q2 := hS.c p3; have q3 := hS.c p4; have q4 := hS.c p5; have q5 := hS.c p6; go_simp; exact rfl)); (case he => exact rfl); (first | (rw [put_list]; dsimp only [List.set_cons_zero, List.set_cons_succ]) | rw [put_none]))
  iterate 4 (apply Rg.wpK_skip rfl; (case he => exact rfl); (first | (rw [put_list]; dsimp only [List.set_cons_zero, List.set_cons_succ]) | rw [put_none]))
  iterate 5 (apply Rg.wpK_quiet rfl rfl; (case hq => (intro W hS; have q0 := hS.c p1; have q1 := hS.c p2; have q2 := hS.c p3; have q3 := hS.c p4; have q4 := hS.c p5; have q5 := hS.c p6; go_simp; exact rfl)); (case he => exact rfl); (first | (rw [put_list]; dsimp only [List.set_cons_zero, List.set_cons_succ]) | rw [put_none]))
  apply Rg.wpK_know rfl rfl
  case ha =>
    intro W hR hS hF
    have hn := n1.trans hS
    have q0 := hS.c p1
    have q1 := hS.c p2
    have q2 := hS.c p3
    have q3 := hS.c p4
    have q4 := hS.c p5
    have q5 := hS.c p6
    unfold Rg.gives
    go_simp
    exact Rg.gives_enter (call_nw (add_c (X1.out.kept hS.kept) (X3.out.kept hS.kept) L1 L3))
  intro u hu
  obtain ⟨W0, hw1, hw2, hf⟩ := hu
  obtain ⟨m29, D29, l29, c29, rfl, hx⟩ := Rg.upd_at rfl (hf 29)
  refine ⟨_, rfl, ?_⟩
  (first | (rw [put_list]; dsimp only [List.set_cons_zero, List.set_cons_succ]) | rw [put_none])
  clear hf hw1 hw2 hx W0
  iterate 2 (apply Rg.wpK_quiet rfl rfl; (case hq => (intro W hS; have q0 := hS.c p1; have q1 := hS.c p2; have q2 := hS.c p3; have q3 := hS.c p4; have q4 := hS.c p5; have q5 := hS.c p6; go_simp; exact rfl)); (case he => exact rfl); (first | (rw [put_list]; dsimp only [List.set_cons_zero, List.set_cons_succ]) | rw [put_none]))
  apply Rg.wpK_know rfl rfl
  case ha =>
    intro W hR hS hF
    have hn := n1.trans hS
    have q0 := hS.c p1
    have q1 := hS.c p2
    have q2 := hS.c p3
    have q3 := hS.c p4
    have q4 := hS.c p5
    have q5 := hS.c p6
    unfold Rg.gives
    go_simp
    exact Rg.gives_enter (call_nw (add_c (X2.out.kept hS.kept) (X3.out.kept hS.kept) L2 L3))
  intro u hu
  obtain ⟨W0, hw1, hw2, hf⟩ := hu
  obtain ⟨m32, D32, l32, c32, rfl, hx⟩ := Rg.upd_at rfl (hf 32)
  refine ⟨_, rfl, ?_⟩
  (first | (rw [put_list]; dsimp only [List.set_cons_zero, List.set_cons_succ]) | rw [put_none])
  clear hf hw1 hw2 hx W0
  apply Rg.wpK_know rfl rfl
  case ha =>
    intro W hR hS hF
    have hn := n1.trans hS
    have q0 := hS.c p1
    have q1 := hS.c p2
    have q2 := hS.c p3
    have q3 := hS.c p4
    have q4 := hS.c p5
    have q5 := hS.c p6
    have i29 := KI.agg (Rg.upd_at rfl (Rg.upd_off rfl (hF 29 (by kernel_rfl))))
    have i32 := KI.agg (Rg.upd_at rfl (hF 32 (by kernel_rfl)))
    unfold Rg.gives
    go_simp
    exact Rg.gives_enter (call_nw (ret_eq (cmp_c i29 i32) (by rw [HPL.out])))
  intro u hu
  obtain ⟨W0, hw1, hw2, hf⟩ := hu
  obtain rfl := Rg.upd_at rfl (hf 33)
  have hx := trivial
  refine ⟨_, rfl, ?_⟩
  (first | (rw [put_list]; dsimp only [List.set_cons_zero, List.set_cons_succ]) | rw [put_none])
  clear hf hw1 hw2 hx W0
  iterate 2 (apply Rg.wpK_quiet rfl rfl; (case hq => (intro W hS; have q0 := hS.c p1; have q1 := hS.c p2; have q2 := hS.c p3; have q3 := hS.c p4; have q4 := hS.c p5; have q5 := hS.c p6; go_simp; exact rfl)); (case he => exact rfl); (first | (rw [put_list]; dsimp only [List.set_cons_zero, List.set_cons_succ]) | rw [put_none]))
  apply Rg.wpK_know rfl rfl
  case ha =>
    intro W hR hS hF
    have hn := n1.trans hS
    have q0 := hS.c p1
    have q1 := hS.c p2
    have q2 := hS.c p3
    have q3 := hS.c p4
    have q4 := hS.c p5
    have q5 := hS.c p6
    unfold Rg.gives
    go_simp
    exact Rg.gives_enter (call_nw (ret_eq (cmp_c (X1.out.kept hS.kept) (X2.out.kept hS.kept)) (by rw [H12.out])))
  intro u hu
  obtain ⟨W0, hw1, hw2, hf⟩ := hu
  obtain rfl := Rg.upd_at rfl (hf 36)
  have hx := trivial
  refine ⟨_, rfl, ?_⟩
  (first | (rw [put_list]; dsimp only [List.set_cons_zero, List.set_cons_succ]) | rw [put_none])
  clear hf hw1 hw2 hx W0
  iterate 4 (apply Rg.wpK_quiet rfl rfl; (case hq => (intro W hS; have q0 := hS.c p1; have q1 := hS.c p2; have q2 := hS.c p3; have q3 := hS.c p4; have q4 := hS.c p5; have q5 := hS.c p6; go_simp; exact rfl)); (case he => exact rfl); (first | (rw [put_list]; dsimp only [List.set_cons_zero, List.set_cons_succ]) | rw [put_none]))
  apply Rg.wpK_know rfl rfl
  case ha =>
    intro W hR hS hF
    have hn := n1.trans hS
    have q0 := hS.c p1
    have q1 := hS.c p2
    have q2 := hS.c p3
    have q3 := hS.c p4
    have q4 := hS.c p5
    have q5 := hS.c p6
    unfold Rg.gives
    go_simp
    exact Rg.gives_enter (call_nw (ret_eq (sign_c (X3.out.kept hS.kept)) (by rw [HS3.out])))
  intro u hu
  obtain ⟨W0, hw1, hw2, hf⟩ := hu
  obtain rfl := Rg.upd_at rfl (hf 41)
  have hx := trivial
  refine ⟨_, rfl, ?_⟩
  (first | (rw [put_list]; dsimp only [List.set_cons_zero, List.set_cons_succ]) | rw [put_none])
  clear hf hw1 hw2 hx W0
  iterate 2 (apply Rg.wpK_quiet rfl rfl; (case hq => (intro W hS; have q0 := hS.c p1; have q1 := hS.c p2; have q2 := hS.c p3; have q3 := hS.c p4; have q4 := hS.c p5; have q5 := hS.c p6; go_simp; exact rfl)); (case he => exact rfl); (first | (rw [put_list]; dsimp only [List.set_cons_zero, List.set_cons_succ]) | rw [put_none]))
  iterate 11 (apply Rg.wpK_skip rfl; (case he => exact rfl); (first | (rw [put_list]; dsimp only [List.set_cons_zero, List.set_cons_succ]) | rw [put_none]))
  iterate 2 (apply Rg.wpK_quiet rfl rfl; (case hq => (intro W hS; have q0 := hS.c p1; have q1 := hS.c p2; have q2 := hS.c p3; have q3 := hS.c p4; have q4 := hS.c p5; have q5 := hS.c p6; go_simp; exact rfl)); (case he => exact rfl); (first | (rw [put_list]; dsimp only [List.set_cons_zero, List.set_cons_succ]) | rw [put_none]))
  refine Rg.wpK_end fun w9 hR hS hF => ?_
  have hn := n1.trans hS
  have i29 := KI.agg (Rg.upd_at rfl (Rg.upd_off rfl (Rg.upd_off rfl (Rg.upd_off rfl (Rg.upd_off rfl (hF 29))))))
  have i32 := KI.agg (Rg.upd_at rfl (Rg.upd_off rfl (Rg.upd_off rfl (Rg.upd_off rfl (hF 32)))))
  clear hF hR
  exact hQ w9 _ _ _ _ _ _ _ _ _ _ _ _ _ _ _ _ _ _ _ _ _ _ _ _ _ _ _ _ _ _ _ _ _ _ _ _ _ _ _ _ _ _ _ _ _ _ _ _ _ _ _ _ _ _ _ _ hS
set_option maxHeartbeats 25600000 in
set_option maxRecDepth 100000 in
theorem ring_r9e {z1 z2 z3 : Int} {m1 m2 m3 : Bool} {D1 D2 D3 : Option Addr} {k1 e1 k2 e2 k3 e3 P1 P2 P3 : Nat} {w : World} (p1 : w.cell? ⟨P1, 0, none⟩ = some (.bool m1)) (p2 : w.cell? ⟨P1, 1, none⟩ = some (.slice D1 k1 e1)) (p3 : w.cell? ⟨P2, 0, none⟩ = some (.bool m2)) (p4 : w.cell? ⟨P2, 1, none⟩ = some (.slice D2 k2 e2)) (p5 : w.cell? ⟨P3, 0, none⟩ = some (.bool m3)) (p6 : w.cell? ⟨P3, 1, none⟩ = some (.slice D3 k3 e3))
    (X1 : Hid (RI w m1 D1 k1 e1 z1)) (X2 : Hid (RI w m2 D2 k2 e2 z2)) (X3 : Hid (RI w m3 D3 k3 e3 z3)) (Z1 : bd 8 z1) (Z2 : bd 8 z2) (Z3 : bd 8 z3) (L1 : k1 ≤ 500000) (L2 : k2 ≤ 500000) (L3 : k3 ≤ 500000)
    {c12 c21 c23 c13 s3 : Int} (hA : (c12 != -c21) = false) (hlo : -1 ≤ c21) (hhi : c21 ≤ 1) (hW : IntKind.i64.wrap (-c21) = -c21) (H12 : Hid (c12 = cmp z1 z2)) (H21 : Hid (c21 = cmp z2 z1)) (H23 : Hid (c23 = cmp z2 z3)) (H13 : Hid (c13 = cmp z1 z3)) (HS3 : Hid (s3 = sgn z3)) (HPL : Hid (cmp (z1 + z3) (z2 + z3) = c12)) (a1 : decide (c12 ≤ 0) = false) (a4 : 0 < s3) (HM : Hid (cmp (z1 * z3) (z2 * z3) = c12)) {u0 u1 u2 u3 u4 u5 u6 u7 u11 u12 u13 u14 u15 u16 u17 u18 u19 u20 u21 u22 u23 u24 u25 u26 u27 u28 u29 u30 u31 u32 u33 u34 u35 u36 u37 u38 u39 u40 u41 u42 u43 u44 u45 u46 u47 u48 u49 u50 u51 u52 u53 u54 u55 u56 u57 u58 u59 u60 u61 u62 u63 u64 u65 u66 u67 u68 u69 u70 u71 u72 u73 u74 u75 u76 u77 u78 u79 u80 u81 u82 u83 u84 u85 u86 u87 u88 u89 u90 u91 u92 u93 u94 u95 u96 u97 u98 u99 u100 u101 u102 u103 u104 u105 u106 u107 u108 u109 u110 u111 u112 u113 u114 u115 u116 u117 u118 u119 u120 u121 u122 u123 u124 u125 u126 u127 u128 u129 u130 u131 u132 u133 u134 u135 u136 u137 u138 u139 u140 u141 u142 u143 u144 u145 u146 u147 u148 u149 u150 u151 u152 u153 u154 u155 u156 u157 u158 u159 u160 u161 u162 u163 u164 u165 u166 u167 : Value} {Q : Exit → Act → World → Prop}
    (hQ : ∀ (w9 : World) (v110 v111 v112 v113 v114 v115 v116 v117 v118 v119 v120 v121 v122 v123 v124 v125 v126 v127 v128 v129 v130 v131 v132 v133 v134 v135 v136 v137 v138 v139 v140 v141 v142 v143 v144 v145 v146 v147 v148 v149 v150 v151 v152 v153 v154 v155 v156 v157 v158 v159 v160 v161 v162 v163 v164 v165 : Value), Nw w w9 → Q .normal ⟨#[u0, u1, u2, u3, u4, u5, u6, u7, .pointer (some ⟨P1, 0, none⟩), .pointer (some ⟨P2, 0, none⟩), .pointer (some ⟨P3, 0, none⟩), u11, u12, u13, u14, u15, u16, u17, u18, u19, u20, u21, u22, u23, u24, u25, u26, u27, u28, u29, u30, u31, u32, u33, u34, u35, u36, u37, u38, u39, u40, u41, u42, u43, u44, u45, u46, u47, u48, u49, u50, u51, u52, u53, u54, u55, u56, u57, u58, u59, u60, u61, u62, u63, u64, u65, u66, u67, u68, u69, u70, u71, u72, u73, u74, u75, u76, u77, u78, u79, u80, u81, u82, u83, u84, u85, u86, u87, u88, u89, u90, u91, u92, u93, u94, u95, u96, u97, u98, u99, u100, u101, u102, u103, u104, u105, u106, u107, u108, u109, v110, v111, v112, v113, v114, v115, v116, v117, v118, v119, v120, v121, v122, v123, v124, v125, v126, v127, v128, v129, v130, v131, v132, v133, v134, v135, v136, v137, v138, v139, v140, v141, v142, v143, v144, v145, v146, v147, v148, v149, v150, v151, v152, v153, v154, v155, v156, v157, v158, v159, v160, v161, v162, v163, v164, v165, .bool false, u167], []⟩ w9) :
    (regOf 9 Try.f4).wp Try.prog Q ⟨#[u0, u1, u2, u3, u4, u5, u6, u7, .pointer (some ⟨P1, 0, none⟩), .pointer (some ⟨P2, 0, none⟩), .pointer (some ⟨P3, 0, none⟩), u11, u12, u13, u14, u15, u16, u17, u18, u19, u20, u21, u22, u23, u24, u25, u26, u27, u28, u29, u30, u31, u32, u33, u34, u35, u36, u37, u38, u39, u40, u41, u42, u43, u44, u45, u46, u47, u48, u49, u50, u51, u52, u53, u54, u55, u56, u57, u58, u59, u60, u61, u62, u63, u64, u65, u66, u67, u68, u69, u70, u71, u72, u73, u74, u75, u76, u77, u78, u79, u80, u81, u82, u83, u84, u85, u86, u87, u88, u89, u90, u91, u92, u93, u94, u95, u96, u97, u98, u99, u100, u101, u102, u103, u104, u105, u106, u107, u108, u109, u110, u111, u112, u113, u114, u115, u116, u117, u118, u119, u120, u121, u122, u123, u124, u125, u126, u127, u128, u129, u130, u131, u132, u133, u134, u135, u136, u137, u138, u139, u140, u141, u142, u143, u144, u145, u146, u147, u148, u149, u150, u151, u152, u153, u154, u155, u156, u157, u158, u159, u160, u161, u162, u163, u164, u165, u166, u167], []⟩ w := by
  conv => arg 2; whnf
  have ne : Nw w w := Nw.refl w
  have n1 : Nw w _ := ne
  refine region_nw [(2, KV (.int .i64 c12)), (5, KV (.int .i64 c21)), (11, KV (.int .i64 c12)), (29, KI (z1 + z3)), (32, KI (z2 + z3)), (33, KV (.int .i64 c12)), (36, KV (.int .i64 c12)), (41, KV (.int .i64 s3)), (46, KI (z1 * z3)), (49, KI (z2 * z3)), (50, KV (.int .i64 c12)), (53, KV (.int .i64 c12))] (by kernel_rfl) (by kernel_rfl) (by kernel_rfl) (by kernel_rfl) ⟨SN.st (KV.st _), SN.st (KV.st _), SN.st (KV.st _), SN.st (KI.st _), SN.st (KI.st _), SN.st (KV.st _), SN.st (KV.st _), SN.st (KV.st _), SN.st (KI.st _), SN.st (KI.st _), SN.st (KV.st _), SN.st (KV.st _), trivial⟩ ?_
  iterate 2 (apply Rg.wpK_quiet rfl rfl; (case hq => (intro W hS; have q0 := hS.c p1; have q1 := hS.c p2; have q2 := hS.c p3; have q3 := hS.c p4; have q4 := hS.c p5; have q5 := hS.c p6; go_simp; exact rfl)); (case he => exact rfl); (first | (rw [put_list]; dsimp only [List.set_cons_zero, List.set_cons_succ]) | rw [put_none]))
  apply Rg.wpK_know rfl rfl
  case ha =>
    intro W hR hS hF
    have hn := n1.trans hS
    have q0 := hS.c p1
    have q1 := hS.c p2
    have q2 := hS.c p3
    have q3 := hS.c p4
    have q4 := hS.c p5
    have q5 := hS.c p6
    unfold Rg.gives
    go_simp
    exact Rg.gives_enter (call_nw (ret_eq (cmp_c (X1.out.kept hS.kept) (X2.out.kept hS.kept)) (by rw [H12.out])))
  intro u hu
  obtain ⟨W0, hw1, hw2, hf⟩ := hu
  obtain rfl := Rg.upd_at rfl (hf 2)
  have hx := trivial
  refine ⟨_, rfl, ?_⟩
  (first | (rw [put_list]; dsimp only [List.set_cons_zero, List.set_cons_succ]) | rw [put_none])
  clear hf hw1 hw2 hx W0
  iterate 2 (apply Rg.wpK_quiet rfl rfl; (case hq => (intro W hS; have q0 := hS.c p1; have q1 := hS.c p2; have q2 := hS.c p3; have q3 := hS.c p4; have q4 := hS.c p5; have q5 := hS.c p6; go_simp; exact rfl)); (case he => exact rfl); (first | (rw [put_list]; dsimp only [List.set_cons_zero, List.set_cons_succ]) | rw [put_none]))
  apply Rg.wpK_know rfl rfl
  case ha =>
    intro W hR hS hF
    have hn := n1.trans hS
    have q0 := hS.c p1
    have q1 := hS.c p2
    have q2 := hS.c p3
    have q3 := hS.c p4
    have q4 := hS.c p5
    have q5 := hS.c p6
    unfold Rg.gives
    go_simp
    exact Rg.gives_enter (call_nw (ret_eq (cmp_c (X2.out.kept hS.kept) (X1.out.kept hS.kept)) (by rw [H21.out])))
  intro u hu
  obtain ⟨W0, hw1, hw2, hf⟩ := hu
  obtain rfl := Rg.upd_at rfl (hf 5)
  have hx := trivial
  refine ⟨_, rfl, ?_⟩
  (first | (rw [put_list]; dsimp only [List.set_cons_zero, List.set_cons_succ]) | rw [put_none])
  clear hf hw1 hw2 hx W0
  iterate 5 (apply Rg.wpK_quiet rfl rfl; (case hq => (intro W hS; have q0 := hS.c p1; have q1 := hS.c p2; have q2 := hS.c p3; have q3 := hS.c p4; have q4 := hS.c p5; have q5 := hS.c p6; go_simp; exact rfl)); (case he => exact rfl); (first | (rw [put_list]; dsimp only [List.set_cons_zero, List.set_cons_succ]) | rw [put_none]))
  apply Rg.wpK_know rfl rfl
  case ha =>
    intro W hR hS hF
    have hn := n1.trans hS
    have q0 := hS.c p1
    have q1 := hS.c p2
    have q2 := hS.c p3
    have q3 := hS.c p4
    have q4 := hS.c p5
    have q5 := hS.c p6
    unfold Rg.gives
    go_simp
    exact Rg.gives_enter (call_nw (ret_eq (cmp_c (X1.out.kept hS.kept) (X2.out.kept hS.kept)) (by rw [H12.out])))
  intro u hu
  obtain ⟨W0, hw1, hw2, hf⟩ := hu
  obtain rfl := Rg.upd_at rfl (hf 11)
  have hx := trivial
  refine ⟨_, rfl, ?_⟩
  (first | (rw [put_list]; dsimp only [List.set_cons_zero, List.set_cons_succ]) | rw [put_none])
  clear hf hw1 hw2 hx W0
  iterate 2 (apply Rg.wpK_quiet rfl rfl; (case hq => (intro W hS; have q0 := hS.c p1; have q1 := hS.c p2; have q2 := hS.c p3; have q3 := hS.c p4; have q4 := hS.c p5; have q5 := hS.c p6; go_simp; exact rfl)); (case he => exact rfl); (first | (rw [put_list]; dsimp only [List.set_cons_zero, List.set_cons_succ]) | rw [put_none]))
  iterate 4 (apply Rg.wpK_skip rfl; (case he => exact rfl); (first | (rw [put_list]; dsimp only [List.set_cons_zero, List.set_cons_succ]) | rw [put_none]))
  iterate 2 (apply Rg.wpK_quiet rfl rfl; (case hq => (intro W hS; have q0 := hS.c p1; have q1 := hS.c p2; have q2 := hS.c p3; have q3 := hS.c p4; have q4 := hS.c p5; have q5 := hS.c p6; go_simp; exact rfl)); (case he => exact rfl); (first | (rw [put_list]; dsimp only [List.set_cons_zero, List.set_cons_succ]) | rw [put_none]))
  iterate 4 (apply Rg.wpK_skip rfl; (case he => exact rfl); (first | (rw [put_list]; dsimp only [List.set_cons_zero, List.set_cons_succ]) | rw [put_none]))
  iterate 5 (apply Rg.wpK_quiet rfl rfl; (case hq => (intro W hS; have q0 := hS.c p1; have q1 := hS.c p2; have q2 := hS.c p3; have q3 := hS.c p4; have q4 := hS.c p5; have q5 := hS.c p6; go_simp; exact rfl)); (case he => exact rfl); (first | (rw [put_list]; dsimp only [List.set_cons_zero, List.set_cons_succ]) | rw [put_none]))
  apply Rg.wpK_know rfl rfl
  case ha =>
    intro W hR hS hF
    have hn := n1.trans hS
    have q0 := hS.c p1
    have q1 := hS.c p2
    have q2 := hS.c p3
    have q3 := hS.c p4
    have q4 := hS.c p5
    have q5 := hS.c p6
    unfold Rg.gives
    go_simp
    exact Rg.gives_enter (call_nw (add_c (X1.out.kept hS.kept) (X3.out.kept hS.kept) L1 L3))
  intro u hu
  obtain ⟨W0, hw1, hw2, hf⟩ := hu
  obtain ⟨m29, D29, l29, c29, rfl, hx⟩ := Rg.upd_at rfl (hf 29)
  refine ⟨_, rfl, ?_⟩
  (first | (rw [put_list]; dsimp only [List.set_cons_zero, List.set_cons_succ]) | rw [put_none])
  clear hf hw1 hw2 hx W0
  iterate 2 (apply Rg.wpK_quiet rfl rfl; (case hq => (intro W hS; have q0 := hS.c p1; have q1 := hS.c p2; have q2 := hS.c p3; have q3 := hS.c p4; have q4 := hS.c p5; have q5 := hS.c p6; go_simp; exact rfl)); (case he => exact rfl); (first | (rw [put_list]; dsimp only [List.set_cons_zero, List.set_cons_succ]) | rw [put_none]))
  apply Rg.wpK_know rfl rfl
  case ha =>
    intro W hR hS hF
    have hn := n1.trans hS
    have q0 := hS.c p1
    have q1 := hS.c p2
    have q2 := hS.c p3
    have q3 := hS.c p4
    have q4 := hS.c p5
    have q5 := hS.c p6
    unfold Rg.gives
    go_simp
    exact Rg.gives_enter (call_nw (add_c (X2.out.kept hS.kept) (X3.out.kept hS.kept) L2 L3))
  intro u hu
  obtain ⟨W0, hw1, hw2, hf⟩ := hu
  obtain ⟨m32, D32, l32, c32, rfl, hx⟩ := Rg.upd_at rfl (hf 32)
  refine ⟨_, rfl, ?_⟩
  (first | (rw [put_list]; dsimp only [List.set_cons_zero, List.set_cons_succ]) | rw [put_none])
  clear hf hw1 hw2 hx W0
  apply Rg.wpK_know rfl rfl
  case ha =>
    intro W hR hS hF
    have hn := n1.trans hS
    have q0 := hS.c p1
    have q1 := hS.c p2
    have q2 := hS.c p3
    have q3 := hS.c p4
    have q4 := hS.c p5
    have q5 := hS.c p6
    have i29 := KI.agg (Rg.upd_at rfl (Rg.upd_off rfl (hF 29 (by kernel_rfl))))
    have i32 := KI.agg (Rg.upd_at rfl (hF 32 (by kernel_rfl)))
    unfold Rg.gives
    go_simp
    exact Rg.gives_enter (call_nw (ret_eq (cmp_c i29 i32) (by rw [HPL.out])))
  intro u hu
  obtain ⟨W0, hw1, hw2, hf⟩ := hu
  obtain rfl := Rg.upd_at rfl (hf 33)
  have hx := trivial
  refine ⟨_, rfl, ?_⟩
  (first | (rw [put_list]; dsimp only [List.set_cons_zero, List.set_cons_succ]) | rw [put_none])
  clear hf hw1 hw2 hx W0
  iterate 2 (apply Rg.wpK_quiet rfl rfl; (case hq => (intro W hS; have q0 := hS.c p1; have q1 := hS.c p2; have q2 := hS.c p3; have q3 := hS.c p4; have q4 := hS.c p5; have q5 := hS.c p6; go_simp; exact rfl)); (case he => exact rfl); (first | (rw [put_list]; dsimp only [List.set_cons_zero, List.set_cons_succ]) | rw [put_none]))
  apply Rg.wpK_know rfl rfl
  case ha =>
    intro W hR hS hF
    have hn := n1.trans hS
    have q0 := hS.c p1
    have q1 := hS.c p2
    have q2 := hS.c p3
    have q3 := hS.c p4
    have q4 := hS.c p5
    have q5 := hS.c p6
    unfold Rg.gives
    go_simp
    exact Rg.gives_enter (call_nw (ret_eq (cmp_c (X1.out.kept hS.kept) (X2.out.kept hS.kept)) (by rw [H12.out])))
  intro u hu
  obtain ⟨W0, hw1, hw2, hf⟩ := hu
  obtain rfl := Rg.upd_at rfl (hf 36)
  have hx := trivial
  refine ⟨_, rfl, ?_⟩
  (first | (rw [put_list]; dsimp only [List.set_cons_zero, List.set_cons_succ]) | rw [put_none])
  clear hf hw1 hw2 hx W0
  iterate 4 (apply Rg.wpK_quiet rfl rfl; (case hq => (intro W hS; have q0 := hS.c p1; have q1 := hS.c p2; have q2 := hS.c p3; have q3 := hS.c p4; have q4 := hS.c p5; have q5 := hS.c p6; go_simp; exact rfl)); (case he => exact rfl); (first | (rw [put_list]; dsimp only [List.set_cons_zero, List.set_cons_succ]) | rw [put_none]))
  apply Rg.wpK_know rfl rfl
  case ha =>
    intro W hR hS hF
    have hn := n1.trans hS
    have q0 := hS.c p1
    have q1 := hS.c p2
    have q2 := hS.c p3
    have q3 := hS.c p4
    have q4 := hS.c p5
    have q5 := hS.c p6
    unfold Rg.gives
    go_simp
    exact Rg.gives_enter (call_nw (ret_eq (sign_c (X3.out.kept hS.kept)) (by rw [HS3.out])))
  intro u hu
  obtain ⟨W0, hw1, hw2, hf⟩ := hu
  obtain rfl := Rg.upd_at rfl (hf 41)
  have hx := trivial
  refine ⟨_, rfl, ?_⟩
  (first | (rw [put_list]; dsimp only [List.set_cons_zero, List.set_cons_succ]) | rw [put_none])
  clear hf hw1 hw2 hx W0
  iterate 4 (apply Rg.wpK_quiet rfl rfl; (case hq => (intro W hS; have q0 := hS.c p1; have q1 := hS.c p2; have q2 := hS.c p3; have q3 := hS.c p4; have q4 := hS.c p5; have q5 := hS.c p6; go_simp; exact rfl)); (case he => exact rfl); (first | (rw [put_list]; dsimp only [List.set_cons_zero, List.set_cons_succ]) | rw [put_none]))
  apply Rg.wpK_know rfl rfl
  case ha =>
    intro W hR hS hF
    have hn := n1.trans hS
    have q0 := hS.c p1
    have q1 := hS.c p2
    have q2 := hS.c p3
    have q3 := hS.c p4
    have q4 := hS.c p5
    have q5 := hS.c p6
    unfold Rg.gives
    go_simp
    exact Rg.gives_enter (call_nw (mul_c (X1.out.kept hS.kept) (X3.out.kept hS.kept) L1 L3))
  intro u hu
  obtain ⟨W0, hw1, hw2, hf⟩ := hu
  obtain ⟨m46, D46, l46, c46, rfl, hx⟩ := Rg.upd_at rfl (hf 46)
  refine ⟨_, rfl, ?_⟩
  (first | (rw [put_list]; dsimp only [List.set_cons_zero, List.set_cons_succ]) | rw [put_none])
  clear hf hw1 hw2 hx W0
  iterate 2 (apply Rg.wpK_quiet rfl rfl; (case hq => (intro W hS; have q0 := hS.c p1; have q1 := hS.c p2; have q2 := hS.c p3; have q3 := hS.c p4; have q4 := hS.c p5; have q5 := hS.c p6; go_simp; exact rfl)); (case he => exact rfl); (first | (rw [put_list]; dsimp only [List.set_cons_zero, List.set_cons_succ]) | rw [put_none]))
  apply Rg.wpK_know rfl rfl
  case ha =>
    intro W hR hS hF
    have hn := n1.trans hS
    have q0 := hS.c p1
    have q1 := hS.c p2
    have q2 := hS.c p3
    have q3 := hS.c p4
    have q4 := hS.c p5
    have q5 := hS.c p6
    unfold Rg.gives
    go_simp
    exact Rg.gives_enter (call_nw (mul_c (X2.out.kept hS.kept) (X3.out.kept hS.kept) L2 L3))
  intro u hu
  obtain ⟨W0, hw1, hw2, hf⟩ := hu
  obtain ⟨m49, D49, l49, c49, rfl, hx⟩ := Rg.upd_at rfl (hf 49)
  refine ⟨_, rfl, ?_⟩
  (first | (rw [put_list]; dsimp only [List.set_cons_zero, List.set_cons_succ]) | rw [put_none])
  clear hf hw1 hw2 hx W0
  apply Rg.wpK_know rfl rfl
  case ha =>
    intro W hR hS hF
    have hn := n1.trans hS
    have q0 := hS.c p1
    have q1 := hS.c p2
    have q2 := hS.c p3
    have q3 := hS.c p4
    have q4 := hS.c p5
    have q5 := hS.c p6
    have i46 := KI.agg (Rg.upd_at rfl (Rg.upd_off rfl (hF 46 (by kernel_rfl))))
    have i49 := KI.agg (Rg.upd_at rfl (hF 49 (by kernel_rfl)))
    unfold Rg.gives
    go_simp
    exact Rg.gives_enter (call_nw (ret_eq (cmp_c i46 i49) (by rw [HM.out])))
  intro u hu
  obtain ⟨W0, hw1, hw2, hf⟩ := hu
  obtain rfl := Rg.upd_at rfl (hf 50)
  have hx := trivial
  refine ⟨_, rfl, ?_⟩
  (first | (rw [put_list]; dsimp only [List.set_cons_zero, List.set_cons_succ]) | rw [put_none])
  clear hf hw1 hw2 hx W0
  iterate 2 (apply Rg.wpK_quiet rfl rfl; (case hq => (intro W hS; have q0 := hS.c p1; have q1 := hS.c p2; have q2 := hS.c p3; have q3 := hS.c p4; have q4 := hS.c p5; have q5 := hS.c p6; go_simp; exact rfl)); (case he => exact rfl); (first | (rw [put_list]; dsimp only [List.set_cons_zero, List.set_cons_succ]) | rw [put_none]))
  apply Rg.wpK_know rfl rfl
  case ha =>
    intro W hR hS hF
    have hn := n1.trans hS
    have q0 := hS.c p1
    have q1 := hS.c p2
    have q2 := hS.c p3
    have q3 := hS.c p4
    have q4 := hS.c p5
    have q5 := hS.c p6
    unfold Rg.gives
    go_simp
    exact Rg.gives_enter (call_nw (ret_eq (cmp_c (X1.out.kept hS.kept) (X2.out.kept hS.kept)) (by rw [H12.out])))
  intro u hu
  obtain ⟨W0, hw1, hw2, hf⟩ := hu
  obtain rfl := Rg.upd_at rfl (hf 53)
  have hx := trivial
  refine ⟨_, rfl, ?_⟩
  (first | (rw [put_list]; dsimp only [List.set_cons_zero, List.set_cons_succ]) | rw [put_none])
  clear hf hw1 hw2 hx W0
  iterate 3 (apply Rg.wpK_quiet rfl rfl; (case hq => (intro W hS; have q0 := hS.c p1; have q1 := hS.c p2; have q2 := hS.c p3; have q3 := hS.c p4; have q4 := hS.c p5; have q5 := hS.c p6; go_simp; exact rfl)); (case he => exact rfl); (first | (rw [put_list]; dsimp only [List.set_cons_zero, List.set_cons_succ]) | rw [put_none]))
  refine Rg.wpK_end fun w9 hR hS hF => ?_
  have hn := n1.trans hS
  have i29 := KI.agg (Rg.upd_at rfl (Rg.upd_off rfl (Rg.upd_off rfl (Rg.upd_off rfl (Rg.upd_off rfl (Rg.upd_off rfl (Rg.upd_off rfl (Rg.upd_off rfl (Rg.upd_off rfl (hF 29))))))))))
  have i32 := KI.agg (Rg.upd_at rfl (Rg.upd_off rfl (Rg.upd_off rfl (Rg.upd_off rfl (Rg.upd_off rfl (Rg.upd_off rfl (Rg.upd_off rfl (Rg.upd_off rfl (hF 32)))))))))
  have i46 := KI.agg (Rg.upd_at rfl (Rg.upd_off rfl (Rg.upd_off rfl (Rg.upd_off rfl (hF 46)))))
  have i49 := KI.agg (Rg.upd_at rfl (Rg.upd_off rfl (Rg.upd_off rfl (hF 49))))
  clear hF hR
  exact hQ w9 _ _ _ _ _ _ _ _ _ _ _ _ _ _ _ _ _ _ _ _ _ _ _ _ _ _ _ _ _ _ _ _ _ _ _ _ _ _ _ _ _ _ _ _ _ _ _ _ _ _ _ _ _ _ _ _ hS
set_option maxHeartbeats 25600000 in
set_option maxRecDepth 100000 in
theorem ring_r9f {z1 z2 z3 : Int} {m1 m2 m3 : Bool} {D1 D2 D3 : Option Addr} {k1 e1 k2 e2 k3 e3 P1 P2 P3 : Nat} {w : World} (p1 : w.cell? ⟨P1, 0, none⟩ = some (.bool m1)) (p2 : w.cell? ⟨P1, 1, none⟩ = some (.slice D1 k1 e1)) (p3 : w.cell? ⟨P2, 0, none⟩ = some (.bool m2)) (p4 : w.cell? ⟨P2, 1, none⟩ = some (.slice D2 k2 e2)) (p5 : w.cell? ⟨P3, 0, none⟩ = some (.bool m3)) (p6 : w.cell? ⟨P3, 1, none⟩ = some (.slice D3 k3 e3))
    (X1 : Hid (RI w m1 D1 k1 e1 z1)) (X2 : Hid (RI w m2 D2 k2 e2 z2)) (X3 : Hid (RI w m3 D3 k3 e3 z3)) (Z1 : bd 8 z1) (Z2 : bd 8 z2) (Z3 : bd 8 z3) (L1 : k1 ≤ 500000) (L2 : k2 ≤ 500000) (L3 : k3 ≤ 500000)
    {c12 c21 c23 c13 s3 : Int} (hA : (c12 != -c21) = false) (hlo : -1 ≤ c21) (hhi : c21 ≤ 1) (hW : IntKind.i64.wrap (-c21) = -c21) (H12 : Hid (c12 = cmp z1 z2)) (H21 : Hid (c21 = cmp z2 z1)) (H23 : Hid (c23 = cmp z2 z3)) (H13 : Hid (c13 = cmp z1 z3)) (HS3 : Hid (s3 = sgn z3)) (HPL : Hid (cmp (z1 + z3) (z2 + z3) = c12)) (a1 : decide (c12 ≤ 0) = false) (a4 : decide (0 < s3) = false) {u0 u1 u2 u3 u4 u5 u6 u7 u11 u12 u13 u14 u15 u16 u17 u18 u19 u20 u21 u22 u23 u24 u25 u26 u27 u28 u29 u30 u31 u32 u33 u34 u35 u36 u37 u38 u39 u40 u41 u42 u43 u44 u45 u46 u47 u48 u49 u50 u51 u52 u53 u54 u55 u56 u57 u58 u59 u60 u61 u62 u63 u64 u65 u66 u67 u68 u69 u70 u71 u72 u73 u74 u75 u76 u77 u78 u79 u80 u81 u82 u83 u84 u85 u86 u87 u88 u89 u90 u91 u92 u93 u94 u95 u96 u97 u98 u99 u100 u101 u102 u103 u104 u105 u106 u107 u108 u109 u110 u111 u112 u113 u114 u115 u116 u117 u118 u119 u120 u121 u122 u123 u124 u125 u126 u127 u128 u129 u130 u131 u132 u133 u134 u135 u136 u137 u138 u139 u140 u141 u142 u143 u144 u145 u146 u147 u148 u149 u150 u151 u152 u153 u154 u155 u156 u157 u158 u159 u160 u161 u162 u163 u164 u165 u166 u167 : Value} {Q : Exit → Act → World → Prop}
    (hQ : ∀ (w9 : World) (v110 v111 v112 v113 v114 v115 v116 v117 v118 v119 v120 v121 v122 v123 v124 v125 v126 v127 v128 v129 v130 v131 v132 v133 v134 v135 v136 v137 v138 v139 v140 v141 v142 v143 v144 v145 v146 v147 v148 v149 v150 v151 v152 v153 v154 v155 v156 v157 v158 v159 v160 v161 v162 v163 v164 v165 : Value), Nw w w9 → Q .normal ⟨#[u0, u1, u2, u3, u4, u5, u6, u7, .pointer (some ⟨P1, 0, none⟩), .pointer (some ⟨P2, 0, none⟩), .pointer (some ⟨P3, 0, none⟩), u11, u12, u13, u14, u15, u16, u17, u18, u19, u20, u21, u22, u23, u24, u25, u26, u27, u28, u29, u30, u31, u32, u33, u34, u35, u36, u37, u38, u39, u40, u41, u42, u43, u44, u45, u46, u47, u48, u49, u50, u51, u52, u53, u54, u55, u56, u57, u58, u59, u60, u61, u62, u63, u64, u65, u66, u67, u68, u69, u70, u71, u72, u73, u74, u75, u76, u77, u78, u79, u80, u81, u82, u83, u84, u85, u86, u87, u88, u89, u90, u91, u92, u93, u94, u95, u96, u97, u98, u99, u100, u101, u102, u103, u104, u105, u106, u107, u108, u109, v110, v111, v112, v113, v114, v115, v116, v117, v118, v119, v120, v121, v122, v123, v124, v125, v126, v127, v128, v129, v130, v131, v132, v133, v134, v135, v136, v137, v138, v139, v140, v141, v142, v143, v144, v145, v146, v147, v148, v149, v150, v151, v152, v153, v154, v155, v156, v157, v158, v159, v160, v161, v162, v163, v164, v165, .bool false, u167], []⟩ w9) :
    (regOf 9 Try.f4).wp Try.prog Q ⟨#[u0, u1, u2, u3, u4, u5, u6, u7, .pointer (some ⟨P1, 0, none⟩), .pointer (some ⟨P2, 0, none⟩), .pointer (some ⟨P3, 0, none⟩), u11, u12, u13, u14, u15, u16, u17, u18, u19, u20, u21, u22, u23, u24, u25, u26, u27, u28, u29, u30, u31, u32, u33, u34, u35, u36, u37, u38, u39, u40, u41, u42, u43, u44, u45, u46, u47, u48, u49, u50, u51, u52, u53, u54, u55, u56, u57, u58, u59, u60, u61, u62, u63, u64, u65, u66, u67, u68, u69, u70, u71, u72, u73, u74, u75, u76, u77, u78, u79, u80, u81, u82, u83, u84, u85, u86, u87, u88, u89, u90, u91, u92, u93, u94, u95, u96, u97, u98, u99, u100, u101, u102, u103, u104, u105, u106, u107, u108, u109, u110, u111, u112, u113, u114, u115, u116, u117, u118, u119, u120, u121, u122, u123, u124, u125, u126, u127, u128, u129, u130, u131, u132, u133, u134, u135, u136, u137, u138, u139, u140, u141, u142, u143, u144, u145, u146, u147, u148, u149, u150, u151, u152, u153, u154, u155, u156, u157, u158, u159, u160, u161, u162, u163, u164, u165, u166, u167], []⟩ w := by
  conv => arg 2; whnf
  have ne : Nw w w := Nw.refl w
  have n1 : Nw w _ := ne
  refine region_nw [(2, KV (.int .i64 c12)), (5, KV (.int .i64 c21)), (11, KV (.int .i64 c12)), (29, KI (z1 + z3)), (32, KI (z2 + z3)), (33, KV (.int .i64 c12)), (36, KV (.int .i64 c12)), (41, KV (.int .i64 s3))] (by kernel_rfl) (by kernel_rfl) (by kernel_rfl) (by kernel_rfl) ⟨SN.st (KV.st _), SN.st (KV.st _), SN.st (KV.st _), SN.st (KI.st _), SN.st (KI.st _), SN.st (KV.st _), SN.st (KV.st _), SN.st (KV.st _), trivial⟩ ?_
  iterate 2 (apply Rg.wpK_quiet rfl rfl; (case hq => (intro W hS; have q0 := hS.c p1; have q1 := hS.c p2; have q2 := hS.c p3; have q3 := hS.c p4; have q4 := hS.c p5; have q5 := hS.c p6; go_simp; exact rfl)); (case he => exact rfl); (first | (rw [put_list]; dsimp only [List.set_cons_zero, List.set_cons_succ]) | rw [put_none]))
  apply Rg.wpK_know rfl rfl
  case ha =>
    intro W hR hS hF
    have hn := n1.trans hS
    have q0 := hS.c p1
    have q1 := hS.c p2
    have q2 := hS.c p3
    have q3 := hS.c p4
    have q4 := hS.c p5
    have q5 := hS.c p6
    unfold Rg.gives
    go_simp
    exact Rg.gives_enter (call_nw (ret_eq (cmp_c (X1.out.kept hS.kept) (X2.out.kept hS.kept)) (by rw [H12.out])))
  intro u hu
  obtain ⟨W0, hw1, hw2, hf⟩ := hu
  obtain rfl := Rg.upd_at rfl (hf 2)
  have hx := trivial
  refine ⟨_, rfl, ?_⟩
  (first | (rw [put_list]; dsimp only [List.set_cons_zero, List.set_cons_succ]) | rw [put_none])
  clear hf hw1 hw2 hx W0
  iterate 2 (apply Rg.wpK_quiet rfl rfl; (case hq => (intro W hS; have q0 := hS.c p1; have q1 := hS.c p2; have q2 := hS.c p3; have q3 := hS.c p4; have q4 := hS.c p5; have q5 := hS.c p6; go_simp; exact rfl)); (case he => exact rfl); (first | (rw [put_list]; dsimp only [List.set_cons_zero, List.set_cons_succ]) | rw [put_none]))
  apply Rg.wpK_know rfl rfl
  case ha =>
    intro W hR hS hF
    have hn := n1.trans hS
    have q0 := hS.c p1
    have q1 := hS.c p2
    have q2 := hS.c p3
    have q3 := hS.c p4
    have q4 := hS.c p5
    have q5 := hS.c p6
    unfold Rg.gives
    go_simp
    exact Rg.gives_enter (call_nw (ret_eq (cmp_c (X2.out.kept hS.kept) (X1.out.kept hS.kept)) (by rw [H21.out])))
  intro u hu
  obtain ⟨W0, hw1, hw2, hf⟩ := hu
  obtain rfl := Rg.upd_at rfl (hf 5)
  have hx := trivial
  refine ⟨_, rfl, ?_⟩
  (first | (rw [put_list]; dsimp only [List.set_cons_zero, List.set_cons_succ]) | rw [put_none])
  clear hf hw1 hw2 hx W0
  iterate 5 (apply Rg.wpK_quiet rfl rfl; (case hq => (intro W hS; have q0 := hS.c p1; have q1 := hS.c p2; have q2 := hS.c p3; have q3 := hS.c p4; have q4 := hS.c p5; have q5 := hS.c p6; go_simp; exact rfl)); (case he => exact rfl); (first | (rw [put_list]; dsimp only [List.set_cons_zero, List.set_cons_succ]) | rw [put_none]))
  apply Rg.wpK_know rfl rfl
  case ha =>
    intro W hR hS hF
    have hn := n1.trans hS
    have q0 := hS.c p1
    have q1 := hS.c p2
    have q2 := hS.c p3
    have q3 := hS.c p4
    have q4 := hS.c p5
    have q5 := hS.c p6
    unfold Rg.gives
    go_simp
    exact Rg.gives_enter (call_nw (ret_eq (cmp_c (X1.out.kept hS.kept) (X2.out.kept hS.kept)) (by rw [H12.out])))
  intro u hu
  obtain ⟨W0, hw1, hw2, hf⟩ := hu
  obtain rfl := Rg.upd_at rfl (hf 11)
  have hx := trivial
  refine ⟨_, rfl, ?_⟩
  (first | (rw [put_list]; dsimp only [List.set_cons_zero, List.set_cons_succ]) | rw [put_none])
  clear hf hw1 hw2 hx W0
  iterate 2 (apply Rg.wpK_quiet rfl rfl; (case hq => (intro W hS; have q0 := hS.c p1; have q1 := hS.c p2; have q2 := hS.c p3; have q3 := hS.c p4; have q4 := hS.c p5; have q5 := hS.c p6; go_simp; exact rfl)); (case he => exact rfl); (first | (rw [put_list]; dsimp only [List.set_cons_zero, List.set_cons_succ]) | rw [put_none]))
  iterate 4 (apply Rg.wpK_skip rfl; (case he => exact rfl); (first | (rw [put_list]; dsimp only [List.set_cons_zero, List.set_cons_succ]) | rw [put_none]))
  iterate 2 (apply Rg.wpK_quiet rfl rfl; (case hq => (intro W hS; have q0 := hS.c p1; have q1 := hS.c p2; have q2 := hS.c p3; have q3 := hS.c p4; have q4 := hS.c p5; have q5 := hS.c p6; go_simp; exact rfl)); (case he => exact rfl); (first | (rw [put_list]; dsimp only [List.set_cons_zero, List.set_cons_succ]) | rw [put_none]))
  iterate 4 (apply Rg.wpK_skip rfl; (case he => exact rfl); (first | (rw [put_list]; dsimp only [List.set_cons_zero, List.set_cons_succ]) | rw [put_none]))
  iterate 5 (apply Rg.wpK_quiet rfl rfl; (case hq => (intro W hS; have q0 := hS.c p1; have q1 := hS.c p2; have q2 := hS.c p3; have q3 := hS.c p4; have q4 := hS.c p5; have q5 := hS.c p6; go_simp; exact rfl)); (case he => exact rfl); (first | (rw [put_list]; dsimp only [List.set_cons_zero, List.set_cons_succ]) | rw [put_none]))
  apply Rg.wpK_know rfl rfl
  case ha =>
    intro W hR hS hF
    have hn := n1.trans hS
    have q0 := hS.c p1
    have q1 := hS.c p2
    have q2 := hS.c p3
    have q3 := hS.c p4
    have q4 := hS.c p5
    have q5 := hS.c p6
    unfold Rg.gives
    go_simp
    exact Rg.gives_enter (call_nw (add_c (X1.out.kept hS.kept) (X3.out.kept hS.kept) L1 L3))
  intro u hu
  obtain ⟨W0, hw1, hw2, hf⟩ := hu
  obtain ⟨m29, D29, l29, c29, rfl, hx⟩ := Rg.upd_at rfl (hf 29)
  refine ⟨_, rfl, ?_⟩
  (first | (rw [put_list]; dsimp only [List.set_cons_zero, List.set_cons_succ]) | rw [put_none])
  clear hf hw1 hw2 hx W0
  iterate 2 (apply Rg.wpK_quiet rfl rfl; (case hq => (intro W hS; have q0 := hS.c p1; have q1 := hS.c p2; have q2 := hS.c p3; have q3 := hS.c p4; have q4 := hS.c p5; have q5 := hS.c p6; go_simp; exact rfl)); (case he => exact rfl); (first | (rw [put_list]; dsimp only [List.set_cons_zero, List.set_cons_succ]) | rw [put_none]))
  apply Rg.wpK_know rfl rfl
  case ha =>
    intro W hR hS hF
    have hn := n1.trans hS
    have q0 := hS.c p1
    have q1 := hS.c p2
    have q2 := hS.c p3
    have q3 := hS.c p4
    have q4 := hS.c p5
    have q5 := hS.c p6
    unfold Rg.gives
    go_simp
    exact Rg.gives_enter (call_nw (add_c (X2.out.kept hS.kept) (X3.out.kept hS.kept) L2 L3))
  intro u hu
  obtain ⟨W0, hw1, hw2, hf⟩ := hu
  obtain ⟨m32, D32, l32, c32, rfl, hx⟩ := Rg.upd_at rfl (hf 32)
  refine ⟨_, rfl, ?_⟩
  (first | (rw [put_list]; dsimp only [List.set_cons_zero, List.set_cons_succ]) | rw [put_none])
  clear hf hw1 hw2 hx W0
  apply Rg.wpK_know rfl rfl
  case ha =>
    intro W hR hS hF
    have hn := n1.trans hS
    have q0 := hS.c p1
    have q1 := hS.c p2
    have q2 := hS.c p3
    have q3 := hS.c p4
    have q4 := hS.c p5
    have q5 := hS.c p6
    have i29 := KI.agg (Rg.upd_at rfl (Rg.upd_off rfl (hF 29 (by kernel_rfl))))
    have i32 := KI.agg (Rg.upd_at rfl (hF 32 (by kernel_rfl)))
    unfold Rg.gives
    go_simp
    exact Rg.gives_enter (call_nw (ret_eq (cmp_c i29 i32) (by rw [HPL.out])))
  intro u hu
  obtain ⟨W0, hw1, hw2, hf⟩ := hu
  obtain rfl := Rg.upd_at rfl (hf 33)
  have hx := trivial
  refine ⟨_, rfl, ?_⟩
  (first | (rw [put_list]; dsimp only [List.set_cons_zero, List.set_cons_succ]) | rw [put_none])
  clear hf hw1 hw2 hx W0
  iterate 2 (apply Rg.wpK_quiet rfl rfl; (case hq => (intro W hS; have q0 := hS.c p1; have q1 := hS.c p2; have q2 := hS.c p3; have q3 := hS.c p4; have q4 := hS.c p5; have q5 := hS.c p6; go_simp; exact rfl)); (case he => exact rfl); (first | (rw [put_list]; dsimp only [List.set_cons_zero, List.set_cons_succ]) | rw [put_none]))
  apply Rg.wpK_know rfl rfl
  case ha =>
    intro W hR hS hF
    have hn := n1.trans hS
    have q0 := hS.c p1
    have q1 := hS.c p2
    have q2 := hS.c p3
    have q3 := hS.c p4
    have q4 := hS.c p5
    have q5 := hS.c p6
    unfold Rg.gives
    go_simp
    exact Rg.gives_enter (call_nw (ret_eq (cmp_c (X1.out.kept hS.kept) (X2.out.kept hS.kept)) (by rw [H12.out])))
  intro u hu
  obtain ⟨W0, hw1, hw2, hf⟩ := hu
  obtain rfl := Rg.upd_at rfl (hf 36)
  have hx := trivial
  refine ⟨_, rfl, ?_⟩
  (first | (rw [put_list]; dsimp only [List.set_cons_zero, List.set_cons_succ]) | rw [put_none])
  clear hf hw1 hw2 hx W0
  iterate 4 (apply Rg.wpK_quiet rfl rfl; (case hq => (intro W hS; have q0 := hS.c p1; have q1 := hS.c p2; have q2 := hS.c p3; have q3 := hS.c p4; have q4 := hS.c p5; have q5 := hS.c p6; go_simp; exact rfl)); (case he => exact rfl); (first | (rw [put_list]; dsimp only [List.set_cons_zero, List.set_cons_succ]) | rw [put_none]))
  apply Rg.wpK_know rfl rfl
  case ha =>
    intro W hR hS hF
    have hn := n1.trans hS
    have q0 := hS.c p1
    have q1 := hS.c p2
    have q2 := hS.c p3
    have q3 := hS.c p4
    have q4 := hS.c p5
    have q5 := hS.c p6
    unfold Rg.gives
    go_simp
    exact Rg.gives_enter (call_nw (ret_eq (sign_c (X3.out.kept hS.kept)) (by rw [HS3.out])))
  intro u hu
  obtain ⟨W0, hw1, hw2, hf⟩ := hu
  obtain rfl := Rg.upd_at rfl (hf 41)
  have hx := trivial
  refine ⟨_, rfl, ?_⟩
  (first | (rw [put_list]; dsimp only [List.set_cons_zero, List.set_cons_succ]) | rw [put_none])
  clear hf hw1 hw2 hx W0
  iterate 2 (apply Rg.wpK_quiet rfl rfl; (case hq => (intro W hS; have q0 := hS.c p1; have q1 := hS.c p2; have q2 := hS.c p3; have q3 := hS.c p4; have q4 := hS.c p5; have q5 := hS.c p6; go_simp; exact rfl)); (case he => exact rfl); (first | (rw [put_list]; dsimp only [List.set_cons_zero, List.set_cons_succ]) | rw [put_none]))
  iterate 11 (apply Rg.wpK_skip rfl; (case he => exact rfl); (first | (rw [put_list]; dsimp only [List.set_cons_zero, List.set_cons_succ]) | rw [put_none]))
  iterate 2 (apply Rg.wpK_quiet rfl rfl; (case hq => (intro W hS; have q0 := hS.c p1; have q1 := hS.c p2; have q2 := hS.c p3; have q3 := hS.c p4; have q4 := hS.c p5; have q5 := hS.c p6; go_simp; exact rfl)); (case he => exact rfl); (first | (rw [put_list]; dsimp only [List.set_cons_zero, List.set_cons_succ]) | rw [put_none]))
  refine Rg.wpK_end fun w9 hR hS hF => ?_
  have hn := n1.trans hS
  have i29 := KI.agg (Rg.upd_at rfl (Rg.upd_off rfl (Rg.upd_off rfl (Rg.upd_off rfl (Rg.upd_off rfl (hF 29))))))
  have i32 := KI.agg (Rg.upd_at rfl (Rg.upd_off rfl (Rg.upd_off rfl (Rg.upd_off rfl (hF 32)))))
  clear hF hR
  exact hQ w9 _ _ _ _ _ _ _ _ _ _ _ _ _ _ _ _ _ _ _ _ _ _ _ _ _ _ _ _ _ _ _ _ _ _ _ _ _ _ _ _ _ _ _ _ _ _ _ _ _ _ _ _ _ _ _ _ hS
end Go.Proofs.Ytcgkgcciogibkaa
