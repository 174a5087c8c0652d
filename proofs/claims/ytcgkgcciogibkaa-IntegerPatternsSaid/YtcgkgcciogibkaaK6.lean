/- Contracts and words, parts Pa, in one file. -/
import Derived.Test.YtcgkgcciogibkaaK5
/- IntegerPatterns: the law behind its first statements, by rules. -/
set_option linter.unusedVariables false
set_option linter.unusedSimpArgs false
namespace Go.Proofs.Ytcgkgcciogibkaa.Sy
open Go Go.RowKit Ma
theorem shOk_of {x i : Int} {a : Nat} (h : bd a x) (hi : 32 * (a : Int) + i ≤ 65536) : shOk x i := by
  refine .inr (.inr ?_)
  have := wid_le_of (z := pat x) (n := 32 * a) (by have := bd2.1 h; unfold pat; split <;> omega)
  omega
theorem dep_bit {x y i : Int} {k p : Nat} (h0 : 0 ≤ i) (h : i < p ∨ (p : Int) + k ≤ i) : bt (dep x y k p) i = bt x i := by
  unfold bt
  rw [if_neg (by omega), if_neg (by omega)]
  exact dep_off x y k p i.toNat (by omega)
theorem bo_bit {op x y i : Int} {s t : Bool} (h0 : 0 ≤ i) (hx : bt x i = s) (hy : bt y i = t) : bt (bo op x y) i = ch op s t := by
  unfold bt at *
  rw [if_neg (by omega)] at *
  rw [bo_tb, hx, hy]
theorem and1q (q : Int) (h0 : 0 ≤ q) (h1 : q ≤ 15) : bits .and .i64 q 1 = q % 2 := by
  have : q = 0 ∨ q = 1 ∨ q = 2 ∨ q = 3 ∨ q = 4 ∨ q = 5 ∨ q = 6 ∨ q = 7 ∨ q = 8 ∨ q = 9 ∨ q = 10 ∨ q = 11 ∨ q = 12 ∨ q = 13 ∨ q = 14 ∨ q = 15 := by omega
  rcases this with rfl | rfl | rfl | rfl | rfl | rfl | rfl | rfl | rfl | rfl | rfl | rfl | rfl | rfl | rfl | rfl <;> decide
theorem and_run {q : Int} {x y : Operand} {dst : Option Tmp} {ty : TypeId} {pos : String} {after : Array Edge} {guard : Option (Nat × Bool)} {ρ : Operand → Value} {W : World} (h1 : ρ x = .int .i64 q) (h2 : ρ y = .int .i64 1) (h3 : 0 ≤ q) (h4 : q ≤ 15) :
    (execOp ρ ⟨dst, .binOp .and 3 x y 3, ty, pos, after, guard⟩).run Try.prog W = .ok (.value (.int .i64 (q % 2))) W := by
  rw [← and1q q h3 h4]
  go_simp
set_option maxHeartbeats 25600000 in
set_option maxRecDepth 100000 in
theorem pat_body {x y op b : Int} {k p : Nat} {w0 : World} (X : bd 6 x) (Y : bd 6 y) (o0 : 0 ≤ op) (o1 : op ≤ 255) (hk : k ≤ 255) (hp : p ≤ 255) (b0 : 0 ≤ b) (b1 : b ≤ 65535) :
    SC w0.heap.size 239 w0 (restOf 4 Try.f11) [(2, .vl (.int .u8 op)), (3, .vl (.int .u8 (k : Int))), (4, .vl (.int .u8 (p : Int))), (5, .vl (.int .u16 b)), (12, .vl (.bool false)), (14, .bx (BI 28) (KI (x))), (15, .bx (BI 28) (KI (y)))] (bodyPost Try.prog Try.f11 (Ret w0 (KV (.bool true)))) := by
  conv => arg 4; whnf
  refine SC.seq ?_
  refine SC.region ?_
  refine PW.move rfl rfl rfl rfl rfl ?_
  refine PW.q1 (x := .tmp 53) (.int .i64 (k : Int)) rfl rfl rfl rfl (fun ρ W h1 => by go_simp; exact IntWalk.i64_in _ (by omega)) ?_
  refine PW.move rfl rfl rfl rfl rfl ?_
  refine PW.q1 (x := .tmp 55) (.int .i64 (p : Int)) rfl rfl rfl rfl (fun ρ W h1 => by go_simp; exact IntWalk.i64_in _ (by omega)) ?_
  refine PW.assign rfl rfl rfl rfl rfl ?_
  refine PW.assign rfl rfl rfl rfl rfl ?_
  refine PW.nil ?_
  refine SX.then ?_
  refine SC.seq ?_
  refine SC.region ?_
  refine PW.load rfl rfl rfl rfl rfl rfl ?_
  refine PW.load rfl rfl rfl rfl rfl rfl ?_
  refine PW.call (r := .kw (K2 (KI (bo 6 x y)) (KV (.int .i64 0)))) rfl rfl rfl rfl rfl rfl (K2.st (KI.st _) (KV.st _)) rfl (k_boole X Y (by decide) (by decide) (by decide) (by decide)) ?_
  refine PW.move rfl rfl rfl rfl rfl ?_
  refine PW.ext (r := .kw (KI (bo 6 x y))) rfl rfl rfl rfl rfl ex20 (KI.st _) rfl ?_
  refine PW.ext (r := .vl (.int .i64 0)) rfl rfl rfl rfl rfl ex21v (KV.st _) rfl ?_
  refine PW.alloc (BI 28) rfl rfl rfl rfl rfl bI ?_
  refine PW.store (x := .tmp 61) (r := .kw (KI (bo 6 x y))) rfl rfl rfl rfl rfl rfl sh_I ?_
  refine PW.assign rfl rfl rfl rfl rfl ?_
  refine PW.nil ?_
  refine SX.then ?_
  refine SC.seq ?_
  refine SC.region ?_
  refine PW.load rfl rfl rfl rfl rfl rfl ?_
  refine PW.load rfl rfl rfl rfl rfl rfl ?_
  refine PW.call (r := .kw (K2 (KI (bo 8 x y)) (KV (.int .i64 0)))) rfl rfl rfl rfl rfl rfl (K2.st (KI.st _) (KV.st _)) rfl (k_boole X Y (by decide) (by decide) (by decide) (by decide)) ?_
  refine PW.move rfl rfl rfl rfl rfl ?_
  refine PW.ext (r := .kw (KI (bo 8 x y))) rfl rfl rfl rfl rfl ex20 (KI.st _) rfl ?_
  refine PW.ext (r := .vl (.int .i64 0)) rfl rfl rfl rfl rfl ex21v (KV.st _) rfl ?_
  refine PW.alloc (BI 28) rfl rfl rfl rfl rfl bI ?_
  refine PW.store (x := .tmp 67) (r := .kw (KI (bo 8 x y))) rfl rfl rfl rfl rfl rfl sh_I ?_
  refine PW.assign rfl rfl rfl rfl rfl ?_
  refine PW.nil ?_
  refine SX.then ?_
  refine SC.seq ?_
  refine SC.draw (BI 28) [[], [], [0, 1], [], [0, 1, 2, 3]] (fun n1 => [(0, KI ((-1))), (2, KI (((-1)) - x)), (3, KA (BI 28) n1)]) 4 (fun n1 a => KS (BI 28) n1 22 (AV.of (.kw (KI (((-1)) - x)))) a) (by kernel_rfl) (by kernel_rfl) (by kernel_rfl) bI (fun n1 => ⟨.of (KI.st _), .of (KI.st _), .ka _ _, trivial⟩) fun w1 => ?_
  refine DW.call (k := KI ((-1))) rfl rfl rfl rfl rfl rfl rfl rfl rfl (KI.st _) (k_new (by decide)) ?_
  refine DW.load rfl rfl rfl rfl rfl rfl rfl rfl rfl rfl ?_
  refine DW.call (k := KI (((-1)) - x)) rfl rfl rfl rfl rfl rfl rfl rfl rfl (KI.st _) (k_sub (bd.lit (by decide)) X (by decide) (by decide)) ?_
  refine DW.alloc rfl rfl rfl rfl rfl rfl rfl ?_
  refine DW.store (x := .tmp 71) (r := .kw (KI (((-1)) - x))) rfl rfl rfl rfl rfl rfl rfl rfl rfl rfl (KI.st _) sh_I ?_
  refine SX.then ?_
  refine SC.seq ?_
  refine SC.seq ?_
  refine SC.draw (BI 28) [[], [0], [0, 1], [0, 1, 2], [0, 1, 2, 3], [0, 1, 2, 3, 4], [0, 1, 2, 3, 4, 5], [0, 1, 2, 3, 4, 5, 6], [0, 1, 2, 3, 4, 5, 6], [0, 1, 2, 3, 4, 5, 6, 7, 8], [0, 1, 2, 3, 4, 5, 6], [0, 1, 2, 3, 4, 5, 6, 7, 8, 9, 10], [0, 1, 2, 3, 4, 5, 6], [0, 1, 2, 3, 4, 5, 6], [0, 1, 2, 3, 4, 5, 6, 7, 8, 9, 10, 11, 12, 13], [0, 1, 2, 3, 4, 5, 6, 7, 8, 9, 10, 11, 12, 13, 14], [0, 1, 2, 3, 4, 5, 6, 7, 8, 9, 10, 11, 12, 13, 14, 15], [0, 1, 2, 3, 4, 5, 6, 7, 8, 9, 10, 11, 12, 13, 14, 15, 16], [0, 1, 2, 3, 4, 5, 6, 7, 8, 9, 10, 11, 12, 13, 14, 15, 16, 17], [0, 1, 2, 3, 4, 5, 6, 7, 8, 9, 10, 11, 12, 13, 14, 15, 16, 17, 18], [0, 1, 2, 3, 4, 5, 6, 7, 8, 9, 10, 11, 12, 13, 14, 15, 16, 17, 18, 19], [0, 1, 2, 3, 4, 5, 6, 7, 8, 9, 10, 11, 12, 13, 14, 15, 16, 17, 18], [0, 1, 2, 3, 4, 5, 6, 7, 8, 9, 10, 11, 12, 13, 14, 15, 16, 17, 18, 19, 20, 21], [0, 1, 2, 3, 4, 5, 6, 7, 8, 9, 10, 11, 12, 13, 14, 15, 16, 17, 18, 19, 20, 21, 22], [0, 1, 2, 3, 4, 5, 6, 7, 8, 9, 10, 11, 12, 13, 14, 15, 16, 17, 18, 19, 20, 21, 22, 23], [0, 1, 2, 3, 4, 5, 6, 7, 8, 9, 10, 11, 12, 13, 14, 15, 16, 17, 18, 19, 20, 21, 22, 23, 24], [0, 1, 2, 3, 4, 5, 6, 7, 8, 9, 10, 11, 12, 13, 14, 15, 16, 17, 18, 19, 20, 21, 22, 23, 24, 25], [0, 1, 2, 3, 4, 5, 6, 7, 8, 9, 10, 11, 12, 13, 14, 15, 16, 17, 18, 19, 20, 21, 22, 23, 24, 25, 26], [0, 1, 2, 3, 4, 5, 6, 7, 8, 9, 10, 11, 12, 13, 14, 15, 16, 17, 18, 19, 20, 21, 22, 23, 24, 25], [0, 1, 2, 3, 4, 5, 6, 7, 8, 9, 10, 11, 12, 13, 14, 15, 16, 17, 18, 19, 20, 21, 22, 23, 24, 25, 26, 27, 28], [0, 1, 2, 3, 4, 5, 6, 7, 8, 9, 10, 11, 12, 13, 14, 15, 16, 17, 18, 19, 20, 21, 22, 23, 24, 25, 26, 27, 28, 29], [0, 1, 2, 3, 4, 5, 6, 7, 8, 9, 10, 11, 12, 13, 14, 15, 16, 17, 18, 19, 20, 21, 22, 23, 24, 25, 26, 27, 28, 29, 30]] (fun n1 => [(9, KI ((bo 6 x y) + (bo 8 x y))), (11, KI (((bo 6 x y) + (bo 8 x y)) + (bo 8 x y))), (14, KI (x + y)), (15, KV (.bool true)), (20, KV (.int .i64 (wid (pat x) : Int))), (22, KV (.int .i64 (wid (pat x) : Int))), (27, KV (.int .i64 (pc (pat x).toNat : Int))), (29, KV (.int .i64 (pc (pat x).toNat : Int)))]) 100000 (fun _ _ => KT) (by kernel_rfl) (by kernel_rfl) (by kernel_rfl) bI (fun n1 => ⟨.of (KI.st _), .of (KI.st _), .of (KI.st _), .of (KV.st _), .of (KV.st _), .of (KV.st _), .of (KV.st _), .of (KV.st _), trivial⟩) fun w1 => ?_
  refine DW.move rfl rfl rfl rfl rfl rfl rfl rfl ?_
  refine DW.q2 (x := .tmp 72) (y := .const (.int .i64 0)) (.bool false) rfl rfl rfl rfl rfl rfl rfl rfl (fun ρ W h1 h2 => by go_simp) ?_
  refine DW.move rfl rfl rfl rfl rfl rfl rfl rfl ?_
  refine DW.move rfl rfl rfl rfl rfl rfl rfl rfl ?_
  refine DW.q2 (x := .tmp 75) (y := .const (.int .i64 0)) (.bool false) rfl rfl rfl rfl rfl rfl rfl rfl (fun ρ W h1 h2 => by go_simp) ?_
  refine DW.pick (t := false) rfl rfl rfl rfl rfl rfl rfl rfl rfl ?_
  refine DW.move rfl rfl rfl rfl rfl rfl rfl rfl ?_
  refine DW.load rfl rfl rfl rfl rfl rfl rfl rfl rfl rfl ?_
  refine DW.load rfl rfl rfl rfl rfl rfl rfl rfl rfl rfl ?_
  refine DW.call (k := KI ((bo 6 x y) + (bo 8 x y))) rfl rfl rfl rfl rfl rfl rfl rfl rfl (KI.st _) (k_add (X.bo (op := 6) Y) (X.bo (op := 8) Y) (by decide) (by decide)) ?_
  refine DW.load rfl rfl rfl rfl rfl rfl rfl rfl rfl rfl ?_
  refine DW.call (k := KI (((bo 6 x y) + (bo 8 x y)) + (bo 8 x y))) rfl rfl rfl rfl rfl rfl rfl rfl rfl (KI.st _) (k_add ((X.bo (op := 6) Y).add (X.bo (op := 8) Y)) (X.bo (op := 8) Y) (by decide) (by decide)) ?_
  refine DW.load rfl rfl rfl rfl rfl rfl rfl rfl rfl rfl ?_
  refine DW.load rfl rfl rfl rfl rfl rfl rfl rfl rfl rfl ?_
  refine DW.call (k := KI (x + y)) rfl rfl rfl rfl rfl rfl rfl rfl rfl (KI.st _) (k_add X Y (by decide) (by decide)) ?_
  refine DW.callV rfl rfl rfl rfl rfl rfl rfl rfl rfl rfl (k_same (sum_twice x y)) ?_
  refine DW.q1 (x := .tmp 87) (.bool false) rfl rfl rfl rfl rfl rfl rfl (fun ρ W h1 => by go_simp) ?_
  refine DW.pick (t := false) rfl rfl rfl rfl rfl rfl rfl rfl rfl ?_
  refine DW.move rfl rfl rfl rfl rfl rfl rfl rfl ?_
  refine DW.load rfl rfl rfl rfl rfl rfl rfl rfl rfl rfl ?_
  refine DW.callV rfl rfl rfl rfl rfl rfl rfl rfl rfl rfl (k_len ((bd.lit (by decide)).sub X) (by decide) (by rw [pat_compl])) ?_
  refine DW.load rfl rfl rfl rfl rfl rfl rfl rfl rfl rfl ?_
  refine DW.callV rfl rfl rfl rfl rfl rfl rfl rfl rfl rfl (k_len X (by decide) (rfl)) ?_
  refine DW.q2 (x := .tmp 92) (y := .tmp 94) (.bool false) rfl rfl rfl rfl rfl rfl rfl rfl (fun ρ W h1 h2 => by go_simp) ?_
  refine DW.pick (t := false) rfl rfl rfl rfl rfl rfl rfl rfl rfl ?_
  refine DW.move rfl rfl rfl rfl rfl rfl rfl rfl ?_
  refine DW.load rfl rfl rfl rfl rfl rfl rfl rfl rfl rfl ?_
  refine DW.callV rfl rfl rfl rfl rfl rfl rfl rfl rfl rfl (k_count ((bd.lit (by decide)).sub X) (by decide) (by rw [pat_compl])) ?_
  refine DW.load rfl rfl rfl rfl rfl rfl rfl rfl rfl rfl ?_
  refine DW.callV rfl rfl rfl rfl rfl rfl rfl rfl rfl rfl (k_count X (by decide) (rfl)) ?_
  refine DW.q2 (x := .tmp 99) (y := .tmp 101) (.bool false) rfl rfl rfl rfl rfl rfl rfl rfl (fun ρ W h1 h2 => by go_simp) ?_
  refine DW.pick (t := false) rfl rfl rfl rfl rfl rfl rfl rfl rfl ?_
  refine DW.nil ?_
  refine SX.then ?_
  refine SC.cond (t := false) rfl ?_
  refine SC.skip ?_
  refine SX.then ?_
  refine SC.seq ?_
  refine SC.region ?_
  refine PW.load rfl rfl rfl rfl rfl rfl ?_
  refine PW.load rfl rfl rfl rfl rfl rfl ?_
  refine PW.move rfl rfl rfl rfl rfl ?_
  refine PW.move rfl rfl rfl rfl rfl ?_
  refine PW.call (r := .kw (K2 (KI (dep x y k p)) (KV (.int .i64 0)))) rfl rfl rfl rfl rfl rfl (K2.st (KI.st _) (KV.st _)) rfl (k_dep (k := k) (p := p) X Y (by decide) (by decide) (by omega) (by omega)) ?_
  refine PW.move rfl rfl rfl rfl rfl ?_
  refine PW.ext (r := .kw (KI (dep x y k p))) rfl rfl rfl rfl rfl ex20 (KI.st _) rfl ?_
  refine PW.ext (r := .vl (.int .i64 0)) rfl rfl rfl rfl rfl ex21v (KV.st _) rfl ?_
  refine PW.alloc (BI 28) rfl rfl rfl rfl rfl bI ?_
  refine PW.store (x := .tmp 110) (r := .kw (KI (dep x y k p))) rfl rfl rfl rfl rfl rfl sh_I ?_
  refine PW.assign rfl rfl rfl rfl rfl ?_
  refine PW.nil ?_
  refine SX.then ?_
  refine SC.seq ?_
  refine SC.region ?_
  refine PW.load rfl rfl rfl rfl rfl rfl ?_
  refine PW.move rfl rfl rfl rfl rfl ?_
  refine PW.move rfl rfl rfl rfl rfl ?_
  refine PW.call (r := .kw (K2 (KI (fld (dep x y k p) k p)) (KV (.int .i64 0)))) rfl rfl rfl rfl rfl rfl (K2.st (KI.st _) (KV.st _)) rfl (k_field (k := k) (p := p) (bd.dep (k := k) (p := p) (m := 8) (q := 8) X Y (by omega) (by omega)) (by decide) (by omega) (by omega)) ?_
  refine PW.move rfl rfl rfl rfl rfl ?_
  refine PW.ext (r := .kw (KI (fld (dep x y k p) k p))) rfl rfl rfl rfl rfl ex20 (KI.st _) rfl ?_
  refine PW.ext (r := .vl (.int .i64 0)) rfl rfl rfl rfl rfl ex21v (KV.st _) rfl ?_
  refine PW.alloc (BI 28) rfl rfl rfl rfl rfl bI ?_
  refine PW.store (x := .tmp 117) (r := .kw (KI (fld (dep x y k p) k p))) rfl rfl rfl rfl rfl rfl sh_I ?_
  refine PW.assign rfl rfl rfl rfl rfl ?_
  refine PW.nil ?_
  refine SX.then ?_
  refine SC.seq ?_
  refine SC.region ?_
  refine PW.load rfl rfl rfl rfl rfl rfl ?_
  refine PW.move rfl rfl rfl rfl rfl ?_
  refine PW.call (r := .kw (K2 (KI (fld y k 0)) (KV (.int .i64 0)))) rfl rfl rfl rfl rfl rfl (K2.st (KI.st _) (KV.st _)) rfl (k_field (k := k) (p := 0) Y (by decide) (by omega) (by omega)) ?_
  refine PW.move rfl rfl rfl rfl rfl ?_
  refine PW.ext (r := .kw (KI (fld y k 0))) rfl rfl rfl rfl rfl ex20 (KI.st _) rfl ?_
  refine PW.ext (r := .vl (.int .i64 0)) rfl rfl rfl rfl rfl ex21v (KV.st _) rfl ?_
  refine PW.alloc (BI 28) rfl rfl rfl rfl rfl bI ?_
  refine PW.store (x := .tmp 123) (r := .kw (KI (fld y k 0))) rfl rfl rfl rfl rfl rfl sh_I ?_
  refine PW.assign rfl rfl rfl rfl rfl ?_
  refine PW.nil ?_
  refine SX.then ?_
  refine SC.seq ?_
  refine SC.region ?_
  refine PW.load rfl rfl rfl rfl rfl rfl ?_
  refine PW.move rfl rfl rfl rfl rfl ?_
  refine PW.move rfl rfl rfl rfl rfl ?_
  refine PW.call (r := .kw (K2 (KI (fld x k p)) (KV (.int .i64 0)))) rfl rfl rfl rfl rfl rfl (K2.st (KI.st _) (KV.st _)) rfl (k_field (k := k) (p := p) X (by decide) (by omega) (by omega)) ?_
  refine PW.move rfl rfl rfl rfl rfl ?_
  refine PW.ext (r := .kw (KI (fld x k p))) rfl rfl rfl rfl rfl ex20 (KI.st _) rfl ?_
  refine PW.ext (r := .vl (.int .i64 0)) rfl rfl rfl rfl rfl ex21v (KV.st _) rfl ?_
  refine PW.alloc (BI 28) rfl rfl rfl rfl rfl bI ?_
  refine PW.store (x := .tmp 130) (r := .kw (KI (fld x k p))) rfl rfl rfl rfl rfl rfl sh_I ?_
  refine PW.assign rfl rfl rfl rfl rfl ?_
  refine PW.nil ?_
  refine SX.then ?_
  refine SC.seq ?_
  refine SC.region ?_
  refine PW.load rfl rfl rfl rfl rfl rfl ?_
  refine PW.load rfl rfl rfl rfl rfl rfl ?_
  refine PW.move rfl rfl rfl rfl rfl ?_
  refine PW.move rfl rfl rfl rfl rfl ?_
  refine PW.call (r := .kw (K2 (KI (dep x (fld x k p) k p)) (KV (.int .i64 0)))) rfl rfl rfl rfl rfl rfl (K2.st (KI.st _) (KV.st _)) rfl (k_dep (k := k) (p := p) X (bd.fld (k := k) (p := p) (m := 8) X (by omega)) (by decide) (by decide) (by omega) (by omega)) ?_
  refine PW.move rfl rfl rfl rfl rfl ?_
  refine PW.ext (r := .kw (KI (dep x (fld x k p) k p))) rfl rfl rfl rfl rfl ex20 (KI.st _) rfl ?_
  refine PW.ext (r := .vl (.int .i64 0)) rfl rfl rfl rfl rfl ex21v (KV.st _) rfl ?_
  refine PW.alloc (BI 28) rfl rfl rfl rfl rfl bI ?_
  refine PW.store (x := .tmp 138) (r := .kw (KI (dep x (fld x k p) k p))) rfl rfl rfl rfl rfl rfl sh_I ?_
  refine PW.assign rfl rfl rfl rfl rfl ?_
  refine PW.nil ?_
  refine SX.then ?_
  refine SC.seq ?_
  refine SC.region ?_
  refine PW.load rfl rfl rfl rfl rfl rfl ?_
  refine PW.move rfl rfl rfl rfl rfl ?_
  refine PW.q2 (x := .tmp 142) (y := .const (.int .u8 16)) (.int .u8 (op % 16)) rfl rfl rfl rfl rfl (fun ρ W h1 h2 => by first | (go_simp; done) | (go_simp; exact IntWalk.i64_in _ (by omega)) | (go_simp; exact Int.tmod_eq_emod_of_nonneg (by omega)) | (go_simp; exact Int.tdiv_eq_ediv_of_nonneg (by omega))) ?_
  refine PW.q1 (x := .tmp 143) (.int .i64 (op % 16)) rfl rfl rfl rfl (fun ρ W h1 => by first | (go_simp; done) | (go_simp; exact IntWalk.i64_in _ (by omega)) | (go_simp; exact Int.tmod_eq_emod_of_nonneg (by omega)) | (go_simp; exact Int.tdiv_eq_ediv_of_nonneg (by omega))) ?_
  refine PW.load rfl rfl rfl rfl rfl rfl ?_
  refine PW.call (r := .kw (K2 (KI (bo ((op % 16)) x y)) (KV (.int .i64 0)))) rfl rfl rfl rfl rfl rfl (K2.st (KI.st _) (KV.st _)) rfl (k_boole X Y (by decide) (by decide) (by omega) (by omega)) ?_
  refine PW.move rfl rfl rfl rfl rfl ?_
  refine PW.ext (r := .kw (KI (bo ((op % 16)) x y))) rfl rfl rfl rfl rfl ex20 (KI.st _) rfl ?_
  refine PW.ext (r := .vl (.int .i64 0)) rfl rfl rfl rfl rfl ex21v (KV.st _) rfl ?_
  refine PW.alloc (BI 28) rfl rfl rfl rfl rfl bI ?_
  refine PW.store (x := .tmp 147) (r := .kw (KI (bo ((op % 16)) x y))) rfl rfl rfl rfl rfl rfl sh_I ?_
  refine PW.assign rfl rfl rfl rfl rfl ?_
  refine PW.nil ?_
  refine SX.then ?_
  refine SC.seq ?_
  refine SC.seq ?_
  refine SC.region ?_
  refine PW.move rfl rfl rfl rfl rfl ?_
  refine PW.move rfl rfl rfl rfl rfl ?_
  refine PW.move rfl rfl rfl rfl rfl ?_
  refine PW.move rfl rfl rfl rfl rfl ?_
  refine PW.move rfl rfl rfl rfl rfl ?_
  refine PW.move rfl rfl rfl rfl rfl ?_
  refine PW.qn [(.tmp 149, .int .i64 0), (.tmp 150, .int .i64 0), (.tmp 151, .int .i64 0), (.tmp 152, .int .i64 0), (.tmp 153, .int .i64 0), (.tmp 154, .int .i64 0)] (.int .i64 0) rfl rfl rfl ⟨rfl, rfl, rfl, rfl, rfl, rfl, trivial⟩ (fun ρ W h => by obtain ⟨h1, h2, h3, h4, h5, h6, _⟩ := h; go_simp; kernel_rfl) ?_
  refine PW.q2 (x := .tmp 155) (y := .const (.int .i64 0)) (.bool false) rfl rfl rfl rfl rfl (fun ρ W h1 h2 => by go_simp) ?_
  refine PW.move rfl rfl rfl rfl rfl ?_
  refine PW.load rfl rfl rfl rfl rfl rfl ?_
  refine PW.load rfl rfl rfl rfl rfl rfl ?_
  refine PW.call (r := .vl (.bool true)) rfl rfl rfl rfl rfl rfl (KV.st _) rfl (k_same (fld_dep x y k p)) ?_
  refine PW.q1 (x := .tmp 160) (.bool false) rfl rfl rfl rfl (fun ρ W h1 => by go_simp) ?_
  refine PW.pick (t := false) rfl rfl rfl rfl rfl rfl ?_
  refine PW.move rfl rfl rfl rfl rfl ?_
  refine PW.load rfl rfl rfl rfl rfl rfl ?_
  refine PW.load rfl rfl rfl rfl rfl rfl ?_
  refine PW.call (r := .vl (.bool true)) rfl rfl rfl rfl rfl rfl (KV.st _) rfl (k_same (dep_fld x k p)) ?_
  refine PW.q1 (x := .tmp 166) (.bool false) rfl rfl rfl rfl (fun ρ W h1 => by go_simp) ?_
  refine PW.pick (t := false) rfl rfl rfl rfl rfl rfl ?_
  refine PW.nil ?_
  refine SX.then ?_
  refine SC.cond (t := false) rfl ?_
  refine SC.skip ?_
  refine SX.then ?_
  refine SC.seq ?_
  refine SC.region ?_
  refine PW.move rfl rfl rfl rfl rfl ?_
  refine PW.q2 (x := .tmp 169) (y := .const (.int .u16 300)) (.int .u16 (b % 300)) rfl rfl rfl rfl rfl (fun ρ W h1 h2 => by first | (go_simp; done) | (go_simp; exact IntWalk.i64_in _ (by omega)) | (go_simp; exact Int.tmod_eq_emod_of_nonneg (by omega)) | (go_simp; exact Int.tdiv_eq_ediv_of_nonneg (by omega))) ?_
  refine PW.q1 (x := .tmp 170) (.int .i64 (b % 300)) rfl rfl rfl rfl (fun ρ W h1 => by first | (go_simp; done) | (go_simp; exact IntWalk.i64_in _ (by omega)) | (go_simp; exact Int.tmod_eq_emod_of_nonneg (by omega)) | (go_simp; exact Int.tdiv_eq_ediv_of_nonneg (by omega))) ?_
  refine PW.assign rfl rfl rfl rfl rfl ?_
  refine PW.nil ?_
  refine SX.then ?_
  refine SC.seq ?_
  refine SC.region ?_
  refine PW.assign rfl rfl rfl rfl rfl ?_
  refine PW.nil ?_
  refine SX.then ?_
  refine SC.seq ?_
  refine SC.seq ?_
  by_cases hx : bt x (b % 300) = true
  · refine SC.region ?_
    refine PW.load rfl rfl rfl rfl rfl rfl ?_
    refine PW.move rfl rfl rfl rfl rfl ?_
    refine PW.call (r := .vl (.bool true)) rfl rfl rfl rfl rfl rfl (KV.st _) rfl (k_bit X (by decide) (by omega) (by omega) (hx)) ?_
    refine PW.nil ?_
    refine SX.then ?_
    refine SC.cond (t := true) rfl ?_
    refine SC.region ?_
    refine PW.assign rfl rfl rfl rfl rfl ?_
    refine PW.nil ?_
    refine SX.then ?_
    refine SC.seq ?_
    refine SC.seq ?_
    by_cases hy : bt y (b % 300) = true
    · refine SC.region ?_
      refine PW.load rfl rfl rfl rfl rfl rfl ?_
      refine PW.move rfl rfl rfl rfl rfl ?_
      refine PW.call (r := .vl (.bool true)) rfl rfl rfl rfl rfl rfl (KV.st _) rfl (k_bit Y (by decide) (by omega) (by omega) (hy)) ?_
      refine PW.nil ?_
      refine SX.then ?_
      refine SC.cond (t := true) rfl ?_
      refine SC.region ?_
      refine PW.move rfl rfl rfl rfl rfl ?_
      refine PW.q2 (x := .tmp 178) (y := .const (.int .i64 1)) (.int .i64 3) rfl rfl rfl rfl rfl (fun ρ W h1 h2 => by first | (go_simp; done) | (go_simp; rfl) | (go_simp; exact IntWalk.i64_in _ (by omega))) ?_
      refine PW.assign rfl rfl rfl rfl rfl ?_
      refine PW.nil ?_
      refine SX.then ?_
      refine SC.seq ?_
      refine SC.seq ?_
      by_cases h1 : b % 300 < (p : Int)
      · refine SC.draw (BI 28) [[], [], [0, 1], [0, 1, 2], [0, 1, 2, 3], [0, 1, 2, 3], [0, 1, 2, 3], [0, 1, 2, 3, 5, 6], [0, 1, 2, 3, 4, 5, 6, 7], [0, 1, 2, 3, 4, 5, 6, 7, 8], [0, 1, 2, 3, 4, 5, 6, 7, 8, 9], [0, 1, 2, 3, 4, 5, 6, 7, 8, 9, 10], [0, 1, 2, 3, 4, 5, 6, 7, 8, 9, 10], [0, 1, 2, 3, 4, 5, 6, 7, 8, 9, 10, 11, 12], [0, 1, 2, 3, 4, 5, 6, 7, 8, 9, 10], [0, 1, 2, 3, 4, 5, 6, 7, 8, 9, 10], [0, 1, 2, 3, 4, 5, 6, 7, 8, 9, 10, 11, 12, 13, 14, 15], [0, 1, 2, 3, 4, 5, 6, 7, 8, 9, 10, 11, 12, 13, 14, 15, 16], [0, 1, 2, 3, 4, 5, 6, 7, 8, 9, 10, 11, 12, 13, 14, 15, 16, 17], [0, 1, 2, 3, 4, 5, 6, 7, 8, 9, 10, 11, 12, 13, 14, 15, 16, 17, 18], [0, 1, 2, 3, 4, 5, 6, 7, 8, 9, 10, 11, 12, 13, 14, 15, 16, 17, 18, 19], [0, 1, 2, 3, 4, 5, 6, 7, 8, 9, 10, 11, 12, 13, 14, 15, 16, 17, 18, 19], [0, 1, 2, 3, 4, 5, 6, 7, 8, 9, 10, 11, 12, 13, 14, 15, 16, 17, 18, 19, 20, 21], [0, 1, 2, 3, 4, 5, 6, 7, 8, 9, 10, 11, 12, 13, 14, 15, 16, 17, 18, 19], [0, 1, 2, 3, 4, 5, 6, 7, 8, 9, 10, 11, 12, 13, 14, 15, 16, 17, 18, 19, 23], [0, 1, 2, 3, 4, 5, 6, 7, 8, 9, 10, 11, 12, 13, 14, 15, 16, 17, 18, 19, 23, 24], [0, 1, 2, 3, 4, 5, 6, 7, 8, 9, 10, 11, 12, 13, 14, 15, 16, 17, 18, 19], [0, 1, 2, 3, 4, 5, 6, 7, 8, 9, 10, 11, 12, 13, 14, 15, 16, 17, 18, 19, 23, 24, 25, 26], [0, 1, 2, 3, 4, 5, 6, 7, 8, 9, 10, 11, 12, 13, 14, 15, 16, 17, 18, 19, 23, 24, 25, 26, 27], [0, 1, 2, 3, 4, 5, 6, 7, 8, 9, 10, 11, 12, 13, 14, 15, 16, 17, 18, 19, 23, 24, 25, 26, 27, 28], [0, 1, 2, 3, 4, 5, 6, 7, 8, 9, 10, 11, 12, 13, 14, 15, 16, 17, 18, 19, 20, 21, 22, 23, 24, 25, 26, 27, 28, 29], [0, 1, 2, 3, 4, 5, 6, 7, 8, 9, 10, 11, 12, 13, 14, 15, 16, 17, 18, 19, 20, 21, 22, 23, 24, 25, 26, 27, 28, 29, 30]] (fun n1 => [(13, KV (.bool true)), (16, KV (.bool true)), (22, KV (.bool (ch (op % 16) true true)))]) 100000 (fun _ _ => KT) (by kernel_rfl) (by kernel_rfl) (by kernel_rfl) bI (fun n1 => ⟨.of (KV.st _), .of (KV.st _), .of (KV.st _), trivial⟩) fun w1 => ?_
        refine DW.move rfl rfl rfl rfl rfl rfl rfl rfl ?_
        refine DW.move rfl rfl rfl rfl rfl rfl rfl rfl ?_
        refine DW.q2 (x := .tmp 180) (y := .tmp 181) (.bool true) rfl rfl rfl rfl rfl rfl rfl rfl (fun ρ W h1 h2 => by go_simp) ?_
        refine DW.move rfl rfl rfl rfl rfl rfl rfl rfl ?_
        refine DW.skip rfl rfl rfl rfl ?_
        refine DW.skip rfl rfl rfl rfl ?_
        refine DW.skip rfl rfl rfl rfl ?_
        refine DW.skip rfl rfl rfl rfl ?_
        refine DW.skip rfl rfl rfl rfl ?_
        refine DW.pick (t := true) rfl rfl rfl rfl rfl rfl rfl rfl rfl ?_
        refine DW.move rfl rfl rfl rfl rfl rfl rfl rfl ?_
        refine DW.load rfl rfl rfl rfl rfl rfl rfl rfl rfl rfl ?_
        refine DW.move rfl rfl rfl rfl rfl rfl rfl rfl ?_
        refine DW.callV rfl rfl rfl rfl rfl rfl rfl rfl rfl rfl (k_bit (bd.dep (k := k) (p := p) (m := 8) (q := 8) X Y (by omega) (by omega)) (by decide) (by omega) (by omega) ((dep_bit (by omega) (by omega)).trans (hx))) ?_
        refine DW.load rfl rfl rfl rfl rfl rfl rfl rfl rfl rfl ?_
        refine DW.move rfl rfl rfl rfl rfl rfl rfl rfl ?_
        refine DW.callV rfl rfl rfl rfl rfl rfl rfl rfl rfl rfl (k_bit X (by decide) (by omega) (by omega) (hx)) ?_
        refine DW.q2 (x := .tmp 193) (y := .tmp 196) (.bool false) rfl rfl rfl rfl rfl rfl rfl rfl (fun ρ W h1 h2 => by go_simp) ?_
        refine DW.pick (t := true) rfl rfl rfl rfl rfl rfl rfl rfl rfl ?_
        refine DW.move rfl rfl rfl rfl rfl rfl rfl rfl ?_
        refine DW.load rfl rfl rfl rfl rfl rfl rfl rfl rfl rfl ?_
        refine DW.move rfl rfl rfl rfl rfl rfl rfl rfl ?_
        refine DW.callV rfl rfl rfl rfl rfl rfl rfl rfl rfl rfl (k_bit (X.bo (op := (op % 16)) Y) (by decide) (by omega) (by omega) (bo_bit (by omega) (hx) (hy))) ?_
        refine DW.move rfl rfl rfl rfl rfl rfl rfl rfl ?_
        refine DW.q2 (x := .tmp 203) (y := .const (.int .u8 16)) (.int .u8 (op % 16)) rfl rfl rfl rfl rfl rfl rfl rfl (fun ρ W h1 h2 => by first | (go_simp; done) | (go_simp; exact IntWalk.i64_in _ (by omega)) | (go_simp; exact Int.tmod_eq_emod_of_nonneg (by omega)) | (go_simp; exact Int.tdiv_eq_ediv_of_nonneg (by omega))) ?_
        refine DW.q1 (x := .tmp 204) (.int .i64 (op % 16)) rfl rfl rfl rfl rfl rfl rfl (fun ρ W h1 => by first | (go_simp; done) | (go_simp; exact IntWalk.i64_in _ (by omega)) | (go_simp; exact Int.tmod_eq_emod_of_nonneg (by omega)) | (go_simp; exact Int.tdiv_eq_ediv_of_nonneg (by omega))) ?_
        refine DW.move rfl rfl rfl rfl rfl rfl rfl rfl ?_
        refine DW.q2 (x := .tmp 205) (y := .tmp 206) (.int .i64 (op % 16 / 8)) rfl rfl rfl rfl rfl rfl rfl rfl (fun ρ W h1 h2 => by go_simp) ?_
        refine DW.q2 (x := .tmp 207) (y := .const (.int .i64 1)) (.int .i64 (op % 16 / 8 % 2)) rfl rfl rfl rfl rfl rfl rfl rfl (fun ρ W h1 h2 => by exact and_run h1 h2 (by omega) (by omega)) ?_
        refine DW.q2 (x := .tmp 208) (y := .const (.int .i64 1)) (.bool (ch (op % 16) true true)) rfl rfl rfl rfl rfl rfl rfl rfl (fun ρ W h1 h2 => by go_simp; first | (simp [ch]; done) | (simp [ch]; rfl) | rfl) ?_
        refine DW.q2 (x := .tmp 202) (y := .tmp 209) (.bool false) rfl rfl rfl rfl rfl rfl rfl rfl (fun ρ W h1 h2 => by go_simp) ?_
        refine DW.pick (t := false) rfl rfl rfl rfl rfl rfl rfl rfl rfl ?_
        refine DW.nil ?_
        refine SX.then ?_
        refine SC.cond (t := false) rfl ?_
        refine SC.skip ?_
        refine SX.then ?_
        refine SC.seq ?_
        refine SC.region ?_
        refine PW.load rfl rfl rfl rfl rfl rfl ?_
        refine PW.move rfl rfl rfl rfl rfl ?_
        refine PW.call (r := .kw (K2 (KI (sh x (k : Int))) (KV (.int .i64 0)))) rfl rfl rfl rfl rfl rfl (K2.st (KI.st _) (KV.st _)) rfl (k_Shift X (by decide) (by omega) (by omega) (shOk_of X (by omega))) ?_
        refine PW.move rfl rfl rfl rfl rfl ?_
        refine PW.ext (r := .kw (KI (sh x (k : Int)))) rfl rfl rfl rfl rfl ex20 (KI.st _) rfl ?_
        refine PW.ext (r := .vl (.int .i64 0)) rfl rfl rfl rfl rfl ex21v (KV.st _) rfl ?_
        refine PW.alloc (BI 28) rfl rfl rfl rfl rfl bI ?_
        refine PW.store (x := .tmp 216) (r := .kw (KI (sh x (k : Int)))) rfl rfl rfl rfl rfl rfl sh_I ?_
        refine PW.assign rfl rfl rfl rfl rfl ?_
        refine PW.nil ?_
        refine SX.then ?_
        refine SC.seq ?_
        refine SC.region ?_
        refine PW.load rfl rfl rfl rfl rfl rfl ?_
        refine PW.move rfl rfl rfl rfl rfl ?_
        refine PW.q1 (x := .tmp 220) (.int .i64 (-(k : Int))) rfl rfl rfl rfl (fun ρ W h1 => by first | (go_simp; done) | (go_simp; exact IntWalk.i64_in _ (by omega)) | (go_simp; exact Int.tmod_eq_emod_of_nonneg (by omega)) | (go_simp; exact Int.tdiv_eq_ediv_of_nonneg (by omega))) ?_
        refine PW.call (r := .kw (K2 (KI (sh (sh x (k : Int)) (-(k : Int)))) (KV (.int .i64 0)))) rfl rfl rfl rfl rfl rfl (K2.st (KI.st _) (KV.st _)) rfl (k_Shift (X.up (k := k) (m := 8) (by omega)) (by decide) (by omega) (by omega) (.inl (by omega))) ?_
        refine PW.move rfl rfl rfl rfl rfl ?_
        refine PW.ext (r := .kw (KI (sh (sh x (k : Int)) (-(k : Int))))) rfl rfl rfl rfl rfl ex20 (KI.st _) rfl ?_
        refine PW.ext (r := .vl (.int .i64 0)) rfl rfl rfl rfl rfl ex21v (KV.st _) rfl ?_
        refine PW.alloc (BI 28) rfl rfl rfl rfl rfl bI ?_
        refine PW.store (x := .tmp 223) (r := .kw (KI (sh (sh x (k : Int)) (-(k : Int))))) rfl rfl rfl rfl rfl rfl sh_I ?_
        refine PW.assign rfl rfl rfl rfl rfl ?_
        refine PW.nil ?_
        refine SX.then ?_
        refine SC.seq ?_
        refine SC.region ?_
        refine PW.move rfl rfl rfl rfl rfl ?_
        refine PW.q2 (x := .tmp 225) (y := .const (.int .i64 0)) (.bool true) rfl rfl rfl rfl rfl (fun ρ W h1 h2 => by go_simp) ?_
        refine PW.move rfl rfl rfl rfl rfl ?_
        refine PW.move rfl rfl rfl rfl rfl ?_
        refine PW.q2 (x := .tmp 228) (y := .const (.int .i64 0)) (.bool true) rfl rfl rfl rfl rfl (fun ρ W h1 h2 => by go_simp) ?_
        refine PW.pick (t := true) rfl rfl rfl rfl rfl rfl ?_
        refine PW.move rfl rfl rfl rfl rfl ?_
        refine PW.load rfl rfl rfl rfl rfl rfl ?_
        refine PW.load rfl rfl rfl rfl rfl rfl ?_
        refine PW.call (r := .vl (.bool true)) rfl rfl rfl rfl rfl rfl (KV.st _) rfl (k_same (sh_back x k)) ?_
        refine PW.pick (t := true) rfl rfl rfl rfl rfl rfl ?_
        refine PW.move rfl rfl rfl rfl rfl ?_
        refine PW.call (r := .vl (.bool true)) rfl rfl rfl rfl rfl rfl (KV.st _) rfl (k_awake) ?_
        refine PW.pick (t := true) rfl rfl rfl rfl rfl rfl ?_
        refine PW.assign rfl rfl rfl rfl rfl ?_
        refine PW.nil ?_
        refine SX.then ?_
        refine SC.ret ?_
        exact SX.done (r := .vl (.bool true)) rfl rfl rfl
      · by_cases h2 : (p : Int) + k ≤ b % 300
        · refine SC.draw (BI 28) [[], [], [0, 1], [0, 1, 2], [0, 1, 2, 3], [0, 1, 2, 3], [0, 1, 2, 3], [0, 1, 2, 3, 5, 6], [0, 1, 2, 3, 4, 5, 6, 7], [0, 1, 2, 3, 4, 5, 6, 7, 8], [0, 1, 2, 3, 4, 5, 6, 7, 8, 9], [0, 1, 2, 3, 4, 5, 6, 7, 8, 9, 10], [0, 1, 2, 3, 4, 5, 6, 7, 8, 9, 10], [0, 1, 2, 3, 4, 5, 6, 7, 8, 9, 10, 11, 12], [0, 1, 2, 3, 4, 5, 6, 7, 8, 9, 10], [0, 1, 2, 3, 4, 5, 6, 7, 8, 9, 10], [0, 1, 2, 3, 4, 5, 6, 7, 8, 9, 10, 11, 12, 13, 14, 15], [0, 1, 2, 3, 4, 5, 6, 7, 8, 9, 10, 11, 12, 13, 14, 15, 16], [0, 1, 2, 3, 4, 5, 6, 7, 8, 9, 10, 11, 12, 13, 14, 15, 16, 17], [0, 1, 2, 3, 4, 5, 6, 7, 8, 9, 10, 11, 12, 13, 14, 15, 16, 17, 18], [0, 1, 2, 3, 4, 5, 6, 7, 8, 9, 10, 11, 12, 13, 14, 15, 16, 17, 18, 19], [0, 1, 2, 3, 4, 5, 6, 7, 8, 9, 10, 11, 12, 13, 14, 15, 16, 17, 18, 19], [0, 1, 2, 3, 4, 5, 6, 7, 8, 9, 10, 11, 12, 13, 14, 15, 16, 17, 18, 19, 20, 21], [0, 1, 2, 3, 4, 5, 6, 7, 8, 9, 10, 11, 12, 13, 14, 15, 16, 17, 18, 19], [0, 1, 2, 3, 4, 5, 6, 7, 8, 9, 10, 11, 12, 13, 14, 15, 16, 17, 18, 19, 23], [0, 1, 2, 3, 4, 5, 6, 7, 8, 9, 10, 11, 12, 13, 14, 15, 16, 17, 18, 19, 23, 24], [0, 1, 2, 3, 4, 5, 6, 7, 8, 9, 10, 11, 12, 13, 14, 15, 16, 17, 18, 19], [0, 1, 2, 3, 4, 5, 6, 7, 8, 9, 10, 11, 12, 13, 14, 15, 16, 17, 18, 19, 23, 24, 25, 26], [0, 1, 2, 3, 4, 5, 6, 7, 8, 9, 10, 11, 12, 13, 14, 15, 16, 17, 18, 19, 23, 24, 25, 26, 27], [0, 1, 2, 3, 4, 5, 6, 7, 8, 9, 10, 11, 12, 13, 14, 15, 16, 17, 18, 19, 23, 24, 25, 26, 27, 28], [0, 1, 2, 3, 4, 5, 6, 7, 8, 9, 10, 11, 12, 13, 14, 15, 16, 17, 18, 19, 20, 21, 22, 23, 24, 25, 26, 27, 28, 29], [0, 1, 2, 3, 4, 5, 6, 7, 8, 9, 10, 11, 12, 13, 14, 15, 16, 17, 18, 19, 20, 21, 22, 23, 24, 25, 26, 27, 28, 29, 30]] (fun n1 => [(13, KV (.bool true)), (16, KV (.bool true)), (22, KV (.bool (ch (op % 16) true true)))]) 100000 (fun _ _ => KT) (by kernel_rfl) (by kernel_rfl) (by kernel_rfl) bI (fun n1 => ⟨.of (KV.st _), .of (KV.st _), .of (KV.st _), trivial⟩) fun w1 => ?_
          refine DW.move rfl rfl rfl rfl rfl rfl rfl rfl ?_
          refine DW.move rfl rfl rfl rfl rfl rfl rfl rfl ?_
          refine DW.q2 (x := .tmp 180) (y := .tmp 181) (.bool false) rfl rfl rfl rfl rfl rfl rfl rfl (fun ρ W h1 h2 => by go_simp) ?_
          refine DW.move rfl rfl rfl rfl rfl rfl rfl rfl ?_
          refine DW.move rfl rfl rfl rfl rfl rfl rfl rfl ?_
          refine DW.move rfl rfl rfl rfl rfl rfl rfl rfl ?_
          refine DW.move rfl rfl rfl rfl rfl rfl rfl rfl ?_
          refine DW.q2 (x := .tmp 185) (y := .tmp 186) (.int .i64 ((p : Int) + k)) rfl rfl rfl rfl rfl rfl rfl rfl (fun ρ W h1 h2 => by first | (go_simp; done) | (go_simp; exact IntWalk.i64_in _ (by omega)) | (go_simp; exact Int.tmod_eq_emod_of_nonneg (by omega)) | (go_simp; exact Int.tdiv_eq_ediv_of_nonneg (by omega))) ?_
          refine DW.q2 (x := .tmp 184) (y := .tmp 187) (.bool true) rfl rfl rfl rfl rfl rfl rfl rfl (fun ρ W h1 h2 => by go_simp) ?_
          refine DW.pick (t := false) rfl rfl rfl rfl rfl rfl rfl rfl rfl ?_
          refine DW.move rfl rfl rfl rfl rfl rfl rfl rfl ?_
          refine DW.load rfl rfl rfl rfl rfl rfl rfl rfl rfl rfl ?_
          refine DW.move rfl rfl rfl rfl rfl rfl rfl rfl ?_
          refine DW.callV rfl rfl rfl rfl rfl rfl rfl rfl rfl rfl (k_bit (bd.dep (k := k) (p := p) (m := 8) (q := 8) X Y (by omega) (by omega)) (by decide) (by omega) (by omega) ((dep_bit (by omega) (by omega)).trans (hx))) ?_
          refine DW.load rfl rfl rfl rfl rfl rfl rfl rfl rfl rfl ?_
          refine DW.move rfl rfl rfl rfl rfl rfl rfl rfl ?_
          refine DW.callV rfl rfl rfl rfl rfl rfl rfl rfl rfl rfl (k_bit X (by decide) (by omega) (by omega) (hx)) ?_
          refine DW.q2 (x := .tmp 193) (y := .tmp 196) (.bool false) rfl rfl rfl rfl rfl rfl rfl rfl (fun ρ W h1 h2 => by go_simp) ?_
          refine DW.pick (t := true) rfl rfl rfl rfl rfl rfl rfl rfl rfl ?_
          refine DW.move rfl rfl rfl rfl rfl rfl rfl rfl ?_
          refine DW.load rfl rfl rfl rfl rfl rfl rfl rfl rfl rfl ?_
          refine DW.move rfl rfl rfl rfl rfl rfl rfl rfl ?_
          refine DW.callV rfl rfl rfl rfl rfl rfl rfl rfl rfl rfl (k_bit (X.bo (op := (op % 16)) Y) (by decide) (by omega) (by omega) (bo_bit (by omega) (hx) (hy))) ?_
          refine DW.move rfl rfl rfl rfl rfl rfl rfl rfl ?_
          refine DW.q2 (x := .tmp 203) (y := .const (.int .u8 16)) (.int .u8 (op % 16)) rfl rfl rfl rfl rfl rfl rfl rfl (fun ρ W h1 h2 => by first | (go_simp; done) | (go_simp; exact IntWalk.i64_in _ (by omega)) | (go_simp; exact Int.tmod_eq_emod_of_nonneg (by omega)) | (go_simp; exact Int.tdiv_eq_ediv_of_nonneg (by omega))) ?_
          refine DW.q1 (x := .tmp 204) (.int .i64 (op % 16)) rfl rfl rfl rfl rfl rfl rfl (fun ρ W h1 => by first | (go_simp; done) | (go_simp; exact IntWalk.i64_in _ (by omega)) | (go_simp; exact Int.tmod_eq_emod_of_nonneg (by omega)) | (go_simp; exact Int.tdiv_eq_ediv_of_nonneg (by omega))) ?_
          refine DW.move rfl rfl rfl rfl rfl rfl rfl rfl ?_
          refine DW.q2 (x := .tmp 205) (y := .tmp 206) (.int .i64 (op % 16 / 8)) rfl rfl rfl rfl rfl rfl rfl rfl (fun ρ W h1 h2 => by go_simp) ?_
          refine DW.q2 (x := .tmp 207) (y := .const (.int .i64 1)) (.int .i64 (op % 16 / 8 % 2)) rfl rfl rfl rfl rfl rfl rfl rfl (fun ρ W h1 h2 => by exact and_run h1 h2 (by omega) (by omega)) ?_
          refine DW.q2 (x := .tmp 208) (y := .const (.int .i64 1)) (.bool (ch (op % 16) true true)) rfl rfl rfl rfl rfl rfl rfl rfl (fun ρ W h1 h2 => by go_simp; first | (simp [ch]; done) | (simp [ch]; rfl) | rfl) ?_
          refine DW.q2 (x := .tmp 202) (y := .tmp 209) (.bool false) rfl rfl rfl rfl rfl rfl rfl rfl (fun ρ W h1 h2 => by go_simp) ?_
          refine DW.pick (t := false) rfl rfl rfl rfl rfl rfl rfl rfl rfl ?_
          refine DW.nil ?_
          refine SX.then ?_
          refine SC.cond (t := false) rfl ?_
          refine SC.skip ?_
          refine SX.then ?_
          refine SC.seq ?_
          refine SC.region ?_
          refine PW.load rfl rfl rfl rfl rfl rfl ?_
          refine PW.move rfl rfl rfl rfl rfl ?_
          refine PW.call (r := .kw (K2 (KI (sh x (k : Int))) (KV (.int .i64 0)))) rfl rfl rfl rfl rfl rfl (K2.st (KI.st _) (KV.st _)) rfl (k_Shift X (by decide) (by omega) (by omega) (shOk_of X (by omega))) ?_
          refine PW.move rfl rfl rfl rfl rfl ?_
          refine PW.ext (r := .kw (KI (sh x (k : Int)))) rfl rfl rfl rfl rfl ex20 (KI.st _) rfl ?_
          refine PW.ext (r := .vl (.int .i64 0)) rfl rfl rfl rfl rfl ex21v (KV.st _) rfl ?_
          refine PW.alloc (BI 28) rfl rfl rfl rfl rfl bI ?_
          refine PW.store (x := .tmp 216) (r := .kw (KI (sh x (k : Int)))) rfl rfl rfl rfl rfl rfl sh_I ?_
          refine PW.assign rfl rfl rfl rfl rfl ?_
          refine PW.nil ?_
          refine SX.then ?_
          refine SC.seq ?_
          refine SC.region ?_
          refine PW.load rfl rfl rfl rfl rfl rfl ?_
          refine PW.move rfl rfl rfl rfl rfl ?_
          refine PW.q1 (x := .tmp 220) (.int .i64 (-(k : Int))) rfl rfl rfl rfl (fun ρ W h1 => by first | (go_simp; done) | (go_simp; exact IntWalk.i64_in _ (by omega)) | (go_simp; exact Int.tmod_eq_emod_of_nonneg (by omega)) | (go_simp; exact Int.tdiv_eq_ediv_of_nonneg (by omega))) ?_
          refine PW.call (r := .kw (K2 (KI (sh (sh x (k : Int)) (-(k : Int)))) (KV (.int .i64 0)))) rfl rfl rfl rfl rfl rfl (K2.st (KI.st _) (KV.st _)) rfl (k_Shift (X.up (k := k) (m := 8) (by omega)) (by decide) (by omega) (by omega) (.inl (by omega))) ?_
          refine PW.move rfl rfl rfl rfl rfl ?_
          refine PW.ext (r := .kw (KI (sh (sh x (k : Int)) (-(k : Int))))) rfl rfl rfl rfl rfl ex20 (KI.st _) rfl ?_
          refine PW.ext (r := .vl (.int .i64 0)) rfl rfl rfl rfl rfl ex21v (KV.st _) rfl ?_
          refine PW.alloc (BI 28) rfl rfl rfl rfl rfl bI ?_
          refine PW.store (x := .tmp 223) (r := .kw (KI (sh (sh x (k : Int)) (-(k : Int))))) rfl rfl rfl rfl rfl rfl sh_I ?_
          refine PW.assign rfl rfl rfl rfl rfl ?_
          refine PW.nil ?_
          refine SX.then ?_
          refine SC.seq ?_
          refine SC.region ?_
          refine PW.move rfl rfl rfl rfl rfl ?_
          refine PW.q2 (x := .tmp 225) (y := .const (.int .i64 0)) (.bool true) rfl rfl rfl rfl rfl (fun ρ W h1 h2 => by go_simp) ?_
          refine PW.move rfl rfl rfl rfl rfl ?_
          refine PW.move rfl rfl rfl rfl rfl ?_
          refine PW.q2 (x := .tmp 228) (y := .const (.int .i64 0)) (.bool true) rfl rfl rfl rfl rfl (fun ρ W h1 h2 => by go_simp) ?_
          refine PW.pick (t := true) rfl rfl rfl rfl rfl rfl ?_
          refine PW.move rfl rfl rfl rfl rfl ?_
          refine PW.load rfl rfl rfl rfl rfl rfl ?_
          refine PW.load rfl rfl rfl rfl rfl rfl ?_
          refine PW.call (r := .vl (.bool true)) rfl rfl rfl rfl rfl rfl (KV.st _) rfl (k_same (sh_back x k)) ?_
          refine PW.pick (t := true) rfl rfl rfl rfl rfl rfl ?_
          refine PW.move rfl rfl rfl rfl rfl ?_
          refine PW.call (r := .vl (.bool true)) rfl rfl rfl rfl rfl rfl (KV.st _) rfl (k_awake) ?_
          refine PW.pick (t := true) rfl rfl rfl rfl rfl rfl ?_
          refine PW.assign rfl rfl rfl rfl rfl ?_
          refine PW.nil ?_
          refine SX.then ?_
          refine SC.ret ?_
          exact SX.done (r := .vl (.bool true)) rfl rfl rfl
        · refine SC.draw (BI 28) [[], [], [0, 1], [0, 1, 2], [0, 1, 2, 3], [0, 1, 2, 3], [0, 1, 2, 3], [0, 1, 2, 3, 5, 6], [0, 1, 2, 3, 4, 5, 6, 7], [0, 1, 2, 3, 4, 5, 6, 7, 8], [0, 1, 2, 3, 4, 5, 6, 7, 8, 9], [0, 1, 2, 3, 4, 5, 6, 7, 8, 9, 10], [0, 1, 2, 3, 4, 5, 6, 7, 8, 9, 10], [0, 1, 2, 3, 4, 5, 6, 7, 8, 9, 10, 11, 12], [0, 1, 2, 3, 4, 5, 6, 7, 8, 9, 10], [0, 1, 2, 3, 4, 5, 6, 7, 8, 9, 10], [0, 1, 2, 3, 4, 5, 6, 7, 8, 9, 10, 11, 12, 13, 14, 15], [0, 1, 2, 3, 4, 5, 6, 7, 8, 9, 10, 11, 12, 13, 14, 15, 16], [0, 1, 2, 3, 4, 5, 6, 7, 8, 9, 10, 11, 12, 13, 14, 15, 16, 17], [0, 1, 2, 3, 4, 5, 6, 7, 8, 9, 10, 11, 12, 13, 14, 15, 16, 17, 18], [0, 1, 2, 3, 4, 5, 6, 7, 8, 9, 10, 11, 12, 13, 14, 15, 16, 17, 18, 19], [0, 1, 2, 3, 4, 5, 6, 7, 8, 9, 10, 11, 12, 13, 14, 15, 16, 17, 18, 19], [0, 1, 2, 3, 4, 5, 6, 7, 8, 9, 10, 11, 12, 13, 14, 15, 16, 17, 18, 19, 20, 21], [0, 1, 2, 3, 4, 5, 6, 7, 8, 9, 10, 11, 12, 13, 14, 15, 16, 17, 18, 19], [0, 1, 2, 3, 4, 5, 6, 7, 8, 9, 10, 11, 12, 13, 14, 15, 16, 17, 18, 19, 23], [0, 1, 2, 3, 4, 5, 6, 7, 8, 9, 10, 11, 12, 13, 14, 15, 16, 17, 18, 19, 23, 24], [0, 1, 2, 3, 4, 5, 6, 7, 8, 9, 10, 11, 12, 13, 14, 15, 16, 17, 18, 19], [0, 1, 2, 3, 4, 5, 6, 7, 8, 9, 10, 11, 12, 13, 14, 15, 16, 17, 18, 19, 23, 24, 25, 26], [0, 1, 2, 3, 4, 5, 6, 7, 8, 9, 10, 11, 12, 13, 14, 15, 16, 17, 18, 19, 23, 24, 25, 26, 27], [0, 1, 2, 3, 4, 5, 6, 7, 8, 9, 10, 11, 12, 13, 14, 15, 16, 17, 18, 19, 23, 24, 25, 26, 27, 28], [0, 1, 2, 3, 4, 5, 6, 7, 8, 9, 10, 11, 12, 13, 14, 15, 16, 17, 18, 19, 20, 21, 22, 23, 24, 25, 26, 27, 28, 29], [0, 1, 2, 3, 4, 5, 6, 7, 8, 9, 10, 11, 12, 13, 14, 15, 16, 17, 18, 19, 20, 21, 22, 23, 24, 25, 26, 27, 28, 29, 30]] (fun n1 => [(22, KV (.bool (ch (op % 16) true true)))]) 100000 (fun _ _ => KT) (by kernel_rfl) (by kernel_rfl) (by kernel_rfl) bI (fun n1 => ⟨.of (KV.st _), trivial⟩) fun w1 => ?_
          refine DW.move rfl rfl rfl rfl rfl rfl rfl rfl ?_
          refine DW.move rfl rfl rfl rfl rfl rfl rfl rfl ?_
          refine DW.q2 (x := .tmp 180) (y := .tmp 181) (.bool false) rfl rfl rfl rfl rfl rfl rfl rfl (fun ρ W h1 h2 => by go_simp) ?_
          refine DW.move rfl rfl rfl rfl rfl rfl rfl rfl ?_
          refine DW.move rfl rfl rfl rfl rfl rfl rfl rfl ?_
          refine DW.move rfl rfl rfl rfl rfl rfl rfl rfl ?_
          refine DW.move rfl rfl rfl rfl rfl rfl rfl rfl ?_
          refine DW.q2 (x := .tmp 185) (y := .tmp 186) (.int .i64 ((p : Int) + k)) rfl rfl rfl rfl rfl rfl rfl rfl (fun ρ W h1 h2 => by first | (go_simp; done) | (go_simp; exact IntWalk.i64_in _ (by omega)) | (go_simp; exact Int.tmod_eq_emod_of_nonneg (by omega)) | (go_simp; exact Int.tdiv_eq_ediv_of_nonneg (by omega))) ?_
          refine DW.q2 (x := .tmp 184) (y := .tmp 187) (.bool false) rfl rfl rfl rfl rfl rfl rfl rfl (fun ρ W h1 h2 => by go_simp) ?_
          refine DW.pick (t := false) rfl rfl rfl rfl rfl rfl rfl rfl rfl ?_
          refine DW.move rfl rfl rfl rfl rfl rfl rfl rfl ?_
          refine DW.skip rfl rfl rfl rfl ?_
          refine DW.skip rfl rfl rfl rfl ?_
          refine DW.skip rfl rfl rfl rfl ?_
          refine DW.skip rfl rfl rfl rfl ?_
          refine DW.skip rfl rfl rfl rfl ?_
          refine DW.skip rfl rfl rfl rfl ?_
          refine DW.skip rfl rfl rfl rfl ?_
          refine DW.pick (t := false) rfl rfl rfl rfl rfl rfl rfl rfl rfl ?_
          refine DW.move rfl rfl rfl rfl rfl rfl rfl rfl ?_
          refine DW.load rfl rfl rfl rfl rfl rfl rfl rfl rfl rfl ?_
          refine DW.move rfl rfl rfl rfl rfl rfl rfl rfl ?_
          refine DW.callV rfl rfl rfl rfl rfl rfl rfl rfl rfl rfl (k_bit (X.bo (op := (op % 16)) Y) (by decide) (by omega) (by omega) (bo_bit (by omega) (hx) (hy))) ?_
          refine DW.move rfl rfl rfl rfl rfl rfl rfl rfl ?_
          refine DW.q2 (x := .tmp 203) (y := .const (.int .u8 16)) (.int .u8 (op % 16)) rfl rfl rfl rfl rfl rfl rfl rfl (fun ρ W h1 h2 => by first | (go_simp; done) | (go_simp; exact IntWalk.i64_in _ (by omega)) | (go_simp; exact Int.tmod_eq_emod_of_nonneg (by omega)) | (go_simp; exact Int.tdiv_eq_ediv_of_nonneg (by omega))) ?_
          refine DW.q1 (x := .tmp 204) (.int .i64 (op % 16)) rfl rfl rfl rfl rfl rfl rfl (fun ρ W h1 => by first | (go_simp; done) | (go_simp; exact IntWalk.i64_in _ (by omega)) | (go_simp; exact Int.tmod_eq_emod_of_nonneg (by omega)) | (go_simp; exact Int.tdiv_eq_ediv_of_nonneg (by omega))) ?_
          refine DW.move rfl rfl rfl rfl rfl rfl rfl rfl ?_
          refine DW.q2 (x := .tmp 205) (y := .tmp 206) (.int .i64 (op % 16 / 8)) rfl rfl rfl rfl rfl rfl rfl rfl (fun ρ W h1 h2 => by go_simp) ?_
          refine DW.q2 (x := .tmp 207) (y := .const (.int .i64 1)) (.int .i64 (op % 16 / 8 % 2)) rfl rfl rfl rfl rfl rfl rfl rfl (fun ρ W h1 h2 => by exact and_run h1 h2 (by omega) (by omega)) ?_
          refine DW.q2 (x := .tmp 208) (y := .const (.int .i64 1)) (.bool (ch (op % 16) true true)) rfl rfl rfl rfl rfl rfl rfl rfl (fun ρ W h1 h2 => by go_simp; first | (simp [ch]; done) | (simp [ch]; rfl) | rfl) ?_
          refine DW.q2 (x := .tmp 202) (y := .tmp 209) (.bool false) rfl rfl rfl rfl rfl rfl rfl rfl (fun ρ W h1 h2 => by go_simp) ?_
          refine DW.pick (t := false) rfl rfl rfl rfl rfl rfl rfl rfl rfl ?_
          refine DW.nil ?_
          refine SX.then ?_
          refine SC.cond (t := false) rfl ?_
          refine SC.skip ?_
          refine SX.then ?_
          refine SC.seq ?_
          refine SC.region ?_
          refine PW.load rfl rfl rfl rfl rfl rfl ?_
          refine PW.move rfl rfl rfl rfl rfl ?_
          refine PW.call (r := .kw (K2 (KI (sh x (k : Int))) (KV (.int .i64 0)))) rfl rfl rfl rfl rfl rfl (K2.st (KI.st _) (KV.st _)) rfl (k_Shift X (by decide) (by omega) (by omega) (shOk_of X (by omega))) ?_
          refine PW.move rfl rfl rfl rfl rfl ?_
          refine PW.ext (r := .kw (KI (sh x (k : Int)))) rfl rfl rfl rfl rfl ex20 (KI.st _) rfl ?_
          refine PW.ext (r := .vl (.int .i64 0)) rfl rfl rfl rfl rfl ex21v (KV.st _) rfl ?_
          refine PW.alloc (BI 28) rfl rfl rfl rfl rfl bI ?_
          refine PW.store (x := .tmp 216) (r := .kw (KI (sh x (k : Int)))) rfl rfl rfl rfl rfl rfl sh_I ?_
          refine PW.assign rfl rfl rfl rfl rfl ?_
          refine PW.nil ?_
          refine SX.then ?_
          refine SC.seq ?_
          refine SC.region ?_
          refine PW.load rfl rfl rfl rfl rfl rfl ?_
          refine PW.move rfl rfl rfl rfl rfl ?_
          refine PW.q1 (x := .tmp 220) (.int .i64 (-(k : Int))) rfl rfl rfl rfl (fun ρ W h1 => by first | (go_simp; done) | (go_simp; exact IntWalk.i64_in _ (by omega)) | (go_simp; exact Int.tmod_eq_emod_of_nonneg (by omega)) | (go_simp; exact Int.tdiv_eq_ediv_of_nonneg (by omega))) ?_
          refine PW.call (r := .kw (K2 (KI (sh (sh x (k : Int)) (-(k : Int)))) (KV (.int .i64 0)))) rfl rfl rfl rfl rfl rfl (K2.st (KI.st _) (KV.st _)) rfl (k_Shift (X.up (k := k) (m := 8) (by omega)) (by decide) (by omega) (by omega) (.inl (by omega))) ?_
          refine PW.move rfl rfl rfl rfl rfl ?_
          refine PW.ext (r := .kw (KI (sh (sh x (k : Int)) (-(k : Int))))) rfl rfl rfl rfl rfl ex20 (KI.st _) rfl ?_
          refine PW.ext (r := .vl (.int .i64 0)) rfl rfl rfl rfl rfl ex21v (KV.st _) rfl ?_
          refine PW.alloc (BI 28) rfl rfl rfl rfl rfl bI ?_
          refine PW.store (x := .tmp 223) (r := .kw (KI (sh (sh x (k : Int)) (-(k : Int))))) rfl rfl rfl rfl rfl rfl sh_I ?_
          refine PW.assign rfl rfl rfl rfl rfl ?_
          refine PW.nil ?_
          refine SX.then ?_
          refine SC.seq ?_
          refine SC.region ?_
          refine PW.move rfl rfl rfl rfl rfl ?_
          refine PW.q2 (x := .tmp 225) (y := .const (.int .i64 0)) (.bool true) rfl rfl rfl rfl rfl (fun ρ W h1 h2 => by go_simp) ?_
          refine PW.move rfl rfl rfl rfl rfl ?_
          refine PW.move rfl rfl rfl rfl rfl ?_
          refine PW.q2 (x := .tmp 228) (y := .const (.int .i64 0)) (.bool true) rfl rfl rfl rfl rfl (fun ρ W h1 h2 => by go_simp) ?_
          refine PW.pick (t := true) rfl rfl rfl rfl rfl rfl ?_
          refine PW.move rfl rfl rfl rfl rfl ?_
          refine PW.load rfl rfl rfl rfl rfl rfl ?_
          refine PW.load rfl rfl rfl rfl rfl rfl ?_
          refine PW.call (r := .vl (.bool true)) rfl rfl rfl rfl rfl rfl (KV.st _) rfl (k_same (sh_back x k)) ?_
          refine PW.pick (t := true) rfl rfl rfl rfl rfl rfl ?_
          refine PW.move rfl rfl rfl rfl rfl ?_
          refine PW.call (r := .vl (.bool true)) rfl rfl rfl rfl rfl rfl (KV.st _) rfl (k_awake) ?_
          refine PW.pick (t := true) rfl rfl rfl rfl rfl rfl ?_
          refine PW.assign rfl rfl rfl rfl rfl ?_
          refine PW.nil ?_
          refine SX.then ?_
          refine SC.ret ?_
          exact SX.done (r := .vl (.bool true)) rfl rfl rfl
    · refine SC.region ?_
      refine PW.load rfl rfl rfl rfl rfl rfl ?_
      refine PW.move rfl rfl rfl rfl rfl ?_
      refine PW.call (r := .vl (.bool false)) rfl rfl rfl rfl rfl rfl (KV.st _) rfl (k_bit Y (by decide) (by omega) (by omega) (Bool.eq_false_iff.2 hy)) ?_
      refine PW.nil ?_
      refine SX.then ?_
      refine SC.cond (t := false) rfl ?_
      refine SC.skip ?_
      refine SX.then ?_
      refine SC.seq ?_
      refine SC.seq ?_
      by_cases h1 : b % 300 < (p : Int)
      · refine SC.draw (BI 28) [[], [], [0, 1], [0, 1, 2], [0, 1, 2, 3], [0, 1, 2, 3], [0, 1, 2, 3], [0, 1, 2, 3, 5, 6], [0, 1, 2, 3, 4, 5, 6, 7], [0, 1, 2, 3, 4, 5, 6, 7, 8], [0, 1, 2, 3, 4, 5, 6, 7, 8, 9], [0, 1, 2, 3, 4, 5, 6, 7, 8, 9, 10], [0, 1, 2, 3, 4, 5, 6, 7, 8, 9, 10], [0, 1, 2, 3, 4, 5, 6, 7, 8, 9, 10, 11, 12], [0, 1, 2, 3, 4, 5, 6, 7, 8, 9, 10], [0, 1, 2, 3, 4, 5, 6, 7, 8, 9, 10], [0, 1, 2, 3, 4, 5, 6, 7, 8, 9, 10, 11, 12, 13, 14, 15], [0, 1, 2, 3, 4, 5, 6, 7, 8, 9, 10, 11, 12, 13, 14, 15, 16], [0, 1, 2, 3, 4, 5, 6, 7, 8, 9, 10, 11, 12, 13, 14, 15, 16, 17], [0, 1, 2, 3, 4, 5, 6, 7, 8, 9, 10, 11, 12, 13, 14, 15, 16, 17, 18], [0, 1, 2, 3, 4, 5, 6, 7, 8, 9, 10, 11, 12, 13, 14, 15, 16, 17, 18, 19], [0, 1, 2, 3, 4, 5, 6, 7, 8, 9, 10, 11, 12, 13, 14, 15, 16, 17, 18, 19], [0, 1, 2, 3, 4, 5, 6, 7, 8, 9, 10, 11, 12, 13, 14, 15, 16, 17, 18, 19, 20, 21], [0, 1, 2, 3, 4, 5, 6, 7, 8, 9, 10, 11, 12, 13, 14, 15, 16, 17, 18, 19], [0, 1, 2, 3, 4, 5, 6, 7, 8, 9, 10, 11, 12, 13, 14, 15, 16, 17, 18, 19, 23], [0, 1, 2, 3, 4, 5, 6, 7, 8, 9, 10, 11, 12, 13, 14, 15, 16, 17, 18, 19, 23, 24], [0, 1, 2, 3, 4, 5, 6, 7, 8, 9, 10, 11, 12, 13, 14, 15, 16, 17, 18, 19], [0, 1, 2, 3, 4, 5, 6, 7, 8, 9, 10, 11, 12, 13, 14, 15, 16, 17, 18, 19, 23, 24, 25, 26], [0, 1, 2, 3, 4, 5, 6, 7, 8, 9, 10, 11, 12, 13, 14, 15, 16, 17, 18, 19, 23, 24, 25, 26, 27], [0, 1, 2, 3, 4, 5, 6, 7, 8, 9, 10, 11, 12, 13, 14, 15, 16, 17, 18, 19, 23, 24, 25, 26, 27, 28], [0, 1, 2, 3, 4, 5, 6, 7, 8, 9, 10, 11, 12, 13, 14, 15, 16, 17, 18, 19, 20, 21, 22, 23, 24, 25, 26, 27, 28, 29], [0, 1, 2, 3, 4, 5, 6, 7, 8, 9, 10, 11, 12, 13, 14, 15, 16, 17, 18, 19, 20, 21, 22, 23, 24, 25, 26, 27, 28, 29, 30]] (fun n1 => [(13, KV (.bool true)), (16, KV (.bool true)), (22, KV (.bool (ch (op % 16) true false)))]) 100000 (fun _ _ => KT) (by kernel_rfl) (by kernel_rfl) (by kernel_rfl) bI (fun n1 => ⟨.of (KV.st _), .of (KV.st _), .of (KV.st _), trivial⟩) fun w1 => ?_
        refine DW.move rfl rfl rfl rfl rfl rfl rfl rfl ?_
        refine DW.move rfl rfl rfl rfl rfl rfl rfl rfl ?_
        refine DW.q2 (x := .tmp 180) (y := .tmp 181) (.bool true) rfl rfl rfl rfl rfl rfl rfl rfl (fun ρ W h1 h2 => by go_simp) ?_
        refine DW.move rfl rfl rfl rfl rfl rfl rfl rfl ?_
        refine DW.skip rfl rfl rfl rfl ?_
        refine DW.skip rfl rfl rfl rfl ?_
        refine DW.skip rfl rfl rfl rfl ?_
        refine DW.skip rfl rfl rfl rfl ?_
        refine DW.skip rfl rfl rfl rfl ?_
        refine DW.pick (t := true) rfl rfl rfl rfl rfl rfl rfl rfl rfl ?_
        refine DW.move rfl rfl rfl rfl rfl rfl rfl rfl ?_
        refine DW.load rfl rfl rfl rfl rfl rfl rfl rfl rfl rfl ?_
        refine DW.move rfl rfl rfl rfl rfl rfl rfl rfl ?_
        refine DW.callV rfl rfl rfl rfl rfl rfl rfl rfl rfl rfl (k_bit (bd.dep (k := k) (p := p) (m := 8) (q := 8) X Y (by omega) (by omega)) (by decide) (by omega) (by omega) ((dep_bit (by omega) (by omega)).trans (hx))) ?_
        refine DW.load rfl rfl rfl rfl rfl rfl rfl rfl rfl rfl ?_
        refine DW.move rfl rfl rfl rfl rfl rfl rfl rfl ?_
        refine DW.callV rfl rfl rfl rfl rfl rfl rfl rfl rfl rfl (k_bit X (by decide) (by omega) (by omega) (hx)) ?_
        refine DW.q2 (x := .tmp 193) (y := .tmp 196) (.bool false) rfl rfl rfl rfl rfl rfl rfl rfl (fun ρ W h1 h2 => by go_simp) ?_
        refine DW.pick (t := true) rfl rfl rfl rfl rfl rfl rfl rfl rfl ?_
        refine DW.move rfl rfl rfl rfl rfl rfl rfl rfl ?_
        refine DW.load rfl rfl rfl rfl rfl rfl rfl rfl rfl rfl ?_
        refine DW.move rfl rfl rfl rfl rfl rfl rfl rfl ?_
        refine DW.callV rfl rfl rfl rfl rfl rfl rfl rfl rfl rfl (k_bit (X.bo (op := (op % 16)) Y) (by decide) (by omega) (by omega) (bo_bit (by omega) (hx) (Bool.eq_false_iff.2 hy))) ?_
        refine DW.move rfl rfl rfl rfl rfl rfl rfl rfl ?_
        refine DW.q2 (x := .tmp 203) (y := .const (.int .u8 16)) (.int .u8 (op % 16)) rfl rfl rfl rfl rfl rfl rfl rfl (fun ρ W h1 h2 => by first | (go_simp; done) | (go_simp; exact IntWalk.i64_in _ (by omega)) | (go_simp; exact Int.tmod_eq_emod_of_nonneg (by omega)) | (go_simp; exact Int.tdiv_eq_ediv_of_nonneg (by omega))) ?_
        refine DW.q1 (x := .tmp 204) (.int .i64 (op % 16)) rfl rfl rfl rfl rfl rfl rfl (fun ρ W h1 => by first | (go_simp; done) | (go_simp; exact IntWalk.i64_in _ (by omega)) | (go_simp; exact Int.tmod_eq_emod_of_nonneg (by omega)) | (go_simp; exact Int.tdiv_eq_ediv_of_nonneg (by omega))) ?_
        refine DW.move rfl rfl rfl rfl rfl rfl rfl rfl ?_
        refine DW.q2 (x := .tmp 205) (y := .tmp 206) (.int .i64 (op % 16 / 4)) rfl rfl rfl rfl rfl rfl rfl rfl (fun ρ W h1 h2 => by go_simp) ?_
        refine DW.q2 (x := .tmp 207) (y := .const (.int .i64 1)) (.int .i64 (op % 16 / 4 % 2)) rfl rfl rfl rfl rfl rfl rfl rfl (fun ρ W h1 h2 => by exact and_run h1 h2 (by omega) (by omega)) ?_
        refine DW.q2 (x := .tmp 208) (y := .const (.int .i64 1)) (.bool (ch (op % 16) true false)) rfl rfl rfl rfl rfl rfl rfl rfl (fun ρ W h1 h2 => by go_simp; first | (simp [ch]; done) | (simp [ch]; rfl) | rfl) ?_
        refine DW.q2 (x := .tmp 202) (y := .tmp 209) (.bool false) rfl rfl rfl rfl rfl rfl rfl rfl (fun ρ W h1 h2 => by go_simp) ?_
        refine DW.pick (t := false) rfl rfl rfl rfl rfl rfl rfl rfl rfl ?_
        refine DW.nil ?_
        refine SX.then ?_
        refine SC.cond (t := false) rfl ?_
        refine SC.skip ?_
        refine SX.then ?_
        refine SC.seq ?_
        refine SC.region ?_
        refine PW.load rfl rfl rfl rfl rfl rfl ?_
        refine PW.move rfl rfl rfl rfl rfl ?_
        refine PW.call (r := .kw (K2 (KI (sh x (k : Int))) (KV (.int .i64 0)))) rfl rfl rfl rfl rfl rfl (K2.st (KI.st _) (KV.st _)) rfl (k_Shift X (by decide) (by omega) (by omega) (shOk_of X (by omega))) ?_
        refine PW.move rfl rfl rfl rfl rfl ?_
        refine PW.ext (r := .kw (KI (sh x (k : Int)))) rfl rfl rfl rfl rfl ex20 (KI.st _) rfl ?_
        refine PW.ext (r := .vl (.int .i64 0)) rfl rfl rfl rfl rfl ex21v (KV.st _) rfl ?_
        refine PW.alloc (BI 28) rfl rfl rfl rfl rfl bI ?_
        refine PW.store (x := .tmp 216) (r := .kw (KI (sh x (k : Int)))) rfl rfl rfl rfl rfl rfl sh_I ?_
        refine PW.assign rfl rfl rfl rfl rfl ?_
        refine PW.nil ?_
        refine SX.then ?_
        refine SC.seq ?_
        refine SC.region ?_
        refine PW.load rfl rfl rfl rfl rfl rfl ?_
        refine PW.move rfl rfl rfl rfl rfl ?_
        refine PW.q1 (x := .tmp 220) (.int .i64 (-(k : Int))) rfl rfl rfl rfl (fun ρ W h1 => by first | (go_simp; done) | (go_simp; exact IntWalk.i64_in _ (by omega)) | (go_simp; exact Int.tmod_eq_emod_of_nonneg (by omega)) | (go_simp; exact Int.tdiv_eq_ediv_of_nonneg (by omega))) ?_
        refine PW.call (r := .kw (K2 (KI (sh (sh x (k : Int)) (-(k : Int)))) (KV (.int .i64 0)))) rfl rfl rfl rfl rfl rfl (K2.st (KI.st _) (KV.st _)) rfl (k_Shift (X.up (k := k) (m := 8) (by omega)) (by decide) (by omega) (by omega) (.inl (by omega))) ?_
        refine PW.move rfl rfl rfl rfl rfl ?_
        refine PW.ext (r := .kw (KI (sh (sh x (k : Int)) (-(k : Int))))) rfl rfl rfl rfl rfl ex20 (KI.st _) rfl ?_
        refine PW.ext (r := .vl (.int .i64 0)) rfl rfl rfl rfl rfl ex21v (KV.st _) rfl ?_
        refine PW.alloc (BI 28) rfl rfl rfl rfl rfl bI ?_
        refine PW.store (x := .tmp 223) (r := .kw (KI (sh (sh x (k : Int)) (-(k : Int))))) rfl rfl rfl rfl rfl rfl sh_I ?_
        refine PW.assign rfl rfl rfl rfl rfl ?_
        refine PW.nil ?_
        refine SX.then ?_
        refine SC.seq ?_
        refine SC.region ?_
        refine PW.move rfl rfl rfl rfl rfl ?_
        refine PW.q2 (x := .tmp 225) (y := .const (.int .i64 0)) (.bool true) rfl rfl rfl rfl rfl (fun ρ W h1 h2 => by go_simp) ?_
        refine PW.move rfl rfl rfl rfl rfl ?_
        refine PW.move rfl rfl rfl rfl rfl ?_
        refine PW.q2 (x := .tmp 228) (y := .const (.int .i64 0)) (.bool true) rfl rfl rfl rfl rfl (fun ρ W h1 h2 => by go_simp) ?_
        refine PW.pick (t := true) rfl rfl rfl rfl rfl rfl ?_
        refine PW.move rfl rfl rfl rfl rfl ?_
        refine PW.load rfl rfl rfl rfl rfl rfl ?_
        refine PW.load rfl rfl rfl rfl rfl rfl ?_
        refine PW.call (r := .vl (.bool true)) rfl rfl rfl rfl rfl rfl (KV.st _) rfl (k_same (sh_back x k)) ?_
        refine PW.pick (t := true) rfl rfl rfl rfl rfl rfl ?_
        refine PW.move rfl rfl rfl rfl rfl ?_
        refine PW.call (r := .vl (.bool true)) rfl rfl rfl rfl rfl rfl (KV.st _) rfl (k_awake) ?_
        refine PW.pick (t := true) rfl rfl rfl rfl rfl rfl ?_
        refine PW.assign rfl rfl rfl rfl rfl ?_
        refine PW.nil ?_
        refine SX.then ?_
        refine SC.ret ?_
        exact SX.done (r := .vl (.bool true)) rfl rfl rfl
      · by_cases h2 : (p : Int) + k ≤ b % 300
        · refine SC.draw (BI 28) [[], [], [0, 1], [0, 1, 2], [0, 1, 2, 3], [0, 1, 2, 3], [0, 1, 2, 3], [0, 1, 2, 3, 5, 6], [0, 1, 2, 3, 4, 5, 6, 7], [0, 1, 2, 3, 4, 5, 6, 7, 8], [0, 1, 2, 3, 4, 5, 6, 7, 8, 9], [0, 1, 2, 3, 4, 5, 6, 7, 8, 9, 10], [0, 1, 2, 3, 4, 5, 6, 7, 8, 9, 10], [0, 1, 2, 3, 4, 5, 6, 7, 8, 9, 10, 11, 12], [0, 1, 2, 3, 4, 5, 6, 7, 8, 9, 10], [0, 1, 2, 3, 4, 5, 6, 7, 8, 9, 10], [0, 1, 2, 3, 4, 5, 6, 7, 8, 9, 10, 11, 12, 13, 14, 15], [0, 1, 2, 3, 4, 5, 6, 7, 8, 9, 10, 11, 12, 13, 14, 15, 16], [0, 1, 2, 3, 4, 5, 6, 7, 8, 9, 10, 11, 12, 13, 14, 15, 16, 17], [0, 1, 2, 3, 4, 5, 6, 7, 8, 9, 10, 11, 12, 13, 14, 15, 16, 17, 18], [0, 1, 2, 3, 4, 5, 6, 7, 8, 9, 10, 11, 12, 13, 14, 15, 16, 17, 18, 19], [0, 1, 2, 3, 4, 5, 6, 7, 8, 9, 10, 11, 12, 13, 14, 15, 16, 17, 18, 19], [0, 1, 2, 3, 4, 5, 6, 7, 8, 9, 10, 11, 12, 13, 14, 15, 16, 17, 18, 19, 20, 21], [0, 1, 2, 3, 4, 5, 6, 7, 8, 9, 10, 11, 12, 13, 14, 15, 16, 17, 18, 19], [0, 1, 2, 3, 4, 5, 6, 7, 8, 9, 10, 11, 12, 13, 14, 15, 16, 17, 18, 19, 23], [0, 1, 2, 3, 4, 5, 6, 7, 8, 9, 10, 11, 12, 13, 14, 15, 16, 17, 18, 19, 23, 24], [0, 1, 2, 3, 4, 5, 6, 7, 8, 9, 10, 11, 12, 13, 14, 15, 16, 17, 18, 19], [0, 1, 2, 3, 4, 5, 6, 7, 8, 9, 10, 11, 12, 13, 14, 15, 16, 17, 18, 19, 23, 24, 25, 26], [0, 1, 2, 3, 4, 5, 6, 7, 8, 9, 10, 11, 12, 13, 14, 15, 16, 17, 18, 19, 23, 24, 25, 26, 27], [0, 1, 2, 3, 4, 5, 6, 7, 8, 9, 10, 11, 12, 13, 14, 15, 16, 17, 18, 19, 23, 24, 25, 26, 27, 28], [0, 1, 2, 3, 4, 5, 6, 7, 8, 9, 10, 11, 12, 13, 14, 15, 16, 17, 18, 19, 20, 21, 22, 23, 24, 25, 26, 27, 28, 29], [0, 1, 2, 3, 4, 5, 6, 7, 8, 9, 10, 11, 12, 13, 14, 15, 16, 17, 18, 19, 20, 21, 22, 23, 24, 25, 26, 27, 28, 29, 30]] (fun n1 => [(13, KV (.bool true)), (16, KV (.bool true)), (22, KV (.bool (ch (op % 16) true false)))]) 100000 (fun _ _ => KT) (by kernel_rfl) (by kernel_rfl) (by kernel_rfl) bI (fun n1 => ⟨.of (KV.st _), .of (KV.st _), .of (KV.st _), trivial⟩) fun w1 => ?_
          refine DW.move rfl rfl rfl rfl rfl rfl rfl rfl ?_
          refine DW.move rfl rfl rfl rfl rfl rfl rfl rfl ?_
          refine DW.q2 (x := .tmp 180) (y := .tmp 181) (.bool false) rfl rfl rfl rfl rfl rfl rfl rfl (fun ρ W h1 h2 => by go_simp) ?_
          refine DW.move rfl rfl rfl rfl rfl rfl rfl rfl ?_
          refine DW.move rfl rfl rfl rfl rfl rfl rfl rfl ?_
          refine DW.move rfl rfl rfl rfl rfl rfl rfl rfl ?_
          refine DW.move rfl rfl rfl rfl rfl rfl rfl rfl ?_
          refine DW.q2 (x := .tmp 185) (y := .tmp 186) (.int .i64 ((p : Int) + k)) rfl rfl rfl rfl rfl rfl rfl rfl (fun ρ W h1 h2 => by first | (go_simp; done) | (go_simp; exact IntWalk.i64_in _ (by omega)) | (go_simp; exact Int.tmod_eq_emod_of_nonneg (by omega)) | (go_simp; exact Int.tdiv_eq_ediv_of_nonneg (by omega))) ?_
          refine DW.q2 (x := .tmp 184) (y := .tmp 187) (.bool true) rfl rfl rfl rfl rfl rfl rfl rfl (fun ρ W h1 h2 => by go_simp) ?_
          refine DW.pick (t := false) rfl rfl rfl rfl rfl rfl rfl rfl rfl ?_
          refine DW.move rfl rfl rfl rfl rfl rfl rfl rfl ?_
          refine DW.load rfl rfl rfl rfl rfl rfl rfl rfl rfl rfl ?_
          refine DW.move rfl rfl rfl rfl rfl rfl rfl rfl ?_
          refine DW.callV rfl rfl rfl rfl rfl rfl rfl rfl rfl rfl (k_bit (bd.dep (k := k) (p := p) (m := 8) (q := 8) X Y (by omega) (by omega)) (by decide) (by omega) (by omega) ((dep_bit (by omega) (by omega)).trans (hx))) ?_
          refine DW.load rfl rfl rfl rfl rfl rfl rfl rfl rfl rfl ?_
          refine DW.move rfl rfl rfl rfl rfl rfl rfl rfl ?_
          refine DW.callV rfl rfl rfl rfl rfl rfl rfl rfl rfl rfl (k_bit X (by decide) (by omega) (by omega) (hx)) ?_
          refine DW.q2 (x := .tmp 193) (y := .tmp 196) (.bool false) rfl rfl rfl rfl rfl rfl rfl rfl (fun ρ W h1 h2 => by go_simp) ?_
          refine DW.pick (t := true) rfl rfl rfl rfl rfl rfl rfl rfl rfl ?_
          refine DW.move rfl rfl rfl rfl rfl rfl rfl rfl ?_
          refine DW.load rfl rfl rfl rfl rfl rfl rfl rfl rfl rfl ?_
          refine DW.move rfl rfl rfl rfl rfl rfl rfl rfl ?_
          refine DW.callV rfl rfl rfl rfl rfl rfl rfl rfl rfl rfl (k_bit (X.bo (op := (op % 16)) Y) (by decide) (by omega) (by omega) (bo_bit (by omega) (hx) (Bool.eq_false_iff.2 hy))) ?_
          refine DW.move rfl rfl rfl rfl rfl rfl rfl rfl ?_
          refine DW.q2 (x := .tmp 203) (y := .const (.int .u8 16)) (.int .u8 (op % 16)) rfl rfl rfl rfl rfl rfl rfl rfl (fun ρ W h1 h2 => by first | (go_simp; done) | (go_simp; exact IntWalk.i64_in _ (by omega)) | (go_simp; exact Int.tmod_eq_emod_of_nonneg (by omega)) | (go_simp; exact Int.tdiv_eq_ediv_of_nonneg (by omega))) ?_
          refine DW.q1 (x := .tmp 204) (.int .i64 (op % 16)) rfl rfl rfl rfl rfl rfl rfl (fun ρ W h1 => by first | (go_simp; done) | (go_simp; exact IntWalk.i64_in _ (by omega)) | (go_simp; exact Int.tmod_eq_emod_of_nonneg (by omega)) | (go_simp; exact Int.tdiv_eq_ediv_of_nonneg (by omega))) ?_
          refine DW.move rfl rfl rfl rfl rfl rfl rfl rfl ?_
          refine DW.q2 (x := .tmp 205) (y := .tmp 206) (.int .i64 (op % 16 / 4)) rfl rfl rfl rfl rfl rfl rfl rfl (fun ρ W h1 h2 => by go_simp) ?_
          refine DW.q2 (x := .tmp 207) (y := .const (.int .i64 1)) (.int .i64 (op % 16 / 4 % 2)) rfl rfl rfl rfl rfl rfl rfl rfl (fun ρ W h1 h2 => by exact and_run h1 h2 (by omega) (by omega)) ?_
          refine DW.q2 (x := .tmp 208) (y := .const (.int .i64 1)) (.bool (ch (op % 16) true false)) rfl rfl rfl rfl rfl rfl rfl rfl (fun ρ W h1 h2 => by go_simp; first | (simp [ch]; done) | (simp [ch]; rfl) | rfl) ?_
          refine DW.q2 (x := .tmp 202) (y := .tmp 209) (.bool false) rfl rfl rfl rfl rfl rfl rfl rfl (fun ρ W h1 h2 => by go_simp) ?_
          refine DW.pick (t := false) rfl rfl rfl rfl rfl rfl rfl rfl rfl ?_
          refine DW.nil ?_
          refine SX.then ?_
          refine SC.cond (t := false) rfl ?_
          refine SC.skip ?_
          refine SX.then ?_
          refine SC.seq ?_
          refine SC.region ?_
          refine PW.load rfl rfl rfl rfl rfl rfl ?_
          refine PW.move rfl rfl rfl rfl rfl ?_
          refine PW.call (r := .kw (K2 (KI (sh x (k : Int))) (KV (.int .i64 0)))) rfl rfl rfl rfl rfl rfl (K2.st (KI.st _) (KV.st _)) rfl (k_Shift X (by decide) (by omega) (by omega) (shOk_of X (by omega))) ?_
          refine PW.move rfl rfl rfl rfl rfl ?_
          refine PW.ext (r := .kw (KI (sh x (k : Int)))) rfl rfl rfl rfl rfl ex20 (KI.st _) rfl ?_
          refine PW.ext (r := .vl (.int .i64 0)) rfl rfl rfl rfl rfl ex21v (KV.st _) rfl ?_
          refine PW.alloc (BI 28) rfl rfl rfl rfl rfl bI ?_
          refine PW.store (x := .tmp 216) (r := .kw (KI (sh x (k : Int)))) rfl rfl rfl rfl rfl rfl sh_I ?_
          refine PW.assign rfl rfl rfl rfl rfl ?_
          refine PW.nil ?_
          refine SX.then ?_
          refine SC.seq ?_
          refine SC.region ?_
          refine PW.load rfl rfl rfl rfl rfl rfl ?_
          refine PW.move rfl rfl rfl rfl rfl ?_
          refine PW.q1 (x := .tmp 220) (.int .i64 (-(k : Int))) rfl rfl rfl rfl (fun ρ W h1 => by first | (go_simp; done) | (go_simp; exact IntWalk.i64_in _ (by omega)) | (go_simp; exact Int.tmod_eq_emod_of_nonneg (by omega)) | (go_simp; exact Int.tdiv_eq_ediv_of_nonneg (by omega))) ?_
          refine PW.call (r := .kw (K2 (KI (sh (sh x (k : Int)) (-(k : Int)))) (KV (.int .i64 0)))) rfl rfl rfl rfl rfl rfl (K2.st (KI.st _) (KV.st _)) rfl (k_Shift (X.up (k := k) (m := 8) (by omega)) (by decide) (by omega) (by omega) (.inl (by omega))) ?_
          refine PW.move rfl rfl rfl rfl rfl ?_
          refine PW.ext (r := .kw (KI (sh (sh x (k : Int)) (-(k : Int))))) rfl rfl rfl rfl rfl ex20 (KI.st _) rfl ?_
          refine PW.ext (r := .vl (.int .i64 0)) rfl rfl rfl rfl rfl ex21v (KV.st _) rfl ?_
          refine PW.alloc (BI 28) rfl rfl rfl rfl rfl bI ?_
          refine PW.store (x := .tmp 223) (r := .kw (KI (sh (sh x (k : Int)) (-(k : Int))))) rfl rfl rfl rfl rfl rfl sh_I ?_
          refine PW.assign rfl rfl rfl rfl rfl ?_
          refine PW.nil ?_
          refine SX.then ?_
          refine SC.seq ?_
          refine SC.region ?_
          refine PW.move rfl rfl rfl rfl rfl ?_
          refine PW.q2 (x := .tmp 225) (y := .const (.int .i64 0)) (.bool true) rfl rfl rfl rfl rfl (fun ρ W h1 h2 => by go_simp) ?_
          refine PW.move rfl rfl rfl rfl rfl ?_
          refine PW.move rfl rfl rfl rfl rfl ?_
          refine PW.q2 (x := .tmp 228) (y := .const (.int .i64 0)) (.bool true) rfl rfl rfl rfl rfl (fun ρ W h1 h2 => by go_simp) ?_
          refine PW.pick (t := true) rfl rfl rfl rfl rfl rfl ?_
          refine PW.move rfl rfl rfl rfl rfl ?_
          refine PW.load rfl rfl rfl rfl rfl rfl ?_
          refine PW.load rfl rfl rfl rfl rfl rfl ?_
          refine PW.call (r := .vl (.bool true)) rfl rfl rfl rfl rfl rfl (KV.st _) rfl (k_same (sh_back x k)) ?_
          refine PW.pick (t := true) rfl rfl rfl rfl rfl rfl ?_
          refine PW.move rfl rfl rfl rfl rfl ?_
          refine PW.call (r := .vl (.bool true)) rfl rfl rfl rfl rfl rfl (KV.st _) rfl (k_awake) ?_
          refine PW.pick (t := true) rfl rfl rfl rfl rfl rfl ?_
          refine PW.assign rfl rfl rfl rfl rfl ?_
          refine PW.nil ?_
          refine SX.then ?_
          refine SC.ret ?_
          exact SX.done (r := .vl (.bool true)) rfl rfl rfl
        · refine SC.draw (BI 28) [[], [], [0, 1], [0, 1, 2], [0, 1, 2, 3], [0, 1, 2, 3], [0, 1, 2, 3], [0, 1, 2, 3, 5, 6], [0, 1, 2, 3, 4, 5, 6, 7], [0, 1, 2, 3, 4, 5, 6, 7, 8], [0, 1, 2, 3, 4, 5, 6, 7, 8, 9], [0, 1, 2, 3, 4, 5, 6, 7, 8, 9, 10], [0, 1, 2, 3, 4, 5, 6, 7, 8, 9, 10], [0, 1, 2, 3, 4, 5, 6, 7, 8, 9, 10, 11, 12], [0, 1, 2, 3, 4, 5, 6, 7, 8, 9, 10], [0, 1, 2, 3, 4, 5, 6, 7, 8, 9, 10], [0, 1, 2, 3, 4, 5, 6, 7, 8, 9, 10, 11, 12, 13, 14, 15], [0, 1, 2, 3, 4, 5, 6, 7, 8, 9, 10, 11, 12, 13, 14, 15, 16], [0, 1, 2, 3, 4, 5, 6, 7, 8, 9, 10, 11, 12, 13, 14, 15, 16, 17], [0, 1, 2, 3, 4, 5, 6, 7, 8, 9, 10, 11, 12, 13, 14, 15, 16, 17, 18], [0, 1, 2, 3, 4, 5, 6, 7, 8, 9, 10, 11, 12, 13, 14, 15, 16, 17, 18, 19], [0, 1, 2, 3, 4, 5, 6, 7, 8, 9, 10, 11, 12, 13, 14, 15, 16, 17, 18, 19], [0, 1, 2, 3, 4, 5, 6, 7, 8, 9, 10, 11, 12, 13, 14, 15, 16, 17, 18, 19, 20, 21], [0, 1, 2, 3, 4, 5, 6, 7, 8, 9, 10, 11, 12, 13, 14, 15, 16, 17, 18, 19], [0, 1, 2, 3, 4, 5, 6, 7, 8, 9, 10, 11, 12, 13, 14, 15, 16, 17, 18, 19, 23], [0, 1, 2, 3, 4, 5, 6, 7, 8, 9, 10, 11, 12, 13, 14, 15, 16, 17, 18, 19, 23, 24], [0, 1, 2, 3, 4, 5, 6, 7, 8, 9, 10, 11, 12, 13, 14, 15, 16, 17, 18, 19], [0, 1, 2, 3, 4, 5, 6, 7, 8, 9, 10, 11, 12, 13, 14, 15, 16, 17, 18, 19, 23, 24, 25, 26], [0, 1, 2, 3, 4, 5, 6, 7, 8, 9, 10, 11, 12, 13, 14, 15, 16, 17, 18, 19, 23, 24, 25, 26, 27], [0, 1, 2, 3, 4, 5, 6, 7, 8, 9, 10, 11, 12, 13, 14, 15, 16, 17, 18, 19, 23, 24, 25, 26, 27, 28], [0, 1, 2, 3, 4, 5, 6, 7, 8, 9, 10, 11, 12, 13, 14, 15, 16, 17, 18, 19, 20, 21, 22, 23, 24, 25, 26, 27, 28, 29], [0, 1, 2, 3, 4, 5, 6, 7, 8, 9, 10, 11, 12, 13, 14, 15, 16, 17, 18, 19, 20, 21, 22, 23, 24, 25, 26, 27, 28, 29, 30]] (fun n1 => [(22, KV (.bool (ch (op % 16) true false)))]) 100000 (fun _ _ => KT) (by kernel_rfl) (by kernel_rfl) (by kernel_rfl) bI (fun n1 => ⟨.of (KV.st _), trivial⟩) fun w1 => ?_
          refine DW.move rfl rfl rfl rfl rfl rfl rfl rfl ?_
          refine DW.move rfl rfl rfl rfl rfl rfl rfl rfl ?_
          refine DW.q2 (x := .tmp 180) (y := .tmp 181) (.bool false) rfl rfl rfl rfl rfl rfl rfl rfl (fun ρ W h1 h2 => by go_simp) ?_
          refine DW.move rfl rfl rfl rfl rfl rfl rfl rfl ?_
          refine DW.move rfl rfl rfl rfl rfl rfl rfl rfl ?_
          refine DW.move rfl rfl rfl rfl rfl rfl rfl rfl ?_
          refine DW.move rfl rfl rfl rfl rfl rfl rfl rfl ?_
          refine DW.q2 (x := .tmp 185) (y := .tmp 186) (.int .i64 ((p : Int) + k)) rfl rfl rfl rfl rfl rfl rfl rfl (fun ρ W h1 h2 => by first | (go_simp; done) | (go_simp; exact IntWalk.i64_in _ (by omega)) | (go_simp; exact Int.tmod_eq_emod_of_nonneg (by omega)) | (go_simp; exact Int.tdiv_eq_ediv_of_nonneg (by omega))) ?_
          refine DW.q2 (x := .tmp 184) (y := .tmp 187) (.bool false) rfl rfl rfl rfl rfl rfl rfl rfl (fun ρ W h1 h2 => by go_simp) ?_
          refine DW.pick (t := false) rfl rfl rfl rfl rfl rfl rfl rfl rfl ?_
          refine DW.move rfl rfl rfl rfl rfl rfl rfl rfl ?_
          refine DW.skip rfl rfl rfl rfl ?_
          refine DW.skip rfl rfl rfl rfl ?_
          refine DW.skip rfl rfl rfl rfl ?_
          refine DW.skip rfl rfl rfl rfl ?_
          refine DW.skip rfl rfl rfl rfl ?_
          refine DW.skip rfl rfl rfl rfl ?_
          refine DW.skip rfl rfl rfl rfl ?_
          refine DW.pick (t := false) rfl rfl rfl rfl rfl rfl rfl rfl rfl ?_
          refine DW.move rfl rfl rfl rfl rfl rfl rfl rfl ?_
          refine DW.load rfl rfl rfl rfl rfl rfl rfl rfl rfl rfl ?_
          refine DW.move rfl rfl rfl rfl rfl rfl rfl rfl ?_
          refine DW.callV rfl rfl rfl rfl rfl rfl rfl rfl rfl rfl (k_bit (X.bo (op := (op % 16)) Y) (by decide) (by omega) (by omega) (bo_bit (by omega) (hx) (Bool.eq_false_iff.2 hy))) ?_
          refine DW.move rfl rfl rfl rfl rfl rfl rfl rfl ?_
          refine DW.q2 (x := .tmp 203) (y := .const (.int .u8 16)) (.int .u8 (op % 16)) rfl rfl rfl rfl rfl rfl rfl rfl (fun ρ W h1 h2 => by first | (go_simp; done) | (go_simp; exact IntWalk.i64_in _ (by omega)) | (go_simp; exact Int.tmod_eq_emod_of_nonneg (by omega)) | (go_simp; exact Int.tdiv_eq_ediv_of_nonneg (by omega))) ?_
          refine DW.q1 (x := .tmp 204) (.int .i64 (op % 16)) rfl rfl rfl rfl rfl rfl rfl (fun ρ W h1 => by first | (go_simp; done) | (go_simp; exact IntWalk.i64_in _ (by omega)) | (go_simp; exact Int.tmod_eq_emod_of_nonneg (by omega)) | (go_simp; exact Int.tdiv_eq_ediv_of_nonneg (by omega))) ?_
          refine DW.move rfl rfl rfl rfl rfl rfl rfl rfl ?_
          refine DW.q2 (x := .tmp 205) (y := .tmp 206) (.int .i64 (op % 16 / 4)) rfl rfl rfl rfl rfl rfl rfl rfl (fun ρ W h1 h2 => by go_simp) ?_
          refine DW.q2 (x := .tmp 207) (y := .const (.int .i64 1)) (.int .i64 (op % 16 / 4 % 2)) rfl rfl rfl rfl rfl rfl rfl rfl (fun ρ W h1 h2 => by exact and_run h1 h2 (by omega) (by omega)) ?_
          refine DW.q2 (x := .tmp 208) (y := .const (.int .i64 1)) (.bool (ch (op % 16) true false)) rfl rfl rfl rfl rfl rfl rfl rfl (fun ρ W h1 h2 => by go_simp; first | (simp [ch]; done) | (simp [ch]; rfl) | rfl) ?_
          refine DW.q2 (x := .tmp 202) (y := .tmp 209) (.bool false) rfl rfl rfl rfl rfl rfl rfl rfl (fun ρ W h1 h2 => by go_simp) ?_
          refine DW.pick (t := false) rfl rfl rfl rfl rfl rfl rfl rfl rfl ?_
          refine DW.nil ?_
          refine SX.then ?_
          refine SC.cond (t := false) rfl ?_
          refine SC.skip ?_
          refine SX.then ?_
          refine SC.seq ?_
          refine SC.region ?_
          refine PW.load rfl rfl rfl rfl rfl rfl ?_
          refine PW.move rfl rfl rfl rfl rfl ?_
          refine PW.call (r := .kw (K2 (KI (sh x (k : Int))) (KV (.int .i64 0)))) rfl rfl rfl rfl rfl rfl (K2.st (KI.st _) (KV.st _)) rfl (k_Shift X (by decide) (by omega) (by omega) (shOk_of X (by omega))) ?_
          refine PW.move rfl rfl rfl rfl rfl ?_
          refine PW.ext (r := .kw (KI (sh x (k : Int)))) rfl rfl rfl rfl rfl ex20 (KI.st _) rfl ?_
          refine PW.ext (r := .vl (.int .i64 0)) rfl rfl rfl rfl rfl ex21v (KV.st _) rfl ?_
          refine PW.alloc (BI 28) rfl rfl rfl rfl rfl bI ?_
          refine PW.store (x := .tmp 216) (r := .kw (KI (sh x (k : Int)))) rfl rfl rfl rfl rfl rfl sh_I ?_
          refine PW.assign rfl rfl rfl rfl rfl ?_
          refine PW.nil ?_
          refine SX.then ?_
          refine SC.seq ?_
          refine SC.region ?_
          refine PW.load rfl rfl rfl rfl rfl rfl ?_
          refine PW.move rfl rfl rfl rfl rfl ?_
          refine PW.q1 (x := .tmp 220) (.int .i64 (-(k : Int))) rfl rfl rfl rfl (fun ρ W h1 => by first | (go_simp; done) | (go_simp; exact IntWalk.i64_in _ (by omega)) | (go_simp; exact Int.tmod_eq_emod_of_nonneg (by omega)) | (go_simp; exact Int.tdiv_eq_ediv_of_nonneg (by omega))) ?_
          refine PW.call (r := .kw (K2 (KI (sh (sh x (k : Int)) (-(k : Int)))) (KV (.int .i64 0)))) rfl rfl rfl rfl rfl rfl (K2.st (KI.st _) (KV.st _)) rfl (k_Shift (X.up (k := k) (m := 8) (by omega)) (by decide) (by omega) (by omega) (.inl (by omega))) ?_
          refine PW.move rfl rfl rfl rfl rfl ?_
          refine PW.ext (r := .kw (KI (sh (sh x (k : Int)) (-(k : Int))))) rfl rfl rfl rfl rfl ex20 (KI.st _) rfl ?_
          refine PW.ext (r := .vl (.int .i64 0)) rfl rfl rfl rfl rfl ex21v (KV.st _) rfl ?_
          refine PW.alloc (BI 28) rfl rfl rfl rfl rfl bI ?_
          refine PW.store (x := .tmp 223) (r := .kw (KI (sh (sh x (k : Int)) (-(k : Int))))) rfl rfl rfl rfl rfl rfl sh_I ?_
          refine PW.assign rfl rfl rfl rfl rfl ?_
          refine PW.nil ?_
          refine SX.then ?_
          refine SC.seq ?_
          refine SC.region ?_
          refine PW.move rfl rfl rfl rfl rfl ?_
          refine PW.q2 (x := .tmp 225) (y := .const (.int .i64 0)) (.bool true) rfl rfl rfl rfl rfl (fun ρ W h1 h2 => by go_simp) ?_
          refine PW.move rfl rfl rfl rfl rfl ?_
          refine PW.move rfl rfl rfl rfl rfl ?_
          refine PW.q2 (x := .tmp 228) (y := .const (.int .i64 0)) (.bool true) rfl rfl rfl rfl rfl (fun ρ W h1 h2 => by go_simp) ?_
          refine PW.pick (t := true) rfl rfl rfl rfl rfl rfl ?_
          refine PW.move rfl rfl rfl rfl rfl ?_
          refine PW.load rfl rfl rfl rfl rfl rfl ?_
          refine PW.load rfl rfl rfl rfl rfl rfl ?_
          refine PW.call (r := .vl (.bool true)) rfl rfl rfl rfl rfl rfl (KV.st _) rfl (k_same (sh_back x k)) ?_
          refine PW.pick (t := true) rfl rfl rfl rfl rfl rfl ?_
          refine PW.move rfl rfl rfl rfl rfl ?_
          refine PW.call (r := .vl (.bool true)) rfl rfl rfl rfl rfl rfl (KV.st _) rfl (k_awake) ?_
          refine PW.pick (t := true) rfl rfl rfl rfl rfl rfl ?_
          refine PW.assign rfl rfl rfl rfl rfl ?_
          refine PW.nil ?_
          refine SX.then ?_
          refine SC.ret ?_
          exact SX.done (r := .vl (.bool true)) rfl rfl rfl
  · refine SC.region ?_
    refine PW.load rfl rfl rfl rfl rfl rfl ?_
    refine PW.move rfl rfl rfl rfl rfl ?_
    refine PW.call (r := .vl (.bool false)) rfl rfl rfl rfl rfl rfl (KV.st _) rfl (k_bit X (by decide) (by omega) (by omega) (Bool.eq_false_iff.2 hx)) ?_
    refine PW.nil ?_
    refine SX.then ?_
    refine SC.cond (t := false) rfl ?_
    refine SC.skip ?_
    refine SX.then ?_
    refine SC.seq ?_
    refine SC.seq ?_
    by_cases hy : bt y (b % 300) = true
    · refine SC.region ?_
      refine PW.load rfl rfl rfl rfl rfl rfl ?_
      refine PW.move rfl rfl rfl rfl rfl ?_
      refine PW.call (r := .vl (.bool true)) rfl rfl rfl rfl rfl rfl (KV.st _) rfl (k_bit Y (by decide) (by omega) (by omega) (hy)) ?_
      refine PW.nil ?_
      refine SX.then ?_
      refine SC.cond (t := true) rfl ?_
      refine SC.region ?_
      refine PW.move rfl rfl rfl rfl rfl ?_
      refine PW.q2 (x := .tmp 178) (y := .const (.int .i64 1)) (.int .i64 1) rfl rfl rfl rfl rfl (fun ρ W h1 h2 => by first | (go_simp; done) | (go_simp; rfl) | (go_simp; exact IntWalk.i64_in _ (by omega))) ?_
      refine PW.assign rfl rfl rfl rfl rfl ?_
      refine PW.nil ?_
      refine SX.then ?_
      refine SC.seq ?_
      refine SC.seq ?_
      by_cases h1 : b % 300 < (p : Int)
      · refine SC.draw (BI 28) [[], [], [0, 1], [0, 1, 2], [0, 1, 2, 3], [0, 1, 2, 3], [0, 1, 2, 3], [0, 1, 2, 3, 5, 6], [0, 1, 2, 3, 4, 5, 6, 7], [0, 1, 2, 3, 4, 5, 6, 7, 8], [0, 1, 2, 3, 4, 5, 6, 7, 8, 9], [0, 1, 2, 3, 4, 5, 6, 7, 8, 9, 10], [0, 1, 2, 3, 4, 5, 6, 7, 8, 9, 10], [0, 1, 2, 3, 4, 5, 6, 7, 8, 9, 10, 11, 12], [0, 1, 2, 3, 4, 5, 6, 7, 8, 9, 10], [0, 1, 2, 3, 4, 5, 6, 7, 8, 9, 10], [0, 1, 2, 3, 4, 5, 6, 7, 8, 9, 10, 11, 12, 13, 14, 15], [0, 1, 2, 3, 4, 5, 6, 7, 8, 9, 10, 11, 12, 13, 14, 15, 16], [0, 1, 2, 3, 4, 5, 6, 7, 8, 9, 10, 11, 12, 13, 14, 15, 16, 17], [0, 1, 2, 3, 4, 5, 6, 7, 8, 9, 10, 11, 12, 13, 14, 15, 16, 17, 18], [0, 1, 2, 3, 4, 5, 6, 7, 8, 9, 10, 11, 12, 13, 14, 15, 16, 17, 18, 19], [0, 1, 2, 3, 4, 5, 6, 7, 8, 9, 10, 11, 12, 13, 14, 15, 16, 17, 18, 19], [0, 1, 2, 3, 4, 5, 6, 7, 8, 9, 10, 11, 12, 13, 14, 15, 16, 17, 18, 19, 20, 21], [0, 1, 2, 3, 4, 5, 6, 7, 8, 9, 10, 11, 12, 13, 14, 15, 16, 17, 18, 19], [0, 1, 2, 3, 4, 5, 6, 7, 8, 9, 10, 11, 12, 13, 14, 15, 16, 17, 18, 19, 23], [0, 1, 2, 3, 4, 5, 6, 7, 8, 9, 10, 11, 12, 13, 14, 15, 16, 17, 18, 19, 23, 24], [0, 1, 2, 3, 4, 5, 6, 7, 8, 9, 10, 11, 12, 13, 14, 15, 16, 17, 18, 19], [0, 1, 2, 3, 4, 5, 6, 7, 8, 9, 10, 11, 12, 13, 14, 15, 16, 17, 18, 19, 23, 24, 25, 26], [0, 1, 2, 3, 4, 5, 6, 7, 8, 9, 10, 11, 12, 13, 14, 15, 16, 17, 18, 19, 23, 24, 25, 26, 27], [0, 1, 2, 3, 4, 5, 6, 7, 8, 9, 10, 11, 12, 13, 14, 15, 16, 17, 18, 19, 23, 24, 25, 26, 27, 28], [0, 1, 2, 3, 4, 5, 6, 7, 8, 9, 10, 11, 12, 13, 14, 15, 16, 17, 18, 19, 20, 21, 22, 23, 24, 25, 26, 27, 28, 29], [0, 1, 2, 3, 4, 5, 6, 7, 8, 9, 10, 11, 12, 13, 14, 15, 16, 17, 18, 19, 20, 21, 22, 23, 24, 25, 26, 27, 28, 29, 30]] (fun n1 => [(13, KV (.bool false)), (16, KV (.bool false)), (22, KV (.bool (ch (op % 16) false true)))]) 100000 (fun _ _ => KT) (by kernel_rfl) (by kernel_rfl) (by kernel_rfl) bI (fun n1 => ⟨.of (KV.st _), .of (KV.st _), .of (KV.st _), trivial⟩) fun w1 => ?_
        refine DW.move rfl rfl rfl rfl rfl rfl rfl rfl ?_
        refine DW.move rfl rfl rfl rfl rfl rfl rfl rfl ?_
        refine DW.q2 (x := .tmp 180) (y := .tmp 181) (.bool true) rfl rfl rfl rfl rfl rfl rfl rfl (fun ρ W h1 h2 => by go_simp) ?_
        refine DW.move rfl rfl rfl rfl rfl rfl rfl rfl ?_
        refine DW.skip rfl rfl rfl rfl ?_
        refine DW.skip rfl rfl rfl rfl ?_
        refine DW.skip rfl rfl rfl rfl ?_
        refine DW.skip rfl rfl rfl rfl ?_
        refine DW.skip rfl rfl rfl rfl ?_
        refine DW.pick (t := true) rfl rfl rfl rfl rfl rfl rfl rfl rfl ?_
        refine DW.move rfl rfl rfl rfl rfl rfl rfl rfl ?_
        refine DW.load rfl rfl rfl rfl rfl rfl rfl rfl rfl rfl ?_
        refine DW.move rfl rfl rfl rfl rfl rfl rfl rfl ?_
        refine DW.callV rfl rfl rfl rfl rfl rfl rfl rfl rfl rfl (k_bit (bd.dep (k := k) (p := p) (m := 8) (q := 8) X Y (by omega) (by omega)) (by decide) (by omega) (by omega) ((dep_bit (by omega) (by omega)).trans (Bool.eq_false_iff.2 hx))) ?_
        refine DW.load rfl rfl rfl rfl rfl rfl rfl rfl rfl rfl ?_
        refine DW.move rfl rfl rfl rfl rfl rfl rfl rfl ?_
        refine DW.callV rfl rfl rfl rfl rfl rfl rfl rfl rfl rfl (k_bit X (by decide) (by omega) (by omega) (Bool.eq_false_iff.2 hx)) ?_
        refine DW.q2 (x := .tmp 193) (y := .tmp 196) (.bool false) rfl rfl rfl rfl rfl rfl rfl rfl (fun ρ W h1 h2 => by go_simp) ?_
        refine DW.pick (t := true) rfl rfl rfl rfl rfl rfl rfl rfl rfl ?_
        refine DW.move rfl rfl rfl rfl rfl rfl rfl rfl ?_
        refine DW.load rfl rfl rfl rfl rfl rfl rfl rfl rfl rfl ?_
        refine DW.move rfl rfl rfl rfl rfl rfl rfl rfl ?_
        refine DW.callV rfl rfl rfl rfl rfl rfl rfl rfl rfl rfl (k_bit (X.bo (op := (op % 16)) Y) (by decide) (by omega) (by omega) (bo_bit (by omega) (Bool.eq_false_iff.2 hx) (hy))) ?_
        refine DW.move rfl rfl rfl rfl rfl rfl rfl rfl ?_
        refine DW.q2 (x := .tmp 203) (y := .const (.int .u8 16)) (.int .u8 (op % 16)) rfl rfl rfl rfl rfl rfl rfl rfl (fun ρ W h1 h2 => by first | (go_simp; done) | (go_simp; exact IntWalk.i64_in _ (by omega)) | (go_simp; exact Int.tmod_eq_emod_of_nonneg (by omega)) | (go_simp; exact Int.tdiv_eq_ediv_of_nonneg (by omega))) ?_
        refine DW.q1 (x := .tmp 204) (.int .i64 (op % 16)) rfl rfl rfl rfl rfl rfl rfl (fun ρ W h1 => by first | (go_simp; done) | (go_simp; exact IntWalk.i64_in _ (by omega)) | (go_simp; exact Int.tmod_eq_emod_of_nonneg (by omega)) | (go_simp; exact Int.tdiv_eq_ediv_of_nonneg (by omega))) ?_
        refine DW.move rfl rfl rfl rfl rfl rfl rfl rfl ?_
        refine DW.q2 (x := .tmp 205) (y := .tmp 206) (.int .i64 (op % 16 / 2)) rfl rfl rfl rfl rfl rfl rfl rfl (fun ρ W h1 h2 => by go_simp) ?_
        refine DW.q2 (x := .tmp 207) (y := .const (.int .i64 1)) (.int .i64 (op % 16 / 2 % 2)) rfl rfl rfl rfl rfl rfl rfl rfl (fun ρ W h1 h2 => by exact and_run h1 h2 (by omega) (by omega)) ?_
        refine DW.q2 (x := .tmp 208) (y := .const (.int .i64 1)) (.bool (ch (op % 16) false true)) rfl rfl rfl rfl rfl rfl rfl rfl (fun ρ W h1 h2 => by go_simp; first | (simp [ch]; done) | (simp [ch]; rfl) | rfl) ?_
        refine DW.q2 (x := .tmp 202) (y := .tmp 209) (.bool false) rfl rfl rfl rfl rfl rfl rfl rfl (fun ρ W h1 h2 => by go_simp) ?_
        refine DW.pick (t := false) rfl rfl rfl rfl rfl rfl rfl rfl rfl ?_
        refine DW.nil ?_
        refine SX.then ?_
        refine SC.cond (t := false) rfl ?_
        refine SC.skip ?_
        refine SX.then ?_
        refine SC.seq ?_
        refine SC.region ?_
        refine PW.load rfl rfl rfl rfl rfl rfl ?_
        refine PW.move rfl rfl rfl rfl rfl ?_
        refine PW.call (r := .kw (K2 (KI (sh x (k : Int))) (KV (.int .i64 0)))) rfl rfl rfl rfl rfl rfl (K2.st (KI.st _) (KV.st _)) rfl (k_Shift X (by decide) (by omega) (by omega) (shOk_of X (by omega))) ?_
        refine PW.move rfl rfl rfl rfl rfl ?_
        refine PW.ext (r := .kw (KI (sh x (k : Int)))) rfl rfl rfl rfl rfl ex20 (KI.st _) rfl ?_
        refine PW.ext (r := .vl (.int .i64 0)) rfl rfl rfl rfl rfl ex21v (KV.st _) rfl ?_
        refine PW.alloc (BI 28) rfl rfl rfl rfl rfl bI ?_
        refine PW.store (x := .tmp 216) (r := .kw (KI (sh x (k : Int)))) rfl rfl rfl rfl rfl rfl sh_I ?_
        refine PW.assign rfl rfl rfl rfl rfl ?_
        refine PW.nil ?_
        refine SX.then ?_
        refine SC.seq ?_
        refine SC.region ?_
        refine PW.load rfl rfl rfl rfl rfl rfl ?_
        refine PW.move rfl rfl rfl rfl rfl ?_
        refine PW.q1 (x := .tmp 220) (.int .i64 (-(k : Int))) rfl rfl rfl rfl (fun ρ W h1 => by first | (go_simp; done) | (go_simp; exact IntWalk.i64_in _ (by omega)) | (go_simp; exact Int.tmod_eq_emod_of_nonneg (by omega)) | (go_simp; exact Int.tdiv_eq_ediv_of_nonneg (by omega))) ?_
        refine PW.call (r := .kw (K2 (KI (sh (sh x (k : Int)) (-(k : Int)))) (KV (.int .i64 0)))) rfl rfl rfl rfl rfl rfl (K2.st (KI.st _) (KV.st _)) rfl (k_Shift (X.up (k := k) (m := 8) (by omega)) (by decide) (by omega) (by omega) (.inl (by omega))) ?_
        refine PW.move rfl rfl rfl rfl rfl ?_
        refine PW.ext (r := .kw (KI (sh (sh x (k : Int)) (-(k : Int))))) rfl rfl rfl rfl rfl ex20 (KI.st _) rfl ?_
        refine PW.ext (r := .vl (.int .i64 0)) rfl rfl rfl rfl rfl ex21v (KV.st _) rfl ?_
        refine PW.alloc (BI 28) rfl rfl rfl rfl rfl bI ?_
        refine PW.store (x := .tmp 223) (r := .kw (KI (sh (sh x (k : Int)) (-(k : Int))))) rfl rfl rfl rfl rfl rfl sh_I ?_
        refine PW.assign rfl rfl rfl rfl rfl ?_
        refine PW.nil ?_
        refine SX.then ?_
        refine SC.seq ?_
        refine SC.region ?_
        refine PW.move rfl rfl rfl rfl rfl ?_
        refine PW.q2 (x := .tmp 225) (y := .const (.int .i64 0)) (.bool true) rfl rfl rfl rfl rfl (fun ρ W h1 h2 => by go_simp) ?_
        refine PW.move rfl rfl rfl rfl rfl ?_
        refine PW.move rfl rfl rfl rfl rfl ?_
        refine PW.q2 (x := .tmp 228) (y := .const (.int .i64 0)) (.bool true) rfl rfl rfl rfl rfl (fun ρ W h1 h2 => by go_simp) ?_
        refine PW.pick (t := true) rfl rfl rfl rfl rfl rfl ?_
        refine PW.move rfl rfl rfl rfl rfl ?_
        refine PW.load rfl rfl rfl rfl rfl rfl ?_
        refine PW.load rfl rfl rfl rfl rfl rfl ?_
        refine PW.call (r := .vl (.bool true)) rfl rfl rfl rfl rfl rfl (KV.st _) rfl (k_same (sh_back x k)) ?_
        refine PW.pick (t := true) rfl rfl rfl rfl rfl rfl ?_
        refine PW.move rfl rfl rfl rfl rfl ?_
        refine PW.call (r := .vl (.bool true)) rfl rfl rfl rfl rfl rfl (KV.st _) rfl (k_awake) ?_
        refine PW.pick (t := true) rfl rfl rfl rfl rfl rfl ?_
        refine PW.assign rfl rfl rfl rfl rfl ?_
        refine PW.nil ?_
        refine SX.then ?_
        refine SC.ret ?_
        exact SX.done (r := .vl (.bool true)) rfl rfl rfl
      · by_cases h2 : (p : Int) + k ≤ b % 300
        · refine SC.draw (BI 28) [[], [], [0, 1], [0, 1, 2], [0, 1, 2, 3], [0, 1, 2, 3], [0, 1, 2, 3], [0, 1, 2, 3, 5, 6], [0, 1, 2, 3, 4, 5, 6, 7], [0, 1, 2, 3, 4, 5, 6, 7, 8], [0, 1, 2, 3, 4, 5, 6, 7, 8, 9], [0, 1, 2, 3, 4, 5, 6, 7, 8, 9, 10], [0, 1, 2, 3, 4, 5, 6, 7, 8, 9, 10], [0, 1, 2, 3, 4, 5, 6, 7, 8, 9, 10, 11, 12], [0, 1, 2, 3, 4, 5, 6, 7, 8, 9, 10], [0, 1, 2, 3, 4, 5, 6, 7, 8, 9, 10], [0, 1, 2, 3, 4, 5, 6, 7, 8, 9, 10, 11, 12, 13, 14, 15], [0, 1, 2, 3, 4, 5, 6, 7, 8, 9, 10, 11, 12, 13, 14, 15, 16], [0, 1, 2, 3, 4, 5, 6, 7, 8, 9, 10, 11, 12, 13, 14, 15, 16, 17], [0, 1, 2, 3, 4, 5, 6, 7, 8, 9, 10, 11, 12, 13, 14, 15, 16, 17, 18], [0, 1, 2, 3, 4, 5, 6, 7, 8, 9, 10, 11, 12, 13, 14, 15, 16, 17, 18, 19], [0, 1, 2, 3, 4, 5, 6, 7, 8, 9, 10, 11, 12, 13, 14, 15, 16, 17, 18, 19], [0, 1, 2, 3, 4, 5, 6, 7, 8, 9, 10, 11, 12, 13, 14, 15, 16, 17, 18, 19, 20, 21], [0, 1, 2, 3, 4, 5, 6, 7, 8, 9, 10, 11, 12, 13, 14, 15, 16, 17, 18, 19], [0, 1, 2, 3, 4, 5, 6, 7, 8, 9, 10, 11, 12, 13, 14, 15, 16, 17, 18, 19, 23], [0, 1, 2, 3, 4, 5, 6, 7, 8, 9, 10, 11, 12, 13, 14, 15, 16, 17, 18, 19, 23, 24], [0, 1, 2, 3, 4, 5, 6, 7, 8, 9, 10, 11, 12, 13, 14, 15, 16, 17, 18, 19], [0, 1, 2, 3, 4, 5, 6, 7, 8, 9, 10, 11, 12, 13, 14, 15, 16, 17, 18, 19, 23, 24, 25, 26], [0, 1, 2, 3, 4, 5, 6, 7, 8, 9, 10, 11, 12, 13, 14, 15, 16, 17, 18, 19, 23, 24, 25, 26, 27], [0, 1, 2, 3, 4, 5, 6, 7, 8, 9, 10, 11, 12, 13, 14, 15, 16, 17, 18, 19, 23, 24, 25, 26, 27, 28], [0, 1, 2, 3, 4, 5, 6, 7, 8, 9, 10, 11, 12, 13, 14, 15, 16, 17, 18, 19, 20, 21, 22, 23, 24, 25, 26, 27, 28, 29], [0, 1, 2, 3, 4, 5, 6, 7, 8, 9, 10, 11, 12, 13, 14, 15, 16, 17, 18, 19, 20, 21, 22, 23, 24, 25, 26, 27, 28, 29, 30]] (fun n1 => [(13, KV (.bool false)), (16, KV (.bool false)), (22, KV (.bool (ch (op % 16) false true)))]) 100000 (fun _ _ => KT) (by kernel_rfl) (by kernel_rfl) (by kernel_rfl) bI (fun n1 => ⟨.of (KV.st _), .of (KV.st _), .of (KV.st _), trivial⟩) fun w1 => ?_
          refine DW.move rfl rfl rfl rfl rfl rfl rfl rfl ?_
          refine DW.move rfl rfl rfl rfl rfl rfl rfl rfl ?_
          refine DW.q2 (x := .tmp 180) (y := .tmp 181) (.bool false) rfl rfl rfl rfl rfl rfl rfl rfl (fun ρ W h1 h2 => by go_simp) ?_
          refine DW.move rfl rfl rfl rfl rfl rfl rfl rfl ?_
          refine DW.move rfl rfl rfl rfl rfl rfl rfl rfl ?_
          refine DW.move rfl rfl rfl rfl rfl rfl rfl rfl ?_
          refine DW.move rfl rfl rfl rfl rfl rfl rfl rfl ?_
          refine DW.q2 (x := .tmp 185) (y := .tmp 186) (.int .i64 ((p : Int) + k)) rfl rfl rfl rfl rfl rfl rfl rfl (fun ρ W h1 h2 => by first | (go_simp; done) | (go_simp; exact IntWalk.i64_in _ (by omega)) | (go_simp; exact Int.tmod_eq_emod_of_nonneg (by omega)) | (go_simp; exact Int.tdiv_eq_ediv_of_nonneg (by omega))) ?_
          refine DW.q2 (x := .tmp 184) (y := .tmp 187) (.bool true) rfl rfl rfl rfl rfl rfl rfl rfl (fun ρ W h1 h2 => by go_simp) ?_
          refine DW.pick (t := false) rfl rfl rfl rfl rfl rfl rfl rfl rfl ?_
          refine DW.move rfl rfl rfl rfl rfl rfl rfl rfl ?_
          refine DW.load rfl rfl rfl rfl rfl rfl rfl rfl rfl rfl ?_
          refine DW.move rfl rfl rfl rfl rfl rfl rfl rfl ?_
          refine DW.callV rfl rfl rfl rfl rfl rfl rfl rfl rfl rfl (k_bit (bd.dep (k := k) (p := p) (m := 8) (q := 8) X Y (by omega) (by omega)) (by decide) (by omega) (by omega) ((dep_bit (by omega) (by omega)).trans (Bool.eq_false_iff.2 hx))) ?_
          refine DW.load rfl rfl rfl rfl rfl rfl rfl rfl rfl rfl ?_
          refine DW.move rfl rfl rfl rfl rfl rfl rfl rfl ?_
          refine DW.callV rfl rfl rfl rfl rfl rfl rfl rfl rfl rfl (k_bit X (by decide) (by omega) (by omega) (Bool.eq_false_iff.2 hx)) ?_
          refine DW.q2 (x := .tmp 193) (y := .tmp 196) (.bool false) rfl rfl rfl rfl rfl rfl rfl rfl (fun ρ W h1 h2 => by go_simp) ?_
          refine DW.pick (t := true) rfl rfl rfl rfl rfl rfl rfl rfl rfl ?_
          refine DW.move rfl rfl rfl rfl rfl rfl rfl rfl ?_
          refine DW.load rfl rfl rfl rfl rfl rfl rfl rfl rfl rfl ?_
          refine DW.move rfl rfl rfl rfl rfl rfl rfl rfl ?_
          refine DW.callV rfl rfl rfl rfl rfl rfl rfl rfl rfl rfl (k_bit (X.bo (op := (op % 16)) Y) (by decide) (by omega) (by omega) (bo_bit (by omega) (Bool.eq_false_iff.2 hx) (hy))) ?_
          refine DW.move rfl rfl rfl rfl rfl rfl rfl rfl ?_
          refine DW.q2 (x := .tmp 203) (y := .const (.int .u8 16)) (.int .u8 (op % 16)) rfl rfl rfl rfl rfl rfl rfl rfl (fun ρ W h1 h2 => by first | (go_simp; done) | (go_simp; exact IntWalk.i64_in _ (by omega)) | (go_simp; exact Int.tmod_eq_emod_of_nonneg (by omega)) | (go_simp; exact Int.tdiv_eq_ediv_of_nonneg (by omega))) ?_
          refine DW.q1 (x := .tmp 204) (.int .i64 (op % 16)) rfl rfl rfl rfl rfl rfl rfl (fun ρ W h1 => by first | (go_simp; done) | (go_simp; exact IntWalk.i64_in _ (by omega)) | (go_simp; exact Int.tmod_eq_emod_of_nonneg (by omega)) | (go_simp; exact Int.tdiv_eq_ediv_of_nonneg (by omega))) ?_
          refine DW.move rfl rfl rfl rfl rfl rfl rfl rfl ?_
          refine DW.q2 (x := .tmp 205) (y := .tmp 206) (.int .i64 (op % 16 / 2)) rfl rfl rfl rfl rfl rfl rfl rfl (fun ρ W h1 h2 => by go_simp) ?_
          refine DW.q2 (x := .tmp 207) (y := .const (.int .i64 1)) (.int .i64 (op % 16 / 2 % 2)) rfl rfl rfl rfl rfl rfl rfl rfl (fun ρ W h1 h2 => by exact and_run h1 h2 (by omega) (by omega)) ?_
          refine DW.q2 (x := .tmp 208) (y := .const (.int .i64 1)) (.bool (ch (op % 16) false true)) rfl rfl rfl rfl rfl rfl rfl rfl (fun ρ W h1 h2 => by go_simp; first | (simp [ch]; done) | (simp [ch]; rfl) | rfl) ?_
          refine DW.q2 (x := .tmp 202) (y := .tmp 209) (.bool false) rfl rfl rfl rfl rfl rfl rfl rfl (fun ρ W h1 h2 => by go_simp) ?_
          refine DW.pick (t := false) rfl rfl rfl rfl rfl rfl rfl rfl rfl ?_
          refine DW.nil ?_
          refine SX.then ?_
          refine SC.cond (t := false) rfl ?_
          refine SC.skip ?_
          refine SX.then ?_
          refine SC.seq ?_
          refine SC.region ?_
          refine PW.load rfl rfl rfl rfl rfl rfl ?_
          refine PW.move rfl rfl rfl rfl rfl ?_
          refine PW.call (r := .kw (K2 (KI (sh x (k : Int))) (KV (.int .i64 0)))) rfl rfl rfl rfl rfl rfl (K2.st (KI.st _) (KV.st _)) rfl (k_Shift X (by decide) (by omega) (by omega) (shOk_of X (by omega))) ?_
          refine PW.move rfl rfl rfl rfl rfl ?_
          refine PW.ext (r := .kw (KI (sh x (k : Int)))) rfl rfl rfl rfl rfl ex20 (KI.st _) rfl ?_
          refine PW.ext (r := .vl (.int .i64 0)) rfl rfl rfl rfl rfl ex21v (KV.st _) rfl ?_
          refine PW.alloc (BI 28) rfl rfl rfl rfl rfl bI ?_
          refine PW.store (x := .tmp 216) (r := .kw (KI (sh x (k : Int)))) rfl rfl rfl rfl rfl rfl sh_I ?_
          refine PW.assign rfl rfl rfl rfl rfl ?_
          refine PW.nil ?_
          refine SX.then ?_
          refine SC.seq ?_
          refine SC.region ?_
          refine PW.load rfl rfl rfl rfl rfl rfl ?_
          refine PW.move rfl rfl rfl rfl rfl ?_
          refine PW.q1 (x := .tmp 220) (.int .i64 (-(k : Int))) rfl rfl rfl rfl (fun ρ W h1 => by first | (go_simp; done) | (go_simp; exact IntWalk.i64_in _ (by omega)) | (go_simp; exact Int.tmod_eq_emod_of_nonneg (by omega)) | (go_simp; exact Int.tdiv_eq_ediv_of_nonneg (by omega))) ?_
          refine PW.call (r := .kw (K2 (KI (sh (sh x (k : Int)) (-(k : Int)))) (KV (.int .i64 0)))) rfl rfl rfl rfl rfl rfl (K2.st (KI.st _) (KV.st _)) rfl (k_Shift (X.up (k := k) (m := 8) (by omega)) (by decide) (by omega) (by omega) (.inl (by omega))) ?_
          refine PW.move rfl rfl rfl rfl rfl ?_
          refine PW.ext (r := .kw (KI (sh (sh x (k : Int)) (-(k : Int))))) rfl rfl rfl rfl rfl ex20 (KI.st _) rfl ?_
          refine PW.ext (r := .vl (.int .i64 0)) rfl rfl rfl rfl rfl ex21v (KV.st _) rfl ?_
          refine PW.alloc (BI 28) rfl rfl rfl rfl rfl bI ?_
          refine PW.store (x := .tmp 223) (r := .kw (KI (sh (sh x (k : Int)) (-(k : Int))))) rfl rfl rfl rfl rfl rfl sh_I ?_
          refine PW.assign rfl rfl rfl rfl rfl ?_
          refine PW.nil ?_
          refine SX.then ?_
          refine SC.seq ?_
          refine SC.region ?_
          refine PW.move rfl rfl rfl rfl rfl ?_
          refine PW.q2 (x := .tmp 225) (y := .const (.int .i64 0)) (.bool true) rfl rfl rfl rfl rfl (fun ρ W h1 h2 => by go_simp) ?_
          refine PW.move rfl rfl rfl rfl rfl ?_
          refine PW.move rfl rfl rfl rfl rfl ?_
          refine PW.q2 (x := .tmp 228) (y := .const (.int .i64 0)) (.bool true) rfl rfl rfl rfl rfl (fun ρ W h1 h2 => by go_simp) ?_
          refine PW.pick (t := true) rfl rfl rfl rfl rfl rfl ?_
          refine PW.move rfl rfl rfl rfl rfl ?_
          refine PW.load rfl rfl rfl rfl rfl rfl ?_
          refine PW.load rfl rfl rfl rfl rfl rfl ?_
          refine PW.call (r := .vl (.bool true)) rfl rfl rfl rfl rfl rfl (KV.st _) rfl (k_same (sh_back x k)) ?_
          refine PW.pick (t := true) rfl rfl rfl rfl rfl rfl ?_
          refine PW.move rfl rfl rfl rfl rfl ?_
          refine PW.call (r := .vl (.bool true)) rfl rfl rfl rfl rfl rfl (KV.st _) rfl (k_awake) ?_
          refine PW.pick (t := true) rfl rfl rfl rfl rfl rfl ?_
          refine PW.assign rfl rfl rfl rfl rfl ?_
          refine PW.nil ?_
          refine SX.then ?_
          refine SC.ret ?_
          exact SX.done (r := .vl (.bool true)) rfl rfl rfl
        · refine SC.draw (BI 28) [[], [], [0, 1], [0, 1, 2], [0, 1, 2, 3], [0, 1, 2, 3], [0, 1, 2, 3], [0, 1, 2, 3, 5, 6], [0, 1, 2, 3, 4, 5, 6, 7], [0, 1, 2, 3, 4, 5, 6, 7, 8], [0, 1, 2, 3, 4, 5, 6, 7, 8, 9], [0, 1, 2, 3, 4, 5, 6, 7, 8, 9, 10], [0, 1, 2, 3, 4, 5, 6, 7, 8, 9, 10], [0, 1, 2, 3, 4, 5, 6, 7, 8, 9, 10, 11, 12], [0, 1, 2, 3, 4, 5, 6, 7, 8, 9, 10], [0, 1, 2, 3, 4, 5, 6, 7, 8, 9, 10], [0, 1, 2, 3, 4, 5, 6, 7, 8, 9, 10, 11, 12, 13, 14, 15], [0, 1, 2, 3, 4, 5, 6, 7, 8, 9, 10, 11, 12, 13, 14, 15, 16], [0, 1, 2, 3, 4, 5, 6, 7, 8, 9, 10, 11, 12, 13, 14, 15, 16, 17], [0, 1, 2, 3, 4, 5, 6, 7, 8, 9, 10, 11, 12, 13, 14, 15, 16, 17, 18], [0, 1, 2, 3, 4, 5, 6, 7, 8, 9, 10, 11, 12, 13, 14, 15, 16, 17, 18, 19], [0, 1, 2, 3, 4, 5, 6, 7, 8, 9, 10, 11, 12, 13, 14, 15, 16, 17, 18, 19], [0, 1, 2, 3, 4, 5, 6, 7, 8, 9, 10, 11, 12, 13, 14, 15, 16, 17, 18, 19, 20, 21], [0, 1, 2, 3, 4, 5, 6, 7, 8, 9, 10, 11, 12, 13, 14, 15, 16, 17, 18, 19], [0, 1, 2, 3, 4, 5, 6, 7, 8, 9, 10, 11, 12, 13, 14, 15, 16, 17, 18, 19, 23], [0, 1, 2, 3, 4, 5, 6, 7, 8, 9, 10, 11, 12, 13, 14, 15, 16, 17, 18, 19, 23, 24], [0, 1, 2, 3, 4, 5, 6, 7, 8, 9, 10, 11, 12, 13, 14, 15, 16, 17, 18, 19], [0, 1, 2, 3, 4, 5, 6, 7, 8, 9, 10, 11, 12, 13, 14, 15, 16, 17, 18, 19, 23, 24, 25, 26], [0, 1, 2, 3, 4, 5, 6, 7, 8, 9, 10, 11, 12, 13, 14, 15, 16, 17, 18, 19, 23, 24, 25, 26, 27], [0, 1, 2, 3, 4, 5, 6, 7, 8, 9, 10, 11, 12, 13, 14, 15, 16, 17, 18, 19, 23, 24, 25, 26, 27, 28], [0, 1, 2, 3, 4, 5, 6, 7, 8, 9, 10, 11, 12, 13, 14, 15, 16, 17, 18, 19, 20, 21, 22, 23, 24, 25, 26, 27, 28, 29], [0, 1, 2, 3, 4, 5, 6, 7, 8, 9, 10, 11, 12, 13, 14, 15, 16, 17, 18, 19, 20, 21, 22, 23, 24, 25, 26, 27, 28, 29, 30]] (fun n1 => [(22, KV (.bool (ch (op % 16) false true)))]) 100000 (fun _ _ => KT) (by kernel_rfl) (by kernel_rfl) (by kernel_rfl) bI (fun n1 => ⟨.of (KV.st _), trivial⟩) fun w1 => ?_
          refine DW.move rfl rfl rfl rfl rfl rfl rfl rfl ?_
          refine DW.move rfl rfl rfl rfl rfl rfl rfl rfl ?_
          refine DW.q2 (x := .tmp 180) (y := .tmp 181) (.bool false) rfl rfl rfl rfl rfl rfl rfl rfl (fun ρ W h1 h2 => by go_simp) ?_
          refine DW.move rfl rfl rfl rfl rfl rfl rfl rfl ?_
          refine DW.move rfl rfl rfl rfl rfl rfl rfl rfl ?_
          refine DW.move rfl rfl rfl rfl rfl rfl rfl rfl ?_
          refine DW.move rfl rfl rfl rfl rfl rfl rfl rfl ?_
          refine DW.q2 (x := .tmp 185) (y := .tmp 186) (.int .i64 ((p : Int) + k)) rfl rfl rfl rfl rfl rfl rfl rfl (fun ρ W h1 h2 => by first | (go_simp; done) | (go_simp; exact IntWalk.i64_in _ (by omega)) | (go_simp; exact Int.tmod_eq_emod_of_nonneg (by omega)) | (go_simp; exact Int.tdiv_eq_ediv_of_nonneg (by omega))) ?_
          refine DW.q2 (x := .tmp 184) (y := .tmp 187) (.bool false) rfl rfl rfl rfl rfl rfl rfl rfl (fun ρ W h1 h2 => by go_simp) ?_
          refine DW.pick (t := false) rfl rfl rfl rfl rfl rfl rfl rfl rfl ?_
          refine DW.move rfl rfl rfl rfl rfl rfl rfl rfl ?_
          refine DW.skip rfl rfl rfl rfl ?_
          refine DW.skip rfl rfl rfl rfl ?_
          refine DW.skip rfl rfl rfl rfl ?_
          refine DW.skip rfl rfl rfl rfl ?_
          refine DW.skip rfl rfl rfl rfl ?_
          refine DW.skip rfl rfl rfl rfl ?_
          refine DW.skip rfl rfl rfl rfl ?_
          refine DW.pick (t := false) rfl rfl rfl rfl rfl rfl rfl rfl rfl ?_
          refine DW.move rfl rfl rfl rfl rfl rfl rfl rfl ?_
          refine DW.load rfl rfl rfl rfl rfl rfl rfl rfl rfl rfl ?_
          refine DW.move rfl rfl rfl rfl rfl rfl rfl rfl ?_
          refine DW.callV rfl rfl rfl rfl rfl rfl rfl rfl rfl rfl (k_bit (X.bo (op := (op % 16)) Y) (by decide) (by omega) (by omega) (bo_bit (by omega) (Bool.eq_false_iff.2 hx) (hy))) ?_
          refine DW.move rfl rfl rfl rfl rfl rfl rfl rfl ?_
          refine DW.q2 (x := .tmp 203) (y := .const (.int .u8 16)) (.int .u8 (op % 16)) rfl rfl rfl rfl rfl rfl rfl rfl (fun ρ W h1 h2 => by first | (go_simp; done) | (go_simp; exact IntWalk.i64_in _ (by omega)) | (go_simp; exact Int.tmod_eq_emod_of_nonneg (by omega)) | (go_simp; exact Int.tdiv_eq_ediv_of_nonneg (by omega))) ?_
          refine DW.q1 (x := .tmp 204) (.int .i64 (op % 16)) rfl rfl rfl rfl rfl rfl rfl (fun ρ W h1 => by first | (go_simp; done) | (go_simp; exact IntWalk.i64_in _ (by omega)) | (go_simp; exact Int.tmod_eq_emod_of_nonneg (by omega)) | (go_simp; exact Int.tdiv_eq_ediv_of_nonneg (by omega))) ?_
          refine DW.move rfl rfl rfl rfl rfl rfl rfl rfl ?_
          refine DW.q2 (x := .tmp 205) (y := .tmp 206) (.int .i64 (op % 16 / 2)) rfl rfl rfl rfl rfl rfl rfl rfl (fun ρ W h1 h2 => by go_simp) ?_
          refine DW.q2 (x := .tmp 207) (y := .const (.int .i64 1)) (.int .i64 (op % 16 / 2 % 2)) rfl rfl rfl rfl rfl rfl rfl rfl (fun ρ W h1 h2 => by exact and_run h1 h2 (by omega) (by omega)) ?_
          refine DW.q2 (x := .tmp 208) (y := .const (.int .i64 1)) (.bool (ch (op % 16) false true)) rfl rfl rfl rfl rfl rfl rfl rfl (fun ρ W h1 h2 => by go_simp; first | (simp [ch]; done) | (simp [ch]; rfl) | rfl) ?_
          refine DW.q2 (x := .tmp 202) (y := .tmp 209) (.bool false) rfl rfl rfl rfl rfl rfl rfl rfl (fun ρ W h1 h2 => by go_simp) ?_
          refine DW.pick (t := false) rfl rfl rfl rfl rfl rfl rfl rfl rfl ?_
          refine DW.nil ?_
          refine SX.then ?_
          refine SC.cond (t := false) rfl ?_
          refine SC.skip ?_
          refine SX.then ?_
          refine SC.seq ?_
          refine SC.region ?_
          refine PW.load rfl rfl rfl rfl rfl rfl ?_
          refine PW.move rfl rfl rfl rfl rfl ?_
          refine PW.call (r := .kw (K2 (KI (sh x (k : Int))) (KV (.int .i64 0)))) rfl rfl rfl rfl rfl rfl (K2.st (KI.st _) (KV.st _)) rfl (k_Shift X (by decide) (by omega) (by omega) (shOk_of X (by omega))) ?_
          refine PW.move rfl rfl rfl rfl rfl ?_
          refine PW.ext (r := .kw (KI (sh x (k : Int)))) rfl rfl rfl rfl rfl ex20 (KI.st _) rfl ?_
          refine PW.ext (r := .vl (.int .i64 0)) rfl rfl rfl rfl rfl ex21v (KV.st _) rfl ?_
          refine PW.alloc (BI 28) rfl rfl rfl rfl rfl bI ?_
          refine PW.store (x := .tmp 216) (r := .kw (KI (sh x (k : Int)))) rfl rfl rfl rfl rfl rfl sh_I ?_
          refine PW.assign rfl rfl rfl rfl rfl ?_
          refine PW.nil ?_
          refine SX.then ?_
          refine SC.seq ?_
          refine SC.region ?_
          refine PW.load rfl rfl rfl rfl rfl rfl ?_
          refine PW.move rfl rfl rfl rfl rfl ?_
          refine PW.q1 (x := .tmp 220) (.int .i64 (-(k : Int))) rfl rfl rfl rfl (fun ρ W h1 => by first | (go_simp; done) | (go_simp; exact IntWalk.i64_in _ (by omega)) | (go_simp; exact Int.tmod_eq_emod_of_nonneg (by omega)) | (go_simp; exact Int.tdiv_eq_ediv_of_nonneg (by omega))) ?_
          refine PW.call (r := .kw (K2 (KI (sh (sh x (k : Int)) (-(k : Int)))) (KV (.int .i64 0)))) rfl rfl rfl rfl rfl rfl (K2.st (KI.st _) (KV.st _)) rfl (k_Shift (X.up (k := k) (m := 8) (by omega)) (by decide) (by omega) (by omega) (.inl (by omega))) ?_
          refine PW.move rfl rfl rfl rfl rfl ?_
          refine PW.ext (r := .kw (KI (sh (sh x (k : Int)) (-(k : Int))))) rfl rfl rfl rfl rfl ex20 (KI.st _) rfl ?_
          refine PW.ext (r := .vl (.int .i64 0)) rfl rfl rfl rfl rfl ex21v (KV.st _) rfl ?_
          refine PW.alloc (BI 28) rfl rfl rfl rfl rfl bI ?_
          refine PW.store (x := .tmp 223) (r := .kw (KI (sh (sh x (k : Int)) (-(k : Int))))) rfl rfl rfl rfl rfl rfl sh_I ?_
          refine PW.assign rfl rfl rfl rfl rfl ?_
          refine PW.nil ?_
          refine SX.then ?_
          refine SC.seq ?_
          refine SC.region ?_
          refine PW.move rfl rfl rfl rfl rfl ?_
          refine PW.q2 (x := .tmp 225) (y := .const (.int .i64 0)) (.bool true) rfl rfl rfl rfl rfl (fun ρ W h1 h2 => by go_simp) ?_
          refine PW.move rfl rfl rfl rfl rfl ?_
          refine PW.move rfl rfl rfl rfl rfl ?_
          refine PW.q2 (x := .tmp 228) (y := .const (.int .i64 0)) (.bool true) rfl rfl rfl rfl rfl (fun ρ W h1 h2 => by go_simp) ?_
          refine PW.pick (t := true) rfl rfl rfl rfl rfl rfl ?_
          refine PW.move rfl rfl rfl rfl rfl ?_
          refine PW.load rfl rfl rfl rfl rfl rfl ?_
          refine PW.load rfl rfl rfl rfl rfl rfl ?_
          refine PW.call (r := .vl (.bool true)) rfl rfl rfl rfl rfl rfl (KV.st _) rfl (k_same (sh_back x k)) ?_
          refine PW.pick (t := true) rfl rfl rfl rfl rfl rfl ?_
          refine PW.move rfl rfl rfl rfl rfl ?_
          refine PW.call (r := .vl (.bool true)) rfl rfl rfl rfl rfl rfl (KV.st _) rfl (k_awake) ?_
          refine PW.pick (t := true) rfl rfl rfl rfl rfl rfl ?_
          refine PW.assign rfl rfl rfl rfl rfl ?_
          refine PW.nil ?_
          refine SX.then ?_
          refine SC.ret ?_
          exact SX.done (r := .vl (.bool true)) rfl rfl rfl
    · refine SC.region ?_
      refine PW.load rfl rfl rfl rfl rfl rfl ?_
      refine PW.move rfl rfl rfl rfl rfl ?_
      refine PW.call (r := .vl (.bool false)) rfl rfl rfl rfl rfl rfl (KV.st _) rfl (k_bit Y (by decide) (by omega) (by omega) (Bool.eq_false_iff.2 hy)) ?_
      refine PW.nil ?_
      refine SX.then ?_
      refine SC.cond (t := false) rfl ?_
      refine SC.skip ?_
      refine SX.then ?_
      refine SC.seq ?_
      refine SC.seq ?_
      by_cases h1 : b % 300 < (p : Int)
      · refine SC.draw (BI 28) [[], [], [0, 1], [0, 1, 2], [0, 1, 2, 3], [0, 1, 2, 3], [0, 1, 2, 3], [0, 1, 2, 3, 5, 6], [0, 1, 2, 3, 4, 5, 6, 7], [0, 1, 2, 3, 4, 5, 6, 7, 8], [0, 1, 2, 3, 4, 5, 6, 7, 8, 9], [0, 1, 2, 3, 4, 5, 6, 7, 8, 9, 10], [0, 1, 2, 3, 4, 5, 6, 7, 8, 9, 10], [0, 1, 2, 3, 4, 5, 6, 7, 8, 9, 10, 11, 12], [0, 1, 2, 3, 4, 5, 6, 7, 8, 9, 10], [0, 1, 2, 3, 4, 5, 6, 7, 8, 9, 10], [0, 1, 2, 3, 4, 5, 6, 7, 8, 9, 10, 11, 12, 13, 14, 15], [0, 1, 2, 3, 4, 5, 6, 7, 8, 9, 10, 11, 12, 13, 14, 15, 16], [0, 1, 2, 3, 4, 5, 6, 7, 8, 9, 10, 11, 12, 13, 14, 15, 16, 17], [0, 1, 2, 3, 4, 5, 6, 7, 8, 9, 10, 11, 12, 13, 14, 15, 16, 17, 18], [0, 1, 2, 3, 4, 5, 6, 7, 8, 9, 10, 11, 12, 13, 14, 15, 16, 17, 18, 19], [0, 1, 2, 3, 4, 5, 6, 7, 8, 9, 10, 11, 12, 13, 14, 15, 16, 17, 18, 19], [0, 1, 2, 3, 4, 5, 6, 7, 8, 9, 10, 11, 12, 13, 14, 15, 16, 17, 18, 19, 20, 21], [0, 1, 2, 3, 4, 5, 6, 7, 8, 9, 10, 11, 12, 13, 14, 15, 16, 17, 18, 19], [0, 1, 2, 3, 4, 5, 6, 7, 8, 9, 10, 11, 12, 13, 14, 15, 16, 17, 18, 19, 23], [0, 1, 2, 3, 4, 5, 6, 7, 8, 9, 10, 11, 12, 13, 14, 15, 16, 17, 18, 19, 23, 24], [0, 1, 2, 3, 4, 5, 6, 7, 8, 9, 10, 11, 12, 13, 14, 15, 16, 17, 18, 19], [0, 1, 2, 3, 4, 5, 6, 7, 8, 9, 10, 11, 12, 13, 14, 15, 16, 17, 18, 19, 23, 24, 25, 26], [0, 1, 2, 3, 4, 5, 6, 7, 8, 9, 10, 11, 12, 13, 14, 15, 16, 17, 18, 19, 23, 24, 25, 26, 27], [0, 1, 2, 3, 4, 5, 6, 7, 8, 9, 10, 11, 12, 13, 14, 15, 16, 17, 18, 19, 23, 24, 25, 26, 27, 28], [0, 1, 2, 3, 4, 5, 6, 7, 8, 9, 10, 11, 12, 13, 14, 15, 16, 17, 18, 19, 20, 21, 22, 23, 24, 25, 26, 27, 28, 29], [0, 1, 2, 3, 4, 5, 6, 7, 8, 9, 10, 11, 12, 13, 14, 15, 16, 17, 18, 19, 20, 21, 22, 23, 24, 25, 26, 27, 28, 29, 30]] (fun n1 => [(13, KV (.bool false)), (16, KV (.bool false)), (22, KV (.bool (ch (op % 16) false false)))]) 100000 (fun _ _ => KT) (by kernel_rfl) (by kernel_rfl) (by kernel_rfl) bI (fun n1 => ⟨.of (KV.st _), .of (KV.st _), .of (KV.st _), trivial⟩) fun w1 => ?_
        refine DW.move rfl rfl rfl rfl rfl rfl rfl rfl ?_
        refine DW.move rfl rfl rfl rfl rfl rfl rfl rfl ?_
        refine DW.q2 (x := .tmp 180) (y := .tmp 181) (.bool true) rfl rfl rfl rfl rfl rfl rfl rfl (fun ρ W h1 h2 => by go_simp) ?_
        refine DW.move rfl rfl rfl rfl rfl rfl rfl rfl ?_
        refine DW.skip rfl rfl rfl rfl ?_
        refine DW.skip rfl rfl rfl rfl ?_
        refine DW.skip rfl rfl rfl rfl ?_
        refine DW.skip rfl rfl rfl rfl ?_
        refine DW.skip rfl rfl rfl rfl ?_
        refine DW.pick (t := true) rfl rfl rfl rfl rfl rfl rfl rfl rfl ?_
        refine DW.move rfl rfl rfl rfl rfl rfl rfl rfl ?_
        refine DW.load rfl rfl rfl rfl rfl rfl rfl rfl rfl rfl ?_
        refine DW.move rfl rfl rfl rfl rfl rfl rfl rfl ?_
        refine DW.callV rfl rfl rfl rfl rfl rfl rfl rfl rfl rfl (k_bit (bd.dep (k := k) (p := p) (m := 8) (q := 8) X Y (by omega) (by omega)) (by decide) (by omega) (by omega) ((dep_bit (by omega) (by omega)).trans (Bool.eq_false_iff.2 hx))) ?_
        refine DW.load rfl rfl rfl rfl rfl rfl rfl rfl rfl rfl ?_
        refine DW.move rfl rfl rfl rfl rfl rfl rfl rfl ?_
        refine DW.callV rfl rfl rfl rfl rfl rfl rfl rfl rfl rfl (k_bit X (by decide) (by omega) (by omega) (Bool.eq_false_iff.2 hx)) ?_
        refine DW.q2 (x := .tmp 193) (y := .tmp 196) (.bool false) rfl rfl rfl rfl rfl rfl rfl rfl (fun ρ W h1 h2 => by go_simp) ?_
        refine DW.pick (t := true) rfl rfl rfl rfl rfl rfl rfl rfl rfl ?_
        refine DW.move rfl rfl rfl rfl rfl rfl rfl rfl ?_
        refine DW.load rfl rfl rfl rfl rfl rfl rfl rfl rfl rfl ?_
        refine DW.move rfl rfl rfl rfl rfl rfl rfl rfl ?_
        refine DW.callV rfl rfl rfl rfl rfl rfl rfl rfl rfl rfl (k_bit (X.bo (op := (op % 16)) Y) (by decide) (by omega) (by omega) (bo_bit (by omega) (Bool.eq_false_iff.2 hx) (Bool.eq_false_iff.2 hy))) ?_
        refine DW.move rfl rfl rfl rfl rfl rfl rfl rfl ?_
        refine DW.q2 (x := .tmp 203) (y := .const (.int .u8 16)) (.int .u8 (op % 16)) rfl rfl rfl rfl rfl rfl rfl rfl (fun ρ W h1 h2 => by first | (go_simp; done) | (go_simp; exact IntWalk.i64_in _ (by omega)) | (go_simp; exact Int.tmod_eq_emod_of_nonneg (by omega)) | (go_simp; exact Int.tdiv_eq_ediv_of_nonneg (by omega))) ?_
        refine DW.q1 (x := .tmp 204) (.int .i64 (op % 16)) rfl rfl rfl rfl rfl rfl rfl (fun ρ W h1 => by first | (go_simp; done) | (go_simp; exact IntWalk.i64_in _ (by omega)) | (go_simp; exact Int.tmod_eq_emod_of_nonneg (by omega)) | (go_simp; exact Int.tdiv_eq_ediv_of_nonneg (by omega))) ?_
        refine DW.move rfl rfl rfl rfl rfl rfl rfl rfl ?_
        refine DW.q2 (x := .tmp 205) (y := .tmp 206) (.int .i64 (op % 16 / 1)) rfl rfl rfl rfl rfl rfl rfl rfl (fun ρ W h1 h2 => by go_simp) ?_
        refine DW.q2 (x := .tmp 207) (y := .const (.int .i64 1)) (.int .i64 (op % 16 / 1 % 2)) rfl rfl rfl rfl rfl rfl rfl rfl (fun ρ W h1 h2 => by exact and_run h1 h2 (by omega) (by omega)) ?_
        refine DW.q2 (x := .tmp 208) (y := .const (.int .i64 1)) (.bool (ch (op % 16) false false)) rfl rfl rfl rfl rfl rfl rfl rfl (fun ρ W h1 h2 => by go_simp; first | (simp [ch]; done) | (simp [ch]; rfl) | rfl) ?_
        refine DW.q2 (x := .tmp 202) (y := .tmp 209) (.bool false) rfl rfl rfl rfl rfl rfl rfl rfl (fun ρ W h1 h2 => by go_simp) ?_
        refine DW.pick (t := false) rfl rfl rfl rfl rfl rfl rfl rfl rfl ?_
        refine DW.nil ?_
        refine SX.then ?_
        refine SC.cond (t := false) rfl ?_
        refine SC.skip ?_
        refine SX.then ?_
        refine SC.seq ?_
        refine SC.region ?_
        refine PW.load rfl rfl rfl rfl rfl rfl ?_
        refine PW.move rfl rfl rfl rfl rfl ?_
        refine PW.call (r := .kw (K2 (KI (sh x (k : Int))) (KV (.int .i64 0)))) rfl rfl rfl rfl rfl rfl (K2.st (KI.st _) (KV.st _)) rfl (k_Shift X (by decide) (by omega) (by omega) (shOk_of X (by omega))) ?_
        refine PW.move rfl rfl rfl rfl rfl ?_
        refine PW.ext (r := .kw (KI (sh x (k : Int)))) rfl rfl rfl rfl rfl ex20 (KI.st _) rfl ?_
        refine PW.ext (r := .vl (.int .i64 0)) rfl rfl rfl rfl rfl ex21v (KV.st _) rfl ?_
        refine PW.alloc (BI 28) rfl rfl rfl rfl rfl bI ?_
        refine PW.store (x := .tmp 216) (r := .kw (KI (sh x (k : Int)))) rfl rfl rfl rfl rfl rfl sh_I ?_
        refine PW.assign rfl rfl rfl rfl rfl ?_
        refine PW.nil ?_
        refine SX.then ?_
        refine SC.seq ?_
        refine SC.region ?_
        refine PW.load rfl rfl rfl rfl rfl rfl ?_
        refine PW.move rfl rfl rfl rfl rfl ?_
        refine PW.q1 (x := .tmp 220) (.int .i64 (-(k : Int))) rfl rfl rfl rfl (fun ρ W h1 => by first | (go_simp; done) | (go_simp; exact IntWalk.i64_in _ (by omega)) | (go_simp; exact Int.tmod_eq_emod_of_nonneg (by omega)) | (go_simp; exact Int.tdiv_eq_ediv_of_nonneg (by omega))) ?_
        refine PW.call (r := .kw (K2 (KI (sh (sh x (k : Int)) (-(k : Int)))) (KV (.int .i64 0)))) rfl rfl rfl rfl rfl rfl (K2.st (KI.st _) (KV.st _)) rfl (k_Shift (X.up (k := k) (m := 8) (by omega)) (by decide) (by omega) (by omega) (.inl (by omega))) ?_
        refine PW.move rfl rfl rfl rfl rfl ?_
        refine PW.ext (r := .kw (KI (sh (sh x (k : Int)) (-(k : Int))))) rfl rfl rfl rfl rfl ex20 (KI.st _) rfl ?_
        refine PW.ext (r := .vl (.int .i64 0)) rfl rfl rfl rfl rfl ex21v (KV.st _) rfl ?_
        refine PW.alloc (BI 28) rfl rfl rfl rfl rfl bI ?_
        refine PW.store (x := .tmp 223) (r := .kw (KI (sh (sh x (k : Int)) (-(k : Int))))) rfl rfl rfl rfl rfl rfl sh_I ?_
        refine PW.assign rfl rfl rfl rfl rfl ?_
        refine PW.nil ?_
        refine SX.then ?_
        refine SC.seq ?_
        refine SC.region ?_
        refine PW.move rfl rfl rfl rfl rfl ?_
        refine PW.q2 (x := .tmp 225) (y := .const (.int .i64 0)) (.bool true) rfl rfl rfl rfl rfl (fun ρ W h1 h2 => by go_simp) ?_
        refine PW.move rfl rfl rfl rfl rfl ?_
        refine PW.move rfl rfl rfl rfl rfl ?_
        refine PW.q2 (x := .tmp 228) (y := .const (.int .i64 0)) (.bool true) rfl rfl rfl rfl rfl (fun ρ W h1 h2 => by go_simp) ?_
        refine PW.pick (t := true) rfl rfl rfl rfl rfl rfl ?_
        refine PW.move rfl rfl rfl rfl rfl ?_
        refine PW.load rfl rfl rfl rfl rfl rfl ?_
        refine PW.load rfl rfl rfl rfl rfl rfl ?_
        refine PW.call (r := .vl (.bool true)) rfl rfl rfl rfl rfl rfl (KV.st _) rfl (k_same (sh_back x k)) ?_
        refine PW.pick (t := true) rfl rfl rfl rfl rfl rfl ?_
        refine PW.move rfl rfl rfl rfl rfl ?_
        refine PW.call (r := .vl (.bool true)) rfl rfl rfl rfl rfl rfl (KV.st _) rfl (k_awake) ?_
        refine PW.pick (t := true) rfl rfl rfl rfl rfl rfl ?_
        refine PW.assign rfl rfl rfl rfl rfl ?_
        refine PW.nil ?_
        refine SX.then ?_
        refine SC.ret ?_
        exact SX.done (r := .vl (.bool true)) rfl rfl rfl
      · by_cases h2 : (p : Int) + k ≤ b % 300
        · refine SC.draw (BI 28) [[], [], [0, 1], [0, 1, 2], [0, 1, 2, 3], [0, 1, 2, 3], [0, 1, 2, 3], [0, 1, 2, 3, 5, 6], [0, 1, 2, 3, 4, 5, 6, 7], [0, 1, 2, 3, 4, 5, 6, 7, 8], [0, 1, 2, 3, 4, 5, 6, 7, 8, 9], [0, 1, 2, 3, 4, 5, 6, 7, 8, 9, 10], [0, 1, 2, 3, 4, 5, 6, 7, 8, 9, 10], [0, 1, 2, 3, 4, 5, 6, 7, 8, 9, 10, 11, 12], [0, 1, 2, 3, 4, 5, 6, 7, 8, 9, 10], [0, 1, 2, 3, 4, 5, 6, 7, 8, 9, 10], [0, 1, 2, 3, 4, 5, 6, 7, 8, 9, 10, 11, 12, 13, 14, 15], [0, 1, 2, 3, 4, 5, 6, 7, 8, 9, 10, 11, 12, 13, 14, 15, 16], [0, 1, 2, 3, 4, 5, 6, 7, 8, 9, 10, 11, 12, 13, 14, 15, 16, 17], [0, 1, 2, 3, 4, 5, 6, 7, 8, 9, 10, 11, 12, 13, 14, 15, 16, 17, 18], [0, 1, 2, 3, 4, 5, 6, 7, 8, 9, 10, 11, 12, 13, 14, 15, 16, 17, 18, 19], [0, 1, 2, 3, 4, 5, 6, 7, 8, 9, 10, 11, 12, 13, 14, 15, 16, 17, 18, 19], [0, 1, 2, 3, 4, 5, 6, 7, 8, 9, 10, 11, 12, 13, 14, 15, 16, 17, 18, 19, 20, 21], [0, 1, 2, 3, 4, 5, 6, 7, 8, 9, 10, 11, 12, 13, 14, 15, 16, 17, 18, 19], [0, 1, 2, 3, 4, 5, 6, 7, 8, 9, 10, 11, 12, 13, 14, 15, 16, 17, 18, 19, 23], [0, 1, 2, 3, 4, 5, 6, 7, 8, 9, 10, 11, 12, 13, 14, 15, 16, 17, 18, 19, 23, 24], [0, 1, 2, 3, 4, 5, 6, 7, 8, 9, 10, 11, 12, 13, 14, 15, 16, 17, 18, 19], [0, 1, 2, 3, 4, 5, 6, 7, 8, 9, 10, 11, 12, 13, 14, 15, 16, 17, 18, 19, 23, 24, 25, 26], [0, 1, 2, 3, 4, 5, 6, 7, 8, 9, 10, 11, 12, 13, 14, 15, 16, 17, 18, 19, 23, 24, 25, 26, 27], [0, 1, 2, 3, 4, 5, 6, 7, 8, 9, 10, 11, 12, 13, 14, 15, 16, 17, 18, 19, 23, 24, 25, 26, 27, 28], [0, 1, 2, 3, 4, 5, 6, 7, 8, 9, 10, 11, 12, 13, 14, 15, 16, 17, 18, 19, 20, 21, 22, 23, 24, 25, 26, 27, 28, 29], [0, 1, 2, 3, 4, 5, 6, 7, 8, 9, 10, 11, 12, 13, 14, 15, 16, 17, 18, 19, 20, 21, 22, 23, 24, 25, 26, 27, 28, 29, 30]] (fun n1 => [(13, KV (.bool false)), (16, KV (.bool false)), (22, KV (.bool (ch (op % 16) false false)))]) 100000 (fun _ _ => KT) (by kernel_rfl) (by kernel_rfl) (by kernel_rfl) bI (fun n1 => ⟨.of (KV.st _), .of (KV.st _), .of (KV.st _), trivial⟩) fun w1 => ?_
          refine DW.move rfl rfl rfl rfl rfl rfl rfl rfl ?_
          refine DW.move rfl rfl rfl rfl rfl rfl rfl rfl ?_
          refine DW.q2 (x := .tmp 180) (y := .tmp 181) (.bool false) rfl rfl rfl rfl rfl rfl rfl rfl (fun ρ W h1 h2 => by go_simp) ?_
          refine DW.move rfl rfl rfl rfl rfl rfl rfl rfl ?_
          refine DW.move rfl rfl rfl rfl rfl rfl rfl rfl ?_
          refine DW.move rfl rfl rfl rfl rfl rfl rfl rfl ?_
          refine DW.move rfl rfl rfl rfl rfl rfl rfl rfl ?_
          refine DW.q2 (x := .tmp 185) (y := .tmp 186) (.int .i64 ((p : Int) + k)) rfl rfl rfl rfl rfl rfl rfl rfl (fun ρ W h1 h2 => by first | (go_simp; done) | (go_simp; exact IntWalk.i64_in _ (by omega)) | (go_simp; exact Int.tmod_eq_emod_of_nonneg (by omega)) | (go_simp; exact Int.tdiv_eq_ediv_of_nonneg (by omega))) ?_
          refine DW.q2 (x := .tmp 184) (y := .tmp 187) (.bool true) rfl rfl rfl rfl rfl rfl rfl rfl (fun ρ W h1 h2 => by go_simp) ?_
          refine DW.pick (t := false) rfl rfl rfl rfl rfl rfl rfl rfl rfl ?_
          refine DW.move rfl rfl rfl rfl rfl rfl rfl rfl ?_
          refine DW.load rfl rfl rfl rfl rfl rfl rfl rfl rfl rfl ?_
          refine DW.move rfl rfl rfl rfl rfl rfl rfl rfl ?_
          refine DW.callV rfl rfl rfl rfl rfl rfl rfl rfl rfl rfl (k_bit (bd.dep (k := k) (p := p) (m := 8) (q := 8) X Y (by omega) (by omega)) (by decide) (by omega) (by omega) ((dep_bit (by omega) (by omega)).trans (Bool.eq_false_iff.2 hx))) ?_
          refine DW.load rfl rfl rfl rfl rfl rfl rfl rfl rfl rfl ?_
          refine DW.move rfl rfl rfl rfl rfl rfl rfl rfl ?_
          refine DW.callV rfl rfl rfl rfl rfl rfl rfl rfl rfl rfl (k_bit X (by decide) (by omega) (by omega) (Bool.eq_false_iff.2 hx)) ?_
          refine DW.q2 (x := .tmp 193) (y := .tmp 196) (.bool false) rfl rfl rfl rfl rfl rfl rfl rfl (fun ρ W h1 h2 => by go_simp) ?_
          refine DW.pick (t := true) rfl rfl rfl rfl rfl rfl rfl rfl rfl ?_
          refine DW.move rfl rfl rfl rfl rfl rfl rfl rfl ?_
          refine DW.load rfl rfl rfl rfl rfl rfl rfl rfl rfl rfl ?_
          refine DW.move rfl rfl rfl rfl rfl rfl rfl rfl ?_
          refine DW.callV rfl rfl rfl rfl rfl rfl rfl rfl rfl rfl (k_bit (X.bo (op := (op % 16)) Y) (by decide) (by omega) (by omega) (bo_bit (by omega) (Bool.eq_false_iff.2 hx) (Bool.eq_false_iff.2 hy))) ?_
          refine DW.move rfl rfl rfl rfl rfl rfl rfl rfl ?_
          refine DW.q2 (x := .tmp 203) (y := .const (.int .u8 16)) (.int .u8 (op % 16)) rfl rfl rfl rfl rfl rfl rfl rfl (fun ρ W h1 h2 => by first | (go_simp; done) | (go_simp; exact IntWalk.i64_in _ (by omega)) | (go_simp; exact Int.tmod_eq_emod_of_nonneg (by omega)) | (go_simp; exact Int.tdiv_eq_ediv_of_nonneg (by omega))) ?_
          refine DW.q1 (x := .tmp 204) (.int .i64 (op % 16)) rfl rfl rfl rfl rfl rfl rfl (fun ρ W h1 => by first | (go_simp; done) | (go_simp; exact IntWalk.i64_in _ (by omega)) | (go_simp; exact Int.tmod_eq_emod_of_nonneg (by omega)) | (go_simp; exact Int.tdiv_eq_ediv_of_nonneg (by omega))) ?_
          refine DW.move rfl rfl rfl rfl rfl rfl rfl rfl ?_
          refine DW.q2 (x := .tmp 205) (y := .tmp 206) (.int .i64 (op % 16 / 1)) rfl rfl rfl rfl rfl rfl rfl rfl (fun ρ W h1 h2 => by go_simp) ?_
          refine DW.q2 (x := .tmp 207) (y := .const (.int .i64 1)) (.int .i64 (op % 16 / 1 % 2)) rfl rfl rfl rfl rfl rfl rfl rfl (fun ρ W h1 h2 => by exact and_run h1 h2 (by omega) (by omega)) ?_
          refine DW.q2 (x := .tmp 208) (y := .const (.int .i64 1)) (.bool (ch (op % 16) false false)) rfl rfl rfl rfl rfl rfl rfl rfl (fun ρ W h1 h2 => by go_simp; first | (simp [ch]; done) | (simp [ch]; rfl) | rfl) ?_
          refine DW.q2 (x := .tmp 202) (y := .tmp 209) (.bool false) rfl rfl rfl rfl rfl rfl rfl rfl (fun ρ W h1 h2 => by go_simp) ?_
          refine DW.pick (t := false) rfl rfl rfl rfl rfl rfl rfl rfl rfl ?_
          refine DW.nil ?_
          refine SX.then ?_
          refine SC.cond (t := false) rfl ?_
          refine SC.skip ?_
          refine SX.then ?_
          refine SC.seq ?_
          refine SC.region ?_
          refine PW.load rfl rfl rfl rfl rfl rfl ?_
          refine PW.move rfl rfl rfl rfl rfl ?_
          refine PW.call (r := .kw (K2 (KI (sh x (k : Int))) (KV (.int .i64 0)))) rfl rfl rfl rfl rfl rfl (K2.st (KI.st _) (KV.st _)) rfl (k_Shift X (by decide) (by omega) (by omega) (shOk_of X (by omega))) ?_
          refine PW.move rfl rfl rfl rfl rfl ?_
          refine PW.ext (r := .kw (KI (sh x (k : Int)))) rfl rfl rfl rfl rfl ex20 (KI.st _) rfl ?_
          refine PW.ext (r := .vl (.int .i64 0)) rfl rfl rfl rfl rfl ex21v (KV.st _) rfl ?_
          refine PW.alloc (BI 28) rfl rfl rfl rfl rfl bI ?_
          refine PW.store (x := .tmp 216) (r := .kw (KI (sh x (k : Int)))) rfl rfl rfl rfl rfl rfl sh_I ?_
          refine PW.assign rfl rfl rfl rfl rfl ?_
          refine PW.nil ?_
          refine SX.then ?_
          refine SC.seq ?_
          refine SC.region ?_
          refine PW.load rfl rfl rfl rfl rfl rfl ?_
          refine PW.move rfl rfl rfl rfl rfl ?_
          refine PW.q1 (x := .tmp 220) (.int .i64 (-(k : Int))) rfl rfl rfl rfl (fun ρ W h1 => by first | (go_simp; done) | (go_simp; exact IntWalk.i64_in _ (by omega)) | (go_simp; exact Int.tmod_eq_emod_of_nonneg (by omega)) | (go_simp; exact Int.tdiv_eq_ediv_of_nonneg (by omega))) ?_
          refine PW.call (r := .kw (K2 (KI (sh (sh x (k : Int)) (-(k : Int)))) (KV (.int .i64 0)))) rfl rfl rfl rfl rfl rfl (K2.st (KI.st _) (KV.st _)) rfl (k_Shift (X.up (k := k) (m := 8) (by omega)) (by decide) (by omega) (by omega) (.inl (by omega))) ?_
          refine PW.move rfl rfl rfl rfl rfl ?_
          refine PW.ext (r := .kw (KI (sh (sh x (k : Int)) (-(k : Int))))) rfl rfl rfl rfl rfl ex20 (KI.st _) rfl ?_
          refine PW.ext (r := .vl (.int .i64 0)) rfl rfl rfl rfl rfl ex21v (KV.st _) rfl ?_
          refine PW.alloc (BI 28) rfl rfl rfl rfl rfl bI ?_
          refine PW.store (x := .tmp 223) (r := .kw (KI (sh (sh x (k : Int)) (-(k : Int))))) rfl rfl rfl rfl rfl rfl sh_I ?_
          refine PW.assign rfl rfl rfl rfl rfl ?_
          refine PW.nil ?_
          refine SX.then ?_
          refine SC.seq ?_
          refine SC.region ?_
          refine PW.move rfl rfl rfl rfl rfl ?_
          refine PW.q2 (x := .tmp 225) (y := .const (.int .i64 0)) (.bool true) rfl rfl rfl rfl rfl (fun ρ W h1 h2 => by go_simp) ?_
          refine PW.move rfl rfl rfl rfl rfl ?_
          refine PW.move rfl rfl rfl rfl rfl ?_
          refine PW.q2 (x := .tmp 228) (y := .const (.int .i64 0)) (.bool true) rfl rfl rfl rfl rfl (fun ρ W h1 h2 => by go_simp) ?_
          refine PW.pick (t := true) rfl rfl rfl rfl rfl rfl ?_
          refine PW.move rfl rfl rfl rfl rfl ?_
          refine PW.load rfl rfl rfl rfl rfl rfl ?_
          refine PW.load rfl rfl rfl rfl rfl rfl ?_
          refine PW.call (r := .vl (.bool true)) rfl rfl rfl rfl rfl rfl (KV.st _) rfl (k_same (sh_back x k)) ?_
          refine PW.pick (t := true) rfl rfl rfl rfl rfl rfl ?_
          refine PW.move rfl rfl rfl rfl rfl ?_
          refine PW.call (r := .vl (.bool true)) rfl rfl rfl rfl rfl rfl (KV.st _) rfl (k_awake) ?_
          refine PW.pick (t := true) rfl rfl rfl rfl rfl rfl ?_
          refine PW.assign rfl rfl rfl rfl rfl ?_
          refine PW.nil ?_
          refine SX.then ?_
          refine SC.ret ?_
          exact SX.done (r := .vl (.bool true)) rfl rfl rfl
        · refine SC.draw (BI 28) [[], [], [0, 1], [0, 1, 2], [0, 1, 2, 3], [0, 1, 2, 3], [0, 1, 2, 3], [0, 1, 2, 3, 5, 6], [0, 1, 2, 3, 4, 5, 6, 7], [0, 1, 2, 3, 4, 5, 6, 7, 8], [0, 1, 2, 3, 4, 5, 6, 7, 8, 9], [0, 1, 2, 3, 4, 5, 6, 7, 8, 9, 10], [0, 1, 2, 3, 4, 5, 6, 7, 8, 9, 10], [0, 1, 2, 3, 4, 5, 6, 7, 8, 9, 10, 11, 12], [0, 1, 2, 3, 4, 5, 6, 7, 8, 9, 10], [0, 1, 2, 3, 4, 5, 6, 7, 8, 9, 10], [0, 1, 2, 3, 4, 5, 6, 7, 8, 9, 10, 11, 12, 13, 14, 15], [0, 1, 2, 3, 4, 5, 6, 7, 8, 9, 10, 11, 12, 13, 14, 15, 16], [0, 1, 2, 3, 4, 5, 6, 7, 8, 9, 10, 11, 12, 13, 14, 15, 16, 17], [0, 1, 2, 3, 4, 5, 6, 7, 8, 9, 10, 11, 12, 13, 14, 15, 16, 17, 18], [0, 1, 2, 3, 4, 5, 6, 7, 8, 9, 10, 11, 12, 13, 14, 15, 16, 17, 18, 19], [0, 1, 2, 3, 4, 5, 6, 7, 8, 9, 10, 11, 12, 13, 14, 15, 16, 17, 18, 19], [0, 1, 2, 3, 4, 5, 6, 7, 8, 9, 10, 11, 12, 13, 14, 15, 16, 17, 18, 19, 20, 21], [0, 1, 2, 3, 4, 5, 6, 7, 8, 9, 10, 11, 12, 13, 14, 15, 16, 17, 18, 19], [0, 1, 2, 3, 4, 5, 6, 7, 8, 9, 10, 11, 12, 13, 14, 15, 16, 17, 18, 19, 23], [0, 1, 2, 3, 4, 5, 6, 7, 8, 9, 10, 11, 12, 13, 14, 15, 16, 17, 18, 19, 23, 24], [0, 1, 2, 3, 4, 5, 6, 7, 8, 9, 10, 11, 12, 13, 14, 15, 16, 17, 18, 19], [0, 1, 2, 3, 4, 5, 6, 7, 8, 9, 10, 11, 12, 13, 14, 15, 16, 17, 18, 19, 23, 24, 25, 26], [0, 1, 2, 3, 4, 5, 6, 7, 8, 9, 10, 11, 12, 13, 14, 15, 16, 17, 18, 19, 23, 24, 25, 26, 27], [0, 1, 2, 3, 4, 5, 6, 7, 8, 9, 10, 11, 12, 13, 14, 15, 16, 17, 18, 19, 23, 24, 25, 26, 27, 28], [0, 1, 2, 3, 4, 5, 6, 7, 8, 9, 10, 11, 12, 13, 14, 15, 16, 17, 18, 19, 20, 21, 22, 23, 24, 25, 26, 27, 28, 29], [0, 1, 2, 3, 4, 5, 6, 7, 8, 9, 10, 11, 12, 13, 14, 15, 16, 17, 18, 19, 20, 21, 22, 23, 24, 25, 26, 27, 28, 29, 30]] (fun n1 => [(22, KV (.bool (ch (op % 16) false false)))]) 100000 (fun _ _ => KT) (by kernel_rfl) (by kernel_rfl) (by kernel_rfl) bI (fun n1 => ⟨.of (KV.st _), trivial⟩) fun w1 => ?_
          refine DW.move rfl rfl rfl rfl rfl rfl rfl rfl ?_
          refine DW.move rfl rfl rfl rfl rfl rfl rfl rfl ?_
          refine DW.q2 (x := .tmp 180) (y := .tmp 181) (.bool false) rfl rfl rfl rfl rfl rfl rfl rfl (fun ρ W h1 h2 => by go_simp) ?_
          refine DW.move rfl rfl rfl rfl rfl rfl rfl rfl ?_
          refine DW.move rfl rfl rfl rfl rfl rfl rfl rfl ?_
          refine DW.move rfl rfl rfl rfl rfl rfl rfl rfl ?_
          refine DW.move rfl rfl rfl rfl rfl rfl rfl rfl ?_
          refine DW.q2 (x := .tmp 185) (y := .tmp 186) (.int .i64 ((p : Int) + k)) rfl rfl rfl rfl rfl rfl rfl rfl (fun ρ W h1 h2 => by first | (go_simp; done) | (go_simp; exact IntWalk.i64_in _ (by omega)) | (go_simp; exact Int.tmod_eq_emod_of_nonneg (by omega)) | (go_simp; exact Int.tdiv_eq_ediv_of_nonneg (by omega))) ?_
          refine DW.q2 (x := .tmp 184) (y := .tmp 187) (.bool false) rfl rfl rfl rfl rfl rfl rfl rfl (fun ρ W h1 h2 => by go_simp) ?_
          refine DW.pick (t := false) rfl rfl rfl rfl rfl rfl rfl rfl rfl ?_
          refine DW.move rfl rfl rfl rfl rfl rfl rfl rfl ?_
          refine DW.skip rfl rfl rfl rfl ?_
          refine DW.skip rfl rfl rfl rfl ?_
          refine DW.skip rfl rfl rfl rfl ?_
          refine DW.skip rfl rfl rfl rfl ?_
          refine DW.skip rfl rfl rfl rfl ?_
          refine DW.skip rfl rfl rfl rfl ?_
          refine DW.skip rfl rfl rfl rfl ?_
          refine DW.pick (t := false) rfl rfl rfl rfl rfl rfl rfl rfl rfl ?_
          refine DW.move rfl rfl rfl rfl rfl rfl rfl rfl ?_
          refine DW.load rfl rfl rfl rfl rfl rfl rfl rfl rfl rfl ?_
          refine DW.move rfl rfl rfl rfl rfl rfl rfl rfl ?_
          refine DW.callV rfl rfl rfl rfl rfl rfl rfl rfl rfl rfl (k_bit (X.bo (op := (op % 16)) Y) (by decide) (by omega) (by omega) (bo_bit (by omega) (Bool.eq_false_iff.2 hx) (Bool.eq_false_iff.2 hy))) ?_
          refine DW.move rfl rfl rfl rfl rfl rfl rfl rfl ?_
          refine DW.q2 (x := .tmp 203) (y := .const (.int .u8 16)) (.int .u8 (op % 16)) rfl rfl rfl rfl rfl rfl rfl rfl (fun ρ W h1 h2 => by first | (go_simp; done) | (go_simp; exact IntWalk.i64_in _ (by omega)) | (go_simp; exact Int.tmod_eq_emod_of_nonneg (by omega)) | (go_simp; exact Int.tdiv_eq_ediv_of_nonneg (by omega))) ?_
          refine DW.q1 (x := .tmp 204) (.int .i64 (op % 16)) rfl rfl rfl rfl rfl rfl rfl (fun ρ W h1 => by first | (go_simp; done) | (go_simp; exact IntWalk.i64_in _ (by omega)) | (go_simp; exact Int.tmod_eq_emod_of_nonneg (by omega)) | (go_simp; exact Int.tdiv_eq_ediv_of_nonneg (by omega))) ?_
          refine DW.move rfl rfl rfl rfl rfl rfl rfl rfl ?_
          refine DW.q2 (x := .tmp 205) (y := .tmp 206) (.int .i64 (op % 16 / 1)) rfl rfl rfl rfl rfl rfl rfl rfl (fun ρ W h1 h2 => by go_simp) ?_
          refine DW.q2 (x := .tmp 207) (y := .const (.int .i64 1)) (.int .i64 (op % 16 / 1 % 2)) rfl rfl rfl rfl rfl rfl rfl rfl (fun ρ W h1 h2 => by exact and_run h1 h2 (by omega) (by omega)) ?_
          refine DW.q2 (x := .tmp 208) (y := .const (.int .i64 1)) (.bool (ch (op % 16) false false)) rfl rfl rfl rfl rfl rfl rfl rfl (fun ρ W h1 h2 => by go_simp; first | (simp [ch]; done) | (simp [ch]; rfl) | rfl) ?_
          refine DW.q2 (x := .tmp 202) (y := .tmp 209) (.bool false) rfl rfl rfl rfl rfl rfl rfl rfl (fun ρ W h1 h2 => by go_simp) ?_
          refine DW.pick (t := false) rfl rfl rfl rfl rfl rfl rfl rfl rfl ?_
          refine DW.nil ?_
          refine SX.then ?_
          refine SC.cond (t := false) rfl ?_
          refine SC.skip ?_
          refine SX.then ?_
          refine SC.seq ?_
          refine SC.region ?_
          refine PW.load rfl rfl rfl rfl rfl rfl ?_
          refine PW.move rfl rfl rfl rfl rfl ?_
          refine PW.call (r := .kw (K2 (KI (sh x (k : Int))) (KV (.int .i64 0)))) rfl rfl rfl rfl rfl rfl (K2.st (KI.st _) (KV.st _)) rfl (k_Shift X (by decide) (by omega) (by omega) (shOk_of X (by omega))) ?_
          refine PW.move rfl rfl rfl rfl rfl ?_
          refine PW.ext (r := .kw (KI (sh x (k : Int)))) rfl rfl rfl rfl rfl ex20 (KI.st _) rfl ?_
          refine PW.ext (r := .vl (.int .i64 0)) rfl rfl rfl rfl rfl ex21v (KV.st _) rfl ?_
          refine PW.alloc (BI 28) rfl rfl rfl rfl rfl bI ?_
          refine PW.store (x := .tmp 216) (r := .kw (KI (sh x (k : Int)))) rfl rfl rfl rfl rfl rfl sh_I ?_
          refine PW.assign rfl rfl rfl rfl rfl ?_
          refine PW.nil ?_
          refine SX.then ?_
          refine SC.seq ?_
          refine SC.region ?_
          refine PW.load rfl rfl rfl rfl rfl rfl ?_
          refine PW.move rfl rfl rfl rfl rfl ?_
          refine PW.q1 (x := .tmp 220) (.int .i64 (-(k : Int))) rfl rfl rfl rfl (fun ρ W h1 => by first | (go_simp; done) | (go_simp; exact IntWalk.i64_in _ (by omega)) | (go_simp; exact Int.tmod_eq_emod_of_nonneg (by omega)) | (go_simp; exact Int.tdiv_eq_ediv_of_nonneg (by omega))) ?_
          refine PW.call (r := .kw (K2 (KI (sh (sh x (k : Int)) (-(k : Int)))) (KV (.int .i64 0)))) rfl rfl rfl rfl rfl rfl (K2.st (KI.st _) (KV.st _)) rfl (k_Shift (X.up (k := k) (m := 8) (by omega)) (by decide) (by omega) (by omega) (.inl (by omega))) ?_
          refine PW.move rfl rfl rfl rfl rfl ?_
          refine PW.ext (r := .kw (KI (sh (sh x (k : Int)) (-(k : Int))))) rfl rfl rfl rfl rfl ex20 (KI.st _) rfl ?_
          refine PW.ext (r := .vl (.int .i64 0)) rfl rfl rfl rfl rfl ex21v (KV.st _) rfl ?_
          refine PW.alloc (BI 28) rfl rfl rfl rfl rfl bI ?_
          refine PW.store (x := .tmp 223) (r := .kw (KI (sh (sh x (k : Int)) (-(k : Int))))) rfl rfl rfl rfl rfl rfl sh_I ?_
          refine PW.assign rfl rfl rfl rfl rfl ?_
          refine PW.nil ?_
          refine SX.then ?_
          refine SC.seq ?_
          refine SC.region ?_
          refine PW.move rfl rfl rfl rfl rfl ?_
          refine PW.q2 (x := .tmp 225) (y := .const (.int .i64 0)) (.bool true) rfl rfl rfl rfl rfl (fun ρ W h1 h2 => by go_simp) ?_
          refine PW.move rfl rfl rfl rfl rfl ?_
          refine PW.move rfl rfl rfl rfl rfl ?_
          refine PW.q2 (x := .tmp 228) (y := .const (.int .i64 0)) (.bool true) rfl rfl rfl rfl rfl (fun ρ W h1 h2 => by go_simp) ?_
          refine PW.pick (t := true) rfl rfl rfl rfl rfl rfl ?_
          refine PW.move rfl rfl rfl rfl rfl ?_
          refine PW.load rfl rfl rfl rfl rfl rfl ?_
          refine PW.load rfl rfl rfl rfl rfl rfl ?_
          refine PW.call (r := .vl (.bool true)) rfl rfl rfl rfl rfl rfl (KV.st _) rfl (k_same (sh_back x k)) ?_
          refine PW.pick (t := true) rfl rfl rfl rfl rfl rfl ?_
          refine PW.move rfl rfl rfl rfl rfl ?_
          refine PW.call (r := .vl (.bool true)) rfl rfl rfl rfl rfl rfl (KV.st _) rfl (k_awake) ?_
          refine PW.pick (t := true) rfl rfl rfl rfl rfl rfl ?_
          refine PW.assign rfl rfl rfl rfl rfl ?_
          refine PW.nil ?_
          refine SX.then ?_
          refine SC.ret ?_
          exact SX.done (r := .vl (.bool true)) rfl rfl rfl
end Go.Proofs.Ytcgkgcciogibkaa.Sy
