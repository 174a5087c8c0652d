/- Parts Jz, Gc, Rt, Jn, in one file. -/
import Derived.Test.YtcgkgcciogibkaaK4
import Derived.Test.YtcgkgcciogibkaaK5
import Derived.Test.YtcgkgcciogibkaaLNumbers1
import Derived.Test.YtcgkgcciogibkaaLNumbers5
import Derived.Test.YtcgkgcciogibkaaLNumbers6
/- The reference's Bit, Boole, Count, Field, Deposit by rules. -/
set_option linter.unusedVariables false
set_option linter.unusedSimpArgs false
namespace Go.Proofs.Ytcgkgcciogibkaa.Sy
open Go Go.RowKit Ma
theorem CallOk.toB {f : FuncId} {ks : List Know} {a b : Bool} (h : CallOk f ks (KV (.bool a))) (e : a = b) : CallOk f ks (KV (.bool b)) := e ▸ h

theorem ce_k_jbit_neg : CE 21 := fun args W => by go_simp

set_option maxHeartbeats 3200000 in
set_option maxRecDepth 100000 in
theorem k_jbit_neg {x i : Int} (hi : i < 0) : CallOk 21 [KJ (x), KV (.int .i64 (i))] (KV (.bool false)) := by
  refine CallOk.enter (l := [.kw (KJ (x)), .vl (.int .i64 (i))]) 18 ce_k_jbit_neg Try.func21 rfl Try.ntmps21 (by simp) ⟨(KJ.st _), rfl, (KV.st _), rfl, trivial⟩ fun w => ?_
  refine SC.seq ?_
  refine SC.region ?_
  refine PW.box (x := .tmp 0) (r := .kw (KJ (x))) (BI 31) rfl rfl rfl rfl rfl bJ rfl sh_J ?_
  refine PW.assign rfl rfl rfl rfl rfl ?_
  refine PW.nil ?_
  refine SX.then ?_
  refine SC.seq ?_
  refine SC.seq ?_
  refine SC.region ?_
  refine PW.move rfl rfl rfl rfl rfl ?_
  refine PW.q2 (x := .tmp 5) (y := .const (.int .i64 0)) (.bool true) rfl rfl rfl rfl rfl (fun ρ W h1 h2 => by exact r_lt h1 h2 (decide_eq_true hi)) ?_
  refine PW.nil ?_
  refine SX.then ?_
  refine SC.cond (t := true) rfl ?_
  refine SC.seq ?_
  refine SC.region ?_
  refine PW.assign rfl rfl rfl rfl rfl ?_
  refine PW.nil ?_
  refine SX.then ?_
  refine SC.ret ?_
  refine SX.thenR ?_
  exact SX.done (s := 4) (r := .vl (.bool false)) rfl rfl rfl

set_option maxHeartbeats 3200000 in
set_option maxRecDepth 100000 in
theorem k_jbit {x : Int} {a i : Nat} (X : bd a x) (ha : a ≤ 400000) (hi : i ≤ 9223372036854775807) : CallOk 21 [KJ (x), KV (.int .i64 (i : Int))] (KV (.bool (tb x i))) := by
  refine CallOk.enter (l := [.kw (KJ (x)), .vl (.int .i64 (i : Int))]) 18 ce_k_jbit_neg Try.func21 rfl Try.ntmps21 (by simp) ⟨(KJ.st _), rfl, (KV.st _), rfl, trivial⟩ fun w => ?_
  refine SC.seq ?_
  refine SC.region ?_
  refine PW.box (x := .tmp 0) (r := .kw (KJ (x))) (BI 31) rfl rfl rfl rfl rfl bJ rfl sh_J ?_
  refine PW.assign rfl rfl rfl rfl rfl ?_
  refine PW.nil ?_
  refine SX.then ?_
  refine SC.seq ?_
  refine SC.seq ?_
  refine SC.region ?_
  refine PW.move rfl rfl rfl rfl rfl ?_
  refine PW.q2 (x := .tmp 5) (y := .const (.int .i64 0)) (.bool false) rfl rfl rfl rfl rfl (fun ρ W h1 h2 => by exact r_lt h1 h2 (decide_eq_false (by omega))) ?_
  refine PW.nil ?_
  refine SX.then ?_
  refine SC.cond (t := false) rfl ?_
  refine SC.skip ?_
  refine SX.then ?_
  refine SC.seq ?_
  refine SC.seq ?_
  by_cases nx : x < 0
  · refine SC.region ?_
    refine PW.fld (r := .vl (.bool true)) rfl rfl rfl rfl rfl rfl rfl rfl rfl rfl rfl (fldJ0 (decide_eq_true nx)) (KV.st _) ?_
    refine PW.nil ?_
    refine SX.then ?_
    refine SC.cond (t := true) rfl ?_
    refine SC.seq ?_
    refine SC.dx [.val 9 (.kw (KJ (-1))), .val 10 (.kw (KJ (x))), .val 11 (.kw (KJ ((-1) - x))), .val 12 (.vl (.int .i64 (i : Int))), .val 13 (.vl (.bool (tb (((-1) - x).natAbs : Int) i))), .val 14 (.vl (.bool (tb x i))), .val 4 (.vl (.bool (tb x i)))] [([], []), ([], [2]), ([0, 1], []), ([], [1]), ([2, 3], []), ([4], []), ([5], [])] rfl (by kernel_rfl) (by kernel_rfl) (by kernel_rfl) rfl ⟨?_, ?_, ?_, ?_, ?_, ?_, ?_, trivial⟩ ?_
    · exact DX.call (r := .kw (KJ (-1))) rfl rfl rfl rfl rfl rfl (KJ.st _) rfl (k_jnew (by decide))
    · exact DX.load rfl rfl rfl rfl rfl rfl
    · exact DX.call (r := .kw (KJ ((-1) - x))) rfl rfl rfl rfl rfl rfl (KJ.st _) rfl (k_jsub (bd.lit (by decide)) X (by first | decide | omega) (by first | decide | omega))
    · exact DX.move rfl rfl rfl rfl rfl rfl
    · exact DX.call (r := .vl (.bool (tb (((-1) - x).natAbs : Int) i))) rfl rfl rfl rfl rfl rfl (KV.st _) rfl (k_set ((bd.lit (by decide) : bd 1 (-1)).sub X) (by omega) (by omega))
    · exact DX.q1 (x := .tmp 13) (.bool (tb x i)) rfl rfl rfl rfl (fun ρ W h1 => by exact r_not h1 (by rw [← bits_t nx i]; cases tb ((-1 - x).natAbs : Int) i <;> rfl))
    · exact DX.assign rfl rfl rfl rfl rfl rfl
    refine SX.then ?_
    refine SC.ret ?_
    refine SX.thenR ?_
    exact SX.done (s := 4) (r := .vl (.bool (tb x i))) rfl rfl rfl
  · refine SC.region ?_
    refine PW.fld (r := .vl (.bool false)) rfl rfl rfl rfl rfl rfl rfl rfl rfl rfl rfl (fldJ0 (decide_eq_false nx)) (KV.st _) ?_
    refine PW.nil ?_
    refine SX.then ?_
    refine SC.cond (t := false) rfl ?_
    refine SC.skip ?_
    refine SX.then ?_
    refine SC.seq ?_
    refine SC.region ?_
    refine PW.load rfl rfl rfl rfl rfl rfl ?_
    refine PW.move rfl rfl rfl rfl rfl ?_
    refine PW.call (r := .vl (.bool (tb ((x).natAbs : Int) i))) rfl rfl rfl rfl rfl rfl (KV.st _) rfl (k_set X (by omega) (by omega)) ?_
    refine PW.assign rfl rfl rfl rfl rfl ?_
    refine PW.nil ?_
    refine SX.then ?_
    refine SC.ret ?_
    have hr : tb x i = tb (x.natAbs : Int) i := by rw [show (x.natAbs : Int) = x by omega]
    rw [hr]
    exact SX.done (s := 4) (r := .vl (.bool (tb ((x).natAbs : Int) i))) rfl rfl rfl

theorem ce_k_jboole_bad : CE 18 := fun args W => by go_simp

set_option maxHeartbeats 3200000 in
set_option maxRecDepth 100000 in
theorem k_jboole_bad {p x y : Int} (hp : p < 0 ∨ 15 < p) : CallOk 18 [KV (.int .i64 (p)), KJ (x), KJ (y)] (K2 (KJ 0) (KV (.int .i64 1))) := by
  refine CallOk.enter (l := [.vl (.int .i64 (p)), .kw (KJ (x)), .kw (KJ (y))]) 57 ce_k_jboole_bad Try.func18 rfl Try.ntmps18 (by simp) ⟨(KV.st _), rfl, (KJ.st _), rfl, (KJ.st _), rfl, trivial⟩ fun w => ?_
  refine SC.seq ?_
  refine SC.region ?_
  refine PW.box (x := .tmp 1) (r := .kw (KJ (x))) (BI 31) rfl rfl rfl rfl rfl bJ rfl sh_J ?_
  refine PW.box (x := .tmp 2) (r := .kw (KJ (y))) (BI 31) rfl rfl rfl rfl rfl bJ rfl sh_J ?_
  refine PW.alloc (BI 31) rfl rfl rfl rfl rfl bJ ?_
  refine PW.assign rfl rfl rfl rfl rfl ?_
  refine PW.nil ?_
  refine SX.then ?_
  refine SC.seq ?_
  refine SC.seq ?_
  by_cases hn : p < 0
  · refine SC.region ?_
    refine PW.move rfl rfl rfl rfl rfl ?_
    refine PW.q2 (x := .tmp 13) (y := .const (.int .i64 0)) (.bool true) rfl rfl rfl rfl rfl (fun ρ W h1 h2 => by exact r_lt h1 h2 (decide_eq_true hn)) ?_
    refine PW.move rfl rfl rfl rfl rfl ?_
    refine PW.skip rfl rfl rfl ?_
    refine PW.skip rfl rfl rfl ?_
    refine PW.pick (t := true) rfl rfl rfl rfl rfl rfl ?_
    refine PW.nil ?_
    refine SX.then ?_
    refine SC.cond (t := true) rfl ?_
    refine SC.seq ?_
    refine SC.region ?_
    refine PW.val (r := .kw (KJ (0))) rfl rfl rfl rfl (fun a W hf => ⟨.agg #[.bool false, .slice none 0 0], by go_simp, zeroJ W, KJ.st _⟩) ?_
    refine PW.store (x := .tmp 19) (r := .kw (KJ (0))) rfl rfl rfl rfl rfl rfl sh_J ?_
    refine PW.assign rfl rfl rfl rfl rfl ?_
    refine PW.nil ?_
    refine SX.then ?_
    refine SC.ret ?_
    refine SX.thenR ?_
    exact SX.done2 (s := 6) (t := 7) (r := .vl (.int .i64 1)) (.inl rfl) rfl rfl rfl rfl
  · refine SC.region ?_
    refine PW.move rfl rfl rfl rfl rfl ?_
    refine PW.q2 (x := .tmp 13) (y := .const (.int .i64 0)) (.bool false) rfl rfl rfl rfl rfl (fun ρ W h1 h2 => by exact r_lt h1 h2 (decide_eq_false hn)) ?_
    refine PW.move rfl rfl rfl rfl rfl ?_
    refine PW.move rfl rfl rfl rfl rfl ?_
    refine PW.q2 (x := .tmp 16) (y := .const (.int .i64 15)) (.bool true) rfl rfl rfl rfl rfl (fun ρ W h1 h2 => by exact r_gt h1 h2 (decide_eq_true (by omega))) ?_
    refine PW.pick (t := false) rfl rfl rfl rfl rfl rfl ?_
    refine PW.nil ?_
    refine SX.then ?_
    refine SC.cond (t := true) rfl ?_
    refine SC.seq ?_
    refine SC.region ?_
    refine PW.val (r := .kw (KJ (0))) rfl rfl rfl rfl (fun a W hf => ⟨.agg #[.bool false, .slice none 0 0], by go_simp, zeroJ W, KJ.st _⟩) ?_
    refine PW.store (x := .tmp 19) (r := .kw (KJ (0))) rfl rfl rfl rfl rfl rfl sh_J ?_
    refine PW.assign rfl rfl rfl rfl rfl ?_
    refine PW.nil ?_
    refine SX.then ?_
    refine SC.ret ?_
    refine SX.thenR ?_
    exact SX.done2 (s := 6) (t := 7) (r := .vl (.int .i64 1)) (.inl rfl) rfl rfl rfl rfl

set_option maxHeartbeats 3200000 in
set_option maxRecDepth 100000 in
theorem rboole_c {p x y : Int} {A1 A2 : Option Addr} {l1 c1 l2 c2 a b : Nat} {w : World} (hX : KJ x (.agg #[.bool (decide (x < 0)), .slice A1 l1 c1]) w) (hY : KJ y (.agg #[.bool (decide (y < 0)), .slice A2 l2 c2]) w) (X : bd a x) (Y : bd b y) (ha : a ≤ 100000) (hb : b ≤ 100000) (hp0 : 0 ≤ p) (hp1 : p ≤ 15) :
    Calls Try.prog 18 #[.int .i64 (p), .agg #[.bool (decide (x < 0)), .slice A1 l1 c1], .agg #[.bool (decide (y < 0)), .slice A2 l2 c2]] w (Ret w (K2 (KJ (bo p x y)) (KV (.int .i64 0)))) := by
  have wx := wid_bdp X
  have wy := wid_bdp Y
  obtain ⟨n, hn⟩ : ∃ n : Nat, n = max (wid (pat x)) (wid (pat y)) := ⟨_, rfl⟩
  refine calls_sc (l := [.vl (.int .i64 (p)), .vl (.agg #[.bool (decide (x < 0)), .slice A1 l1 c1]), .vl (.agg #[.bool (decide (y < 0)), .slice A2 l2 c2])]) (us := [.int .i64 (p), .agg #[.bool (decide (x < 0)), .slice A1 l1 c1], .agg #[.bool (decide (y < 0)), .slice A2 l2 c2]]) 57 Try.func18 rfl Try.ntmps18 (by simp) ⟨rfl, rfl, rfl, rfl, rfl, rfl, trivial⟩ ?_
  refine SC.seq ?_
  refine SC.region ?_
  refine PW.boxc (x := .tmp 1) (BI 31) rfl rfl rfl rfl rfl bJ rfl ⟨_, _, _, _, _, rfl, rfl⟩ fun pb1 => ?_
  refine PW.boxc (x := .tmp 2) (BI 31) rfl rfl rfl rfl rfl bJ rfl ⟨_, _, _, _, _, rfl, rfl⟩ fun pb2 => ?_
  refine PW.alloc (BI 31) rfl rfl rfl rfl rfl bJ ?_
  refine PW.assign rfl rfl rfl rfl rfl ?_
  refine PW.nil ?_
  refine SX.then ?_
  refine SC.seq ?_
  refine SC.seq ?_
  refine SC.region ?_
  refine PW.move rfl rfl rfl rfl rfl ?_
  refine PW.q2 (x := .tmp 13) (y := .const (.int .i64 0)) (.bool false) rfl rfl rfl rfl rfl (fun ρ W h1 h2 => by exact r_lt h1 h2 (decide_eq_false (by omega))) ?_
  refine PW.move rfl rfl rfl rfl rfl ?_
  refine PW.move rfl rfl rfl rfl rfl ?_
  refine PW.q2 (x := .tmp 16) (y := .const (.int .i64 15)) (.bool false) rfl rfl rfl rfl rfl (fun ρ W h1 h2 => by exact r_gt h1 h2 (decide_eq_false (by omega))) ?_
  refine PW.pick (t := false) rfl rfl rfl rfl rfl rfl ?_
  refine PW.nil ?_
  refine SX.then ?_
  refine SC.cond (t := false) rfl ?_
  refine SC.skip ?_
  refine SX.then ?_
  refine SC.seq ?_
  refine SC.dx [.val 20 (.kw (KJ (x))), .val 21 (.vl (.int .i64 (wid (pat x) : Int))), .val 22 (.kw (KJ (y))), .val 23 (.vl (.int .i64 (wid (pat y) : Int))), .val 24 (.vl (.int .i64 (n : Int))), .val 8 (.vl (.int .i64 (n : Int)))] [([], [4]), ([0], []), ([], [5]), ([2], []), ([1, 3], []), ([4], [])] rfl (by kernel_rfl) (by kernel_rfl) (by kernel_rfl) rfl ⟨?_, ?_, ?_, ?_, ?_, ?_, trivial⟩ ?_
  · exact DX.loadck (k := KJ (x)) rfl rfl rfl rfl rfl rfl rfl hX (KJ.st _)
  · exact DX.call (r := .vl (.int .i64 (wid (pat x) : Int))) rfl rfl rfl rfl rfl rfl (KV.st _) rfl (k_jlen X (by first | decide | omega))
  · exact DX.loadck (k := KJ (y)) rfl rfl rfl rfl rfl rfl rfl hY (KJ.st _)
  · exact DX.call (r := .vl (.int .i64 (wid (pat y) : Int))) rfl rfl rfl rfl rfl rfl (KV.st _) rfl (k_jlen Y (by first | decide | omega))
  · exact DX.qn [(.tmp 21, .int .i64 (wid (pat x) : Int)), (.tmp 23, .int .i64 (wid (pat y) : Int))] (.int .i64 (n : Int)) rfl rfl rfl ⟨rfl, rfl, trivial⟩ (fun ρ W h => by obtain ⟨h1, h2, _⟩ := h; exact r_max h1 h2 (by omega))
  · exact DX.assign rfl rfl rfl rfl rfl rfl
  refine SX.then ?_
  refine SC.seq ?_
  refine SC.dxl [.val 25 (.kw (KJ (x))), .val 26 (.vl (.int .i64 (n : Int))), .row 27 4 (bv) (fun zs => zs = lof (tb x) n), .val 28 (.kw (KJ (y))), .val 29 (.vl (.int .i64 (n : Int))), .row 30 4 (bv) (fun zs => zs = lof (tb y) n)] [([], [4]), ([], [8]), ([0, 1], []), ([], [5]), ([], [8]), ([3, 4], [])] rfl (by kernel_rfl) (by kernel_rfl) (by kernel_rfl) rfl (by kernel_rfl) ⟨?_, ?_, ?_, ?_, ?_, ?_, trivial⟩ ?_
  · exact DX.loadck (k := KJ (x)) rfl rfl rfl rfl rfl rfl rfl hX (KJ.st _)
  · exact DX.move rfl rfl rfl rfl rfl rfl
  · exact DX.callR rfl rfl rfl rfl rfl rfl (k_bits X (by omega) (by omega))
  · exact DX.loadck (k := KJ (y)) rfl rfl rfl rfl rfl rfl rfl hY (KJ.st _)
  · exact DX.move rfl rfl rfl rfl rfl rfl
  · exact DX.callR rfl rfl rfl rfl rfl rfl (k_bits Y (by omega) (by omega))
  refine PW.openx (s := 27) 57 rfl rfl ?_
  rintro vx3 _ rfl
  refine PW.openx (s := 30) 58 rfl rfl ?_
  rintro vx4 _ rfl
  refine PW.assign rfl rfl rfl rfl rfl ?_
  refine PW.assign rfl rfl rfl rfl rfl ?_
  refine PW.nil ?_
  refine SX.then ?_
  refine SC.seq ?_
  refine SC.region ?_
  refine PW.assign rfl rfl rfl rfl rfl ?_
  refine PW.nil ?_
  refine SX.then ?_
  refine SC.seq ?_
  refine SC.seq ?_
  refine SC.region ?_
  refine PW.assign rfl rfl rfl rfl rfl ?_
  refine PW.nil ?_
  refine SX.then ?_
  refine SC.block ?_
  refine SC.weak (fun a W hf => Fr.nilrow 59 4 (bv) hf) ?_
  refine SC.loop (S := Nat × Value × List Int) (fun ⟨i, v, zs⟩ => [(0, .vl (.int .i64 (p))), (4, .bc (BI 31) pb1 (.agg #[.bool (decide (x < 0)), .slice A1 l1 c1])), (5, .bc (BI 31) pb2 (.agg #[.bool (decide (y < 0)), .slice A2 l2 c2])), (6, .nb (BI 31)), (7, .vl (.int .i64 0)), (8, .vl (.int .i64 (n : Int))), (9, .vl (vx3)), (10, .vl (vx4)), (11, .vl (v)), (12, .vl (.int .i64 (i : Int))), (57, .ro (vx3) 4 (bv) (lof (tb x) n)), (58, .ro (vx4) 4 (bv) (lof (tb y) n)), (59, .ro (v) 4 (bv) (zs))]) (fun ⟨i, v, zs⟩ => i ≤ n ∧ zs = lof (fun i => ch p (tb x i) (tb y i)) i) (fun ⟨i, v, zs⟩ => n - i) (0, .slice none 0 0, []) ⟨by omega, rfl⟩ ⟨rfl, rfl, rfl, rfl, rfl, rfl, rfl, rfl, rfl, rfl, rfl, rfl, rfl, trivial⟩ ?_
  rintro ⟨i, v, zs⟩ ⟨hi, hz2⟩
  show SC _ _ _ _ [(0, .vl (.int .i64 (p))), (4, .bc (BI 31) pb1 (.agg #[.bool (decide (x < 0)), .slice A1 l1 c1])), (5, .bc (BI 31) pb2 (.agg #[.bool (decide (y < 0)), .slice A2 l2 c2])), (6, .nb (BI 31)), (7, .vl (.int .i64 0)), (8, .vl (.int .i64 (n : Int))), (9, .vl (vx3)), (10, .vl (vx4)), (11, .vl (v)), (12, .vl (.int .i64 (i : Int))), (57, .ro (vx3) 4 (bv) (lof (tb x) n)), (58, .ro (vx4) 4 (bv) (lof (tb y) n)), (59, .ro (v) 4 (bv) (zs))] _
  refine SC.seq ?_
  refine SC.seq ?_
  by_cases hk : (i : Int) < (n : Int)
  · refine SC.region ?_
    refine PW.move rfl rfl rfl rfl rfl ?_
    refine PW.move rfl rfl rfl rfl rfl ?_
    refine PW.q2 (x := .tmp 31) (y := .tmp 32) (.bool true) rfl rfl rfl rfl rfl (fun ρ W h1 h2 => by exact r_lt h1 h2 (decide_eq_true hk)) ?_
    refine PW.nil ?_
    refine SX.then ?_
    refine SC.cond (t := true) rfl ?_
    refine SC.skip ?_
    refine SX.then ?_
    refine SC.seq ?_
    refine SC.block ?_
    refine SC.dxl [.val 36 (.vl (v)), .val 37 (.vl (.int .i64 (p))), .val 38 (.vl (vx3)), .val 39 (.vl (.int .i64 (i : Int))), .val 40 (.vl (.pointer (padd (sad (vx3)) i))), .val 41 (.vl (.bool (decide (at0 (lof (tb x) n) i = 1)))), .val 42 (.vl (vx4)), .val 43 (.vl (.int .i64 (i : Int))), .val 44 (.vl (.pointer (padd (sad (vx4)) i))), .val 45 (.vl (.bool (decide (at0 (lof (tb y) n) i = 1)))), .val 46 (.vl (.bool (decide (bi (ch p (tb x i) (tb y i)) = 1)))), .row 47 4 (bv) (fun zs => zs = [bi (ch p (tb x i) (tb y i))])] [([], [11]), ([], [0]), ([], [9]), ([], [12]), ([2, 3], [57]), ([4], [57]), ([], [10]), ([], [12]), ([6, 7], [58]), ([8], [58]), ([1, 5, 9], []), ([10], [])] rfl (by kernel_rfl) (by kernel_rfl) (by kernel_rfl) rfl (by kernel_rfl) ⟨?_, ?_, ?_, ?_, ?_, ?_, ?_, ?_, ?_, ?_, ?_, ?_, trivial⟩ ?_
    · exact DX.move rfl rfl rfl rfl rfl rfl
    · exact DX.move rfl rfl rfl rfl rfl rfl
    · exact DX.move rfl rfl rfl rfl rfl rfl
    · exact DX.move rfl rfl rfl rfl rfl rfl
    · exact DX.ridx (i := i) 57 rfl rfl rfl rfl rfl rfl rfl (by rw [lof_len]; omega) (fun ρ W g c h1 h2 => r_idxB h1 h2 (by rw [lof_len]; omega))
    · exact DX.rget (i := i) 57 rfl rfl rfl rfl rfl rfl (by rw [lof_len]; omega) r_lBv
    · exact DX.move rfl rfl rfl rfl rfl rfl
    · exact DX.move rfl rfl rfl rfl rfl rfl
    · exact DX.ridx (i := i) 58 rfl rfl rfl rfl rfl rfl rfl (by rw [lof_len]; omega) (fun ρ W g c h1 h2 => r_idxB h1 h2 (by rw [lof_len]; omega))
    · exact DX.rget (i := i) 58 rfl rfl rfl rfl rfl rfl (by rw [lof_len]; omega) r_lBv
    · exact DX.call (r := .vl (.bool (decide (bi (ch p (tb x i) (tb y i)) = 1)))) rfl rfl rfl rfl rfl rfl (KV.st _) rfl ((k_chosen hp0 hp1).toB (by rw [bi_eq, lof_bit _ (by omega), lof_bit _ (by omega)]))
    · exact DX.bs (f := bv) [bi (ch p (tb x i) (tb y i))] rfl rfl rfl (fun a W hf => r_b1B (hf.vl (s := 46) rfl)) (by unfold maxLen; show 1 ≤ _; omega)
    refine PW.openx (s := 47) 60 rfl rfl ?_
    rintro vx5 _ rfl
    refine PW.keep [(0, .vl (.int .i64 (p))), (4, .bc (BI 31) pb1 (.agg #[.bool (decide (x < 0)), .slice A1 l1 c1])), (5, .bc (BI 31) pb2 (.agg #[.bool (decide (y < 0)), .slice A2 l2 c2])), (6, .nb (BI 31)), (7, .vl (.int .i64 0)), (8, .vl (.int .i64 (n : Int))), (9, .vl (vx3)), (10, .vl (vx4)), (11, .vl (v)), (12, .vl (.int .i64 (i : Int))), (31, .vl (.int .i64 (i : Int))), (32, .vl (.int .i64 (n : Int))), (33, .vl (.bool true)), (36, .vl (v)), (37, .vl (.int .i64 (p))), (38, .vl (vx3)), (39, .vl (.int .i64 (i : Int))), (40, .vl (.pointer (padd (sad (vx3)) i))), (41, .vl (.bool (decide (at0 (lof (tb x) n) i = 1)))), (42, .vl (vx4)), (43, .vl (.int .i64 (i : Int))), (44, .vl (.pointer (padd (sad (vx4)) i))), (45, .vl (.bool (decide (at0 (lof (tb y) n) i = 1)))), (46, .vl (.bool (decide (bi (ch p (tb x i) (tb y i)) = 1)))), (47, .vl (vx5)), (57, .ro (vx3) 4 (bv) (lof (tb x) n)), (58, .ro (vx4) 4 (bv) (lof (tb y) n)), (59, .ro (v) 4 (bv) (zs)), (60, .ro (vx5) 4 (bv) ([bi (ch p (tb x i) (tb y i))]))] ⟨rfl, rfl, rfl, rfl, rfl, rfl, rfl, rfl, rfl, rfl, rfl, rfl, rfl, rfl, rfl, rfl, rfl, rfl, rfl, rfl, rfl, rfl, rfl, rfl, rfl, rfl, rfl, rfl, rfl, trivial⟩ ?_
    refine PW.apr (K := 59) (K2 := 60) (f := bv) rfl rfl rfl rfl rfl rfl rfl rfl rfl Try.underlying96 info_bool rfl (fun _ => rfl) (by have l1 := hz2 ▸ lof_len _ i; unfold maxLen; show _ + 1 ≤ _; omega) (by have l1 := hz2 ▸ lof_len _ i; show (_ + 1) * 1 ≤ _; omega) rfl fun vq6 => ?_
    refine PW.assign rfl rfl rfl rfl rfl ?_
    refine PW.nil ?_
    refine SX.blockN ?_
    refine SX.then ?_
    refine SC.region ?_
    refine PW.move rfl rfl rfl rfl rfl ?_
    refine PW.q2 (x := .tmp 34) (y := .const (.int .i64 1)) (.int .i64 ((i + 1 : Nat))) rfl rfl rfl rfl rfl (fun ρ W h1 h2 => by exact r_add h1 h2 (by omega) (by omega)) ?_
    refine PW.assign rfl rfl rfl rfl rfl ?_
    refine PW.nil ?_
    refine SX.back (i + 1, vq6, zs ++ ([bi (ch p (tb x i) (tb y i))])) ?_ ?_ ?_
    · exact ⟨by omega, by rw [hz2, lof_succ]⟩
    · exact (show n - (i + 1) < n - i by omega)
    · exact ⟨rfl, rfl, rfl, rfl, rfl, rfl, rfl, rfl, rfl, rfl, rfl, rfl, rfl, trivial⟩
  · obtain rfl : i = n := by omega
    refine SC.region ?_
    refine PW.move rfl rfl rfl rfl rfl ?_
    refine PW.move rfl rfl rfl rfl rfl ?_
    refine PW.q2 (x := .tmp 31) (y := .tmp 32) (.bool false) rfl rfl rfl rfl rfl (fun ρ W h1 h2 => by exact r_lt h1 h2 (decide_eq_false hk)) ?_
    refine PW.nil ?_
    refine SX.then ?_
    refine SC.cond (t := false) rfl ?_
    refine SC.exit ?_
    refine SX.thenE ?_
    refine SX.thenE ?_
    refine SX.blockE ?_
    refine SX.then ?_
    refine SC.seq ?_
    refine SC.region ?_
    refine PW.move rfl rfl rfl rfl rfl ?_
    refine PW.move rfl rfl rfl rfl rfl ?_
    refine PW.fac ⟨pb1, 0, none⟩ rfl rfl rfl rfl rfl facJ0 ?_
    refine PW.flc (s := 4) (.bool (decide (x < 0))) rfl rfl rfl rfl rfl rfl flcJ0 ?_
    refine PW.fac ⟨pb2, 0, none⟩ rfl rfl rfl rfl rfl facJ0 ?_
    refine PW.flc (s := 5) (.bool (decide (y < 0))) rfl rfl rfl rfl rfl rfl flcJ0 ?_
    refine PW.call (r := .vl (.bool (ch p (decide (x < 0)) (decide (y < 0))))) rfl rfl rfl rfl rfl rfl (KV.st _) rfl (k_chosen hp0 hp1) ?_
    refine PW.callG (r := .kw (KJ (bo p x y))) ce_of2 rfl rfl rfl rfl rfl (KJ.st _) rfl (fun a W hf => by have h1 := hf.vl (s := 49) rfl; have own : OwF W _ _ bv (v) (zs) := hf.ho 59 _ rfl; obtain ⟨A4, c4, e4, hc4, rd4⟩ := OwF.rdB own; show Calls Try.prog _ #[a.tmps.getD 49 undef, a.tmps.getD 55 undef] W _; have h2 := hf.vl (s := 55) rfl; rw [h2]; rw [h1, e4]; exact rof_c rd4 (by rw [hz2, lof_len]; omega) (hz2 ▸ bitsOf_bo (by omega) (by omega))) ?_
    refine PW.store (x := .tmp 56) (r := .kw (KJ (bo p x y))) rfl rfl rfl rfl rfl rfl sh_J ?_
    refine PW.assign rfl rfl rfl rfl rfl ?_
    refine PW.nil ?_
    refine SX.then ?_
    refine SC.ret ?_
    exact SX.done2 (s := 6) (t := 7) (r := .vl (.int .i64 0)) (.inl rfl) rfl rfl rfl rfl

theorem signed {x : Int} {u : Value} {W : World} (h : KJ x u W) : ∃ A l c, u = .agg #[.bool (decide (x < 0)), .slice A l c] := by
  obtain ⟨m, A, l, c, e, h⟩ := h
  obtain ⟨_, _, _, _, _, _, _, hm⟩ := RJ.num h
  exact ⟨A, l, c, by rw [e, hm]⟩
theorem k_jboole {p x y : Int} {a b : Nat} (X : bd a x) (Y : bd b y) (ha : a ≤ 100000) (hb : b ≤ 100000) (hp0 : 0 ≤ p) (hp1 : p ≤ 15) : CallOk 18 [KV (.int .i64 p), KJ x, KJ y] (K2 (KJ (bo p x y)) (KV (.int .i64 0))) :=
  call3 ce_k_jboole_bad fun W u v u2 e h1 h2 => by
    obtain rfl : u = _ := e
    obtain ⟨A1, l1, c1, rfl⟩ := signed h1
    obtain ⟨A2, l2, c2, rfl⟩ := signed h2
    exact rboole_c h1 h2 X Y ha hb hp0 hp1

set_option maxHeartbeats 3200000 in
set_option maxRecDepth 100000 in
theorem rcount_c {x : Int} {A : Option Addr} {l c a : Nat} {w : World} (hX : KJ x (.agg #[.bool (decide (x < 0)), .slice A l c]) w) (X : bd a x) (ha : a ≤ 100000) :
    Calls Try.prog 51 #[.agg #[.bool (decide (x < 0)), .slice A l c]] w (Ret w (KV (.int .i64 (pc (pat x).toNat : Int)))) := by
  have wx := wid_bdp X
  refine calls_sc (l := [.vl (.agg #[.bool (decide (x < 0)), .slice A l c])]) (us := [.agg #[.bool (decide (x < 0)), .slice A l c]]) 26 Try.func51 rfl Try.ntmps51 (by simp) ⟨rfl, rfl, trivial⟩ ?_
  refine SC.seq ?_
  refine SC.region ?_
  refine PW.boxc (x := .tmp 0) (BI 31) rfl rfl rfl rfl rfl bJ rfl ⟨_, _, _, _, _, rfl, rfl⟩ fun pb1 => ?_
  refine PW.assign rfl rfl rfl rfl rfl ?_
  refine PW.nil ?_
  refine SX.then ?_
  refine SC.seq ?_
  refine SC.dxl [.val 6 (.kw (KJ (x))), .val 7 (.kw (KJ (x))), .val 8 (.vl (.int .i64 (wid (pat x) : Int))), .row 9 4 (bv) (fun zs => zs = lof (tb x) (wid (pat x)))] [([], [1]), ([], [1]), ([1], []), ([0, 2], [])] rfl (by kernel_rfl) (by kernel_rfl) (by kernel_rfl) rfl (by kernel_rfl) ⟨?_, ?_, ?_, ?_, trivial⟩ ?_
  · exact DX.loadck (k := KJ (x)) rfl rfl rfl rfl rfl rfl rfl hX (KJ.st _)
  · exact DX.loadck (k := KJ (x)) rfl rfl rfl rfl rfl rfl rfl hX (KJ.st _)
  · exact DX.call (r := .vl (.int .i64 (wid (pat x) : Int))) rfl rfl rfl rfl rfl rfl (KV.st _) rfl (k_jlen X (by first | decide | omega))
  · exact DX.callR rfl rfl rfl rfl rfl rfl (k_bits X (by omega) (by omega))
  refine PW.openx (s := 9) 26 rfl rfl ?_
  rintro vx2 _ rfl
  refine PW.assign rfl rfl rfl rfl rfl ?_
  refine PW.nil ?_
  refine SX.then ?_
  refine SC.seq ?_
  refine SC.region ?_
  refine PW.assign rfl rfl rfl rfl rfl ?_
  refine PW.nil ?_
  refine SX.then ?_
  refine SC.seq ?_
  refine SC.seq ?_
  refine SC.region ?_
  refine PW.assign rfl rfl rfl rfl rfl ?_
  refine PW.nil ?_
  refine SX.then ?_
  refine SC.block ?_
  refine SC.loop (S := Nat × Int) (fun ⟨i, m⟩ => [(1, .bc (BI 31) pb1 (.agg #[.bool (decide (x < 0)), .slice A l c])), (3, .vl (vx2)), (4, .vl (.int .i64 (m))), (5, .vl (.int .i64 (i : Int))), (26, .ro (vx2) 4 (bv) (lof (tb x) (wid (pat x))))]) (fun ⟨i, m⟩ => i ≤ wid (pat x) ∧ CtI (pat x).toNat i m) (fun ⟨i, m⟩ => wid (pat x) - i) (0, 0) ⟨by omega, CtI.start _⟩ ⟨rfl, rfl, rfl, rfl, rfl, trivial⟩ ?_
  rintro ⟨i, m⟩ ⟨hi, hC⟩
  show SC _ _ _ _ [(1, .bc (BI 31) pb1 (.agg #[.bool (decide (x < 0)), .slice A l c])), (3, .vl (vx2)), (4, .vl (.int .i64 (m))), (5, .vl (.int .i64 (i : Int))), (26, .ro (vx2) 4 (bv) (lof (tb x) (wid (pat x))))] _
  refine SC.seq ?_
  refine SC.seq ?_
  by_cases hk : (i : Int) < ((lof (tb x) (wid (pat x))).length : Int)
  · have hk2 : i < wid (pat x) := by rw [lof_len] at hk; omega
    refine SC.region ?_
    refine PW.move rfl rfl rfl rfl rfl ?_
    refine PW.move rfl rfl rfl rfl rfl ?_
    refine PW.rlen (s := 11) 26 rfl rfl rfl rfl rfl (fun ρ W A c h => r_lenB h) ?_
    refine PW.q2 (x := .tmp 10) (y := .tmp 12) (.bool true) rfl rfl rfl rfl rfl (fun ρ W h1 h2 => by exact r_lt h1 h2 (decide_eq_true hk)) ?_
    refine PW.nil ?_
    refine SX.then ?_
    refine SC.cond (t := true) rfl ?_
    refine SC.skip ?_
    refine SX.then ?_
    refine SC.seq ?_
    refine SC.block ?_
    refine SC.seq ?_
    by_cases hb : tb ((pat x).toNat : Int) i = true
    · refine SC.dx [.val 16 (.vl (vx2)), .val 17 (.vl (.int .i64 (i : Int))), .val 18 (.vl (.pointer (padd (sad (vx2)) i))), .val 19 (.vl (.bool (decide (at0 (lof (tb x) (wid (pat x))) i = 1)))), .val 20 (.vl (.pointer (some ⟨pb1, 0, none⟩))), .val 21 (.vl (.bool (decide (x < 0)))), .val 22 (.vl (.bool true))] [([], [3]), ([], [5]), ([0, 1], [26]), ([2], [26]), ([], [1]), ([4], [1]), ([3, 5], [])] rfl (by kernel_rfl) (by kernel_rfl) (by kernel_rfl) rfl ⟨?_, ?_, ?_, ?_, ?_, ?_, ?_, trivial⟩ ?_
      · exact DX.move rfl rfl rfl rfl rfl rfl
      · exact DX.move rfl rfl rfl rfl rfl rfl
      · exact DX.ridx (i := i) 26 rfl rfl rfl rfl rfl rfl rfl (by rw [lof_len]; omega) (fun ρ W g c h1 h2 => r_idxB h1 h2 (by rw [lof_len]; omega))
      · exact DX.rget (i := i) 26 rfl rfl rfl rfl rfl rfl (by rw [lof_len]; omega) r_lBv
      · exact DX.fac ⟨pb1, 0, none⟩ rfl rfl rfl rfl rfl facJ0
      · exact DX.flc (s := 1) (.bool (decide (x < 0))) rfl rfl rfl rfl rfl rfl flcJ0
      · exact DX.q2 (x := .tmp 19) (y := .tmp 21) (.bool true) rfl rfl rfl rfl rfl (fun ρ W h1 h2 => by exact r_neB h1 h2 (by rw [lof_bit _ hk2, count_bit]; exact hb))
      refine SX.then ?_
      refine SC.cond (t := true) rfl ?_
      refine SC.region ?_
      refine PW.move rfl rfl rfl rfl rfl ?_
      refine PW.q2 (x := .tmp 23) (y := .const (.int .i64 1)) (.int .i64 (m + 1)) rfl rfl rfl rfl rfl (fun ρ W h1 h2 => by exact r_add h1 h2 (rfl) (by have := hC.2.1; have := hC.2.2; omega)) ?_
      refine PW.assign rfl rfl rfl rfl rfl ?_
      refine PW.nil ?_
      refine SX.blockN ?_
      refine SX.then ?_
      refine SC.region ?_
      refine PW.move rfl rfl rfl rfl rfl ?_
      refine PW.q2 (x := .tmp 14) (y := .const (.int .i64 1)) (.int .i64 ((i + 1 : Nat))) rfl rfl rfl rfl rfl (fun ρ W h1 h2 => by exact r_add h1 h2 (by omega) (by omega)) ?_
      refine PW.assign rfl rfl rfl rfl rfl ?_
      refine PW.nil ?_
      refine SX.back (i + 1, m + 1) ?_ ?_ ?_
      · exact ⟨by omega, hC.yes hb⟩
      · exact (show wid (pat x) - (i + 1) < wid (pat x) - i by omega)
      · exact ⟨rfl, rfl, rfl, rfl, rfl, trivial⟩
    · refine SC.dx [.val 16 (.vl (vx2)), .val 17 (.vl (.int .i64 (i : Int))), .val 18 (.vl (.pointer (padd (sad (vx2)) i))), .val 19 (.vl (.bool (decide (at0 (lof (tb x) (wid (pat x))) i = 1)))), .val 20 (.vl (.pointer (some ⟨pb1, 0, none⟩))), .val 21 (.vl (.bool (decide (x < 0)))), .val 22 (.vl (.bool false))] [([], [3]), ([], [5]), ([0, 1], [26]), ([2], [26]), ([], [1]), ([4], [1]), ([3, 5], [])] rfl (by kernel_rfl) (by kernel_rfl) (by kernel_rfl) rfl ⟨?_, ?_, ?_, ?_, ?_, ?_, ?_, trivial⟩ ?_
      · exact DX.move rfl rfl rfl rfl rfl rfl
      · exact DX.move rfl rfl rfl rfl rfl rfl
      · exact DX.ridx (i := i) 26 rfl rfl rfl rfl rfl rfl rfl (by rw [lof_len]; omega) (fun ρ W g c h1 h2 => r_idxB h1 h2 (by rw [lof_len]; omega))
      · exact DX.rget (i := i) 26 rfl rfl rfl rfl rfl rfl (by rw [lof_len]; omega) r_lBv
      · exact DX.fac ⟨pb1, 0, none⟩ rfl rfl rfl rfl rfl facJ0
      · exact DX.flc (s := 1) (.bool (decide (x < 0))) rfl rfl rfl rfl rfl rfl flcJ0
      · exact DX.q2 (x := .tmp 19) (y := .tmp 21) (.bool false) rfl rfl rfl rfl rfl (fun ρ W h1 h2 => by exact r_neB h1 h2 (by rw [lof_bit _ hk2, count_bit]; exact (by simpa using hb)))
      refine SX.then ?_
      refine SC.cond (t := false) rfl ?_
      refine SC.skip ?_
      refine SX.blockN ?_
      refine SX.then ?_
      refine SC.region ?_
      refine PW.move rfl rfl rfl rfl rfl ?_
      refine PW.q2 (x := .tmp 14) (y := .const (.int .i64 1)) (.int .i64 ((i + 1 : Nat))) rfl rfl rfl rfl rfl (fun ρ W h1 h2 => by exact r_add h1 h2 (by omega) (by omega)) ?_
      refine PW.assign rfl rfl rfl rfl rfl ?_
      refine PW.nil ?_
      refine SX.back (i + 1, m) ?_ ?_ ?_
      · exact ⟨by omega, hC.no (by simpa using hb)⟩
      · exact (show wid (pat x) - (i + 1) < wid (pat x) - i by omega)
      · exact ⟨rfl, rfl, rfl, rfl, rfl, trivial⟩
  · obtain rfl : i = wid (pat x) := by rw [lof_len] at hk; omega
    refine SC.region ?_
    refine PW.move rfl rfl rfl rfl rfl ?_
    refine PW.move rfl rfl rfl rfl rfl ?_
    refine PW.rlen (s := 11) 26 rfl rfl rfl rfl rfl (fun ρ W A c h => r_lenB h) ?_
    refine PW.q2 (x := .tmp 10) (y := .tmp 12) (.bool false) rfl rfl rfl rfl rfl (fun ρ W h1 h2 => by exact r_lt h1 h2 (decide_eq_false hk)) ?_
    refine PW.nil ?_
    refine SX.then ?_
    refine SC.cond (t := false) rfl ?_
    refine SC.exit ?_
    refine SX.thenE ?_
    refine SX.thenE ?_
    refine SX.blockE ?_
    refine SX.then ?_
    refine SC.seq ?_
    refine SC.region ?_
    refine PW.move rfl rfl rfl rfl rfl ?_
    refine PW.assign rfl rfl rfl rfl rfl ?_
    refine PW.nil ?_
    refine SX.then ?_
    refine SC.ret ?_
    have hr : (pc (pat x).toNat : Int) = m := (hC.fin (by rw [Int.toNat_of_nonneg (pat_nonneg x)]; exact wid_lt _)).symm
    rw [hr]
    exact SX.done (s := 2) (r := .vl (.int .i64 (m))) rfl rfl rfl

theorem ce_jcount : CE 51 := fun args W => by go_simp
theorem k_jcount {x : Int} {a : Nat} (X : bd a x) (ha : a ≤ 100000) : CallOk 51 [KJ x] (KV (.int .i64 (pc (pat x).toNat : Int))) :=
  call1 ce_jcount fun W u h1 => by
    obtain ⟨A1, l1, c1, rfl⟩ := signed h1
    exact rcount_c h1 X ha

theorem ce_k_within : CE 109 := fun args W => by go_simp

set_option maxHeartbeats 3200000 in
set_option maxRecDepth 100000 in
theorem k_within {n : Int} {t : Bool} (h : decide (0 ≤ n ∧ n ≤ 65536) = t) : CallOk 109 [KV (.int .i64 (n))] (KV (.bool t)) := by
  refine CallOk.enter (l := [.vl (.int .i64 (n))]) 9 ce_k_within Try.func109 rfl Try.ntmps109 (by simp) ⟨(KV.st _), rfl, trivial⟩ fun w => ?_
  refine SC.seq ?_
  refine SC.region ?_
  refine PW.assign rfl rfl rfl rfl rfl ?_
  refine PW.nil ?_
  refine SX.then ?_
  refine SC.seq ?_
  by_cases h0 : n ≥ 0
  · by_cases h5 : n ≤ 65536
    · refine SC.region ?_
      refine PW.move rfl rfl rfl rfl rfl ?_
      refine PW.q2 (x := .tmp 3) (y := .const (.int .i64 0)) (.bool true) rfl rfl rfl rfl rfl (fun ρ W h1 h2 => by exact r_ge h1 h2 (decide_eq_true h0)) ?_
      refine PW.move rfl rfl rfl rfl rfl ?_
      refine PW.move rfl rfl rfl rfl rfl ?_
      refine PW.q2 (x := .tmp 6) (y := .const (.int .i64 65536)) (.bool true) rfl rfl rfl rfl rfl (fun ρ W h1 h2 => by exact r_le h1 h2 (decide_eq_true h5)) ?_
      refine PW.pick (t := true) rfl rfl rfl rfl rfl rfl ?_
      refine PW.assign rfl rfl rfl rfl rfl ?_
      refine PW.nil ?_
      refine SX.then ?_
      refine SC.ret ?_
      obtain rfl : t = true := by rw [← h]; exact decide_eq_true ⟨h0, h5⟩
      exact SX.done (s := 2) (r := .vl (.bool true)) rfl rfl rfl
    · refine SC.region ?_
      refine PW.move rfl rfl rfl rfl rfl ?_
      refine PW.q2 (x := .tmp 3) (y := .const (.int .i64 0)) (.bool true) rfl rfl rfl rfl rfl (fun ρ W h1 h2 => by exact r_ge h1 h2 (decide_eq_true h0)) ?_
      refine PW.move rfl rfl rfl rfl rfl ?_
      refine PW.move rfl rfl rfl rfl rfl ?_
      refine PW.q2 (x := .tmp 6) (y := .const (.int .i64 65536)) (.bool false) rfl rfl rfl rfl rfl (fun ρ W h1 h2 => by exact r_le h1 h2 (decide_eq_false h5)) ?_
      refine PW.pick (t := true) rfl rfl rfl rfl rfl rfl ?_
      refine PW.assign rfl rfl rfl rfl rfl ?_
      refine PW.nil ?_
      refine SX.then ?_
      refine SC.ret ?_
      obtain rfl : t = false := by rw [← h]; exact decide_eq_false (by omega)
      exact SX.done (s := 2) (r := .vl (.bool false)) rfl rfl rfl
  · refine SC.region ?_
    refine PW.move rfl rfl rfl rfl rfl ?_
    refine PW.q2 (x := .tmp 3) (y := .const (.int .i64 0)) (.bool false) rfl rfl rfl rfl rfl (fun ρ W h1 h2 => by exact r_ge h1 h2 (decide_eq_false h0)) ?_
    refine PW.move rfl rfl rfl rfl rfl ?_
    refine PW.skip rfl rfl rfl ?_
    refine PW.skip rfl rfl rfl ?_
    refine PW.pick (t := false) rfl rfl rfl rfl rfl rfl ?_
    refine PW.assign rfl rfl rfl rfl rfl ?_
    refine PW.nil ?_
    refine SX.then ?_
    refine SC.ret ?_
    obtain rfl : t = false := by rw [← h]; exact decide_eq_false (by omega)
    exact SX.done (s := 2) (r := .vl (.bool false)) rfl rfl rfl

theorem ce_k_jfield_bad : CE 59 := fun args W => by go_simp

set_option maxHeartbeats 3200000 in
set_option maxRecDepth 100000 in
theorem k_jfield_bad {x k q : Int} (hb : ¬ ((0 ≤ k ∧ k ≤ 65536) ∧ (0 ≤ q ∧ q ≤ 65536))) : CallOk 59 [KJ (x), KV (.int .i64 (k)), KV (.int .i64 (q))] (K2 (KJ 0) (KV (.int .i64 1))) := by
  refine CallOk.enter (l := [.kw (KJ (x)), .vl (.int .i64 (k)), .vl (.int .i64 (q))]) 27 ce_k_jfield_bad Try.func59 rfl Try.ntmps59 (by simp) ⟨(KJ.st _), rfl, (KV.st _), rfl, (KV.st _), rfl, trivial⟩ fun w => ?_
  refine SC.seq ?_
  refine SC.region ?_
  refine PW.box (x := .tmp 0) (r := .kw (KJ (x))) (BI 31) rfl rfl rfl rfl rfl bJ rfl sh_J ?_
  refine PW.alloc (BI 31) rfl rfl rfl rfl rfl bJ ?_
  refine PW.assign rfl rfl rfl rfl rfl ?_
  refine PW.nil ?_
  refine SX.then ?_
  refine SC.seq ?_
  refine SC.seq ?_
  by_cases hk : 0 ≤ k ∧ k ≤ 65536
  · by_cases hq : 0 ≤ q ∧ q ≤ 65536
    · exact absurd ⟨hk, hq⟩ hb
    · refine SC.region ?_
      refine PW.move rfl rfl rfl rfl rfl ?_
      refine PW.call (r := .vl (.bool true)) rfl rfl rfl rfl rfl rfl (KV.st _) rfl (k_within (decide_eq_true hk)) ?_
      refine PW.q1 (x := .tmp 10) (.bool false) rfl rfl rfl rfl (fun ρ W h1 => by go_simp) ?_
      refine PW.move rfl rfl rfl rfl rfl ?_
      refine PW.move rfl rfl rfl rfl rfl ?_
      refine PW.call (r := .vl (.bool false)) rfl rfl rfl rfl rfl rfl (KV.st _) rfl (k_within (decide_eq_false hq)) ?_
      refine PW.q1 (x := .tmp 14) (.bool true) rfl rfl rfl rfl (fun ρ W h1 => by go_simp) ?_
      refine PW.pick (t := false) rfl rfl rfl rfl rfl rfl ?_
      refine PW.nil ?_
      refine SX.then ?_
      refine SC.cond (t := true) rfl ?_
      refine SC.seq ?_
      refine SC.region ?_
      refine PW.val (r := .kw (KJ (0))) rfl rfl rfl rfl (fun a W hf => ⟨.agg #[.bool false, .slice none 0 0], by go_simp, zeroJ W, KJ.st _⟩) ?_
      refine PW.store (x := .tmp 17) (r := .kw (KJ (0))) rfl rfl rfl rfl rfl rfl sh_J ?_
      refine PW.assign rfl rfl rfl rfl rfl ?_
      refine PW.nil ?_
      refine SX.then ?_
      refine SC.ret ?_
      refine SX.thenR ?_
      exact SX.done2 (s := 6) (t := 7) (r := .vl (.int .i64 1)) (.inl rfl) rfl rfl rfl rfl
  · refine SC.region ?_
    refine PW.move rfl rfl rfl rfl rfl ?_
    refine PW.call (r := .vl (.bool false)) rfl rfl rfl rfl rfl rfl (KV.st _) rfl (k_within (decide_eq_false hk)) ?_
    refine PW.q1 (x := .tmp 10) (.bool true) rfl rfl rfl rfl (fun ρ W h1 => by go_simp) ?_
    refine PW.move rfl rfl rfl rfl rfl ?_
    refine PW.skip rfl rfl rfl ?_
    refine PW.skip rfl rfl rfl ?_
    refine PW.skip rfl rfl rfl ?_
    refine PW.pick (t := true) rfl rfl rfl rfl rfl rfl ?_
    refine PW.nil ?_
    refine SX.then ?_
    refine SC.cond (t := true) rfl ?_
    refine SC.seq ?_
    refine SC.region ?_
    refine PW.val (r := .kw (KJ (0))) rfl rfl rfl rfl (fun a W hf => ⟨.agg #[.bool false, .slice none 0 0], by go_simp, zeroJ W, KJ.st _⟩) ?_
    refine PW.store (x := .tmp 17) (r := .kw (KJ (0))) rfl rfl rfl rfl rfl rfl sh_J ?_
    refine PW.assign rfl rfl rfl rfl rfl ?_
    refine PW.nil ?_
    refine SX.then ?_
    refine SC.ret ?_
    refine SX.thenR ?_
    exact SX.done2 (s := 6) (t := 7) (r := .vl (.int .i64 1)) (.inl rfl) rfl rfl rfl rfl

set_option maxHeartbeats 3200000 in
set_option maxRecDepth 100000 in
theorem rfield_c {x : Int} {A : Option Addr} {l c a k p : Nat} {w : World} (hX : KJ x (.agg #[.bool (decide (x < 0)), .slice A l c]) w) (X : bd a x) (ha : a ≤ 100000) (hk : k ≤ 65536) (hp : p ≤ 65536) :
    Calls Try.prog 59 #[.agg #[.bool (decide (x < 0)), .slice A l c], .int .i64 (k : Int), .int .i64 (p : Int)] w (Ret w (K2 (KJ (fld x k p)) (KV (.int .i64 0)))) := by
  refine calls_sc (l := [.vl (.agg #[.bool (decide (x < 0)), .slice A l c]), .vl (.int .i64 (k : Int)), .vl (.int .i64 (p : Int))]) (us := [.agg #[.bool (decide (x < 0)), .slice A l c], .int .i64 (k : Int), .int .i64 (p : Int)]) 27 Try.func59 rfl Try.ntmps59 (by simp) ⟨rfl, rfl, rfl, rfl, rfl, rfl, trivial⟩ ?_
  refine SC.seq ?_
  refine SC.region ?_
  refine PW.boxc (x := .tmp 0) (BI 31) rfl rfl rfl rfl rfl bJ rfl ⟨_, _, _, _, _, rfl, rfl⟩ fun pb1 => ?_
  refine PW.alloc (BI 31) rfl rfl rfl rfl rfl bJ ?_
  refine PW.assign rfl rfl rfl rfl rfl ?_
  refine PW.nil ?_
  refine SX.then ?_
  refine SC.seq ?_
  refine SC.seq ?_
  refine SC.region ?_
  refine PW.move rfl rfl rfl rfl rfl ?_
  refine PW.call (r := .vl (.bool true)) rfl rfl rfl rfl rfl rfl (KV.st _) rfl (k_within (decide_eq_true (by omega))) ?_
  refine PW.q1 (x := .tmp 10) (.bool false) rfl rfl rfl rfl (fun ρ W h1 => by go_simp) ?_
  refine PW.move rfl rfl rfl rfl rfl ?_
  refine PW.move rfl rfl rfl rfl rfl ?_
  refine PW.call (r := .vl (.bool true)) rfl rfl rfl rfl rfl rfl (KV.st _) rfl (k_within (decide_eq_true (by omega))) ?_
  refine PW.q1 (x := .tmp 14) (.bool false) rfl rfl rfl rfl (fun ρ W h1 => by go_simp) ?_
  refine PW.pick (t := false) rfl rfl rfl rfl rfl rfl ?_
  refine PW.nil ?_
  refine SX.then ?_
  refine SC.cond (t := false) rfl ?_
  refine SC.skip ?_
  refine SX.then ?_
  refine SC.seq ?_
  refine SC.region ?_
  refine PW.loadck (k := KJ (x)) rfl rfl rfl rfl rfl rfl rfl hX (KJ.st _) ?_
  refine PW.move rfl rfl rfl rfl rfl ?_
  refine PW.move rfl rfl rfl rfl rfl ?_
  refine PW.q2 (x := .tmp 19) (y := .tmp 20) (.int .i64 ((p + k : Nat))) rfl rfl rfl rfl rfl (fun ρ W h1 h2 => by exact r_add h1 h2 (by omega) (by omega)) ?_
  refine PW.callRow (f := bv) (e := 4) (p := fun zs => zs = lof (tb x) (p + k)) 27 rfl rfl rfl rfl rfl rfl (k_bits X (by omega) (by omega)) ?_
  rintro vx2 _ rfl
  refine PW.more _ (fun a W h => h) ?_
  refine PW.assign rfl rfl rfl rfl rfl ?_
  refine PW.nil ?_
  refine SX.then ?_
  refine SC.seq ?_
  refine SC.region ?_
  refine PW.move rfl rfl rfl rfl rfl ?_
  refine PW.move rfl rfl rfl rfl rfl ?_
  refine PW.rsl (s := 23) (p := p) 27 rfl rfl rfl rfl rfl rfl (by rw [lof_len]; omega) (fun ρ W h1 h2 => r_slB0 h1 h2) (fun ρ W g c h1 h2 h3 => r_slB h1 h2 (by rw [lof_len]; omega) h3) ?_
  refine PW.callG (r := .kw (KJ (fld x k p))) ce_of2 rfl rfl rfl rfl rfl (KJ.st _) rfl (fun a W hf => by have h1 := hf.vl (s := 25) rfl; have own : OwF W _ _ bv (vx2) (lof (tb x) (p + k)) := hf.ho 27 _ rfl; show Calls Try.prog _ #[a.tmps.getD 25 undef, .bool false] W _; rw [h1, ← List.length_drop]; exact rof_c (OwF.rdB_drop own p) (by rw [List.length_drop, lof_len]; omega) bitsOf_fld) ?_
  refine PW.store (x := .tmp 26) (r := .kw (KJ (fld x k p))) rfl rfl rfl rfl rfl rfl sh_J ?_
  refine PW.assign rfl rfl rfl rfl rfl ?_
  refine PW.nil ?_
  refine SX.then ?_
  refine SC.ret ?_
  exact SX.done2 (s := 6) (t := 7) (r := .vl (.int .i64 0)) (.inl rfl) rfl rfl rfl rfl

theorem k_jfield {x : Int} {a k p : Nat} (X : bd a x) (ha : a ≤ 100000) (hk : k ≤ 65536) (hp : p ≤ 65536) : CallOk 59 [KJ x, KV (.int .i64 (k : Int)), KV (.int .i64 (p : Int))] (K2 (KJ (fld x k p)) (KV (.int .i64 0))) :=
  call3 ce_k_jfield_bad fun W u v u2 h1 e e2 => by
    obtain rfl : v = _ := e
    obtain rfl : u2 = _ := e2
    obtain ⟨A1, l1, c1, rfl⟩ := signed h1
    exact rfield_c h1 X ha hk hp

theorem ce_k_jdep_bad : CE 61 := fun args W => by go_simp

set_option maxHeartbeats 3200000 in
set_option maxRecDepth 100000 in
theorem k_jdep_bad {x y k q : Int} (hb : ¬ ((0 ≤ k ∧ k ≤ 65536) ∧ (0 ≤ q ∧ q ≤ 65536))) : CallOk 61 [KJ (x), KJ (y), KV (.int .i64 (k)), KV (.int .i64 (q))] (K2 (KJ 0) (KV (.int .i64 1))) := by
  refine CallOk.enter (l := [.kw (KJ (x)), .kw (KJ (y)), .vl (.int .i64 (k)), .vl (.int .i64 (q))]) 51 ce_k_jdep_bad Try.func61 rfl Try.ntmps61 (by simp) ⟨(KJ.st _), rfl, (KJ.st _), rfl, (KV.st _), rfl, (KV.st _), rfl, trivial⟩ fun w => ?_
  refine SC.seq ?_
  refine SC.region ?_
  refine PW.box (x := .tmp 0) (r := .kw (KJ (x))) (BI 31) rfl rfl rfl rfl rfl bJ rfl sh_J ?_
  refine PW.box (x := .tmp 1) (r := .kw (KJ (y))) (BI 31) rfl rfl rfl rfl rfl bJ rfl sh_J ?_
  refine PW.alloc (BI 31) rfl rfl rfl rfl rfl bJ ?_
  refine PW.assign rfl rfl rfl rfl rfl ?_
  refine PW.nil ?_
  refine SX.then ?_
  refine SC.seq ?_
  refine SC.seq ?_
  by_cases hk : 0 ≤ k ∧ k ≤ 65536
  · by_cases hq : 0 ≤ q ∧ q ≤ 65536
    · exact absurd ⟨hk, hq⟩ hb
    · refine SC.region ?_
      refine PW.move rfl rfl rfl rfl rfl ?_
      refine PW.call (r := .vl (.bool true)) rfl rfl rfl rfl rfl rfl (KV.st _) rfl (k_within (decide_eq_true hk)) ?_
      refine PW.q1 (x := .tmp 14) (.bool false) rfl rfl rfl rfl (fun ρ W h1 => by go_simp) ?_
      refine PW.move rfl rfl rfl rfl rfl ?_
      refine PW.move rfl rfl rfl rfl rfl ?_
      refine PW.call (r := .vl (.bool false)) rfl rfl rfl rfl rfl rfl (KV.st _) rfl (k_within (decide_eq_false hq)) ?_
      refine PW.q1 (x := .tmp 18) (.bool true) rfl rfl rfl rfl (fun ρ W h1 => by go_simp) ?_
      refine PW.pick (t := false) rfl rfl rfl rfl rfl rfl ?_
      refine PW.nil ?_
      refine SX.then ?_
      refine SC.cond (t := true) rfl ?_
      refine SC.seq ?_
      refine SC.region ?_
      refine PW.val (r := .kw (KJ (0))) rfl rfl rfl rfl (fun a W hf => ⟨.agg #[.bool false, .slice none 0 0], by go_simp, zeroJ W, KJ.st _⟩) ?_
      refine PW.store (x := .tmp 21) (r := .kw (KJ (0))) rfl rfl rfl rfl rfl rfl sh_J ?_
      refine PW.assign rfl rfl rfl rfl rfl ?_
      refine PW.nil ?_
      refine SX.then ?_
      refine SC.ret ?_
      refine SX.thenR ?_
      exact SX.done2 (s := 8) (t := 9) (r := .vl (.int .i64 1)) (.inl rfl) rfl rfl rfl rfl
  · refine SC.region ?_
    refine PW.move rfl rfl rfl rfl rfl ?_
    refine PW.call (r := .vl (.bool false)) rfl rfl rfl rfl rfl rfl (KV.st _) rfl (k_within (decide_eq_false hk)) ?_
    refine PW.q1 (x := .tmp 14) (.bool true) rfl rfl rfl rfl (fun ρ W h1 => by go_simp) ?_
    refine PW.move rfl rfl rfl rfl rfl ?_
    refine PW.skip rfl rfl rfl ?_
    refine PW.skip rfl rfl rfl ?_
    refine PW.skip rfl rfl rfl ?_
    refine PW.pick (t := true) rfl rfl rfl rfl rfl rfl ?_
    refine PW.nil ?_
    refine SX.then ?_
    refine SC.cond (t := true) rfl ?_
    refine SC.seq ?_
    refine SC.region ?_
    refine PW.val (r := .kw (KJ (0))) rfl rfl rfl rfl (fun a W hf => ⟨.agg #[.bool false, .slice none 0 0], by go_simp, zeroJ W, KJ.st _⟩) ?_
    refine PW.store (x := .tmp 21) (r := .kw (KJ (0))) rfl rfl rfl rfl rfl rfl sh_J ?_
    refine PW.assign rfl rfl rfl rfl rfl ?_
    refine PW.nil ?_
    refine SX.then ?_
    refine SC.ret ?_
    refine SX.thenR ?_
    exact SX.done2 (s := 8) (t := 9) (r := .vl (.int .i64 1)) (.inl rfl) rfl rfl rfl rfl

set_option maxHeartbeats 3200000 in
set_option maxRecDepth 100000 in
theorem rdep_c {x y : Int} {A1 A2 : Option Addr} {l1 c1 l2 c2 a b k p : Nat} {w : World} (hX : KJ x (.agg #[.bool (decide (x < 0)), .slice A1 l1 c1]) w) (hY : KJ y (.agg #[.bool (decide (y < 0)), .slice A2 l2 c2]) w) (X : bd a x) (Y : bd b y) (ha : a ≤ 100000) (hb : b ≤ 100000) (hk : k ≤ 65536) (hp : p ≤ 65536) :
    Calls Try.prog 61 #[.agg #[.bool (decide (x < 0)), .slice A1 l1 c1], .agg #[.bool (decide (y < 0)), .slice A2 l2 c2], .int .i64 (k : Int), .int .i64 (p : Int)] w (Ret w (K2 (KJ (dep x y k p)) (KV (.int .i64 0)))) := by
  have wx := wid_bdp X
  obtain ⟨n, hn⟩ : ∃ n : Nat, n = max (wid (pat x)) (p + k) := ⟨_, rfl⟩
  refine calls_sc (l := [.vl (.agg #[.bool (decide (x < 0)), .slice A1 l1 c1]), .vl (.agg #[.bool (decide (y < 0)), .slice A2 l2 c2]), .vl (.int .i64 (k : Int)), .vl (.int .i64 (p : Int))]) (us := [.agg #[.bool (decide (x < 0)), .slice A1 l1 c1], .agg #[.bool (decide (y < 0)), .slice A2 l2 c2], .int .i64 (k : Int), .int .i64 (p : Int)]) 51 Try.func61 rfl Try.ntmps61 (by simp) ⟨rfl, rfl, rfl, rfl, rfl, rfl, rfl, rfl, trivial⟩ ?_
  refine SC.seq ?_
  refine SC.region ?_
  refine PW.boxc (x := .tmp 0) (BI 31) rfl rfl rfl rfl rfl bJ rfl ⟨_, _, _, _, _, rfl, rfl⟩ fun pb1 => ?_
  refine PW.boxc (x := .tmp 1) (BI 31) rfl rfl rfl rfl rfl bJ rfl ⟨_, _, _, _, _, rfl, rfl⟩ fun pb2 => ?_
  refine PW.alloc (BI 31) rfl rfl rfl rfl rfl bJ ?_
  refine PW.assign rfl rfl rfl rfl rfl ?_
  refine PW.nil ?_
  refine SX.then ?_
  refine SC.seq ?_
  refine SC.seq ?_
  refine SC.region ?_
  refine PW.move rfl rfl rfl rfl rfl ?_
  refine PW.call (r := .vl (.bool true)) rfl rfl rfl rfl rfl rfl (KV.st _) rfl (k_within (decide_eq_true (by omega))) ?_
  refine PW.q1 (x := .tmp 14) (.bool false) rfl rfl rfl rfl (fun ρ W h1 => by go_simp) ?_
  refine PW.move rfl rfl rfl rfl rfl ?_
  refine PW.move rfl rfl rfl rfl rfl ?_
  refine PW.call (r := .vl (.bool true)) rfl rfl rfl rfl rfl rfl (KV.st _) rfl (k_within (decide_eq_true (by omega))) ?_
  refine PW.q1 (x := .tmp 18) (.bool false) rfl rfl rfl rfl (fun ρ W h1 => by go_simp) ?_
  refine PW.pick (t := false) rfl rfl rfl rfl rfl rfl ?_
  refine PW.nil ?_
  refine SX.then ?_
  refine SC.cond (t := false) rfl ?_
  refine SC.skip ?_
  refine SX.then ?_
  refine SC.seq ?_
  refine SC.dxl [.val 22 (.kw (KJ (x))), .val 23 (.kw (KJ (x))), .val 24 (.vl (.int .i64 (wid (pat x) : Int))), .val 25 (.vl (.int .i64 (p : Int))), .val 26 (.vl (.int .i64 (k : Int))), .val 27 (.vl (.int .i64 ((p + k : Nat)))), .val 28 (.vl (.int .i64 (n : Int))), .row 29 4 (bv) (fun zs => zs = lof (tb x) n)] [([], [4]), ([], [4]), ([1], []), ([], [3]), ([], [2]), ([3, 4], []), ([2, 5], []), ([0, 6], [])] rfl (by kernel_rfl) (by kernel_rfl) (by kernel_rfl) rfl (by kernel_rfl) ⟨?_, ?_, ?_, ?_, ?_, ?_, ?_, ?_, trivial⟩ ?_
  · exact DX.loadck (k := KJ (x)) rfl rfl rfl rfl rfl rfl rfl hX (KJ.st _)
  · exact DX.loadck (k := KJ (x)) rfl rfl rfl rfl rfl rfl rfl hX (KJ.st _)
  · exact DX.call (r := .vl (.int .i64 (wid (pat x) : Int))) rfl rfl rfl rfl rfl rfl (KV.st _) rfl (k_jlen X (by first | decide | omega))
  · exact DX.move rfl rfl rfl rfl rfl rfl
  · exact DX.move rfl rfl rfl rfl rfl rfl
  · exact DX.q2 (x := .tmp 25) (y := .tmp 26) (.int .i64 ((p + k : Nat))) rfl rfl rfl rfl rfl (fun ρ W h1 h2 => by exact r_add h1 h2 (by omega) (by omega))
  · exact DX.qn [(.tmp 24, .int .i64 (wid (pat x) : Int)), (.tmp 27, .int .i64 ((p + k : Nat)))] (.int .i64 (n : Int)) rfl rfl rfl ⟨rfl, rfl, trivial⟩ (fun ρ W h => by obtain ⟨h1, h2, _⟩ := h; exact r_max h1 h2 (by omega))
  · exact DX.callR rfl rfl rfl rfl rfl rfl (k_bits X (by omega) (by omega))
  refine PW.openx (s := 29) 51 rfl rfl ?_
  rintro vx3 _ rfl
  refine PW.assign rfl rfl rfl rfl rfl ?_
  refine PW.nil ?_
  refine SX.then ?_
  refine SC.seq ?_
  refine SC.region ?_
  refine PW.loadck (k := KJ (y)) rfl rfl rfl rfl rfl rfl rfl hY (KJ.st _) ?_
  refine PW.move rfl rfl rfl rfl rfl ?_
  refine PW.callRow (f := bv) (e := 4) (p := fun zs => zs = lof (tb y) k) 52 rfl rfl rfl rfl rfl rfl (k_bits Y (by omega) (by omega)) ?_
  rintro vx4 _ rfl
  refine PW.more _ (fun a W h => h) ?_
  refine PW.assign rfl rfl rfl rfl rfl ?_
  refine PW.nil ?_
  refine SX.then ?_
  refine SC.seq ?_
  refine SC.seq ?_
  refine SC.region ?_
  refine PW.assign rfl rfl rfl rfl rfl ?_
  refine PW.nil ?_
  refine SX.then ?_
  refine SC.block ?_
  refine SC.loop (S := Nat × List Int) (fun ⟨i, zs⟩ => [(2, .vl (.int .i64 (k : Int))), (3, .vl (.int .i64 (p : Int))), (4, .bc (BI 31) pb1 (.agg #[.bool (decide (x < 0)), .slice A1 l1 c1])), (5, .bc (BI 31) pb2 (.agg #[.bool (decide (y < 0)), .slice A2 l2 c2])), (8, .nb (BI 31)), (9, .vl (.int .i64 0)), (10, .vl (vx3)), (11, .vl (vx4)), (12, .vl (.int .i64 (i : Int))), (51, .ro (vx3) 4 (bv) (zs)), (52, .ro (vx4) 4 (bv) (lof (tb y) k))]) (fun ⟨i, zs⟩ => DpI x y k p n i zs) (fun ⟨i, zs⟩ => k - i) (0, lof (tb x) n) (DpI.start x y k p n) ⟨rfl, rfl, rfl, rfl, rfl, rfl, rfl, rfl, rfl, rfl, rfl, trivial⟩ ?_
  rintro ⟨i, zs⟩ hD
  show SC _ _ _ _ [(2, .vl (.int .i64 (k : Int))), (3, .vl (.int .i64 (p : Int))), (4, .bc (BI 31) pb1 (.agg #[.bool (decide (x < 0)), .slice A1 l1 c1])), (5, .bc (BI 31) pb2 (.agg #[.bool (decide (y < 0)), .slice A2 l2 c2])), (8, .nb (BI 31)), (9, .vl (.int .i64 0)), (10, .vl (vx3)), (11, .vl (vx4)), (12, .vl (.int .i64 (i : Int))), (51, .ro (vx3) 4 (bv) (zs)), (52, .ro (vx4) 4 (bv) (lof (tb y) k))] _
  refine SC.seq ?_
  refine SC.seq ?_
  by_cases hk2 : (i : Int) < (k : Int)
  · refine SC.region ?_
    refine PW.move rfl rfl rfl rfl rfl ?_
    refine PW.move rfl rfl rfl rfl rfl ?_
    refine PW.q2 (x := .tmp 33) (y := .tmp 34) (.bool true) rfl rfl rfl rfl rfl (fun ρ W h1 h2 => by exact r_lt h1 h2 (decide_eq_true hk2)) ?_
    refine PW.nil ?_
    refine SX.then ?_
    refine SC.cond (t := true) rfl ?_
    refine SC.skip ?_
    refine SX.then ?_
    refine SC.seq ?_
    refine SC.block ?_
    refine SC.region ?_
    refine PW.move rfl rfl rfl rfl rfl ?_
    refine PW.move rfl rfl rfl rfl rfl ?_
    refine PW.move rfl rfl rfl rfl rfl ?_
    refine PW.q2 (x := .tmp 39) (y := .tmp 40) (.int .i64 ((p + i : Nat))) rfl rfl rfl rfl rfl (fun ρ W h1 h2 => by exact r_add h1 h2 (by omega) (by omega)) ?_
    refine PW.move rfl rfl rfl rfl rfl ?_
    refine PW.move rfl rfl rfl rfl rfl ?_
    refine PW.ridx (i := i) 52 rfl rfl rfl rfl rfl rfl rfl (by rw [lof_len]; omega) (fun ρ W g c h1 h2 => r_idxB h1 h2 (by rw [lof_len]; omega)) ?_
    refine PW.rget (i := i) 52 rfl rfl rfl rfl rfl rfl (by rw [lof_len]; omega) r_lBv ?_
    refine PW.ridx (i := p + i) 51 rfl rfl rfl rfl rfl rfl rfl (by rw [hD.2, lof_len]; omega) (fun ρ W g c h1 h2 => r_idxB h1 h2 (by rw [hD.2, lof_len]; omega)) ?_
    refine PW.rput (i := p + i) (x := .tmp 45) (at0 (lof (tb y) k) i) 51 rfl rfl rfl rfl rfl (by rw [hD.2, lof_len]; omega) rfl rfl r_sBv ?_
    refine PW.nil ?_
    refine SX.blockN ?_
    refine SX.then ?_
    refine SC.region ?_
    refine PW.move rfl rfl rfl rfl rfl ?_
    refine PW.q2 (x := .tmp 36) (y := .const (.int .i64 1)) (.int .i64 ((i + 1 : Nat))) rfl rfl rfl rfl rfl (fun ρ W h1 h2 => by exact r_add h1 h2 (by omega) (by omega)) ?_
    refine PW.assign rfl rfl rfl rfl rfl ?_
    refine PW.nil ?_
    refine SX.back (i + 1, zs.set (p + i) (at0 (lof (tb y) k) i)) ?_ ?_ ?_
    · exact (hD.step (by omega) (by omega))
    · exact (show k - (i + 1) < k - i by omega)
    · exact ⟨rfl, rfl, rfl, rfl, rfl, rfl, rfl, rfl, rfl, rfl, rfl, trivial⟩
  · obtain rfl : k = i := by have := hD.1; omega
    refine SC.region ?_
    refine PW.move rfl rfl rfl rfl rfl ?_
    refine PW.move rfl rfl rfl rfl rfl ?_
    refine PW.q2 (x := .tmp 33) (y := .tmp 34) (.bool false) rfl rfl rfl rfl rfl (fun ρ W h1 h2 => by exact r_lt h1 h2 (decide_eq_false hk2)) ?_
    refine PW.nil ?_
    refine SX.then ?_
    refine SC.cond (t := false) rfl ?_
    refine SC.exit ?_
    refine SX.thenE ?_
    refine SX.thenE ?_
    refine SX.blockE ?_
    refine SX.then ?_
    refine SC.seq ?_
    refine SC.region ?_
    refine PW.move rfl rfl rfl rfl rfl ?_
    refine PW.fac ⟨pb1, 0, none⟩ rfl rfl rfl rfl rfl facJ0 ?_
    refine PW.flc (s := 4) (.bool (decide (x < 0))) rfl rfl rfl rfl rfl rfl flcJ0 ?_
    refine PW.callG (r := .kw (KJ (dep x y k p))) ce_of2 rfl rfl rfl rfl rfl (KJ.st _) rfl (fun a W hf => by have h1 := hf.vl (s := 47) rfl; have own : OwF W _ _ bv (vx3) (zs) := hf.ho 51 _ rfl; obtain ⟨A4, c4, e4, hc4, rd4⟩ := OwF.rdB own; show Calls Try.prog _ #[a.tmps.getD 47 undef, a.tmps.getD 49 undef] W _; have h2 := hf.vl (s := 49) rfl; rw [h2]; rw [h1, e4]; exact rof_c rd4 (by rw [hD.2, lof_len]; omega) (hD.fin (by omega) (by omega))) ?_
    refine PW.store (x := .tmp 50) (r := .kw (KJ (dep x y k p))) rfl rfl rfl rfl rfl rfl sh_J ?_
    refine PW.assign rfl rfl rfl rfl rfl ?_
    refine PW.nil ?_
    refine SX.then ?_
    refine SC.ret ?_
    exact SX.done2 (s := 8) (t := 9) (r := .vl (.int .i64 0)) (.inl rfl) rfl rfl rfl rfl

theorem k_jdep {x y : Int} {a b k p : Nat} (X : bd a x) (Y : bd b y) (ha : a ≤ 100000) (hb : b ≤ 100000) (hk : k ≤ 65536) (hp : p ≤ 65536) : CallOk 61 [KJ x, KJ y, KV (.int .i64 (k : Int)), KV (.int .i64 (p : Int))] (K2 (KJ (dep x y k p)) (KV (.int .i64 0))) :=
  call4 ce_k_jdep_bad fun W u v u2 v2 h1 h2 e e2 => by
    obtain rfl : u2 = _ := e
    obtain rfl : v2 = _ := e2
    obtain ⟨A1, l1, c1, rfl⟩ := signed h1
    obtain ⟨A2, l2, c2, rfl⟩ := signed h2
    exact rdep_c h1 h2 X Y ha hb hk hp

end Go.Proofs.Ytcgkgcciogibkaa.Sy
/- The contract of the program's Gcd, by rules. -/
set_option linter.unusedVariables false
set_option linter.unusedSimpArgs false
namespace Go.Proofs.Ytcgkgcciogibkaa.Sy
open Go Go.RowKit Ma
theorem ce_gcd : CE 39 := fun args W => by go_simp
theorem sgn_one {x : Int} (h : 0 < x) : sgn x = 1 := by unfold sgn; rw [if_neg (by omega), if_neg (by omega)]
set_option maxHeartbeats 1600000 in
theorem k_gcd0 {x y : Int} {n g : Nat} (X : bd n x) (Y : bd n y) (hn : n ≤ 300000) (hg : Nat.gcd x.natAbs y.natAbs = g) : CallOk 39 [KI x, KI y] (KI (g : Int)) := by
  refine CallOk.enter (l := [.kw (KI x), .kw (KI y)]) 25 ce_gcd Try.func39 rfl Try.ntmps39 (by simp) ⟨KI.st _, rfl, KI.st _, rfl, trivial⟩ fun w => ?_
  refine SC.seq ?_
  refine SC.region ?_
  refine PW.box (x := .tmp 0) (r := .kw (KI (x))) (BI 28) rfl rfl rfl rfl rfl bI rfl sh_I ?_
  refine PW.box (x := .tmp 1) (r := .kw (KI (y))) (BI 28) rfl rfl rfl rfl rfl bI rfl sh_I ?_
  refine PW.alloc (BI 28) rfl rfl rfl rfl rfl bI ?_
  refine PW.nil ?_
  refine SX.then ?_
  refine SC.seq ?_
  refine SC.dx [.val 8 (.kw (KI (x))), .val 9 (.kw (KI ((x.natAbs : Int)))), .val 10 (.kw (KI (y))), .val 11 (.kw (KI ((y.natAbs : Int)))), .put 2 (BI 28) (.kw (KI ((x.natAbs : Int)))), .put 3 (BI 28) (.kw (KI ((y.natAbs : Int))))] [([], [2]), ([0], []), ([], [3]), ([2], []), ([1], [2]), ([3], [3])] rfl (by kernel_rfl) (by kernel_rfl) (by kernel_rfl) rfl ⟨?_, ?_, ?_, ?_, ?_, ?_, trivial⟩ ?_
  · exact DX.load rfl rfl rfl rfl rfl rfl
  · exact DX.call (r := .kw (KI ((x.natAbs : Int)))) rfl rfl rfl rfl rfl rfl (KI.st _) rfl (k_abs)
  · exact DX.load rfl rfl rfl rfl rfl rfl
  · exact DX.call (r := .kw (KI ((y.natAbs : Int)))) rfl rfl rfl rfl rfl rfl (KI.st _) rfl (k_abs)
  · exact DX.store (x := .tmp 9) (r := .kw (KI ((x.natAbs : Int)))) rfl rfl rfl rfl rfl rfl sh_I
  · exact DX.store (x := .tmp 11) (r := .kw (KI ((y.natAbs : Int)))) rfl rfl rfl rfl rfl rfl sh_I
  refine SX.then ?_
  refine SC.seq ?_
  refine SC.block ?_
  refine SC.loop (S := Nat × Nat) (fun ⟨a, b⟩ => [(2, .bx (BI 28) (KI ((a : Int)))), (3, .bx (BI 28) (KI ((b : Int)))), (4, .nb (BI 28))]) (fun ⟨a, b⟩ => Nat.gcd a b = g ∧ bd n (a : Int) ∧ bd n (b : Int)) (fun ⟨a, b⟩ => b) (x.natAbs, y.natAbs) ⟨hg, X.abs, Y.abs⟩ ⟨rfl, rfl, rfl, trivial⟩ ?_
  rintro ⟨a, b⟩ ⟨hi, A, B⟩
  show SC _ _ _ _ [(2, .bx (BI 28) (KI ((a : Int)))), (3, .bx (BI 28) (KI ((b : Int)))), (4, .nb (BI 28))] _
  refine SC.seq ?_
  refine SC.seq ?_
  by_cases hb : (b : Int) = 0
  · obtain rfl : b = 0 := by omega
    obtain rfl : a = g := by simpa using hi
    refine SC.region ?_
    refine PW.load rfl rfl rfl rfl rfl rfl ?_
    refine PW.call (r := .vl (.int .i64 0)) rfl rfl rfl rfl rfl rfl (KV.st _) rfl (k_sign (by rw [hb]; rfl)) ?_
    refine PW.q2 (x := .tmp 13) (y := .const (.int .i64 0)) (.bool false) rfl rfl rfl rfl rfl (fun ρ W h1 h2 => by go_simp) ?_
    refine PW.nil ?_
    refine SX.then ?_
    refine SC.cond (t := false) rfl ?_
    refine SC.exit ?_
    refine SX.thenE ?_
    refine SX.thenE ?_
    refine SX.blockE ?_
    refine SX.then ?_
    refine SC.seq ?_
    refine SC.region ?_
    refine PW.load rfl rfl rfl rfl rfl rfl ?_
    refine PW.store (x := .tmp 24) (r := .kw (KI ((a : Int)))) rfl rfl rfl rfl rfl rfl sh_I ?_
    refine PW.nil ?_
    refine SX.then ?_
    refine SC.ret ?_
    exact SX.doneC (s := 4) (.inl rfl) rfl rfl rfl
  · refine SC.region ?_
    refine PW.load rfl rfl rfl rfl rfl rfl ?_
    refine PW.call (r := .vl (.int .i64 1)) rfl rfl rfl rfl rfl rfl (KV.st _) rfl (k_sign (sgn_one (by omega))) ?_
    refine PW.q2 (x := .tmp 13) (y := .const (.int .i64 0)) (.bool true) rfl rfl rfl rfl rfl (fun ρ W h1 h2 => by go_simp) ?_
    refine PW.nil ?_
    refine SX.then ?_
    refine SC.cond (t := true) rfl ?_
    refine SC.skip ?_
    refine SX.then ?_
    refine SC.block ?_
    refine SC.seq ?_
    refine SC.region ?_
    refine PW.load rfl rfl rfl rfl rfl rfl ?_
    refine PW.load rfl rfl rfl rfl rfl rfl ?_
    refine PW.call (r := .kw (K3 (KI (((a : Int)).tdiv ((b : Int)))) (KI (((a : Int)).tmod ((b : Int)))) (KV (.int .i64 0)))) rfl rfl rfl rfl rfl rfl (K3.st (KI.st _) (KI.st _) (KV.st _)) rfl (k_div A (by first | decide | omega) hb) ?_
    refine PW.move rfl rfl rfl rfl rfl ?_
    refine PW.ext (r := .kw (KI (((a : Int)).tdiv ((b : Int))))) rfl rfl rfl rfl rfl ex30 (KI.st _) rfl ?_
    refine PW.ext (r := .kw (KI (((a : Int)).tmod ((b : Int))))) rfl rfl rfl rfl rfl ex31 (KI.st _) rfl ?_
    refine PW.ext (r := .vl (.int .i64 0)) rfl rfl rfl rfl rfl ex32v (KV.st _) rfl ?_
    refine PW.alloc (BI 28) rfl rfl rfl rfl rfl bI ?_
    refine PW.alloc (BI 28) rfl rfl rfl rfl rfl bI ?_
    refine PW.store (x := .tmp 19) (r := .kw (KI (((a : Int)).tdiv ((b : Int))))) rfl rfl rfl rfl rfl rfl sh_I ?_
    refine PW.store (x := .tmp 20) (r := .kw (KI (((a : Int)).tmod ((b : Int))))) rfl rfl rfl rfl rfl rfl sh_I ?_
    refine PW.assign rfl rfl rfl rfl rfl ?_
    refine PW.nil ?_
    refine SX.then ?_
    refine SC.dx [.val 22 (.kw (KI ((b : Int)))), .val 23 (.kw (KI (((a : Int)).tmod ((b : Int))))), .put 2 (BI 28) (.kw (KI ((b : Int)))), .put 3 (BI 28) (.kw (KI (((a : Int)).tmod ((b : Int)))))] [([], [3]), ([], [6]), ([0], [2]), ([1], [3])] rfl (by kernel_rfl) (by kernel_rfl) (by kernel_rfl) rfl ⟨?_, ?_, ?_, ?_, trivial⟩ ?_
    · exact DX.load rfl rfl rfl rfl rfl rfl
    · exact DX.load rfl rfl rfl rfl rfl rfl
    · exact DX.store (x := .tmp 22) (r := .kw (KI ((b : Int)))) rfl rfl rfl rfl rfl rfl sh_I
    · exact DX.store (x := .tmp 23) (r := .kw (KI (((a : Int)).tmod ((b : Int))))) rfl rfl rfl rfl rfl rfl sh_I
    refine SX.blockN ?_
    refine SX.back (b, a % b) ?_ ?_ ?_
    · exact ⟨by rw [← hi, Nat.gcd_comm a b, Nat.gcd_rec b a, Nat.gcd_comm], B, (A.tmod (y := (b : Int)) : bd n ((a : Int).tmod (b : Int)))⟩
    · exact (show a % b < b from Nat.mod_lt _ (by omega))
    · exact ⟨rfl, rfl, rfl, trivial⟩
theorem k_gcd {x y : Int} {a b : Nat} (X : bd a x) (Y : bd b y) (ha : a ≤ 300000) (hb : b ≤ 300000) : CallOk 39 [KI x, KI y] (KI (Int.gcd x y : Int)) := k_gcd0 (X.mono (Nat.le_max_left a b)) (Y.mono (Nat.le_max_right a b)) (by omega) rfl
end Go.Proofs.Ytcgkgcciogibkaa.Sy
/- The contract of the program's Root, by rules. -/
set_option linter.unusedVariables false
set_option linter.unusedSimpArgs false
namespace Go.Proofs.Ytcgkgcciogibkaa.Sy
open Go Go.RowKit Ma
theorem ce_root : CE 64 := fun args W => by go_simp
theorem ce_shift : CE 103 := fun args W => by go_simp
theorem k_shift {x i : Int} {a : Nat} (X : bd a x) (ha : a ≤ 300000) (h1 : -9223372036854775808 ≤ i) (h2 : i ≤ 1000000) : CallOk 103 [KI x, KV (.int .i64 i)] (KI (sh x i)) := callIV ce_shift fun W n A l c h => shift_c h (by have := h.le X ha; omega) h1 h2
theorem sh1 (k : Nat) : sh 1 (k : Int) = 2 ^ k := by rw [sh_up, Int.one_mul]
theorem half_eq (y : Int) : sh y (-1) = y / 2 := by have := sh_down y 1; simpa using this
theorem cmp_ge0 {a b : Int} (h : b ≤ a) : cmp a b ≥ 0 := by unfold cmp; rw [if_neg (by omega)]; split <;> decide
theorem sq_mono {a b : Int} (h0 : 0 ≤ a) (h : a ≤ b) : a * a ≤ b * b := Int.mul_le_mul h h h0 (by omega)
section
variable {x q r : Int}
theorem tq (hx : 0 < x) : x.tdiv q = x / q := Int.tdiv_eq_ediv_of_nonneg (by omega)
theorem nwt_nn (hx : 0 < x) (hq : 1 ≤ q) : 0 ≤ x.tdiv q := by rw [tq hx]; exact Int.ediv_nonneg (by omega) (by omega)
theorem nwt_end (hx : 0 < x) (h0 : 0 ≤ r) (hr : r ≤ q) (hq : 1 ≤ q) (h2 : x < (r + 1) * (r + 1)) (hc : q ≤ (q + x.tdiv q) / 2) : q = r := by
  apply Classical.byContradiction
  intro hne
  have h3 : r + 1 ≤ q := by omega
  have h4 : x / q < q := by
    apply Int.ediv_lt_of_lt_mul (by omega)
    have := sq_mono (show 0 ≤ r + 1 by omega) h3
    omega
  rw [tq hx] at hc
  omega
theorem nwt_step (hx : 0 < x) (h0 : 0 ≤ r) (h1 : r * r ≤ x) (hr : r ≤ q) (hq : 1 ≤ q) : r ≤ (q + x.tdiv q) / 2 := by
  rw [tq hx]
  have h3 : 2 * r - q ≤ x / q := by
    apply Int.le_ediv_of_mul_le (by omega)
    have h4 : 0 ≤ (r - q) * (r - q) := by
      have e : (r - q) * (r - q) = (q - r) * (q - r) := by grind
      rw [e]; exact Int.mul_nonneg (by omega) (by omega)
    have e : (2 * r - q) * q = r * r - (r - q) * (r - q) := by grind
    omega
  omega
theorem nwt_pos (hx : 0 < x) (hr : r ≤ q) (hq : 1 ≤ q) (h0 : 0 ≤ r) (h1 : r * r ≤ x) (h2 : x < (r + 1) * (r + 1)) : 1 ≤ (q + x.tdiv q) / 2 := by
  have h3 := nwt_step hx h0 h1 hr hq
  have : 1 ≤ r := by
    apply Classical.byContradiction
    intro hne
    have e : r = 0 := by omega
    subst e
    omega
  omega
end
theorem bd.down2 {n : Nat} {q z : Int} (A : bd n q) (h1 : z < q) (h0 : 0 ≤ z) : bd n z := by
  unfold bd at *
  omega
set_option maxHeartbeats 1600000 in
theorem root_neg {x : Int} (hx : x < 0) : CallOk 64 [KI x] (K2 (KI 0) (KV (.int .i64 1))) := by
  refine CallOk.enter (l := [.kw (KI x)]) 39 ce_root Try.func64 rfl Try.ntmps64 (by simp) ⟨KI.st _, rfl, trivial⟩ fun w => ?_
  refine SC.seq ?_
  refine SC.region ?_
  refine PW.box (x := .tmp 0) (r := .kw (KI (x))) (BI 28) rfl rfl rfl rfl rfl bI rfl sh_I ?_
  refine PW.alloc (BI 28) rfl rfl rfl rfl rfl bI ?_
  refine PW.assign rfl rfl rfl rfl rfl ?_
  refine PW.nil ?_
  refine SX.then ?_
  refine SC.seq ?_
  refine SC.seq ?_
  refine SC.region ?_
  refine PW.fld (r := .vl (.bool true)) rfl rfl rfl rfl rfl rfl rfl rfl rfl rfl rfl (fun v W p hh hk => by obtain ⟨q, u, h1, h2, h3⟩ := fldI0 v W p hh hk; exact ⟨q, u, h1, h2, by rw [h3]; show Value.bool _ = _; rw [decide_eq_true (by omega)]⟩) (KV.st _) ?_
  refine PW.nil ?_
  refine SX.then ?_
  refine SC.cond (t := true) rfl ?_
  refine SC.seq ?_
  refine SC.region ?_
  refine PW.val (r := .kw (KI (0))) rfl rfl rfl rfl (fun a W hf => ⟨.agg #[.bool false, .slice none 0 0], by go_simp, zeroI _ W W⟩) ?_
  refine PW.store (x := .tmp 11) (r := .kw (KI (0))) rfl rfl rfl rfl rfl rfl sh_I ?_
  refine PW.assign rfl rfl rfl rfl rfl ?_
  refine PW.nil ?_
  refine SX.then ?_
  refine SC.ret ?_
  refine SX.thenR ?_
  exact SX.done2 (s := 2) (t := 3) (r := .vl (.int .i64 1)) (.inl rfl) rfl rfl rfl rfl

set_option maxHeartbeats 1600000 in
theorem root_zero {x : Int} (hx : x = 0) : CallOk 64 [KI x] (K2 (KI x) (KV (.int .i64 0))) := by
  refine CallOk.enter (l := [.kw (KI x)]) 39 ce_root Try.func64 rfl Try.ntmps64 (by simp) ⟨KI.st _, rfl, trivial⟩ fun w => ?_
  refine SC.seq ?_
  refine SC.region ?_
  refine PW.box (x := .tmp 0) (r := .kw (KI (x))) (BI 28) rfl rfl rfl rfl rfl bI rfl sh_I ?_
  refine PW.alloc (BI 28) rfl rfl rfl rfl rfl bI ?_
  refine PW.assign rfl rfl rfl rfl rfl ?_
  refine PW.nil ?_
  refine SX.then ?_
  refine SC.seq ?_
  refine SC.seq ?_
  refine SC.region ?_
  refine PW.fld (r := .vl (.bool false)) rfl rfl rfl rfl rfl rfl rfl rfl rfl rfl rfl (fun v W p hh hk => by obtain ⟨q, u, h1, h2, h3⟩ := fldI0 v W p hh hk; exact ⟨q, u, h1, h2, by rw [h3]; show Value.bool _ = _; rw [decide_eq_false (by omega)]⟩) (KV.st _) ?_
  refine PW.nil ?_
  refine SX.then ?_
  refine SC.cond (t := false) rfl ?_
  refine SC.skip ?_
  refine SX.then ?_
  refine SC.seq ?_
  refine SC.seq ?_
  refine SC.region ?_
  refine PW.load rfl rfl rfl rfl rfl rfl ?_
  refine PW.call (r := .vl (.int .i64 0)) rfl rfl rfl rfl rfl rfl (KV.st _) rfl (k_sign (by subst hx; rfl)) ?_
  refine PW.q2 (x := .tmp 13) (y := .const (.int .i64 0)) (.bool true) rfl rfl rfl rfl rfl (fun ρ W h1 h2 => by go_simp) ?_
  refine PW.nil ?_
  refine SX.then ?_
  refine SC.cond (t := true) rfl ?_
  refine SC.seq ?_
  refine SC.region ?_
  refine PW.load rfl rfl rfl rfl rfl rfl ?_
  refine PW.store (x := .tmp 15) (r := .kw (KI (x))) rfl rfl rfl rfl rfl rfl sh_I ?_
  refine PW.assign rfl rfl rfl rfl rfl ?_
  refine PW.nil ?_
  refine SX.then ?_
  refine SC.ret ?_
  refine SX.thenR ?_
  exact SX.done2 (s := 2) (t := 3) (r := .vl (.int .i64 0)) (.inl rfl) rfl rfl rfl rfl

set_option maxHeartbeats 1600000 in
theorem root_pos {x r : Int} {n wl h : Nat} (X : bd n x) (hn : n ≤ 50000) (hx : 0 < x) (h0 : 0 ≤ r) (h1 : r * r ≤ x) (h2 : x < (r + 1) * (r + 1)) (hw : wid (pat x) = wl) (hh : (wl + 1) / 2 = h) (hwl : wl ≤ 32 * n) (hG : bd (n + 1) ((2 : Int) ^ h)) (hGr : r ≤ 2 ^ h) (hG1 : (1 : Int) ≤ 2 ^ h) : CallOk 64 [KI x] (K2 (KI r) (KV (.int .i64 0))) := by
  refine CallOk.enter (l := [.kw (KI x)]) 39 ce_root Try.func64 rfl Try.ntmps64 (by simp) ⟨KI.st _, rfl, trivial⟩ fun w => ?_
  refine SC.seq ?_
  refine SC.region ?_
  refine PW.box (x := .tmp 0) (r := .kw (KI (x))) (BI 28) rfl rfl rfl rfl rfl bI rfl sh_I ?_
  refine PW.alloc (BI 28) rfl rfl rfl rfl rfl bI ?_
  refine PW.assign rfl rfl rfl rfl rfl ?_
  refine PW.nil ?_
  refine SX.then ?_
  refine SC.seq ?_
  refine SC.seq ?_
  refine SC.region ?_
  refine PW.fld (r := .vl (.bool false)) rfl rfl rfl rfl rfl rfl rfl rfl rfl rfl rfl (fun v W p hh hk => by obtain ⟨q, u, h1, h2, h3⟩ := fldI0 v W p hh hk; exact ⟨q, u, h1, h2, by rw [h3]; show Value.bool _ = _; rw [decide_eq_false (by omega)]⟩) (KV.st _) ?_
  refine PW.nil ?_
  refine SX.then ?_
  refine SC.cond (t := false) rfl ?_
  refine SC.skip ?_
  refine SX.then ?_
  refine SC.seq ?_
  refine SC.seq ?_
  refine SC.region ?_
  refine PW.load rfl rfl rfl rfl rfl rfl ?_
  refine PW.call (r := .vl (.int .i64 1)) rfl rfl rfl rfl rfl rfl (KV.st _) rfl (k_sign (sgn_one hx)) ?_
  refine PW.q2 (x := .tmp 13) (y := .const (.int .i64 0)) (.bool false) rfl rfl rfl rfl rfl (fun ρ W h1 h2 => by go_simp) ?_
  refine PW.nil ?_
  refine SX.then ?_
  refine SC.cond (t := false) rfl ?_
  refine SC.skip ?_
  refine SX.then ?_
  refine SC.seq ?_
  refine SC.dx [.val 16 (.kw (KI (1))), .val 17 (.kw (KI (x))), .val 18 (.vl (.int .i64 (wl : Int))), .val 19 (.vl (.int .i64 ((wl : Int) + 1))), .val 20 (.vl (.int .i64 (h : Int))), .val 21 (.kw (KI ((2 : Int) ^ h))), .new 4 (BI 28), .put 4 (BI 28) (.kw (KI ((2 : Int) ^ h)))] [([], []), ([], [1]), ([1], []), ([2], []), ([3], []), ([0, 4], []), ([], []), ([6, 5], [])] rfl (by kernel_rfl) (by kernel_rfl) (by kernel_rfl) rfl ⟨?_, ?_, ?_, ?_, ?_, ?_, ?_, ?_, trivial⟩ ?_
  · exact DX.call (r := .kw (KI (1))) rfl rfl rfl rfl rfl rfl (KI.st _) rfl (k_new (by decide))
  · exact DX.load rfl rfl rfl rfl rfl rfl
  · exact DX.call (r := .vl (.int .i64 (wl : Int))) rfl rfl rfl rfl rfl rfl (KV.st _) rfl (k_len X (by first | decide | omega) (by rw [hw]))
  · exact DX.q2 (x := .tmp 18) (y := .const (.int .i64 1)) (.int .i64 ((wl : Int) + 1)) rfl rfl rfl rfl rfl (fun ρ W h1 h2 => by first | (go_simp; done) | (go_simp; exact IntWalk.i64_in _ (by omega)) | (go_simp; exact Int.tmod_eq_emod_of_nonneg (by omega)) | (go_simp; exact Int.tdiv_eq_ediv_of_nonneg (by omega)) | (go_simp; exact (IntWalk.i64_in _ (by omega)).trans (by omega)) | (go_simp; rw [Int.tmod_eq_emod_of_nonneg (by omega)]; exact IntWalk.i64_in _ (by omega)) | (go_simp; omega))
  · exact DX.q2 (x := .tmp 19) (y := .const (.int .i64 2)) (.int .i64 (h : Int)) rfl rfl rfl rfl rfl (fun ρ W h1 h2 => by exact r_quo h1 h2 (by omega) (by omega) (by decide))
  · exact DX.call (r := .kw (KI ((2 : Int) ^ h))) rfl rfl rfl rfl rfl rfl (KI.st _) rfl (sh1 h ▸ k_shift (bd.lit (by decide)) (by decide) (by omega) (by omega))
  · exact DX.alloc (BI 28) rfl rfl rfl rfl bI rfl
  · exact DX.store (x := .tmp 21) (r := .kw (KI ((2 : Int) ^ h))) rfl rfl rfl rfl rfl rfl sh_I
  refine SX.then ?_
  refine SC.block ?_
  refine SC.loop (S := Int) (fun q => [(1, .bx (BI 28) (KI (x))), (2, .nb (BI 28)), (3, .vl (.int .i64 0)), (4, .bx (BI 28) (KI (q)))]) (fun q => r ≤ q ∧ 1 ≤ q ∧ bd (n + 1) q) (fun q => q.toNat) ((2 : Int) ^ h) ⟨hGr, hG1, hG⟩ ⟨rfl, rfl, rfl, rfl, trivial⟩ ?_
  rintro q ⟨hi1, hi2, A⟩
  refine SC.block ?_
  refine SC.seq ?_
  refine SC.region ?_
  refine PW.load rfl rfl rfl rfl rfl rfl ?_
  refine PW.load rfl rfl rfl rfl rfl rfl ?_
  refine PW.call (r := .kw (K3 (KI (x.tdiv q)) (KI (x.tmod q)) (KV (.int .i64 0)))) rfl rfl rfl rfl rfl rfl (K3.st (KI.st _) (KI.st _) (KV.st _)) rfl (k_div X (by omega) (by omega)) ?_
  refine PW.move rfl rfl rfl rfl rfl ?_
  refine PW.ext (r := .kw (KI (x.tdiv q))) rfl rfl rfl rfl rfl ex30 (KI.st _) rfl ?_
  refine PW.ext (r := .kw (KI (x.tmod q))) rfl rfl rfl rfl rfl ex31 (KI.st _) rfl ?_
  refine PW.ext (r := .vl (.int .i64 0)) rfl rfl rfl rfl rfl ex32v (KV.st _) rfl ?_
  refine PW.alloc (BI 28) rfl rfl rfl rfl rfl bI ?_
  refine PW.alloc (BI 28) rfl rfl rfl rfl rfl bI ?_
  refine PW.store (x := .tmp 26) (r := .kw (KI (x.tdiv q))) rfl rfl rfl rfl rfl rfl sh_I ?_
  refine PW.store (x := .tmp 27) (r := .kw (KI (x.tmod q))) rfl rfl rfl rfl rfl rfl sh_I ?_
  refine PW.assign rfl rfl rfl rfl rfl ?_
  refine PW.nil ?_
  refine SX.then ?_
  refine SC.seq ?_
  refine SC.region ?_
  refine PW.load rfl rfl rfl rfl rfl rfl ?_
  refine PW.load rfl rfl rfl rfl rfl rfl ?_
  refine PW.call (r := .kw (KI (q + (x.tdiv q)))) rfl rfl rfl rfl rfl rfl (KI.st _) rfl (k_add A X.tdiv (by first | decide | omega) (by first | decide | omega)) ?_
  refine PW.call (r := .kw (KI ((q + x.tdiv q) / 2))) rfl rfl rfl rfl rfl rfl (KI.st _) rfl (half_eq (q + x.tdiv q) ▸ k_shift (A.add X.tdiv) (by omega) (by omega) (by omega)) ?_
  refine PW.alloc (BI 28) rfl rfl rfl rfl rfl bI ?_
  refine PW.store (x := .tmp 32) (r := .kw (KI ((q + x.tdiv q) / 2))) rfl rfl rfl rfl rfl rfl sh_I ?_
  refine PW.nil ?_
  refine SX.then ?_
  refine SC.seq ?_
  refine SC.seq ?_
  by_cases hc : q ≤ (q + x.tdiv q) / 2
  · obtain rfl : q = r := nwt_end hx h0 hi1 hi2 h2 hc
    refine SC.region ?_
    refine PW.load rfl rfl rfl rfl rfl rfl ?_
    refine PW.load rfl rfl rfl rfl rfl rfl ?_
    refine PW.call (r := .vl (.int .i64 (cmp ((q + x.tdiv q) / 2) q))) rfl rfl rfl rfl rfl rfl (KV.st _) rfl (k_cmp (rfl)) ?_
    refine PW.q2 (x := .tmp 35) (y := .const (.int .i64 0)) (.bool true) rfl rfl rfl rfl rfl (fun ρ W h1 h2 => by exact r_ge h1 h2 (decide_eq_true (cmp_ge0 hc))) ?_
    refine PW.nil ?_
    refine SX.then ?_
    refine SC.cond (t := true) rfl ?_
    refine SC.seq ?_
    refine SC.region ?_
    refine PW.load rfl rfl rfl rfl rfl rfl ?_
    refine PW.store (x := .tmp 37) (r := .kw (KI (q))) rfl rfl rfl rfl rfl rfl sh_I ?_
    refine PW.assign rfl rfl rfl rfl rfl ?_
    refine PW.nil ?_
    refine SX.then ?_
    refine SC.ret ?_
    refine SX.thenR ?_
    refine SX.blockR ?_
    refine SX.thenR ?_
    refine SX.blockR ?_
    exact SX.done2 (s := 2) (t := 3) (r := .vl (.int .i64 0)) (.inl rfl) rfl rfl rfl rfl
  · refine SC.region ?_
    refine PW.load rfl rfl rfl rfl rfl rfl ?_
    refine PW.load rfl rfl rfl rfl rfl rfl ?_
    refine PW.call (r := .vl (.int .i64 (-1))) rfl rfl rfl rfl rfl rfl (KV.st _) rfl (k_cmp (cmp_lt (by omega))) ?_
    refine PW.q2 (x := .tmp 35) (y := .const (.int .i64 0)) (.bool false) rfl rfl rfl rfl rfl (fun ρ W h1 h2 => by go_simp) ?_
    refine PW.nil ?_
    refine SX.then ?_
    refine SC.cond (t := false) rfl ?_
    refine SC.skip ?_
    refine SX.then ?_
    refine SC.region ?_
    refine PW.load rfl rfl rfl rfl rfl rfl ?_
    refine PW.store (x := .tmp 38) (r := .kw (KI ((q + x.tdiv q) / 2))) rfl rfl rfl rfl rfl rfl sh_I ?_
    refine PW.nil ?_
    refine SX.blockN ?_
    refine SX.back ((q + x.tdiv q) / 2) ?_ ?_ ?_
    · exact ⟨nwt_step hx h0 h1 hi1 hi2, nwt_pos hx hi1 hi2 h0 h1 h2, bd.down2 A (by omega) (Int.le_trans h0 (nwt_step hx h0 h1 hi1 hi2))⟩
    · exact (show ((q + x.tdiv q) / 2).toNat < q.toNat by omega)
    · exact ⟨rfl, rfl, rfl, rfl, trivial⟩

/-- Root, with the number that it gives. -/
theorem k_root {x r : Int} {n : Nat} (X : bd n x) (hn : n ≤ 50000) (h0 : 0 ≤ r) (h1 : r * r ≤ x) (h2 : x < (r + 1) * (r + 1)) : CallOk 64 [KI x] (K2 (KI r) (KV (.int .i64 0))) := by
  have hrr := Int.mul_nonneg h0 h0
  by_cases hx : x = 0
  · have hr : r = 0 := by
      apply Classical.byContradiction
      intro hne
      have := Int.mul_pos (show 0 < r by omega) (show 0 < r by omega)
      omega
    have := root_zero hx
    rw [hx] at this ⊢
    rw [hr]
    exact this
  · have hx' : 0 < x := by omega
    have hp : pat x = x := by unfold pat; rw [if_neg (by omega)]
    have hb := bd2.1 X
    have hwl : wid (pat x) ≤ 32 * n := by rw [hp]; exact wid_le_of hb.2
    have hlt := wid_lt x
    have hG1 : (1 : Int) ≤ 2 ^ ((wid (pat x) + 1) / 2) := Int.pow_pos (by decide)
    refine root_pos X hn hx' h0 h1 h2 rfl rfl hwl ?_ ?_ hG1
    · rw [bd2]
      have a1 := pow_le (b := 2) (by decide) (show (wid (pat x) + 1) / 2 + 1 ≤ 32 * (n + 1) by omega)
      rw [Int.pow_succ] at a1
      omega
    · apply Classical.byContradiction
      intro hne
      have a1 := sq_mono (show (0 : Int) ≤ 2 ^ ((wid (pat x) + 1) / 2) by omega) (show (2 : Int) ^ ((wid (pat x) + 1) / 2) ≤ r by omega)
      rw [← Int.pow_add] at a1
      have a2 := pow_le (b := 2) (by decide) (show wid x ≤ (wid (pat x) + 1) / 2 + (wid (pat x) + 1) / 2 by rw [hp]; omega)
      omega
/-- There is such a number. -/
theorem root_ex : ∀ (m : Nat), ∃ r : Int, 0 ≤ r ∧ r * r ≤ (m : Int) ∧ (m : Int) < (r + 1) * (r + 1)
  | 0 => ⟨0, by decide, by decide, by decide⟩
  | m + 1 => by
    obtain ⟨r, h0, h1, h2⟩ := root_ex m
    by_cases h : ((m + 1 : Nat) : Int) < (r + 1) * (r + 1)
    · exact ⟨r, h0, by omega, h⟩
    · refine ⟨r + 1, by omega, by omega, ?_⟩
      have : (r + 1 + 1) * (r + 1 + 1) = (r + 1) * (r + 1) + 2 * r + 3 := by grind
      omega
end Go.Proofs.Ytcgkgcciogibkaa.Sy
/- Odd, Int64 of the program and of the reference by rules. -/
set_option linter.unusedVariables false
set_option linter.unusedSimpArgs false
namespace Go.Proofs.Ytcgkgcciogibkaa.Sy
open Go Go.RowKit Ma
theorem facI0 {p : Nat} {m : Bool} {A : Option Addr} {l c : Nat} (W : World) (hh : Holds (BI 28) p (.agg #[.bool m, .slice A l c]) W) : (Instr.fieldAt 28 (ptr p) 0).run Try.prog W = .ok (.pointer (some ⟨p, 0, none⟩)) W := by
  obtain ⟨_, h0, h1⟩ := holdsV hh rfl
  go_simp
theorem facI1 {p : Nat} {m : Bool} {A : Option Addr} {l c : Nat} (W : World) (hh : Holds (BI 28) p (.agg #[.bool m, .slice A l c]) W) : (Instr.fieldAt 28 (ptr p) 1).run Try.prog W = .ok (.pointer (some ⟨p, 1, none⟩)) W := by
  obtain ⟨_, h0, h1⟩ := holdsV hh rfl
  go_simp
theorem flcI0 {T : TypeId} {p : Nat} {m : Bool} {A : Option Addr} {l c : Nat} (W : World) (hh : Holds (BI T) p (.agg #[.bool m, .slice A l c]) W) : (Instr.loadAt 4 (.pointer (some ⟨p, 0, none⟩))).run Try.prog W = .ok (.bool m) W := flcJ0 W hh
theorem flcI1 {T : TypeId} {p : Nat} {m : Bool} {A : Option Addr} {l c : Nat} (W : World) (hh : Holds (BI T) p (.agg #[.bool m, .slice A l c]) W) : (Instr.loadAt 22 (.pointer (some ⟨p, 1, none⟩))).run Try.prog W = .ok (.slice A l c) W := by
  obtain ⟨_, h0, h1⟩ := holdsV hh rfl
  go_simp
section
variable {x y : Operand} {dst : Option Tmp} {ty : TypeId} {pos : String} {after : Array Edge} {guard : Option (Nat × Bool)} {ρ : Operand → Value} {W : World} {a b z : Int}
theorem r_and1 (h1 : ρ x = .int .u32 a) (h2 : ρ y = .int .u32 1) (h : 0 ≤ a ∧ a < 4294967296) : (execOp ρ ⟨dst, .binOp .and 92 x y 92, ty, pos, after, guard⟩).run Try.prog W = .ok (.value (.int .u32 (a % 2))) W := by
  have e := and_one a h.1 h.2
  go_simp
  done
theorem r_eqU {t : Bool} (h1 : ρ x = .int .u32 a) (h2 : ρ y = .int .u32 b) (e : decide (a = b) = t) : (execOp ρ ⟨dst, .binOp .eql 92 x y 92, ty, pos, after, guard⟩).run Try.prog W = .ok (.value (.bool t)) W := by
  subst e
  go_simp
  rfl
theorem r_i64u (h1 : ρ x = .int .i64 a) (h : 0 ≤ a ∧ a < 9223372036854775808) : (execOp ρ ⟨dst, .convert 3 107 x, ty, pos, after, guard⟩).run Try.prog W = .ok (.value (.int .u64 a)) W := by
  have e : IntKind.u64.wrap a = a := IntWalk.u64_in _ (by omega)
  go_simp
  done
theorem r_u64i (h1 : ρ x = .int .u64 a) (e : IntKind.i64.wrap a = z) : (execOp ρ ⟨dst, .convert 107 2 x, ty, pos, after, guard⟩).run Try.prog W = .ok (.value (.int .i64 z)) W := by
  subst e
  go_simp
  done
theorem r_negi (h1 : ρ x = .int .i64 a) (e : IntKind.i64.wrap (-a) = z) : (execOp ρ ⟨dst, .unOp .neg 2 x, ty, pos, after, guard⟩).run Try.prog W = .ok (.value (.int .i64 z)) W := by
  subst e
  go_simp
  done
theorem r_negu (h1 : ρ x = .int .u64 a) : (execOp ρ ⟨dst, .unOp .neg 107 x, ty, pos, after, guard⟩).run Try.prog W = .ok (.value (.int .u64 ((-a) % 18446744073709551616))) W := by
  have e := IntKind.wrap_u64 (-a)
  go_simp
  done
theorem r_le6 {t : Bool} (h1 : ρ x = .int .u64 a) (h2 : ρ y = .int .u64 b) (e : decide (a ≤ b) = t) : (execOp ρ ⟨dst, .binOp .leq 107 x y 107, ty, pos, after, guard⟩).run Try.prog W = .ok (.value (.bool t)) W := by
  subst e
  go_simp
theorem r_orx (h1 : ρ x = .int .u64 a) (h2 : ρ y = .int .u64 b) (e : bits .or .u64 a b = z) : (execOp ρ ⟨dst, .binOp .or 107 x y 107, ty, pos, after, guard⟩).run Try.prog W = .ok (.value (.int .u64 z)) W := by
  subst e
  go_simp
  done
theorem r_shl32 {i : Nat} (h1 : ρ x = .int .u64 a) (h2 : ρ y = .int .i64 (32 * (i : Int))) (h : 0 ≤ a ∧ a < 4294967296) (hi : i ≤ 1) : (execOp ρ ⟨dst, .binOp .shl 107 x y 3, ty, pos, after, guard⟩).run Try.prog W = .ok (.value (.int .u64 (a * b32 ^ i))) W := by
  have h3 : i = 0 ∨ i = 1 := by omega
  rcases h3 with rfl | rfl
  · have e : IntKind.u64.wrap a = a := IntWalk.u64_in _ (by omega)
    have h2 : ρ y = .int .i64 0 := h2
    have e2 : a * b32 ^ 0 = a := by rw [Int.pow_zero, Int.mul_one]
    rw [e2]
    go_simp
    done
  · have e : IntKind.u64.wrap (a * 4294967296) = a * 4294967296 := IntWalk.u64_in _ (by omega)
    have h2 : ρ y = .int .i64 32 := h2
    have e2 : a * b32 ^ 1 = a * 4294967296 := by rw [Int.pow_succ, Int.pow_zero, Int.one_mul]; rfl
    rw [e2]
    go_simp
    done
end
theorem odd_eq32 {xs : List Int} {x : Int} (d : dg b32 xs) (e : lv b32 xs = (x.natAbs : Int)) : decide (at0 xs 0 % 2 = 1) = decide (x % 2 = 1) := by
  have h : lv b32 xs % 2 = at0 xs 0 % 2 := by
    cases xs with
    | nil => rfl
    | cons y ys => simp only [lv]; have : b32 * lv b32 ys = 2 * (2147483648 * lv b32 ys) := by rw [← Int.mul_assoc]; rfl
                   rw [this]; simp [at0]
  rw [← h, e]
  congr 1; apply propext; omega
theorem odd_eq16 {xs : List Int} {x : Int} (d : dg 65536 xs) (e : lv 65536 xs = (x.natAbs : Int)) : decide (at0 xs 0 % 2 = 1) = decide (x % 2 = 1) := by
  have h : lv 65536 xs % 2 = at0 xs 0 % 2 := by
    cases xs with
    | nil => rfl
    | cons y ys => simp only [lv]; simp [at0]; omega
  rw [← h, e]
  congr 1; apply propext; omega
/-- What Int64 hands back. -/
def KZ (x : Int) : Know := if -9223372036854775808 ≤ x ∧ x ≤ 9223372036854775807 then K2 (KV (.int .i64 x)) (KV (.bool true)) else K2 (KV (.int .i64 0)) (KV (.bool false))
theorem KZ_yes {x : Int} (h0 : -9223372036854775808 ≤ x) (h1 : x ≤ 9223372036854775807) : KZ x = K2 (KV (.int .i64 x)) (KV (.bool true)) := if_pos ⟨h0, h1⟩
theorem KZ_no {x : Int} (h : ¬ (-9223372036854775808 ≤ x ∧ x ≤ 9223372036854775807)) : KZ x = K2 (KV (.int .i64 0)) (KV (.bool false)) := if_neg h
theorem bd_i64 {x : Int} (h : -9223372036854775808 ≤ x ∧ x ≤ 9223372036854775807) : bd 3 x := by
  have e : (b32 : Int) ^ 3 = 79228162514264337593543950336 := by decide
  unfold bd; rw [e]; omega
theorem wrapx {x : Int} (h0 : -9223372036854775808 ≤ x) (h1 : x ≤ 9223372036854775807) : IntKind.i64.wrap (x % 18446744073709551616) = x := by
  rw [IntKind.wrap_i64]; omega
theorem wrapy {x : Int} (h0 : -9223372036854775808 ≤ x) (h1 : x < 0) : IntKind.i64.wrap (-(IntKind.i64.wrap (-x))) = x := by
  rw [IntKind.wrap_i64, IntKind.wrap_i64]; omega
theorem drop_le {xs : List Int} {i : Nat} (d : dg 65536 xs) (h : i ≤ xs.length) : lv 65536 (xs.drop i) ≤ lv 65536 xs := by
  have e := lv_split 65536 xs i h
  have h0 := lv_nonneg BJ_pos (dg_take d i)
  have h1 := lv_nonneg BJ_pos (dg_drop d i)
  have h2 := pos_pow BJ_pos i
  have := Int.mul_le_mul_of_nonneg_right (show 1 ≤ (65536 : Int) ^ i by omega) h1
  omega
theorem or_zero64 {a : Int} (h : 0 ≤ a ∧ a < 18446744073709551616) : bits .or .u64 0 a = a := by
  obtain ⟨A, rfl⟩ := Int.eq_ofNat_of_zero_le h.1
  have := u64_or_nat 0 A (by omega) (by omega)
  simpa using this
theorem or_up64 {l h : Int} (hh : 0 ≤ h ∧ h < 4294967296) (hl : 0 ≤ l ∧ l < 4294967296) : bits .or .u64 l (h * 4294967296) = l + h * 4294967296 := by
  obtain ⟨H, rfl⟩ := Int.eq_ofNat_of_zero_le hh.1
  obtain ⟨L, rfl⟩ := Int.eq_ofNat_of_zero_le hl.1
  have e : ((H : Int) * 4294967296) = ((H * 4294967296 : Nat) : Int) := by omega
  have j := join32 H L hh hl
  rw [e] at j ⊢
  rw [u64_or_nat _ _ (by omega) (by omega)] at j ⊢
  rw [Nat.or_comm, j]; omega
theorem take_or {xs : List Int} {i : Nat} (d : dg b32 xs) (hi : i < xs.length) (h1 : i ≤ 1) : bits .or .u64 (lv b32 (xs.take i)) (at0 xs i * b32 ^ i) = lv b32 (xs.take (i + 1)) := by
  have a := dg32 d i
  rw [lv_take_succ _ _ _ hi, Int.mul_comm (b32 ^ i)]
  have h3 : i = 0 ∨ i = 1 := by omega
  rcases h3 with rfl | rfl
  · rw [List.take_zero, Int.pow_zero, Int.mul_one]
    show bits .or .u64 0 _ = 0 + _
    rw [or_zero64 (by omega), Int.zero_add]
  · have e : (b32 : Int) ^ 1 = 4294967296 := by decide
    have b := dg32 d 0
    have l1 : lv b32 (xs.take 1) = at0 xs 0 := by rw [lv_take_succ _ _ _ (by omega)]; simp [lv]
    rw [e, l1]
    exact or_up64 a b
theorem int64_big {xs : List Int} {x : Int} (d : dg b32 xs) (t : top xs) (e : lv b32 xs = (x.natAbs : Int)) (h : 2 < xs.length) : 18446744073709551616 ≤ (x.natAbs : Int) := by
  have h1 := top_le (b := b32) (by decide) d t (fun h0 => by rw [h0] at h; simp at h)
  have h2 := pow_le (b := b32) (by decide) (show 2 ≤ xs.length - 1 by omega)
  have e2 : (b32 : Int) ^ 2 = 18446744073709551616 := by decide
  omega
section
variable {B N : Nat} {w0 : World} {fr : List (Nat × AV)} {fn : Func}
/-- Two results in slots. -/
theorem SX.done2t {e : Exit} {s t : Nat} {u v : Value} (he : e = .ret ∨ e = .normal) (hr : fn.results = #[.tmp s, .tmp t]) (hs : look fr s = some (.vl u)) (ht : look fr t = some (.vl v)) (hB : B = w0.heap.size) : SX B N w0 e fr (bodyPost Try.prog fn (Ret w0 (K2 (KV u) (KV v)))) := fun a W hf => by
  have a1 : a.tmps.getD s undef = u := hf.ho s _ hs
  have a2 : a.tmps.getD t undef = v := hf.ho t _ ht
  have hrun : (results fn a.tmps).run Try.prog W = .ok (.tuple #[a.tmps.getD s undef, a.tmps.getD t undef]) W := by
    unfold results
    simp [hr, go_sem]
  rw [a1, a2] at hrun
  have key : a.defers = [] ∧ ∃ v', (results fn a.tmps).run Try.prog W = .ok v' W ∧ Ret w0 (K2 (KV u) (KV v)) (.returned v') W :=
    ⟨hf.df, _, hrun, ⟨_, rfl, ⟨u, v, rfl, rfl, rfl⟩, by have := hf.be; rw [hB] at this; exact this⟩⟩
  rcases he with rfl | rfl <;> exact key
end
set_option maxHeartbeats 3200000 in
set_option maxRecDepth 100000 in
theorem odd_c {x : Int} {A : Option Addr} {c : Nat} {xs : List Int} {w : World} (rA : Rd w .u32 A xs) (dx : dg b32 xs) (tx : top xs) (hx : xs.length ≤ 2000000) (e : lv b32 xs = (x.natAbs : Int)) :
    Calls Try.prog 46 #[.agg #[.bool (decide (x < 0)), .slice A xs.length c]] w (Ret w (KV (.bool (decide (x % 2 = 1))))) := by
  refine calls_sc (l := [.vl (.agg #[.bool (decide (x < 0)), .slice A xs.length c])]) (us := [.agg #[.bool (decide (x < 0)), .slice A xs.length c]]) 15 Try.func46 rfl Try.ntmps46 (by simp) ⟨rfl, rfl, trivial⟩ ?_
  refine SC.seq ?_
  refine SC.region ?_
  refine PW.boxc (x := .tmp 0) (BI 28) rfl rfl rfl rfl rfl bI rfl ⟨_, _, _, _, _, rfl, rfl⟩ fun pb1 => ?_
  refine PW.assign rfl rfl rfl rfl rfl ?_
  refine PW.nil ?_
  refine SX.then ?_
  refine SC.seq ?_
  by_cases h0 : (xs.length : Int) > 0
  · refine SC.region ?_
    refine PW.fac ⟨pb1, 1, none⟩ rfl rfl rfl rfl rfl facI1 ?_
    refine PW.flc (s := 1) (.slice A xs.length c) rfl rfl rfl rfl rfl rfl flcI1 ?_
    refine PW.qn [(.tmp 4, .slice A xs.length c)] (.int .i64 (xs.length : Int)) rfl rfl rfl ⟨rfl, trivial⟩ (fun ρ W h => by obtain ⟨h1, _⟩ := h; exact r_len h1) ?_
    refine PW.q2 (x := .tmp 5) (y := .const (.int .i64 0)) (.bool true) rfl rfl rfl rfl rfl (fun ρ W h1 h2 => by exact r_gt h1 h2 (decide_eq_true h0)) ?_
    refine PW.move rfl rfl rfl rfl rfl ?_
    refine PW.fac ⟨pb1, 1, none⟩ rfl rfl rfl rfl rfl facI1 ?_
    refine PW.flc (s := 1) (.slice A xs.length c) rfl rfl rfl rfl rfl rfl flcI1 ?_
    refine PW.q2 (x := .tmp 9) (y := .const (.int .i64 0)) (.pointer (padd A 0)) rfl rfl rfl rfl rfl (fun ρ W h1 h2 => r_idxR rA h1 h2 (by omega)) ?_
    refine PW.iget (i := 0) rfl rfl rfl rfl rfl rfl rA (by omega) r_l32 ?_
    refine PW.q2 (x := .tmp 11) (y := .const (.int .u32 1)) (.int .u32 (at0 xs 0 % 2)) rfl rfl rfl rfl rfl (fun ρ W h1 h2 => by exact r_and1 h1 h2 (dg32 dx 0)) ?_
    refine PW.q2 (x := .tmp 12) (y := .const (.int .u32 1)) (.bool (decide (x % 2 = 1))) rfl rfl rfl rfl rfl (fun ρ W h1 h2 => by exact r_eqU h1 h2 (odd_eq32 dx e)) ?_
    refine PW.pick (t := true) rfl rfl rfl rfl rfl rfl ?_
    refine PW.assign rfl rfl rfl rfl rfl ?_
    refine PW.nil ?_
    refine SX.then ?_
    refine SC.ret ?_
    exact SX.done (s := 2) (r := .vl (.bool (decide (x % 2 = 1)))) rfl rfl rfl
  · refine SC.region ?_
    refine PW.fac ⟨pb1, 1, none⟩ rfl rfl rfl rfl rfl facI1 ?_
    refine PW.flc (s := 1) (.slice A xs.length c) rfl rfl rfl rfl rfl rfl flcI1 ?_
    refine PW.qn [(.tmp 4, .slice A xs.length c)] (.int .i64 (xs.length : Int)) rfl rfl rfl ⟨rfl, trivial⟩ (fun ρ W h => by obtain ⟨h1, _⟩ := h; exact r_len h1) ?_
    refine PW.q2 (x := .tmp 5) (y := .const (.int .i64 0)) (.bool false) rfl rfl rfl rfl rfl (fun ρ W h1 h2 => by exact r_gt h1 h2 (decide_eq_false h0)) ?_
    refine PW.move rfl rfl rfl rfl rfl ?_
    refine PW.skip rfl rfl rfl ?_
    refine PW.skip rfl rfl rfl ?_
    refine PW.skip rfl rfl rfl ?_
    refine PW.skip rfl rfl rfl ?_
    refine PW.skip rfl rfl rfl ?_
    refine PW.skip rfl rfl rfl ?_
    refine PW.pick (t := false) rfl rfl rfl rfl rfl rfl ?_
    refine PW.assign rfl rfl rfl rfl rfl ?_
    refine PW.nil ?_
    refine SX.then ?_
    refine SC.ret ?_
    have hr : decide (x % 2 = 1) = false := by have e2 := e; rw [List.eq_nil_of_length_eq_zero (show xs.length = 0 by omega)] at e2; simp only [lv] at e2; exact decide_eq_false (by omega)
    rw [hr]
    exact SX.done (s := 2) (r := .vl (.bool false)) rfl rfl rfl

set_option maxHeartbeats 3200000 in
set_option maxRecDepth 100000 in
theorem rodd_c {x : Int} {A : Option Addr} {c : Nat} {xs : List Int} {w : World} (rA : Rd w .i64 A xs) (dx : dg 65536 xs) (tx : top xs) (hx : xs.length ≤ 2000000) (e : lv 65536 xs = (x.natAbs : Int)) :
    Calls Try.prog 47 #[.agg #[.bool (decide (x < 0)), .slice A xs.length c]] w (Ret w (KV (.bool (decide (x % 2 = 1))))) := by
  refine calls_sc (l := [.vl (.agg #[.bool (decide (x < 0)), .slice A xs.length c])]) (us := [.agg #[.bool (decide (x < 0)), .slice A xs.length c]]) 15 Try.func47 rfl Try.ntmps47 (by simp) ⟨rfl, rfl, trivial⟩ ?_
  refine SC.seq ?_
  refine SC.region ?_
  refine PW.boxc (x := .tmp 0) (BI 31) rfl rfl rfl rfl rfl bJ rfl ⟨_, _, _, _, _, rfl, rfl⟩ fun pb1 => ?_
  refine PW.assign rfl rfl rfl rfl rfl ?_
  refine PW.nil ?_
  refine SX.then ?_
  refine SC.seq ?_
  by_cases h0 : (xs.length : Int) > 0
  · refine SC.region ?_
    refine PW.fac ⟨pb1, 1, none⟩ rfl rfl rfl rfl rfl facJ1 ?_
    refine PW.flc (s := 1) (.slice A xs.length c) rfl rfl rfl rfl rfl rfl flcJ1 ?_
    refine PW.qn [(.tmp 4, .slice A xs.length c)] (.int .i64 (xs.length : Int)) rfl rfl rfl ⟨rfl, trivial⟩ (fun ρ W h => by obtain ⟨h1, _⟩ := h; exact r_lenI h1) ?_
    refine PW.q2 (x := .tmp 5) (y := .const (.int .i64 0)) (.bool true) rfl rfl rfl rfl rfl (fun ρ W h1 h2 => by exact r_gt h1 h2 (decide_eq_true h0)) ?_
    refine PW.move rfl rfl rfl rfl rfl ?_
    refine PW.fac ⟨pb1, 1, none⟩ rfl rfl rfl rfl rfl facJ1 ?_
    refine PW.flc (s := 1) (.slice A xs.length c) rfl rfl rfl rfl rfl rfl flcJ1 ?_
    refine PW.q2 (x := .tmp 9) (y := .const (.int .i64 0)) (.pointer (padd A 0)) rfl rfl rfl rfl rfl (fun ρ W h1 h2 => r_idxRI rA h1 h2 (by omega)) ?_
    refine PW.iget (i := 0) rfl rfl rfl rfl rfl rfl rA (by omega) r_l64 ?_
    refine PW.q2 (x := .tmp 11) (y := .const (.int .i64 2)) (.int .i64 (at0 xs 0 % 2)) rfl rfl rfl rfl rfl (fun ρ W h1 h2 => by exact r_rem h1 h2 (rfl) (by have := dg_at dx BJ_pos 0; omega) (by decide)) ?_
    refine PW.q2 (x := .tmp 12) (y := .const (.int .i64 1)) (.bool (decide (x % 2 = 1))) rfl rfl rfl rfl rfl (fun ρ W h1 h2 => by exact r_eqD h1 h2 (odd_eq16 dx e)) ?_
    refine PW.pick (t := true) rfl rfl rfl rfl rfl rfl ?_
    refine PW.assign rfl rfl rfl rfl rfl ?_
    refine PW.nil ?_
    refine SX.then ?_
    refine SC.ret ?_
    exact SX.done (s := 2) (r := .vl (.bool (decide (x % 2 = 1)))) rfl rfl rfl
  · refine SC.region ?_
    refine PW.fac ⟨pb1, 1, none⟩ rfl rfl rfl rfl rfl facJ1 ?_
    refine PW.flc (s := 1) (.slice A xs.length c) rfl rfl rfl rfl rfl rfl flcJ1 ?_
    refine PW.qn [(.tmp 4, .slice A xs.length c)] (.int .i64 (xs.length : Int)) rfl rfl rfl ⟨rfl, trivial⟩ (fun ρ W h => by obtain ⟨h1, _⟩ := h; exact r_lenI h1) ?_
    refine PW.q2 (x := .tmp 5) (y := .const (.int .i64 0)) (.bool false) rfl rfl rfl rfl rfl (fun ρ W h1 h2 => by exact r_gt h1 h2 (decide_eq_false h0)) ?_
    refine PW.move rfl rfl rfl rfl rfl ?_
    refine PW.skip rfl rfl rfl ?_
    refine PW.skip rfl rfl rfl ?_
    refine PW.skip rfl rfl rfl ?_
    refine PW.skip rfl rfl rfl ?_
    refine PW.skip rfl rfl rfl ?_
    refine PW.skip rfl rfl rfl ?_
    refine PW.pick (t := false) rfl rfl rfl rfl rfl rfl ?_
    refine PW.assign rfl rfl rfl rfl rfl ?_
    refine PW.nil ?_
    refine SX.then ?_
    refine SC.ret ?_
    have hr : decide (x % 2 = 1) = false := by have e2 := e; rw [List.eq_nil_of_length_eq_zero (show xs.length = 0 by omega)] at e2; simp only [lv] at e2; exact decide_eq_false (by omega)
    rw [hr]
    exact SX.done (s := 2) (r := .vl (.bool false)) rfl rfl rfl

set_option maxHeartbeats 3200000 in
set_option maxRecDepth 100000 in
theorem rint64_c {x : Int} {A : Option Addr} {c : Nat} {xs : List Int} {a : Nat} {w : World} (hX : KJ x (.agg #[.bool (decide (x < 0)), .slice A xs.length c]) w) (X : bd a x) (ha : a ≤ 400000) (rA : Rd w .i64 A xs) (dx : dg 65536 xs) (tx : top xs) (hx : xs.length ≤ 2000000) (e : lv 65536 xs = (x.natAbs : Int)) :
    Calls Try.prog 44 #[.agg #[.bool (decide (x < 0)), .slice A xs.length c]] w (Ret w (KZ x)) := by
  refine calls_sc (l := [.vl (.agg #[.bool (decide (x < 0)), .slice A xs.length c])]) (us := [.agg #[.bool (decide (x < 0)), .slice A xs.length c]]) 39 Try.func44 rfl Try.ntmps44 (by simp) ⟨rfl, rfl, trivial⟩ ?_
  refine SC.seq ?_
  refine SC.region ?_
  refine PW.boxc (x := .tmp 0) (BI 31) rfl rfl rfl rfl rfl bJ rfl ⟨_, _, _, _, _, rfl, rfl⟩ fun pb1 => ?_
  refine PW.assign rfl rfl rfl rfl rfl ?_
  refine PW.assign rfl rfl rfl rfl rfl ?_
  refine PW.nil ?_
  refine SX.then ?_
  refine SC.seq ?_
  refine SC.seq ?_
  by_cases hm : x < (-9223372036854775808)
  · refine SC.dx [.val 6 (.kw (KJ (x))), .val 7 (.kw (KJ (-9223372036854775808))), .val 8 (.vl (.int .i64 (cmp x (-9223372036854775808)))), .val 9 (.vl (.bool true)), .val 10 (.vl (.bool true)), .val 11 (.vl (undef)), .val 12 (.vl (undef)), .val 13 (.vl (undef)), .val 14 (.vl (undef)), .val 15 (.vl (.bool true))] [([], [1]), ([], []), ([0, 1], []), ([2], []), ([3], []), ([4], []), ([4], []), ([4], []), ([4], []), ([4], [])] rfl (by kernel_rfl) (by kernel_rfl) (by kernel_rfl) rfl ⟨?_, ?_, ?_, ?_, ?_, ?_, ?_, ?_, ?_, ?_, trivial⟩ ?_
    · exact DX.loadck (k := KJ (x)) rfl rfl rfl rfl rfl rfl rfl hX (KJ.st _)
    · exact DX.call (r := .kw (KJ (-9223372036854775808))) rfl rfl rfl rfl rfl rfl (KJ.st _) rfl (k_jnew (by decide))
    · exact DX.call (r := .vl (.int .i64 (cmp x (-9223372036854775808)))) rfl rfl rfl rfl rfl rfl (KV.st _) rfl (k_jcmp X ((bd_i64 (by decide))) (by first | decide | omega) (by first | decide | omega) rfl)
    · exact DX.q2 (x := .tmp 8) (y := .const (.int .i64 0)) (.bool true) rfl rfl rfl rfl rfl (fun ρ W h1 h2 => by exact r_lt h1 h2 (decide_eq_true (by rw [cmp_lt hm]; decide)))
    · exact DX.move rfl rfl rfl rfl rfl rfl
    · exact DX.skip rfl rfl rfl
    · exact DX.skip rfl rfl rfl
    · exact DX.skip rfl rfl rfl
    · exact DX.skip rfl rfl rfl
    · exact DX.pick (t := true) rfl rfl rfl rfl rfl rfl rfl
    refine SX.then ?_
    refine SC.cond (t := true) rfl ?_
    refine SC.seq ?_
    refine SC.region ?_
    refine PW.assign rfl rfl rfl rfl rfl ?_
    refine PW.assign rfl rfl rfl rfl rfl ?_
    refine PW.nil ?_
    refine SX.then ?_
    refine SC.ret ?_
    refine SX.thenR ?_
    rw [KZ_no (by omega)]
    exact SX.done2t (s := 2) (t := 3) (.inl rfl) rfl rfl rfl rfl
  · by_cases hM : 9223372036854775807 < x
    · refine SC.dx [.val 6 (.kw (KJ (x))), .val 7 (.kw (KJ (-9223372036854775808))), .val 8 (.vl (.int .i64 (cmp x (-9223372036854775808)))), .val 9 (.vl (.bool false)), .val 10 (.vl (.bool false)), .val 11 (.kw (KJ (x))), .val 12 (.kw (KJ (9223372036854775807))), .val 13 (.vl (.int .i64 (cmp x 9223372036854775807))), .val 14 (.vl (.bool true)), .val 15 (.vl (.bool true))] [([], [1]), ([], []), ([0, 1], []), ([2], []), ([3], []), ([4], [1]), ([4], []), ([5, 6, 4], []), ([7, 4], []), ([4, 8], [])] rfl (by kernel_rfl) (by kernel_rfl) (by kernel_rfl) rfl ⟨?_, ?_, ?_, ?_, ?_, ?_, ?_, ?_, ?_, ?_, trivial⟩ ?_
      · exact DX.loadck (k := KJ (x)) rfl rfl rfl rfl rfl rfl rfl hX (KJ.st _)
      · exact DX.call (r := .kw (KJ (-9223372036854775808))) rfl rfl rfl rfl rfl rfl (KJ.st _) rfl (k_jnew (by decide))
      · exact DX.call (r := .vl (.int .i64 (cmp x (-9223372036854775808)))) rfl rfl rfl rfl rfl rfl (KV.st _) rfl (k_jcmp X ((bd_i64 (by decide))) (by first | decide | omega) (by first | decide | omega) rfl)
      · exact DX.q2 (x := .tmp 8) (y := .const (.int .i64 0)) (.bool false) rfl rfl rfl rfl rfl (fun ρ W h1 h2 => by exact r_lt h1 h2 (decide_eq_false (by have := cmp_ge0 (show (-9223372036854775808) ≤ x by omega); omega)))
      · exact DX.move rfl rfl rfl rfl rfl rfl
      · exact DX.loadck (k := KJ (x)) rfl rfl rfl rfl rfl rfl rfl hX (KJ.st _)
      · exact DX.call (r := .kw (KJ (9223372036854775807))) rfl rfl rfl rfl rfl rfl (KJ.st _) rfl (k_jnew (by decide))
      · exact DX.call (r := .vl (.int .i64 (cmp x 9223372036854775807))) rfl rfl rfl rfl rfl rfl (KV.st _) rfl (k_jcmp X ((bd_i64 (by decide))) (by first | decide | omega) (by first | decide | omega) rfl)
      · exact DX.q2 (x := .tmp 13) (y := .const (.int .i64 0)) (.bool true) rfl rfl rfl rfl rfl (fun ρ W h1 h2 => by exact r_gt h1 h2 (decide_eq_true (by rw [cmp_gt hM]; decide)))
      · exact DX.pick (t := false) rfl rfl rfl rfl rfl rfl rfl
      refine SX.then ?_
      refine SC.cond (t := true) rfl ?_
      refine SC.seq ?_
      refine SC.region ?_
      refine PW.assign rfl rfl rfl rfl rfl ?_
      refine PW.assign rfl rfl rfl rfl rfl ?_
      refine PW.nil ?_
      refine SX.then ?_
      refine SC.ret ?_
      refine SX.thenR ?_
      rw [KZ_no (by omega)]
      exact SX.done2t (s := 2) (t := 3) (.inl rfl) rfl rfl rfl rfl
    · have hm2 : (-9223372036854775808) ≤ x := by omega
      have hM2 : x ≤ 9223372036854775807 := by omega
      refine SC.dx [.val 6 (.kw (KJ (x))), .val 7 (.kw (KJ (-9223372036854775808))), .val 8 (.vl (.int .i64 (cmp x (-9223372036854775808)))), .val 9 (.vl (.bool false)), .val 10 (.vl (.bool false)), .val 11 (.kw (KJ (x))), .val 12 (.kw (KJ (9223372036854775807))), .val 13 (.vl (.int .i64 (cmp x 9223372036854775807))), .val 14 (.vl (.bool false)), .val 15 (.vl (.bool false))] [([], [1]), ([], []), ([0, 1], []), ([2], []), ([3], []), ([4], [1]), ([4], []), ([5, 6, 4], []), ([7, 4], []), ([4, 8], [])] rfl (by kernel_rfl) (by kernel_rfl) (by kernel_rfl) rfl ⟨?_, ?_, ?_, ?_, ?_, ?_, ?_, ?_, ?_, ?_, trivial⟩ ?_
      · exact DX.loadck (k := KJ (x)) rfl rfl rfl rfl rfl rfl rfl hX (KJ.st _)
      · exact DX.call (r := .kw (KJ (-9223372036854775808))) rfl rfl rfl rfl rfl rfl (KJ.st _) rfl (k_jnew (by decide))
      · exact DX.call (r := .vl (.int .i64 (cmp x (-9223372036854775808)))) rfl rfl rfl rfl rfl rfl (KV.st _) rfl (k_jcmp X ((bd_i64 (by decide))) (by first | decide | omega) (by first | decide | omega) rfl)
      · exact DX.q2 (x := .tmp 8) (y := .const (.int .i64 0)) (.bool false) rfl rfl rfl rfl rfl (fun ρ W h1 h2 => by exact r_lt h1 h2 (decide_eq_false (by have := cmp_ge0 (show (-9223372036854775808) ≤ x by omega); omega)))
      · exact DX.move rfl rfl rfl rfl rfl rfl
      · exact DX.loadck (k := KJ (x)) rfl rfl rfl rfl rfl rfl rfl hX (KJ.st _)
      · exact DX.call (r := .kw (KJ (9223372036854775807))) rfl rfl rfl rfl rfl rfl (KJ.st _) rfl (k_jnew (by decide))
      · exact DX.call (r := .vl (.int .i64 (cmp x 9223372036854775807))) rfl rfl rfl rfl rfl rfl (KV.st _) rfl (k_jcmp X ((bd_i64 (by decide))) (by first | decide | omega) (by first | decide | omega) rfl)
      · exact DX.q2 (x := .tmp 13) (y := .const (.int .i64 0)) (.bool false) rfl rfl rfl rfl rfl (fun ρ W h1 h2 => by exact r_gt h1 h2 (decide_eq_false (by have := cmp_np (show x ≤ 9223372036854775807 by omega); omega)))
      · exact DX.pick (t := false) rfl rfl rfl rfl rfl rfl rfl
      refine SX.then ?_
      refine SC.cond (t := false) rfl ?_
      refine SC.skip ?_
      refine SX.then ?_
      refine SC.seq ?_
      refine SC.region ?_
      refine PW.assign rfl rfl rfl rfl rfl ?_
      refine PW.nil ?_
      refine SX.then ?_
      refine SC.seq ?_
      refine SC.seq ?_
      refine SC.region ?_
      refine PW.fac ⟨pb1, 1, none⟩ rfl rfl rfl rfl rfl facJ1 ?_
      refine PW.flc (s := 1) (.slice A xs.length c) rfl rfl rfl rfl rfl rfl flcJ1 ?_
      refine PW.qn [(.tmp 17, .slice A xs.length c)] (.int .i64 (xs.length : Int)) rfl rfl rfl ⟨rfl, trivial⟩ (fun ρ W h => by obtain ⟨h1, _⟩ := h; exact r_lenI h1) ?_
      refine PW.q2 (x := .tmp 18) (y := .const (.int .i64 1)) (.int .i64 ((xs.length : Int) - 1)) rfl rfl rfl rfl rfl (fun ρ W h1 h2 => by exact r_sub h1 h2 (rfl) (by omega)) ?_
      refine PW.assign rfl rfl rfl rfl rfl ?_
      refine PW.nil ?_
      refine SX.then ?_
      refine SC.block ?_
      refine SC.loop (S := Nat × Int) (fun ⟨t, u⟩ => [(1, .bc (BI 31) pb1 (.agg #[.bool (decide (x < 0)), .slice A xs.length c])), (4, .vl (.int .u64 (u))), (5, .vl (.int .i64 ((t : Int) - 1)))]) (fun ⟨t, u⟩ => t ≤ xs.length ∧ u = lv 65536 (xs.drop t)) (fun ⟨t, u⟩ => t) (xs.length, 0) ⟨Nat.le_refl _, by rw [List.drop_length]; rfl⟩ ⟨rfl, rfl, rfl, trivial⟩ ?_
      rintro ⟨t, u⟩ ⟨hP, hu⟩
      show SC _ _ _ _ [(1, .bc (BI 31) pb1 (.agg #[.bool (decide (x < 0)), .slice A xs.length c])), (4, .vl (.int .u64 (u))), (5, .vl (.int .i64 ((t : Int) - 1)))] _
      refine SC.seq ?_
      refine SC.seq ?_
      by_cases ht : (0 : Int) ≤ (t : Int) - 1
      · obtain ⟨i, rfl⟩ : ∃ i, t = i + 1 := ⟨t - 1, by omega⟩
        rw [show ((i + 1 : Nat) : Int) - 1 = (i : Int) by omega]
        rw [show ((i + 1 : Nat) : Int) - 1 = (i : Int) by omega] at ht
        have hdr : lv 65536 (xs.drop i) = at0 xs i + 65536 * lv 65536 (xs.drop (i + 1)) := lv_drop 65536 xs i (by omega)
        have hai := dg_at dx BJ_pos i
        have hd0 := lv_nonneg BJ_pos (dg_drop dx (i + 1))
        have hd1 := drop_le dx (i := i + 1) (by omega)
        have hd2 := drop_le dx (i := i) (by omega)
        rw [e] at hd2
        rw [e] at hd1
        rw [← hu] at hdr hd0 hd1
        refine SC.region ?_
        refine PW.move rfl rfl rfl rfl rfl ?_
        refine PW.q2 (x := .tmp 20) (y := .const (.int .i64 0)) (.bool true) rfl rfl rfl rfl rfl (fun ρ W h1 h2 => by exact r_ge h1 h2 (decide_eq_true ht)) ?_
        refine PW.nil ?_
        refine SX.then ?_
        refine SC.cond (t := true) rfl ?_
        refine SC.skip ?_
        refine SX.then ?_
        refine SC.seq ?_
        refine SC.block ?_
        refine SC.region ?_
        refine PW.move rfl rfl rfl rfl rfl ?_
        refine PW.q2 (x := .tmp 24) (y := .const (.int .u64 65536)) (.int .u64 (u * 65536)) rfl rfl rfl rfl rfl (fun ρ W h1 h2 => by exact r_mul6 h1 h2 rfl (by omega)) ?_
        refine PW.fac ⟨pb1, 1, none⟩ rfl rfl rfl rfl rfl facJ1 ?_
        refine PW.flc (s := 1) (.slice A xs.length c) rfl rfl rfl rfl rfl rfl flcJ1 ?_
        refine PW.move rfl rfl rfl rfl rfl ?_
        refine PW.q2 (x := .tmp 27) (y := .tmp 28) (.pointer (padd A i)) rfl rfl rfl rfl rfl (fun ρ W h1 h2 => r_idxRI rA h1 h2 (by omega)) ?_
        refine PW.iget (i := i) rfl rfl rfl rfl rfl rfl rA (by omega) r_l64 ?_
        refine PW.q1 (x := .tmp 30) (.int .u64 (at0 xs i)) rfl rfl rfl rfl (fun ρ W h1 => by exact r_i64u h1 (by omega)) ?_
        refine PW.q2 (x := .tmp 25) (y := .tmp 31) (.int .u64 (lv 65536 (xs.drop i))) rfl rfl rfl rfl rfl (fun ρ W h1 h2 => by exact r_add6 h1 h2 (by rw [hdr]; omega) (by omega)) ?_
        refine PW.assign rfl rfl rfl rfl rfl ?_
        refine PW.nil ?_
        refine SX.blockN ?_
        refine SX.then ?_
        refine SC.region ?_
        refine PW.move rfl rfl rfl rfl rfl ?_
        refine PW.q2 (x := .tmp 22) (y := .const (.int .i64 1)) (.int .i64 ((i : Int) - 1)) rfl rfl rfl rfl rfl (fun ρ W h1 h2 => by exact r_sub h1 h2 (rfl) (by omega)) ?_
        refine PW.assign rfl rfl rfl rfl rfl ?_
        refine PW.nil ?_
        refine SX.back (i, lv 65536 (xs.drop i)) ?_ ?_ ?_
        · exact ⟨by omega, rfl⟩
        · exact (show i < i + 1 by omega)
        · exact ⟨rfl, rfl, rfl, trivial⟩
      · obtain rfl : t = 0 := by omega
        rw [List.drop_zero, e] at hu
        subst hu
        refine SC.region ?_
        refine PW.move rfl rfl rfl rfl rfl ?_
        refine PW.q2 (x := .tmp 20) (y := .const (.int .i64 0)) (.bool false) rfl rfl rfl rfl rfl (fun ρ W h1 h2 => by exact r_ge h1 h2 (decide_eq_false ht)) ?_
        refine PW.nil ?_
        refine SX.then ?_
        refine SC.cond (t := false) rfl ?_
        refine SC.exit ?_
        refine SX.thenE ?_
        refine SX.thenE ?_
        refine SX.blockE ?_
        refine SX.then ?_
        refine SC.seq ?_
        refine SC.seq ?_
        by_cases nx : x < 0
        · rw [decide_eq_true nx]
          refine SC.region ?_
          refine PW.fac ⟨pb1, 0, none⟩ rfl rfl rfl rfl rfl facJ0 ?_
          refine PW.flc (s := 1) (.bool true) rfl rfl rfl rfl rfl rfl flcJ0 ?_
          refine PW.nil ?_
          refine SX.then ?_
          refine SC.cond (t := true) rfl ?_
          refine SC.region ?_
          refine PW.move rfl rfl rfl rfl rfl ?_
          refine PW.q1 (x := .tmp 35) (.int .u64 ((-(x.natAbs : Int)) % 18446744073709551616)) rfl rfl rfl rfl (fun ρ W h1 => by exact r_negu h1) ?_
          refine PW.assign rfl rfl rfl rfl rfl ?_
          refine PW.nil ?_
          refine SX.then ?_
          refine SC.seq ?_
          refine SC.region ?_
          refine PW.move rfl rfl rfl rfl rfl ?_
          refine PW.q1 (x := .tmp 37) (.int .i64 (x)) rfl rfl rfl rfl (fun ρ W h1 => by exact r_u64i h1 (by rw [show (x.natAbs : Int) = -x by omega, Int.neg_neg]; exact wrapx hm2 hM2)) ?_
          refine PW.assign rfl rfl rfl rfl rfl ?_
          refine PW.assign rfl rfl rfl rfl rfl ?_
          refine PW.nil ?_
          refine SX.then ?_
          refine SC.ret ?_
          rw [KZ_yes hm2 hM2]
          exact SX.done2t (s := 2) (t := 3) (.inl rfl) rfl rfl rfl rfl
        · rw [decide_eq_false nx]
          refine SC.region ?_
          refine PW.fac ⟨pb1, 0, none⟩ rfl rfl rfl rfl rfl facJ0 ?_
          refine PW.flc (s := 1) (.bool false) rfl rfl rfl rfl rfl rfl flcJ0 ?_
          refine PW.nil ?_
          refine SX.then ?_
          refine SC.cond (t := false) rfl ?_
          refine SC.skip ?_
          refine SX.then ?_
          refine SC.seq ?_
          refine SC.region ?_
          refine PW.move rfl rfl rfl rfl rfl ?_
          refine PW.q1 (x := .tmp 37) (.int .i64 (x)) rfl rfl rfl rfl (fun ρ W h1 => by exact r_u64i h1 (by rw [show (x.natAbs : Int) = x by omega]; exact IntWalk.i64_in _ (by omega))) ?_
          refine PW.assign rfl rfl rfl rfl rfl ?_
          refine PW.assign rfl rfl rfl rfl rfl ?_
          refine PW.nil ?_
          refine SX.then ?_
          refine SC.ret ?_
          rw [KZ_yes hm2 hM2]
          exact SX.done2t (s := 2) (t := 3) (.inl rfl) rfl rfl rfl rfl

set_option maxHeartbeats 3200000 in
set_option maxRecDepth 100000 in
theorem int64_c {x : Int} {A : Option Addr} {c : Nat} {xs : List Int} {w : World} (rA : Rd w .u32 A xs) (dx : dg b32 xs) (tx : top xs) (hx : xs.length ≤ 2000000) (e : lv b32 xs = (x.natAbs : Int)) :
    Calls Try.prog 43 #[.agg #[.bool (decide (x < 0)), .slice A xs.length c]] w (Ret w (KZ x)) := by
  refine calls_sc (l := [.vl (.agg #[.bool (decide (x < 0)), .slice A xs.length c])]) (us := [.agg #[.bool (decide (x < 0)), .slice A xs.length c]]) 47 Try.func43 rfl Try.ntmps43 (by simp) ⟨rfl, rfl, trivial⟩ ?_
  refine SC.seq ?_
  refine SC.region ?_
  refine PW.boxc (x := .tmp 0) (BI 28) rfl rfl rfl rfl rfl bI rfl ⟨_, _, _, _, _, rfl, rfl⟩ fun pb1 => ?_
  refine PW.assign rfl rfl rfl rfl rfl ?_
  refine PW.assign rfl rfl rfl rfl rfl ?_
  refine PW.nil ?_
  refine SX.then ?_
  refine SC.seq ?_
  refine SC.seq ?_
  by_cases hl : (xs.length : Int) > 2
  · refine SC.region ?_
    refine PW.fac ⟨pb1, 1, none⟩ rfl rfl rfl rfl rfl facI1 ?_
    refine PW.flc (s := 1) (.slice A xs.length c) rfl rfl rfl rfl rfl rfl flcI1 ?_
    refine PW.qn [(.tmp 8, .slice A xs.length c)] (.int .i64 (xs.length : Int)) rfl rfl rfl ⟨rfl, trivial⟩ (fun ρ W h => by obtain ⟨h1, _⟩ := h; exact r_len h1) ?_
    refine PW.q2 (x := .tmp 9) (y := .const (.int .i64 2)) (.bool true) rfl rfl rfl rfl rfl (fun ρ W h1 h2 => by exact r_gt h1 h2 (decide_eq_true hl)) ?_
    refine PW.nil ?_
    refine SX.then ?_
    refine SC.cond (t := true) rfl ?_
    refine SC.seq ?_
    refine SC.region ?_
    refine PW.assign rfl rfl rfl rfl rfl ?_
    refine PW.assign rfl rfl rfl rfl rfl ?_
    refine PW.nil ?_
    refine SX.then ?_
    refine SC.ret ?_
    refine SX.thenR ?_
    have hbig := int64_big dx tx e (by omega)
    rw [KZ_no (by omega)]
    exact SX.done2t (s := 2) (t := 3) (.inl rfl) rfl rfl rfl rfl
  · refine SC.region ?_
    refine PW.fac ⟨pb1, 1, none⟩ rfl rfl rfl rfl rfl facI1 ?_
    refine PW.flc (s := 1) (.slice A xs.length c) rfl rfl rfl rfl rfl rfl flcI1 ?_
    refine PW.qn [(.tmp 8, .slice A xs.length c)] (.int .i64 (xs.length : Int)) rfl rfl rfl ⟨rfl, trivial⟩ (fun ρ W h => by obtain ⟨h1, _⟩ := h; exact r_len h1) ?_
    refine PW.q2 (x := .tmp 9) (y := .const (.int .i64 2)) (.bool false) rfl rfl rfl rfl rfl (fun ρ W h1 h2 => by exact r_gt h1 h2 (decide_eq_false hl)) ?_
    refine PW.nil ?_
    refine SX.then ?_
    refine SC.cond (t := false) rfl ?_
    refine SC.skip ?_
    refine SX.then ?_
    refine SC.seq ?_
    refine SC.region ?_
    refine PW.assign rfl rfl rfl rfl rfl ?_
    refine PW.nil ?_
    refine SX.then ?_
    refine SC.seq ?_
    refine SC.seq ?_
    refine SC.region ?_
    refine PW.fac ⟨pb1, 1, none⟩ rfl rfl rfl rfl rfl facI1 ?_
    refine PW.flc (s := 1) (.slice A xs.length c) rfl rfl rfl rfl rfl rfl flcI1 ?_
    refine PW.qn [(.tmp 12, .slice A xs.length c)] (.int .i64 (xs.length : Int)) rfl rfl rfl ⟨rfl, trivial⟩ (fun ρ W h => by obtain ⟨h1, _⟩ := h; exact r_len h1) ?_
    refine PW.move rfl rfl rfl rfl rfl ?_
    refine PW.nil ?_
    refine SX.then ?_
    refine SC.block ?_
    refine SC.loop (S := Nat) (fun i => [(1, .bc (BI 28) pb1 (.agg #[.bool (decide (x < 0)), .slice A xs.length c])), (4, .vl (.int .u64 (lv b32 (xs.take i)))), (12, .vl (.slice A xs.length c)), (13, .vl (.int .i64 (xs.length : Int))), (14, .vl (.int .i64 (i : Int)))]) (fun i => i ≤ xs.length) (fun i => xs.length - i) 0 (Nat.zero_le _) ⟨rfl, rfl, rfl, rfl, rfl, trivial⟩ ?_
    rintro i hP
    refine SC.seq ?_
    by_cases hi : (i : Int) < (xs.length : Int)
    · refine SC.region ?_
      refine PW.q2 (x := .tmp 14) (y := .tmp 13) (.bool true) rfl rfl rfl rfl rfl (fun ρ W h1 h2 => by exact r_lt h1 h2 (decide_eq_true hi)) ?_
      refine PW.nil ?_
      refine SX.then ?_
      refine SC.seq ?_
      refine SC.cond (t := true) rfl ?_
      refine SC.skip ?_
      refine SX.then ?_
      refine SC.seq ?_
      refine SC.block ?_
      refine SC.seq ?_
      refine SC.region ?_
      refine PW.move rfl rfl rfl rfl rfl ?_
      refine PW.q2 (x := .tmp 12) (y := .tmp 14) (.pointer (padd A i)) rfl rfl rfl rfl rfl (fun ρ W h1 h2 => r_idxR rA h1 h2 (by omega)) ?_
      refine PW.iget (i := i) rfl rfl rfl rfl rfl rfl rA (by omega) r_l32 ?_
      refine PW.assign rfl rfl rfl rfl rfl ?_
      refine PW.assign rfl rfl rfl rfl rfl ?_
      refine PW.nil ?_
      refine SX.then ?_
      refine SC.region ?_
      refine PW.move rfl rfl rfl rfl rfl ?_
      refine PW.move rfl rfl rfl rfl rfl ?_
      refine PW.q1 (x := .tmp 20) (.int .u64 (at0 xs i)) rfl rfl rfl rfl (fun ρ W h1 => by exact r_64 h1 (dg32 dx i)) ?_
      refine PW.move rfl rfl rfl rfl rfl ?_
      refine PW.q2 (x := .const (.int .i64 32)) (y := .tmp 22) (.int .i64 (32 * (i : Int))) rfl rfl rfl rfl rfl (fun ρ W h1 h2 => by exact r_mul h1 h2 (rfl) (by omega)) ?_
      refine PW.q2 (x := .tmp 21) (y := .tmp 23) (.int .u64 (at0 xs i * b32 ^ i)) rfl rfl rfl rfl rfl (fun ρ W h1 h2 => by exact r_shl32 h1 h2 (dg32 dx i) (by omega)) ?_
      refine PW.q2 (x := .tmp 19) (y := .tmp 24) (.int .u64 (lv b32 (xs.take (i + 1)))) rfl rfl rfl rfl rfl (fun ρ W h1 h2 => by exact r_orx h1 h2 (take_or dx (by omega) (by omega))) ?_
      refine PW.assign rfl rfl rfl rfl rfl ?_
      refine PW.nil ?_
      refine SX.blockN ?_
      refine SX.then ?_
      refine SC.region ?_
      refine PW.q2 (x := .tmp 14) (y := .const (.int .i64 1)) (.int .i64 ((i + 1 : Nat))) rfl rfl rfl rfl rfl (fun ρ W h1 h2 => by exact r_add h1 h2 (by omega) (by omega)) ?_
      refine PW.move rfl rfl rfl rfl rfl ?_
      refine PW.nil ?_
      refine SX.back (i + 1) ?_ ?_ ?_
      · exact (show i + 1 ≤ xs.length by omega)
      · exact (show xs.length - (i + 1) < xs.length - i by omega)
      · exact ⟨rfl, rfl, rfl, rfl, rfl, trivial⟩
    · obtain rfl : i = xs.length := by omega
      rw [List.take_length, e]
      refine SC.region ?_
      refine PW.q2 (x := .tmp 14) (y := .tmp 13) (.bool false) rfl rfl rfl rfl rfl (fun ρ W h1 h2 => by exact r_lt h1 h2 (decide_eq_false hi)) ?_
      refine PW.nil ?_
      refine SX.then ?_
      refine SC.seq ?_
      refine SC.cond (t := false) rfl ?_
      refine SC.exit ?_
      refine SX.thenE ?_
      refine SX.thenE ?_
      refine SX.blockE ?_
      refine SX.then ?_
      refine SC.seq ?_
      refine SC.block ?_
      refine SC.seq ?_
      by_cases nx : x < 0
      · rw [decide_eq_true nx]
        by_cases hu : (x.natAbs : Int) ≤ 9223372036854775808
        · refine SC.region ?_
          refine PW.fac ⟨pb1, 0, none⟩ rfl rfl rfl rfl rfl facI0 ?_
          refine PW.flc (s := 1) (.bool true) rfl rfl rfl rfl rfl rfl flcI0 ?_
          refine PW.move rfl rfl rfl rfl rfl ?_
          refine PW.move rfl rfl rfl rfl rfl ?_
          refine PW.q2 (x := .tmp 31) (y := .const (.int .u64 9223372036854775808)) (.bool true) rfl rfl rfl rfl rfl (fun ρ W h1 h2 => by exact r_le6 h1 h2 (decide_eq_true hu)) ?_
          refine PW.pick (t := true) rfl rfl rfl rfl rfl rfl ?_
          refine PW.assign rfl rfl rfl rfl rfl ?_
          refine PW.nil ?_
          refine SX.then ?_
          refine SC.cond (t := true) rfl ?_
          refine SC.seq ?_
          refine SC.region ?_
          refine PW.move rfl rfl rfl rfl rfl ?_
          refine PW.q1 (x := .tmp 34) (.int .i64 (IntKind.i64.wrap (x.natAbs : Int))) rfl rfl rfl rfl (fun ρ W h1 => by exact r_u64i h1 rfl) ?_
          refine PW.q1 (x := .tmp 35) (.int .i64 (x)) rfl rfl rfl rfl (fun ρ W h1 => by exact r_negi h1 (by rw [show (x.natAbs : Int) = -x by omega]; exact wrapy (by omega) (by omega))) ?_
          refine PW.assign rfl rfl rfl rfl rfl ?_
          refine PW.assign rfl rfl rfl rfl rfl ?_
          refine PW.nil ?_
          refine SX.then ?_
          refine SC.ret ?_
          refine SX.blockR ?_
          refine SX.thenR ?_
          rw [KZ_yes (by omega) (by omega)]
          exact SX.done2t (s := 2) (t := 3) (.inl rfl) rfl rfl rfl rfl
        · refine SC.region ?_
          refine PW.fac ⟨pb1, 0, none⟩ rfl rfl rfl rfl rfl facI0 ?_
          refine PW.flc (s := 1) (.bool true) rfl rfl rfl rfl rfl rfl flcI0 ?_
          refine PW.move rfl rfl rfl rfl rfl ?_
          refine PW.move rfl rfl rfl rfl rfl ?_
          refine PW.q2 (x := .tmp 31) (y := .const (.int .u64 9223372036854775808)) (.bool false) rfl rfl rfl rfl rfl (fun ρ W h1 h2 => by exact r_le6 h1 h2 (decide_eq_false hu)) ?_
          refine PW.pick (t := true) rfl rfl rfl rfl rfl rfl ?_
          refine PW.assign rfl rfl rfl rfl rfl ?_
          refine PW.nil ?_
          refine SX.then ?_
          refine SC.cond (t := false) rfl ?_
          refine SC.seq ?_
          refine SC.region ?_
          refine PW.fac ⟨pb1, 0, none⟩ rfl rfl rfl rfl rfl facI0 ?_
          refine PW.flc (s := 1) (.bool true) rfl rfl rfl rfl rfl rfl flcI0 ?_
          refine PW.q1 (x := .tmp 39) (.bool false) rfl rfl rfl rfl (fun ρ W h1 => by go_simp) ?_
          refine PW.move rfl rfl rfl rfl rfl ?_
          refine PW.skip rfl rfl rfl ?_
          refine PW.skip rfl rfl rfl ?_
          refine PW.pick (t := false) rfl rfl rfl rfl rfl rfl ?_
          refine PW.assign rfl rfl rfl rfl rfl ?_
          refine PW.nil ?_
          refine SX.then ?_
          refine SC.cond (t := false) rfl ?_
          refine SC.skip ?_
          refine SX.blockN ?_
          refine SX.then ?_
          refine SC.seq ?_
          refine SC.region ?_
          refine PW.assign rfl rfl rfl rfl rfl ?_
          refine PW.assign rfl rfl rfl rfl rfl ?_
          refine PW.nil ?_
          refine SX.then ?_
          refine SC.ret ?_
          rw [KZ_no (by omega)]
          exact SX.done2t (s := 2) (t := 3) (.inl rfl) rfl rfl rfl rfl
      · rw [decide_eq_false nx]
        refine SC.region ?_
        refine PW.fac ⟨pb1, 0, none⟩ rfl rfl rfl rfl rfl facI0 ?_
        refine PW.flc (s := 1) (.bool false) rfl rfl rfl rfl rfl rfl flcI0 ?_
        refine PW.move rfl rfl rfl rfl rfl ?_
        refine PW.skip rfl rfl rfl ?_
        refine PW.skip rfl rfl rfl ?_
        refine PW.pick (t := false) rfl rfl rfl rfl rfl rfl ?_
        refine PW.assign rfl rfl rfl rfl rfl ?_
        refine PW.nil ?_
        refine SX.then ?_
        refine SC.cond (t := false) rfl ?_
        refine SC.seq ?_
        by_cases hv : (x.natAbs : Int) < 9223372036854775808
        · refine SC.region ?_
          refine PW.fac ⟨pb1, 0, none⟩ rfl rfl rfl rfl rfl facI0 ?_
          refine PW.flc (s := 1) (.bool false) rfl rfl rfl rfl rfl rfl flcI0 ?_
          refine PW.q1 (x := .tmp 39) (.bool true) rfl rfl rfl rfl (fun ρ W h1 => by go_simp) ?_
          refine PW.move rfl rfl rfl rfl rfl ?_
          refine PW.move rfl rfl rfl rfl rfl ?_
          refine PW.q2 (x := .tmp 42) (y := .const (.int .u64 9223372036854775808)) (.bool true) rfl rfl rfl rfl rfl (fun ρ W h1 h2 => by exact r_lt6 h1 h2 (decide_eq_true hv)) ?_
          refine PW.pick (t := true) rfl rfl rfl rfl rfl rfl ?_
          refine PW.assign rfl rfl rfl rfl rfl ?_
          refine PW.nil ?_
          refine SX.then ?_
          refine SC.cond (t := true) rfl ?_
          refine SC.seq ?_
          refine SC.region ?_
          refine PW.move rfl rfl rfl rfl rfl ?_
          refine PW.q1 (x := .tmp 45) (.int .i64 (x)) rfl rfl rfl rfl (fun ρ W h1 => by exact r_u64i h1 (by rw [show (x.natAbs : Int) = x by omega]; exact IntWalk.i64_in _ (by omega))) ?_
          refine PW.assign rfl rfl rfl rfl rfl ?_
          refine PW.assign rfl rfl rfl rfl rfl ?_
          refine PW.nil ?_
          refine SX.then ?_
          refine SC.ret ?_
          refine SX.blockR ?_
          refine SX.thenR ?_
          rw [KZ_yes (by omega) (by omega)]
          exact SX.done2t (s := 2) (t := 3) (.inl rfl) rfl rfl rfl rfl
        · refine SC.region ?_
          refine PW.fac ⟨pb1, 0, none⟩ rfl rfl rfl rfl rfl facI0 ?_
          refine PW.flc (s := 1) (.bool false) rfl rfl rfl rfl rfl rfl flcI0 ?_
          refine PW.q1 (x := .tmp 39) (.bool true) rfl rfl rfl rfl (fun ρ W h1 => by go_simp) ?_
          refine PW.move rfl rfl rfl rfl rfl ?_
          refine PW.move rfl rfl rfl rfl rfl ?_
          refine PW.q2 (x := .tmp 42) (y := .const (.int .u64 9223372036854775808)) (.bool false) rfl rfl rfl rfl rfl (fun ρ W h1 h2 => by exact r_lt6 h1 h2 (decide_eq_false hv)) ?_
          refine PW.pick (t := true) rfl rfl rfl rfl rfl rfl ?_
          refine PW.assign rfl rfl rfl rfl rfl ?_
          refine PW.nil ?_
          refine SX.then ?_
          refine SC.cond (t := false) rfl ?_
          refine SC.skip ?_
          refine SX.blockN ?_
          refine SX.then ?_
          refine SC.seq ?_
          refine SC.region ?_
          refine PW.assign rfl rfl rfl rfl rfl ?_
          refine PW.assign rfl rfl rfl rfl rfl ?_
          refine PW.nil ?_
          refine SX.then ?_
          refine SC.ret ?_
          rw [KZ_no (by omega)]
          exact SX.done2t (s := 2) (t := 3) (.inl rfl) rfl rfl rfl rfl

theorem RI.num' {W : World} {n : Bool} {A : Option Addr} {l c : Nat} {z : Int} (h : RI W n A l c z) : ∃ xs, l = xs.length ∧ Rd W .u32 A xs ∧ dg b32 xs ∧ lv b32 xs = (z.natAbs : Int) ∧ top xs ∧ n = decide (z < 0) := by
  have hs := h.sign
  obtain ⟨xs, h1, h2, h3, d, t, hn, e⟩ := h
  have l0 : 0 ≤ lv b32 xs := lv_nonneg (by decide) d
  refine ⟨xs, h1, h3, d, ?_, t, hs⟩
  rw [e]; cases n <;> simp [sg] <;> omega
theorem ce_odd : CE 46 := fun args W => by go_simp
theorem ce_jodd : CE 47 := fun args W => by go_simp
theorem ce_int64 : CE 43 := fun args W => by go_simp
theorem ce_jint64 : CE 44 := fun args W => by go_simp
theorem k_odd {x : Int} {a : Nat} (X : bd a x) (ha : a ≤ 300000) : CallOk 46 [KI x] (KV (.bool (decide (x % 2 = 1)))) := callI ce_odd fun W n A l c h => by
  have hl := h.le X ha
  obtain ⟨xs, rfl, rd, d, e, t, rfl⟩ := RI.num' h
  exact odd_c rd d t (by omega) e
theorem k_int64 {x : Int} {a : Nat} (X : bd a x) (ha : a ≤ 300000) : CallOk 43 [KI x] (KZ x) := callI ce_int64 fun W n A l c h => by
  have hl := h.le X ha
  obtain ⟨xs, rfl, rd, d, e, t, rfl⟩ := RI.num' h
  exact int64_c rd d t (by omega) e
theorem k_jodd {x : Int} {a : Nat} (X : bd a x) (ha : a ≤ 1000000) : CallOk 47 [KJ x] (KV (.bool (decide (x % 2 = 1)))) := call1 ce_jodd fun W u ⟨m, A, l, c, e, h⟩ => by
  subst e
  have hl := RJ.len h X ha
  obtain ⟨xs, rfl, hc, rd, d, e, t, rfl⟩ := RJ.num h
  exact rodd_c rd d t (by omega) e
theorem k_jint64 {x : Int} {a : Nat} (X : bd a x) (ha : a ≤ 400000) : CallOk 44 [KJ x] (KZ x) := call1 ce_jint64 fun W u ⟨m, A, l, c, e, h⟩ => by
  subst e
  have hl := RJ.len h X (by omega)
  have h2 := h
  obtain ⟨xs, rfl, hc, rd, d, e, t, rfl⟩ := RJ.num h
  exact rint64_c ⟨_, _, _, _, rfl, h2⟩ X ha rd d t (by omega) e
end Go.Proofs.Ytcgkgcciogibkaa.Sy
