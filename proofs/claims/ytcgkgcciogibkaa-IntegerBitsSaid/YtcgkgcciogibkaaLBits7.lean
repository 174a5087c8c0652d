/- Parts Jz, Gc, Ib, in one file. -/
import Derived.Test.YtcgkgcciogibkaaK5
import Derived.Test.YtcgkgcciogibkaaLBits5
import Derived.Test.YtcgkgcciogibkaaLBits6
/- The reference's Bit, Boole, Count, Field, Deposit by rules. -/
set_option linter.unusedVariables false
set_option linter.unusedSimpArgs false
namespace Go.Proofs.Ytcgkgcciogibkaa.Sy
open Go Go.RowKit Ma
theorem CallOk.toB {f : FuncId} {ks : List Know} {a b : Bool} (h : CallOk f ks (KV (.bool a))) (e : a = b) : CallOk f ks (KV (.bool b)) := e ▸ h

theorem ce_k_jbit_neg : CE 21 := fun args W => by go_simp

set_option maxHeartbeats 3200000 in
set_option maxRecDepth 100000 in
theorem k_jbit_neg {x i : Int} (hi : i < 0) : CallOk 21 [KJ (x), KV (.int .i64 (i))] (KV (.bool false)) := by
  refine CallOk.enter (l := [.kw (KJ (x)), .vl (.int .i64 (i))]) 18 ce_k_jbit_neg Try.func21 rfl Try.ntmps21 (by simp) ⟨(KJ.st _), rfl, (KV.st _), rfl, trivial⟩ fun w => ?_
  refine SC.seq ?_
  refine SC.region ?_
  refine PW.box (x := .tmp 0) (r := .kw (KJ (x))) (BI 31) rfl rfl rfl rfl rfl bJ rfl sh_J ?_
  refine PW.assign rfl rfl rfl rfl rfl ?_
  refine PW.nil ?_
  refine SX.then ?_
  refine SC.seq ?_
  refine SC.seq ?_
  refine SC.region ?_
  refine PW.move rfl rfl rfl rfl rfl ?_
  refine PW.q2 (x := .tmp 5) (y := .const (.int .i64 0)) (.bool true) rfl rfl rfl rfl rfl (fun ρ W h1 h2 => by exact r_lt h1 h2 (decide_eq_true hi)) ?_
  refine PW.nil ?_
  refine SX.then ?_
  refine SC.cond (t := true) rfl ?_
  refine SC.seq ?_
  refine SC.region ?_
  refine PW.assign rfl rfl rfl rfl rfl ?_
  refine PW.nil ?_
  refine SX.then ?_
  refine SC.ret ?_
  refine SX.thenR ?_
  exact SX.done (s := 4) (r := .vl (.bool false)) rfl rfl rfl

set_option maxHeartbeats 3200000 in
set_option maxRecDepth 100000 in
theorem k_jbit {x : Int} {a i : Nat} (X : bd a x) (ha : a ≤ 400000) (hi : i ≤ 9223372036854775807) : CallOk 21 [KJ (x), KV (.int .i64 (i : Int))] (KV (.bool (tb x i))) := by
  refine CallOk.enter (l := [.kw (KJ (x)), .vl (.int .i64 (i : Int))]) 18 ce_k_jbit_neg Try.func21 rfl Try.ntmps21 (by simp) ⟨(KJ.st _), rfl, (KV.st _), rfl, trivial⟩ fun w => ?_
  refine SC.seq ?_
  refine SC.region ?_
  refine PW.box (x := .tmp 0) (r := .kw (KJ (x))) (BI 31) rfl rfl rfl rfl rfl bJ rfl sh_J ?_
  refine PW.assign rfl rfl rfl rfl rfl ?_
  refine PW.nil ?_
  refine SX.then ?_
  refine SC.seq ?_
  refine SC.seq ?_
  refine SC.region ?_
  refine PW.move rfl rfl rfl rfl rfl ?_
  refine PW.q2 (x := .tmp 5) (y := .const (.int .i64 0)) (.bool false) rfl rfl rfl rfl rfl (fun ρ W h1 h2 => by exact r_lt h1 h2 (decide_eq_false (by omega))) ?_
  refine PW.nil ?_
  refine SX.then ?_
  refine SC.cond (t := false) rfl ?_
  refine SC.skip ?_
  refine SX.then ?_
  refine SC.seq ?_
  refine SC.seq ?_
  by_cases nx : x < 0
  · refine SC.region ?_
    refine PW.fld (r := .vl (.bool true)) rfl rfl rfl rfl rfl rfl rfl rfl rfl rfl rfl (fldJ0 (decide_eq_true nx)) (KV.st _) ?_
    refine PW.nil ?_
    refine SX.then ?_
    refine SC.cond (t := true) rfl ?_
    refine SC.seq ?_
    refine SC.dx [.val 9 (.kw (KJ (-1))), .val 10 (.kw (KJ (x))), .val 11 (.kw (KJ ((-1) - x))), .val 12 (.vl (.int .i64 (i : Int))), .val 13 (.vl (.bool (tb (((-1) - x).natAbs : Int) i))), .val 14 (.vl (.bool (tb x i))), .val 4 (.vl (.bool (tb x i)))] [([], []), ([], [2]), ([0, 1], []), ([], [1]), ([2, 3], []), ([4], []), ([5], [])] rfl (by kernel_rfl) (by kernel_rfl) (by kernel_rfl) rfl ⟨?_, ?_, ?_, ?_, ?_, ?_, ?_, trivial⟩ ?_
    · exact DX.call (r := .kw (KJ (-1))) rfl rfl rfl rfl rfl rfl (KJ.st _) rfl (k_jnew (by decide))
    · exact DX.load rfl rfl rfl rfl rfl rfl
    · exact DX.call (r := .kw (KJ ((-1) - x))) rfl rfl rfl rfl rfl rfl (KJ.st _) rfl (k_jsub (bd.lit (by decide)) X (by first | decide | omega) (by first | decide | omega))
    · exact DX.move rfl rfl rfl rfl rfl rfl
    · exact DX.call (r := .vl (.bool (tb (((-1) - x).natAbs : Int) i))) rfl rfl rfl rfl rfl rfl (KV.st _) rfl (k_set ((bd.lit (by decide) : bd 1 (-1)).sub X) (by omega) (by omega))
    · exact DX.q1 (x := .tmp 13) (.bool (tb x i)) rfl rfl rfl rfl (fun ρ W h1 => by exact r_not h1 (by rw [← bits_t nx i]; cases tb ((-1 - x).natAbs : Int) i <;> rfl))
    · exact DX.assign rfl rfl rfl rfl rfl rfl
    refine SX.then ?_
    refine SC.ret ?_
    refine SX.thenR ?_
    exact SX.done (s := 4) (r := .vl (.bool (tb x i))) rfl rfl rfl
  · refine SC.region ?_
    refine PW.fld (r := .vl (.bool false)) rfl rfl rfl rfl rfl rfl rfl rfl rfl rfl rfl (fldJ0 (decide_eq_false nx)) (KV.st _) ?_
    refine PW.nil ?_
    refine SX.then ?_
    refine SC.cond (t := false) rfl ?_
    refine SC.skip ?_
    refine SX.then ?_
    refine SC.seq ?_
    refine SC.region ?_
    refine PW.load rfl rfl rfl rfl rfl rfl ?_
    refine PW.move rfl rfl rfl rfl rfl ?_
    refine PW.call (r := .vl (.bool (tb ((x).natAbs : Int) i))) rfl rfl rfl rfl rfl rfl (KV.st _) rfl (k_set X (by omega) (by omega)) ?_
    refine PW.assign rfl rfl rfl rfl rfl ?_
    refine PW.nil ?_
    refine SX.then ?_
    refine SC.ret ?_
    have hr : tb x i = tb (x.natAbs : Int) i := by rw [show (x.natAbs : Int) = x by omega]
    rw [hr]
    exact SX.done (s := 4) (r := .vl (.bool (tb ((x).natAbs : Int) i))) rfl rfl rfl

theorem ce_k_jboole_bad : CE 18 := fun args W => by go_simp

set_option maxHeartbeats 3200000 in
set_option maxRecDepth 100000 in
theorem k_jboole_bad {p x y : Int} (hp : p < 0 ∨ 15 < p) : CallOk 18 [KV (.int .i64 (p)), KJ (x), KJ (y)] (K2 (KJ 0) (KV (.int .i64 1))) := by
  refine CallOk.enter (l := [.vl (.int .i64 (p)), .kw (KJ (x)), .kw (KJ (y))]) 57 ce_k_jboole_bad Try.func18 rfl Try.ntmps18 (by simp) ⟨(KV.st _), rfl, (KJ.st _), rfl, (KJ.st _), rfl, trivial⟩ fun w => ?_
  refine SC.seq ?_
  refine SC.region ?_
  refine PW.box (x := .tmp 1) (r := .kw (KJ (x))) (BI 31) rfl rfl rfl rfl rfl bJ rfl sh_J ?_
  refine PW.box (x := .tmp 2) (r := .kw (KJ (y))) (BI 31) rfl rfl rfl rfl rfl bJ rfl sh_J ?_
  refine PW.alloc (BI 31) rfl rfl rfl rfl rfl bJ ?_
  refine PW.assign rfl rfl rfl rfl rfl ?_
  refine PW.nil ?_
  refine SX.then ?_
  refine SC.seq ?_
  refine SC.seq ?_
  by_cases hn : p < 0
  · refine SC.region ?_
    refine PW.move rfl rfl rfl rfl rfl ?_
    refine PW.q2 (x := .tmp 13) (y := .const (.int .i64 0)) (.bool true) rfl rfl rfl rfl rfl (fun ρ W h1 h2 => by exact r_lt h1 h2 (decide_eq_true hn)) ?_
    refine PW.move rfl rfl rfl rfl rfl ?_
    refine PW.skip rfl rfl rfl ?_
    refine PW.skip rfl rfl rfl ?_
    refine PW.pick (t := true) rfl rfl rfl rfl rfl rfl ?_
    refine PW.nil ?_
    refine SX.then ?_
    refine SC.cond (t := true) rfl ?_
    refine SC.seq ?_
    refine SC.region ?_
    refine PW.val (r := .kw (KJ (0))) rfl rfl rfl rfl (fun a W hf => ⟨.agg #[.bool false, .slice none 0 0], by go_simp, zeroJ W, KJ.st _⟩) ?_
    refine PW.store (x := .tmp 19) (r := .kw (KJ (0))) rfl rfl rfl rfl rfl rfl sh_J ?_
    refine PW.assign rfl rfl rfl rfl rfl ?_
    refine PW.nil ?_
    refine SX.then ?_
    refine SC.ret ?_
    refine SX.thenR ?_
    exact SX.done2 (s := 6) (t := 7) (r := .vl (.int .i64 1)) (.inl rfl) rfl rfl rfl rfl
  · refine SC.region ?_
    refine PW.move rfl rfl rfl rfl rfl ?_
    refine PW.q2 (x := .tmp 13) (y := .const (.int .i64 0)) (.bool false) rfl rfl rfl rfl rfl (fun ρ W h1 h2 => by exact r_lt h1 h2 (decide_eq_false hn)) ?_
    refine PW.move rfl rfl rfl rfl rfl ?_
    refine PW.move rfl rfl rfl rfl rfl ?_
    refine PW.q2 (x := .tmp 16) (y := .const (.int .i64 15)) (.bool true) rfl rfl rfl rfl rfl (fun ρ W h1 h2 => by exact r_gt h1 h2 (decide_eq_true (by omega))) ?_
    refine PW.pick (t := false) rfl rfl rfl rfl rfl rfl ?_
    refine PW.nil ?_
    refine SX.then ?_
    refine SC.cond (t := true) rfl ?_
    refine SC.seq ?_
    refine SC.region ?_
    refine PW.val (r := .kw (KJ (0))) rfl rfl rfl rfl (fun a W hf => ⟨.agg #[.bool false, .slice none 0 0], by go_simp, zeroJ W, KJ.st _⟩) ?_
    refine PW.store (x := .tmp 19) (r := .kw (KJ (0))) rfl rfl rfl rfl rfl rfl sh_J ?_
    refine PW.assign rfl rfl rfl rfl rfl ?_
    refine PW.nil ?_
    refine SX.then ?_
    refine SC.ret ?_
    refine SX.thenR ?_
    exact SX.done2 (s := 6) (t := 7) (r := .vl (.int .i64 1)) (.inl rfl) rfl rfl rfl rfl

set_option maxHeartbeats 3200000 in
set_option maxRecDepth 100000 in
theorem rboole_c {p x y : Int} {A1 A2 : Option Addr} {l1 c1 l2 c2 a b : Nat} {w : World} (hX : KJ x (.agg #[.bool (decide (x < 0)), .slice A1 l1 c1]) w) (hY : KJ y (.agg #[.bool (decide (y < 0)), .slice A2 l2 c2]) w) (X : bd a x) (Y : bd b y) (ha : a ≤ 100000) (hb : b ≤ 100000) (hp0 : 0 ≤ p) (hp1 : p ≤ 15) :
    Calls Try.prog 18 #[.int .i64 (p), .agg #[.bool (decide (x < 0)), .slice A1 l1 c1], .agg #[.bool (decide (y < 0)), .slice A2 l2 c2]] w (Ret w (K2 (KJ (bo p x y)) (KV (.int .i64 0)))) := by
  have wx := wid_bdp X
  have wy := wid_bdp Y
  obtain ⟨n, hn⟩ : ∃ n : Nat, n = max (wid (pat x)) (wid (pat y)) := ⟨_, rfl⟩
  refine calls_sc (l := [.vl (.int .i64 (p)), .vl (.agg #[.bool (decide (x < 0)), .slice A1 l1 c1]), .vl (.agg #[.bool (decide (y < 0)), .slice A2 l2 c2])]) (us := [.int .i64 (p), .agg #[.bool (decide (x < 0)), .slice A1 l1 c1], .agg #[.bool (decide (y < 0)), .slice A2 l2 c2]]) 57 Try.func18 rfl Try.ntmps18 (by simp) ⟨rfl, rfl, rfl, rfl, rfl, rfl, trivial⟩ ?_
  refine SC.seq ?_
  refine SC.region ?_
  refine PW.boxc (x := .tmp 1) (BI 31) rfl rfl rfl rfl rfl bJ rfl ⟨_, _, _, _, _, rfl, rfl⟩ fun pb1 => ?_
  refine PW.boxc (x := .tmp 2) (BI 31) rfl rfl rfl rfl rfl bJ rfl ⟨_, _, _, _, _, rfl, rfl⟩ fun pb2 => ?_
  refine PW.alloc (BI 31) rfl rfl rfl rfl rfl bJ ?_
  refine PW.assign rfl rfl rfl rfl rfl ?_
  refine PW.nil ?_
  refine SX.then ?_
  refine SC.seq ?_
  refine SC.seq ?_
  refine SC.region ?_
  refine PW.move rfl rfl rfl rfl rfl ?_
  refine PW.q2 (x := .tmp 13) (y := .const (.int .i64 0)) (.bool false) rfl rfl rfl rfl rfl (fun ρ W h1 h2 => by exact r_lt h1 h2 (decide_eq_false (by omega))) ?_
  refine PW.move rfl rfl rfl rfl rfl ?_
  refine PW.move rfl rfl rfl rfl rfl ?_
  refine PW.q2 (x := .tmp 16) (y := .const (.int .i64 15)) (.bool false) rfl rfl rfl rfl rfl (fun ρ W h1 h2 => by exact r_gt h1 h2 (decide_eq_false (by omega))) ?_
  refine PW.pick (t := false) rfl rfl rfl rfl rfl rfl ?_
  refine PW.nil ?_
  refine SX.then ?_
  refine SC.cond (t := false) rfl ?_
  refine SC.skip ?_
  refine SX.then ?_
  refine SC.seq ?_
  refine SC.dx [.val 20 (.kw (KJ (x))), .val 21 (.vl (.int .i64 (wid (pat x) : Int))), .val 22 (.kw (KJ (y))), .val 23 (.vl (.int .i64 (wid (pat y) : Int))), .val 24 (.vl (.int .i64 (n : Int))), .val 8 (.vl (.int .i64 (n : Int)))] [([], [4]), ([0], []), ([], [5]), ([2], []), ([1, 3], []), ([4], [])] rfl (by kernel_rfl) (by kernel_rfl) (by kernel_rfl) rfl ⟨?_, ?_, ?_, ?_, ?_, ?_, trivial⟩ ?_
  · exact DX.loadck (k := KJ (x)) rfl rfl rfl rfl rfl rfl rfl hX (KJ.st _)
  · exact DX.call (r := .vl (.int .i64 (wid (pat x) : Int))) rfl rfl rfl rfl rfl rfl (KV.st _) rfl (k_jlen X (by first | decide | omega))
  · exact DX.loadck (k := KJ (y)) rfl rfl rfl rfl rfl rfl rfl hY (KJ.st _)
  · exact DX.call (r := .vl (.int .i64 (wid (pat y) : Int))) rfl rfl rfl rfl rfl rfl (KV.st _) rfl (k_jlen Y (by first | decide | omega))
  · exact DX.qn [(.tmp 21, .int .i64 (wid (pat x) : Int)), (.tmp 23, .int .i64 (wid (pat y) : Int))] (.int .i64 (n : Int)) rfl rfl rfl ⟨rfl, rfl, trivial⟩ (fun ρ W h => by obtain ⟨h1, h2, _⟩ := h; exact r_max h1 h2 (by omega))
  · exact DX.assign rfl rfl rfl rfl rfl rfl
  refine SX.then ?_
  refine SC.seq ?_
  refine SC.dxl [.val 25 (.kw (KJ (x))), .val 26 (.vl (.int .i64 (n : Int))), .row 27 4 (bv) (fun zs => zs = lof (tb x) n), .val 28 (.kw (KJ (y))), .val 29 (.vl (.int .i64 (n : Int))), .row 30 4 (bv) (fun zs => zs = lof (tb y) n)] [([], [4]), ([], [8]), ([0, 1], []), ([], [5]), ([], [8]), ([3, 4], [])] rfl (by kernel_rfl) (by kernel_rfl) (by kernel_rfl) rfl (by kernel_rfl) ⟨?_, ?_, ?_, ?_, ?_, ?_, trivial⟩ ?_
  · exact DX.loadck (k := KJ (x)) rfl rfl rfl rfl rfl rfl rfl hX (KJ.st _)
  · exact DX.move rfl rfl rfl rfl rfl rfl
  · exact DX.callR rfl rfl rfl rfl rfl rfl (k_bits X (by omega) (by omega))
  · exact DX.loadck (k := KJ (y)) rfl rfl rfl rfl rfl rfl rfl hY (KJ.st _)
  · exact DX.move rfl rfl rfl rfl rfl rfl
  · exact DX.callR rfl rfl rfl rfl rfl rfl (k_bits Y (by omega) (by omega))
  refine PW.openx (s := 27) 57 rfl rfl ?_
  rintro vx3 _ rfl
  refine PW.openx (s := 30) 58 rfl rfl ?_
  rintro vx4 _ rfl
  refine PW.assign rfl rfl rfl rfl rfl ?_
  refine PW.assign rfl rfl rfl rfl rfl ?_
  refine PW.nil ?_
  refine SX.then ?_
  refine SC.seq ?_
  refine SC.region ?_
  refine PW.assign rfl rfl rfl rfl rfl ?_
  refine PW.nil ?_
  refine SX.then ?_
  refine SC.seq ?_
  refine SC.seq ?_
  refine SC.region ?_
  refine PW.assign rfl rfl rfl rfl rfl ?_
  refine PW.nil ?_
  refine SX.then ?_
  refine SC.block ?_
  refine SC.weak (fun a W hf => Fr.nilrow 59 4 (bv) hf) ?_
  refine SC.loop (S := Nat × Value × List Int) (fun ⟨i, v, zs⟩ => [(0, .vl (.int .i64 (p))), (4, .bc (BI 31) pb1 (.agg #[.bool (decide (x < 0)), .slice A1 l1 c1])), (5, .bc (BI 31) pb2 (.agg #[.bool (decide (y < 0)), .slice A2 l2 c2])), (6, .nb (BI 31)), (7, .vl (.int .i64 0)), (8, .vl (.int .i64 (n : Int))), (9, .vl (vx3)), (10, .vl (vx4)), (11, .vl (v)), (12, .vl (.int .i64 (i : Int))), (57, .ro (vx3) 4 (bv) (lof (tb x) n)), (58, .ro (vx4) 4 (bv) (lof (tb y) n)), (59, .ro (v) 4 (bv) (zs))]) (fun ⟨i, v, zs⟩ => i ≤ n ∧ zs = lof (fun i => ch p (tb x i) (tb y i)) i) (fun ⟨i, v, zs⟩ => n - i) (0, .slice none 0 0, []) ⟨by omega, rfl⟩ ⟨rfl, rfl, rfl, rfl, rfl, rfl, rfl, rfl, rfl, rfl, rfl, rfl, rfl, trivial⟩ ?_
  rintro ⟨i, v, zs⟩ ⟨hi, hz2⟩
  show SC _ _ _ _ [(0, .vl (.int .i64 (p))), (4, .bc (BI 31) pb1 (.agg #[.bool (decide (x < 0)), .slice A1 l1 c1])), (5, .bc (BI 31) pb2 (.agg #[.bool (decide (y < 0)), .slice A2 l2 c2])), (6, .nb (BI 31)), (7, .vl (.int .i64 0)), (8, .vl (.int .i64 (n : Int))), (9, .vl (vx3)), (10, .vl (vx4)), (11, .vl (v)), (12, .vl (.int .i64 (i : Int))), (57, .ro (vx3) 4 (bv) (lof (tb x) n)), (58, .ro (vx4) 4 (bv) (lof (tb y) n)), (59, .ro (v) 4 (bv) (zs))] _
  refine SC.seq ?_
  refine SC.seq ?_
  by_cases hk : (i : Int) < (n : Int)
  · refine SC.region ?_
    refine PW.move rfl rfl rfl rfl rfl ?_
    refine PW.move rfl rfl rfl rfl rfl ?_
    refine PW.q2 (x := .tmp 31) (y := .tmp 32) (.bool true) rfl rfl rfl rfl rfl (fun ρ W h1 h2 => by exact r_lt h1 h2 (decide_eq_true hk)) ?_
    refine PW.nil ?_
    refine SX.then ?_
    refine SC.cond (t := true) rfl ?_
    refine SC.skip ?_
    refine SX.then ?_
    refine SC.seq ?_
    refine SC.block ?_
    refine SC.dxl [.val 36 (.vl (v)), .val 37 (.vl (.int .i64 (p))), .val 38 (.vl (vx3)), .val 39 (.vl (.int .i64 (i : Int))), .val 40 (.vl (.pointer (padd (sad (vx3)) i))), .val 41 (.vl (.bool (decide (at0 (lof (tb x) n) i = 1)))), .val 42 (.vl (vx4)), .val 43 (.vl (.int .i64 (i : Int))), .val 44 (.vl (.pointer (padd (sad (vx4)) i))), .val 45 (.vl (.bool (decide (at0 (lof (tb y) n) i = 1)))), .val 46 (.vl (.bool (decide (bi (ch p (tb x i) (tb y i)) = 1)))), .row 47 4 (bv) (fun zs => zs = [bi (ch p (tb x i) (tb y i))])] [([], [11]), ([], [0]), ([], [9]), ([], [12]), ([2, 3], [57]), ([4], [57]), ([], [10]), ([], [12]), ([6, 7], [58]), ([8], [58]), ([1, 5, 9], []), ([10], [])] rfl (by kernel_rfl) (by kernel_rfl) (by kernel_rfl) rfl (by kernel_rfl) ⟨?_, ?_, ?_, ?_, ?_, ?_, ?_, ?_, ?_, ?_, ?_, ?_, trivial⟩ ?_
    · exact DX.move rfl rfl rfl rfl rfl rfl
    · exact DX.move rfl rfl rfl rfl rfl rfl
    · exact DX.move rfl rfl rfl rfl rfl rfl
    · exact DX.move rfl rfl rfl rfl rfl rfl
    · exact DX.ridx (i := i) 57 rfl rfl rfl rfl rfl rfl rfl (by rw [lof_len]; omega) (fun ρ W g c h1 h2 => r_idxB h1 h2 (by rw [lof_len]; omega))
    · exact DX.rget (i := i) 57 rfl rfl rfl rfl rfl rfl (by rw [lof_len]; omega) r_lBv
    · exact DX.move rfl rfl rfl rfl rfl rfl
    · exact DX.move rfl rfl rfl rfl rfl rfl
    · exact DX.ridx (i := i) 58 rfl rfl rfl rfl rfl rfl rfl (by rw [lof_len]; omega) (fun ρ W g c h1 h2 => r_idxB h1 h2 (by rw [lof_len]; omega))
    · exact DX.rget (i := i) 58 rfl rfl rfl rfl rfl rfl (by rw [lof_len]; omega) r_lBv
    · exact DX.call (r := .vl (.bool (decide (bi (ch p (tb x i) (tb y i)) = 1)))) rfl rfl rfl rfl rfl rfl (KV.st _) rfl ((k_chosen hp0 hp1).toB (by rw [bi_eq, lof_bit _ (by omega), lof_bit _ (by omega)]))
    · exact DX.bs (f := bv) [bi (ch p (tb x i) (tb y i))] rfl rfl rfl (fun a W hf => r_b1B (hf.vl (s := 46) rfl)) (by unfold maxLen; show 1 ≤ _; omega)
    refine PW.openx (s := 47) 60 rfl rfl ?_
    rintro vx5 _ rfl
    refine PW.keep [(0, .vl (.int .i64 (p))), (4, .bc (BI 31) pb1 (.agg #[.bool (decide (x < 0)), .slice A1 l1 c1])), (5, .bc (BI 31) pb2 (.agg #[.bool (decide (y < 0)), .slice A2 l2 c2])), (6, .nb (BI 31)), (7, .vl (.int .i64 0)), (8, .vl (.int .i64 (n : Int))), (9, .vl (vx3)), (10, .vl (vx4)), (11, .vl (v)), (12, .vl (.int .i64 (i : Int))), (31, .vl (.int .i64 (i : Int))), (32, .vl (.int .i64 (n : Int))), (33, .vl (.bool true)), (36, .vl (v)), (37, .vl (.int .i64 (p))), (38, .vl (vx3)), (39, .vl (.int .i64 (i : Int))), (40, .vl (.pointer (padd (sad (vx3)) i))), (41, .vl (.bool (decide (at0 (lof (tb x) n) i = 1)))), (42, .vl (vx4)), (43, .vl (.int .i64 (i : Int))), (44, .vl (.pointer (padd (sad (vx4)) i))), (45, .vl (.bool (decide (at0 (lof (tb y) n) i = 1)))), (46, .vl (.bool (decide (bi (ch p (tb x i) (tb y i)) = 1)))), (47, .vl (vx5)), (57, .ro (vx3) 4 (bv) (lof (tb x) n)), (58, .ro (vx4) 4 (bv) (lof (tb y) n)), (59, .ro (v) 4 (bv) (zs)), (60, .ro (vx5) 4 (bv) ([bi (ch p (tb x i) (tb y i))]))] ⟨rfl, rfl, rfl, rfl, rfl, rfl, rfl, rfl, rfl, rfl, rfl, rfl, rfl, rfl, rfl, rfl, rfl, rfl, rfl, rfl, rfl, rfl, rfl, rfl, rfl, rfl, rfl, rfl, rfl, trivial⟩ ?_
    refine PW.apr (K := 59) (K2 := 60) (f := bv) rfl rfl rfl rfl rfl rfl rfl rfl rfl Try.underlying96 info_bool rfl (fun _ => rfl) (by have l1 := hz2 ▸ lof_len _ i; unfold maxLen; show _ + 1 ≤ _; omega) (by have l1 := hz2 ▸ lof_len _ i; show (_ + 1) * 1 ≤ _; omega) rfl fun vq6 => ?_
    refine PW.assign rfl rfl rfl rfl rfl ?_
    refine PW.nil ?_
    refine SX.blockN ?_
    refine SX.then ?_
    refine SC.region ?_
    refine PW.move rfl rfl rfl rfl rfl ?_
    refine PW.q2 (x := .tmp 34) (y := .const (.int .i64 1)) (.int .i64 ((i + 1 : Nat))) rfl rfl rfl rfl rfl (fun ρ W h1 h2 => by exact r_add h1 h2 (by omega) (by omega)) ?_
    refine PW.assign rfl rfl rfl rfl rfl ?_
    refine PW.nil ?_
    refine SX.back (i + 1, vq6, zs ++ ([bi (ch p (tb x i) (tb y i))])) ?_ ?_ ?_
    · exact ⟨by omega, by rw [hz2, lof_succ]⟩
    · exact (show n - (i + 1) < n - i by omega)
    · exact ⟨rfl, rfl, rfl, rfl, rfl, rfl, rfl, rfl, rfl, rfl, rfl, rfl, rfl, trivial⟩
  · obtain rfl : i = n := by omega
    refine SC.region ?_
    refine PW.move rfl rfl rfl rfl rfl ?_
    refine PW.move rfl rfl rfl rfl rfl ?_
    refine PW.q2 (x := .tmp 31) (y := .tmp 32) (.bool false) rfl rfl rfl rfl rfl (fun ρ W h1 h2 => by exact r_lt h1 h2 (decide_eq_false hk)) ?_
    refine PW.nil ?_
    refine SX.then ?_
    refine SC.cond (t := false) rfl ?_
    refine SC.exit ?_
    refine SX.thenE ?_
    refine SX.thenE ?_
    refine SX.blockE ?_
    refine SX.then ?_
    refine SC.seq ?_
    refine SC.region ?_
    refine PW.move rfl rfl rfl rfl rfl ?_
    refine PW.move rfl rfl rfl rfl rfl ?_
    refine PW.fac ⟨pb1, 0, none⟩ rfl rfl rfl rfl rfl facJ0 ?_
    refine PW.flc (s := 4) (.bool (decide (x < 0))) rfl rfl rfl rfl rfl rfl flcJ0 ?_
    refine PW.fac ⟨pb2, 0, none⟩ rfl rfl rfl rfl rfl facJ0 ?_
    refine PW.flc (s := 5) (.bool (decide (y < 0))) rfl rfl rfl rfl rfl rfl flcJ0 ?_
    refine PW.call (r := .vl (.bool (ch p (decide (x < 0)) (decide (y < 0))))) rfl rfl rfl rfl rfl rfl (KV.st _) rfl (k_chosen hp0 hp1) ?_
    refine PW.callG (r := .kw (KJ (bo p x y))) ce_of2 rfl rfl rfl rfl rfl (KJ.st _) rfl (fun a W hf => by have h1 := hf.vl (s := 49) rfl; have own : OwF W _ _ bv (v) (zs) := hf.ho 59 _ rfl; obtain ⟨A4, c4, e4, hc4, rd4⟩ := OwF.rdB own; show Calls Try.prog _ #[a.tmps.getD 49 undef, a.tmps.getD 55 undef] W _; have h2 := hf.vl (s := 55) rfl; rw [h2]; rw [h1, e4]; exact rof_c rd4 (by rw [hz2, lof_len]; omega) (hz2 ▸ bitsOf_bo (by omega) (by omega))) ?_
    refine PW.store (x := .tmp 56) (r := .kw (KJ (bo p x y))) rfl rfl rfl rfl rfl rfl sh_J ?_
    refine PW.assign rfl rfl rfl rfl rfl ?_
    refine PW.nil ?_
    refine SX.then ?_
    refine SC.ret ?_
    exact SX.done2 (s := 6) (t := 7) (r := .vl (.int .i64 0)) (.inl rfl) rfl rfl rfl rfl

theorem signed {x : Int} {u : Value} {W : World} (h : KJ x u W) : ∃ A l c, u = .agg #[.bool (decide (x < 0)), .slice A l c] := by
  obtain ⟨m, A, l, c, e, h⟩ := h
  obtain ⟨_, _, _, _, _, _, _, hm⟩ := RJ.num h
  exact ⟨A, l, c, by rw [e, hm]⟩
theorem k_jboole {p x y : Int} {a b : Nat} (X : bd a x) (Y : bd b y) (ha : a ≤ 100000) (hb : b ≤ 100000) (hp0 : 0 ≤ p) (hp1 : p ≤ 15) : CallOk 18 [KV (.int .i64 p), KJ x, KJ y] (K2 (KJ (bo p x y)) (KV (.int .i64 0))) :=
  call3 ce_k_jboole_bad fun W u v u2 e h1 h2 => by
    obtain rfl : u = _ := e
    obtain ⟨A1, l1, c1, rfl⟩ := signed h1
    obtain ⟨A2, l2, c2, rfl⟩ := signed h2
    exact rboole_c h1 h2 X Y ha hb hp0 hp1

set_option maxHeartbeats 3200000 in
set_option maxRecDepth 100000 in
theorem rcount_c {x : Int} {A : Option Addr} {l c a : Nat} {w : World} (hX : KJ x (.agg #[.bool (decide (x < 0)), .slice A l c]) w) (X : bd a x) (ha : a ≤ 100000) :
    Calls Try.prog 51 #[.agg #[.bool (decide (x < 0)), .slice A l c]] w (Ret w (KV (.int .i64 (pc (pat x).toNat : Int)))) := by
  have wx := wid_bdp X
  refine calls_sc (l := [.vl (.agg #[.bool (decide (x < 0)), .slice A l c])]) (us := [.agg #[.bool (decide (x < 0)), .slice A l c]]) 26 Try.func51 rfl Try.ntmps51 (by simp) ⟨rfl, rfl, trivial⟩ ?_
  refine SC.seq ?_
  refine SC.region ?_
  refine PW.boxc (x := .tmp 0) (BI 31) rfl rfl rfl rfl rfl bJ rfl ⟨_, _, _, _, _, rfl, rfl⟩ fun pb1 => ?_
  refine PW.assign rfl rfl rfl rfl rfl ?_
  refine PW.nil ?_
  refine SX.then ?_
  refine SC.seq ?_
  refine SC.dxl [.val 6 (.kw (KJ (x))), .val 7 (.kw (KJ (x))), .val 8 (.vl (.int .i64 (wid (pat x) : Int))), .row 9 4 (bv) (fun zs => zs = lof (tb x) (wid (pat x)))] [([], [1]), ([], [1]), ([1], []), ([0, 2], [])] rfl (by kernel_rfl) (by kernel_rfl) (by kernel_rfl) rfl (by kernel_rfl) ⟨?_, ?_, ?_, ?_, trivial⟩ ?_
  · exact DX.loadck (k := KJ (x)) rfl rfl rfl rfl rfl rfl rfl hX (KJ.st _)
  · exact DX.loadck (k := KJ (x)) rfl rfl rfl rfl rfl rfl rfl hX (KJ.st _)
  · exact DX.call (r := .vl (.int .i64 (wid (pat x) : Int))) rfl rfl rfl rfl rfl rfl (KV.st _) rfl (k_jlen X (by first | decide | omega))
  · exact DX.callR rfl rfl rfl rfl rfl rfl (k_bits X (by omega) (by omega))
  refine PW.openx (s := 9) 26 rfl rfl ?_
  rintro vx2 _ rfl
  refine PW.assign rfl rfl rfl rfl rfl ?_
  refine PW.nil ?_
  refine SX.then ?_
  refine SC.seq ?_
  refine SC.region ?_
  refine PW.assign rfl rfl rfl rfl rfl ?_
  refine PW.nil ?_
  refine SX.then ?_
  refine SC.seq ?_
  refine SC.seq ?_
  refine SC.region ?_
  refine PW.assign rfl rfl rfl rfl rfl ?_
  refine PW.nil ?_
  refine SX.then ?_
  refine SC.block ?_
  refine SC.loop (S := Nat × Int) (fun ⟨i, m⟩ => [(1, .bc (BI 31) pb1 (.agg #[.bool (decide (x < 0)), .slice A l c])), (3, .vl (vx2)), (4, .vl (.int .i64 (m))), (5, .vl (.int .i64 (i : Int))), (26, .ro (vx2) 4 (bv) (lof (tb x) (wid (pat x))))]) (fun ⟨i, m⟩ => i ≤ wid (pat x) ∧ CtI (pat x).toNat i m) (fun ⟨i, m⟩ => wid (pat x) - i) (0, 0) ⟨by omega, CtI.start _⟩ ⟨rfl, rfl, rfl, rfl, rfl, trivial⟩ ?_
  rintro ⟨i, m⟩ ⟨hi, hC⟩
  show SC _ _ _ _ [(1, .bc (BI 31) pb1 (.agg #[.bool (decide (x < 0)), .slice A l c])), (3, .vl (vx2)), (4, .vl (.int .i64 (m))), (5, .vl (.int .i64 (i : Int))), (26, .ro (vx2) 4 (bv) (lof (tb x) (wid (pat x))))] _
  refine SC.seq ?_
  refine SC.seq ?_
  by_cases hk : (i : Int) < ((lof (tb x) (wid (pat x))).length : Int)
  · have hk2 : i < wid (pat x) := by rw [lof_len] at hk; omega
    refine SC.region ?_
    refine PW.move rfl rfl rfl rfl rfl ?_
    refine PW.move rfl rfl rfl rfl rfl ?_
    refine PW.rlen (s := 11) 26 rfl rfl rfl rfl rfl (fun ρ W A c h => r_lenB h) ?_
    refine PW.q2 (x := .tmp 10) (y := .tmp 12) (.bool true) rfl rfl rfl rfl rfl (fun ρ W h1 h2 => by exact r_lt h1 h2 (decide_eq_true hk)) ?_
    refine PW.nil ?_
    refine SX.then ?_
    refine SC.cond (t := true) rfl ?_
    refine SC.skip ?_
    refine SX.then ?_
    refine SC.seq ?_
    refine SC.block ?_
    refine SC.seq ?_
    by_cases hb : tb ((pat x).toNat : Int) i = true
    · refine SC.dx [.val 16 (.vl (vx2)), .val 17 (.vl (.int .i64 (i : Int))), .val 18 (.vl (.pointer (padd (sad (vx2)) i))), .val 19 (.vl (.bool (decide (at0 (lof (tb x) (wid (pat x))) i = 1)))), .val 20 (.vl (.pointer (some ⟨pb1, 0, none⟩))), .val 21 (.vl (.bool (decide (x < 0)))), .val 22 (.vl (.bool true))] [([], [3]), ([], [5]), ([0, 1], [26]), ([2], [26]), ([], [1]), ([4], [1]), ([3, 5], [])] rfl (by kernel_rfl) (by kernel_rfl) (by kernel_rfl) rfl ⟨?_, ?_, ?_, ?_, ?_, ?_, ?_, trivial⟩ ?_
      · exact DX.move rfl rfl rfl rfl rfl rfl
      · exact DX.move rfl rfl rfl rfl rfl rfl
      · exact DX.ridx (i := i) 26 rfl rfl rfl rfl rfl rfl rfl (by rw [lof_len]; omega) (fun ρ W g c h1 h2 => r_idxB h1 h2 (by rw [lof_len]; omega))
      · exact DX.rget (i := i) 26 rfl rfl rfl rfl rfl rfl (by rw [lof_len]; omega) r_lBv
      · exact DX.fac ⟨pb1, 0, none⟩ rfl rfl rfl rfl rfl facJ0
      · exact DX.flc (s := 1) (.bool (decide (x < 0))) rfl rfl rfl rfl rfl rfl flcJ0
      · exact DX.q2 (x := .tmp 19) (y := .tmp 21) (.bool true) rfl rfl rfl rfl rfl (fun ρ W h1 h2 => by exact r_neB h1 h2 (by rw [lof_bit _ hk2, count_bit]; exact hb))
      refine SX.then ?_
      refine SC.cond (t := true) rfl ?_
      refine SC.region ?_
      refine PW.move rfl rfl rfl rfl rfl ?_
      refine PW.q2 (x := .tmp 23) (y := .const (.int .i64 1)) (.int .i64 (m + 1)) rfl rfl rfl rfl rfl (fun ρ W h1 h2 => by exact r_add h1 h2 (rfl) (by have := hC.2.1; have := hC.2.2; omega)) ?_
      refine PW.assign rfl rfl rfl rfl rfl ?_
      refine PW.nil ?_
      refine SX.blockN ?_
      refine SX.then ?_
      refine SC.region ?_
      refine PW.move rfl rfl rfl rfl rfl ?_
      refine PW.q2 (x := .tmp 14) (y := .const (.int .i64 1)) (.int .i64 ((i + 1 : Nat))) rfl rfl rfl rfl rfl (fun ρ W h1 h2 => by exact r_add h1 h2 (by omega) (by omega)) ?_
      refine PW.assign rfl rfl rfl rfl rfl ?_
      refine PW.nil ?_
      refine SX.back (i + 1, m + 1) ?_ ?_ ?_
      · exact ⟨by omega, hC.yes hb⟩
      · exact (show wid (pat x) - (i + 1) < wid (pat x) - i by omega)
      · exact ⟨rfl, rfl, rfl, rfl, rfl, trivial⟩
    · refine SC.dx [.val 16 (.vl (vx2)), .val 17 (.vl (.int .i64 (i : Int))), .val 18 (.vl (.pointer (padd (sad (vx2)) i))), .val 19 (.vl (.bool (decide (at0 (lof (tb x) (wid (pat x))) i = 1)))), .val 20 (.vl (.pointer (some ⟨pb1, 0, none⟩))), .val 21 (.vl (.bool (decide (x < 0)))), .val 22 (.vl (.bool false))] [([], [3]), ([], [5]), ([0, 1], [26]), ([2], [26]), ([], [1]), ([4], [1]), ([3, 5], [])] rfl (by kernel_rfl) (by kernel_rfl) (by kernel_rfl) rfl ⟨?_, ?_, ?_, ?_, ?_, ?_, ?_, trivial⟩ ?_
      · exact DX.move rfl rfl rfl rfl rfl rfl
      · exact DX.move rfl rfl rfl rfl rfl rfl
      · exact DX.ridx (i := i) 26 rfl rfl rfl rfl rfl rfl rfl (by rw [lof_len]; omega) (fun ρ W g c h1 h2 => r_idxB h1 h2 (by rw [lof_len]; omega))
      · exact DX.rget (i := i) 26 rfl rfl rfl rfl rfl rfl (by rw [lof_len]; omega) r_lBv
      · exact DX.fac ⟨pb1, 0, none⟩ rfl rfl rfl rfl rfl facJ0
      · exact DX.flc (s := 1) (.bool (decide (x < 0))) rfl rfl rfl rfl rfl rfl flcJ0
      · exact DX.q2 (x := .tmp 19) (y := .tmp 21) (.bool false) rfl rfl rfl rfl rfl (fun ρ W h1 h2 => by exact r_neB h1 h2 (by rw [lof_bit _ hk2, count_bit]; exact (by simpa using hb)))
      refine SX.then ?_
      refine SC.cond (t := false) rfl ?_
      refine SC.skip ?_
      refine SX.blockN ?_
      refine SX.then ?_
      refine SC.region ?_
      refine PW.move rfl rfl rfl rfl rfl ?_
      refine PW.q2 (x := .tmp 14) (y := .const (.int .i64 1)) (.int .i64 ((i + 1 : Nat))) rfl rfl rfl rfl rfl (fun ρ W h1 h2 => by exact r_add h1 h2 (by omega) (by omega)) ?_
      refine PW.assign rfl rfl rfl rfl rfl ?_
      refine PW.nil ?_
      refine SX.back (i + 1, m) ?_ ?_ ?_
      · exact ⟨by omega, hC.no (by simpa using hb)⟩
      · exact (show wid (pat x) - (i + 1) < wid (pat x) - i by omega)
      · exact ⟨rfl, rfl, rfl, rfl, rfl, trivial⟩
  · obtain rfl : i = wid (pat x) := by rw [lof_len] at hk; omega
    refine SC.region ?_
    refine PW.move rfl rfl rfl rfl rfl ?_
    refine PW.move rfl rfl rfl rfl rfl ?_
    refine PW.rlen (s := 11) 26 rfl rfl rfl rfl rfl (fun ρ W A c h => r_lenB h) ?_
    refine PW.q2 (x := .tmp 10) (y := .tmp 12) (.bool false) rfl rfl rfl rfl rfl (fun ρ W h1 h2 => by exact r_lt h1 h2 (decide_eq_false hk)) ?_
    refine PW.nil ?_
    refine SX.then ?_
    refine SC.cond (t := false) rfl ?_
    refine SC.exit ?_
    refine SX.thenE ?_
    refine SX.thenE ?_
    refine SX.blockE ?_
    refine SX.then ?_
    refine SC.seq ?_
    refine SC.region ?_
    refine PW.move rfl rfl rfl rfl rfl ?_
    refine PW.assign rfl rfl rfl rfl rfl ?_
    refine PW.nil ?_
    refine SX.then ?_
    refine SC.ret ?_
    have hr : (pc (pat x).toNat : Int) = m := (hC.fin (by rw [Int.toNat_of_nonneg (pat_nonneg x)]; exact wid_lt _)).symm
    rw [hr]
    exact SX.done (s := 2) (r := .vl (.int .i64 (m))) rfl rfl rfl

theorem ce_jcount : CE 51 := fun args W => by go_simp
theorem k_jcount {x : Int} {a : Nat} (X : bd a x) (ha : a ≤ 100000) : CallOk 51 [KJ x] (KV (.int .i64 (pc (pat x).toNat : Int))) :=
  call1 ce_jcount fun W u h1 => by
    obtain ⟨A1, l1, c1, rfl⟩ := signed h1
    exact rcount_c h1 X ha

theorem ce_k_within : CE 109 := fun args W => by go_simp

set_option maxHeartbeats 3200000 in
set_option maxRecDepth 100000 in
theorem k_within {n : Int} {t : Bool} (h : decide (0 ≤ n ∧ n ≤ 65536) = t) : CallOk 109 [KV (.int .i64 (n))] (KV (.bool t)) := by
  refine CallOk.enter (l := [.vl (.int .i64 (n))]) 9 ce_k_within Try.func109 rfl Try.ntmps109 (by simp) ⟨(KV.st _), rfl, trivial⟩ fun w => ?_
  refine SC.seq ?_
  refine SC.region ?_
  refine PW.assign rfl rfl rfl rfl rfl ?_
  refine PW.nil ?_
  refine SX.then ?_
  refine SC.seq ?_
  by_cases h0 : n ≥ 0
  · by_cases h5 : n ≤ 65536
    · refine SC.region ?_
      refine PW.move rfl rfl rfl rfl rfl ?_
      refine PW.q2 (x := .tmp 3) (y := .const (.int .i64 0)) (.bool true) rfl rfl rfl rfl rfl (fun ρ W h1 h2 => by exact r_ge h1 h2 (decide_eq_true h0)) ?_
      refine PW.move rfl rfl rfl rfl rfl ?_
      refine PW.move rfl rfl rfl rfl rfl ?_
      refine PW.q2 (x := .tmp 6) (y := .const (.int .i64 65536)) (.bool true) rfl rfl rfl rfl rfl (fun ρ W h1 h2 => by exact r_le h1 h2 (decide_eq_true h5)) ?_
      refine PW.pick (t := true) rfl rfl rfl rfl rfl rfl ?_
      refine PW.assign rfl rfl rfl rfl rfl ?_
      refine PW.nil ?_
      refine SX.then ?_
      refine SC.ret ?_
      obtain rfl : t = true := by rw [← h]; exact decide_eq_true ⟨h0, h5⟩
      exact SX.done (s := 2) (r := .vl (.bool true)) rfl rfl rfl
    · refine SC.region ?_
      refine PW.move rfl rfl rfl rfl rfl ?_
      refine PW.q2 (x := .tmp 3) (y := .const (.int .i64 0)) (.bool true) rfl rfl rfl rfl rfl (fun ρ W h1 h2 => by exact r_ge h1 h2 (decide_eq_true h0)) ?_
      refine PW.move rfl rfl rfl rfl rfl ?_
      refine PW.move rfl rfl rfl rfl rfl ?_
      refine PW.q2 (x := .tmp 6) (y := .const (.int .i64 65536)) (.bool false) rfl rfl rfl rfl rfl (fun ρ W h1 h2 => by exact r_le h1 h2 (decide_eq_false h5)) ?_
      refine PW.pick (t := true) rfl rfl rfl rfl rfl rfl ?_
      refine PW.assign rfl rfl rfl rfl rfl ?_
      refine PW.nil ?_
      refine SX.then ?_
      refine SC.ret ?_
      obtain rfl : t = false := by rw [← h]; exact decide_eq_false (by omega)
      exact SX.done (s := 2) (r := .vl (.bool false)) rfl rfl rfl
  · refine SC.region ?_
    refine PW.move rfl rfl rfl rfl rfl ?_
    refine PW.q2 (x := .tmp 3) (y := .const (.int .i64 0)) (.bool false) rfl rfl rfl rfl rfl (fun ρ W h1 h2 => by exact r_ge h1 h2 (decide_eq_false h0)) ?_
    refine PW.move rfl rfl rfl rfl rfl ?_
    refine PW.skip rfl rfl rfl ?_
    refine PW.skip rfl rfl rfl ?_
    refine PW.pick (t := false) rfl rfl rfl rfl rfl rfl ?_
    refine PW.assign rfl rfl rfl rfl rfl ?_
    refine PW.nil ?_
    refine SX.then ?_
    refine SC.ret ?_
    obtain rfl : t = false := by rw [← h]; exact decide_eq_false (by omega)
    exact SX.done (s := 2) (r := .vl (.bool false)) rfl rfl rfl

theorem ce_k_jfield_bad : CE 59 := fun args W => by go_simp

set_option maxHeartbeats 3200000 in
set_option maxRecDepth 100000 in
theorem k_jfield_bad {x k q : Int} (hb : ¬ ((0 ≤ k ∧ k ≤ 65536) ∧ (0 ≤ q ∧ q ≤ 65536))) : CallOk 59 [KJ (x), KV (.int .i64 (k)), KV (.int .i64 (q))] (K2 (KJ 0) (KV (.int .i64 1))) := by
  refine CallOk.enter (l := [.kw (KJ (x)), .vl (.int .i64 (k)), .vl (.int .i64 (q))]) 27 ce_k_jfield_bad Try.func59 rfl Try.ntmps59 (by simp) ⟨(KJ.st _), rfl, (KV.st _), rfl, (KV.st _), rfl, trivial⟩ fun w => ?_
  refine SC.seq ?_
  refine SC.region ?_
  refine PW.box (x := .tmp 0) (r := .kw (KJ (x))) (BI 31) rfl rfl rfl rfl rfl bJ rfl sh_J ?_
  refine PW.alloc (BI 31) rfl rfl rfl rfl rfl bJ ?_
  refine PW.assign rfl rfl rfl rfl rfl ?_
  refine PW.nil ?_
  refine SX.then ?_
  refine SC.seq ?_
  refine SC.seq ?_
  by_cases hk : 0 ≤ k ∧ k ≤ 65536
  · by_cases hq : 0 ≤ q ∧ q ≤ 65536
    · exact absurd ⟨hk, hq⟩ hb
    · refine SC.region ?_
      refine PW.move rfl rfl rfl rfl rfl ?_
      refine PW.call (r := .vl (.bool true)) rfl rfl rfl rfl rfl rfl (KV.st _) rfl (k_within (decide_eq_true hk)) ?_
      refine PW.q1 (x := .tmp 10) (.bool false) rfl rfl rfl rfl (fun ρ W h1 => by go_simp) ?_
      refine PW.move rfl rfl rfl rfl rfl ?_
      refine PW.move rfl rfl rfl rfl rfl ?_
      refine PW.call (r := .vl (.bool false)) rfl rfl rfl rfl rfl rfl (KV.st _) rfl (k_within (decide_eq_false hq)) ?_
      refine PW.q1 (x := .tmp 14) (.bool true) rfl rfl rfl rfl (fun ρ W h1 => by go_simp) ?_
      refine PW.pick (t := false) rfl rfl rfl rfl rfl rfl ?_
      refine PW.nil ?_
      refine SX.then ?_
      refine SC.cond (t := true) rfl ?_
      refine SC.seq ?_
      refine SC.region ?_
      refine PW.val (r := .kw (KJ (0))) rfl rfl rfl rfl (fun a W hf => ⟨.agg #[.bool false, .slice none 0 0], by go_simp, zeroJ W, KJ.st _⟩) ?_
      refine PW.store (x := .tmp 17) (r := .kw (KJ (0))) rfl rfl rfl rfl rfl rfl sh_J ?_
      refine PW.assign rfl rfl rfl rfl rfl ?_
      refine PW.nil ?_
      refine SX.then ?_
      refine SC.ret ?_
      refine SX.thenR ?_
      exact SX.done2 (s := 6) (t := 7) (r := .vl (.int .i64 1)) (.inl rfl) rfl rfl rfl rfl
  · refine SC.region ?_
    refine PW.move rfl rfl rfl rfl rfl ?_
    refine PW.call (r := .vl (.bool false)) rfl rfl rfl rfl rfl rfl (KV.st _) rfl (k_within (decide_eq_false hk)) ?_
    refine PW.q1 (x := .tmp 10) (.bool true) rfl rfl rfl rfl (fun ρ W h1 => by go_simp) ?_
    refine PW.move rfl rfl rfl rfl rfl ?_
    refine PW.skip rfl rfl rfl ?_
    refine PW.skip rfl rfl rfl ?_
    refine PW.skip rfl rfl rfl ?_
    refine PW.pick (t := true) rfl rfl rfl rfl rfl rfl ?_
    refine PW.nil ?_
    refine SX.then ?_
    refine SC.cond (t := true) rfl ?_
    refine SC.seq ?_
    refine SC.region ?_
    refine PW.val (r := .kw (KJ (0))) rfl rfl rfl rfl (fun a W hf => ⟨.agg #[.bool false, .slice none 0 0], by go_simp, zeroJ W, KJ.st _⟩) ?_
    refine PW.store (x := .tmp 17) (r := .kw (KJ (0))) rfl rfl rfl rfl rfl rfl sh_J ?_
    refine PW.assign rfl rfl rfl rfl rfl ?_
    refine PW.nil ?_
    refine SX.then ?_
    refine SC.ret ?_
    refine SX.thenR ?_
    exact SX.done2 (s := 6) (t := 7) (r := .vl (.int .i64 1)) (.inl rfl) rfl rfl rfl rfl

set_option maxHeartbeats 3200000 in
set_option maxRecDepth 100000 in
theorem rfield_c {x : Int} {A : Option Addr} {l c a k p : Nat} {w : World} (hX : KJ x (.agg #[.bool (decide (x < 0)), .slice A l c]) w) (X : bd a x) (ha : a ≤ 100000) (hk : k ≤ 65536) (hp : p ≤ 65536) :
    Calls Try.prog 59 #[.agg #[.bool (decide (x < 0)), .slice A l c], .int .i64 (k : Int), .int .i64 (p : Int)] w (Ret w (K2 (KJ (fld x k p)) (KV (.int .i64 0)))) := by
  refine calls_sc (l := [.vl (.agg #[.bool (decide (x < 0)), .slice A l c]), .vl (.int .i64 (k : Int)), .vl (.int .i64 (p : Int))]) (us := [.agg #[.bool (decide (x < 0)), .slice A l c], .int .i64 (k : Int), .int .i64 (p : Int)]) 27 Try.func59 rfl Try.ntmps59 (by simp) ⟨rfl, rfl, rfl, rfl, rfl, rfl, trivial⟩ ?_
  refine SC.seq ?_
  refine SC.region ?_
  refine PW.boxc (x := .tmp 0) (BI 31) rfl rfl rfl rfl rfl bJ rfl ⟨_, _, _, _, _, rfl, rfl⟩ fun pb1 => ?_
  refine PW.alloc (BI 31) rfl rfl rfl rfl rfl bJ ?_
  refine PW.assign rfl rfl rfl rfl rfl ?_
  refine PW.nil ?_
  refine SX.then ?_
  refine SC.seq ?_
  refine SC.seq ?_
  refine SC.region ?_
  refine PW.move rfl rfl rfl rfl rfl ?_
  refine PW.call (r := .vl (.bool true)) rfl rfl rfl rfl rfl rfl (KV.st _) rfl (k_within (decide_eq_true (by omega))) ?_
  refine PW.q1 (x := .tmp 10) (.bool false) rfl rfl rfl rfl (fun ρ W h1 => by go_simp) ?_
  refine PW.move rfl rfl rfl rfl rfl ?_
  refine PW.move rfl rfl rfl rfl rfl ?_
  refine PW.call (r := .vl (.bool true)) rfl rfl rfl rfl rfl rfl (KV.st _) rfl (k_within (decide_eq_true (by omega))) ?_
  refine PW.q1 (x := .tmp 14) (.bool false) rfl rfl rfl rfl (fun ρ W h1 => by go_simp) ?_
  refine PW.pick (t := false) rfl rfl rfl rfl rfl rfl ?_
  refine PW.nil ?_
  refine SX.then ?_
  refine SC.cond (t := false) rfl ?_
  refine SC.skip ?_
  refine SX.then ?_
  refine SC.seq ?_
  refine SC.region ?_
  refine PW.loadck (k := KJ (x)) rfl rfl rfl rfl rfl rfl rfl hX (KJ.st _) ?_
  refine PW.move rfl rfl rfl rfl rfl ?_
  refine PW.move rfl rfl rfl rfl rfl ?_
  refine PW.q2 (x := .tmp 19) (y := .tmp 20) (.int .i64 ((p + k : Nat))) rfl rfl rfl rfl rfl (fun ρ W h1 h2 => by exact r_add h1 h2 (by omega) (by omega)) ?_
  refine PW.callRow (f := bv) (e := 4) (p := fun zs => zs = lof (tb x) (p + k)) 27 rfl rfl rfl rfl rfl rfl (k_bits X (by omega) (by omega)) ?_
  rintro vx2 _ rfl
  refine PW.more _ (fun a W h => h) ?_
  refine PW.assign rfl rfl rfl rfl rfl ?_
  refine PW.nil ?_
  refine SX.then ?_
  refine SC.seq ?_
  refine SC.region ?_
  refine PW.move rfl rfl rfl rfl rfl ?_
  refine PW.move rfl rfl rfl rfl rfl ?_
  refine PW.rsl (s := 23) (p := p) 27 rfl rfl rfl rfl rfl rfl (by rw [lof_len]; omega) (fun ρ W h1 h2 => r_slB0 h1 h2) (fun ρ W g c h1 h2 h3 => r_slB h1 h2 (by rw [lof_len]; omega) h3) ?_
  refine PW.callG (r := .kw (KJ (fld x k p))) ce_of2 rfl rfl rfl rfl rfl (KJ.st _) rfl (fun a W hf => by have h1 := hf.vl (s := 25) rfl; have own : OwF W _ _ bv (vx2) (lof (tb x) (p + k)) := hf.ho 27 _ rfl; show Calls Try.prog _ #[a.tmps.getD 25 undef, .bool false] W _; rw [h1, ← List.length_drop]; exact rof_c (OwF.rdB_drop own p) (by rw [List.length_drop, lof_len]; omega) bitsOf_fld) ?_
  refine PW.store (x := .tmp 26) (r := .kw (KJ (fld x k p))) rfl rfl rfl rfl rfl rfl sh_J ?_
  refine PW.assign rfl rfl rfl rfl rfl ?_
  refine PW.nil ?_
  refine SX.then ?_
  refine SC.ret ?_
  exact SX.done2 (s := 6) (t := 7) (r := .vl (.int .i64 0)) (.inl rfl) rfl rfl rfl rfl

theorem k_jfield {x : Int} {a k p : Nat} (X : bd a x) (ha : a ≤ 100000) (hk : k ≤ 65536) (hp : p ≤ 65536) : CallOk 59 [KJ x, KV (.int .i64 (k : Int)), KV (.int .i64 (p : Int))] (K2 (KJ (fld x k p)) (KV (.int .i64 0))) :=
  call3 ce_k_jfield_bad fun W u v u2 h1 e e2 => by
    obtain rfl : v = _ := e
    obtain rfl : u2 = _ := e2
    obtain ⟨A1, l1, c1, rfl⟩ := signed h1
    exact rfield_c h1 X ha hk hp

theorem ce_k_jdep_bad : CE 61 := fun args W => by go_simp

set_option maxHeartbeats 3200000 in
set_option maxRecDepth 100000 in
theorem k_jdep_bad {x y k q : Int} (hb : ¬ ((0 ≤ k ∧ k ≤ 65536) ∧ (0 ≤ q ∧ q ≤ 65536))) : CallOk 61 [KJ (x), KJ (y), KV (.int .i64 (k)), KV (.int .i64 (q))] (K2 (KJ 0) (KV (.int .i64 1))) := by
  refine CallOk.enter (l := [.kw (KJ (x)), .kw (KJ (y)), .vl (.int .i64 (k)), .vl (.int .i64 (q))]) 51 ce_k_jdep_bad Try.func61 rfl Try.ntmps61 (by simp) ⟨(KJ.st _), rfl, (KJ.st _), rfl, (KV.st _), rfl, (KV.st _), rfl, trivial⟩ fun w => ?_
  refine SC.seq ?_
  refine SC.region ?_
  refine PW.box (x := .tmp 0) (r := .kw (KJ (x))) (BI 31) rfl rfl rfl rfl rfl bJ rfl sh_J ?_
  refine PW.box (x := .tmp 1) (r := .kw (KJ (y))) (BI 31) rfl rfl rfl rfl rfl bJ rfl sh_J ?_
  refine PW.alloc (BI 31) rfl rfl rfl rfl rfl bJ ?_
  refine PW.assign rfl rfl rfl rfl rfl ?_
  refine PW.nil ?_
  refine SX.then ?_
  refine SC.seq ?_
  refine SC.seq ?_
  by_cases hk : 0 ≤ k ∧ k ≤ 65536
  · by_cases hq : 0 ≤ q ∧ q ≤ 65536
    · exact absurd ⟨hk, hq⟩ hb
    · refine SC.region ?_
      refine PW.move rfl rfl rfl rfl rfl ?_
      refine PW.call (r := .vl (.bool true)) rfl rfl rfl rfl rfl rfl (KV.st _) rfl (k_within (decide_eq_true hk)) ?_
      refine PW.q1 (x := .tmp 14) (.bool false) rfl rfl rfl rfl (fun ρ W h1 => by go_simp) ?_
      refine PW.move rfl rfl rfl rfl rfl ?_
      refine PW.move rfl rfl rfl rfl rfl ?_
      refine PW.call (r := .vl (.bool false)) rfl rfl rfl rfl rfl rfl (KV.st _) rfl (k_within (decide_eq_false hq)) ?_
      refine PW.q1 (x := .tmp 18) (.bool true) rfl rfl rfl rfl (fun ρ W h1 => by go_simp) ?_
      refine PW.pick (t := false) rfl rfl rfl rfl rfl rfl ?_
      refine PW.nil ?_
      refine SX.then ?_
      refine SC.cond (t := true) rfl ?_
      refine SC.seq ?_
      refine SC.region ?_
      refine PW.val (r := .kw (KJ (0))) rfl rfl rfl rfl (fun a W hf => ⟨.agg #[.bool false, .slice none 0 0], by go_simp, zeroJ W, KJ.st _⟩) ?_
      refine PW.store (x := .tmp 21) (r := .kw (KJ (0))) rfl rfl rfl rfl rfl rfl sh_J ?_
      refine PW.assign rfl rfl rfl rfl rfl ?_
      refine PW.nil ?_
      refine SX.then ?_
      refine SC.ret ?_
      refine SX.thenR ?_
      exact SX.done2 (s := 8) (t := 9) (r := .vl (.int .i64 1)) (.inl rfl) rfl rfl rfl rfl
  · refine SC.region ?_
    refine PW.move rfl rfl rfl rfl rfl ?_
    refine PW.call (r := .vl (.bool false)) rfl rfl rfl rfl rfl rfl (KV.st _) rfl (k_within (decide_eq_false hk)) ?_
    refine PW.q1 (x := .tmp 14) (.bool true) rfl rfl rfl rfl (fun ρ W h1 => by go_simp) ?_
    refine PW.move rfl rfl rfl rfl rfl ?_
    refine PW.skip rfl rfl rfl ?_
    refine PW.skip rfl rfl rfl ?_
    refine PW.skip rfl rfl rfl ?_
    refine PW.pick (t := true) rfl rfl rfl rfl rfl rfl ?_
    refine PW.nil ?_
    refine SX.then ?_
    refine SC.cond (t := true) rfl ?_
    refine SC.seq ?_
    refine SC.region ?_
    refine PW.val (r := .kw (KJ (0))) rfl rfl rfl rfl (fun a W hf => ⟨.agg #[.bool false, .slice none 0 0], by go_simp, zeroJ W, KJ.st _⟩) ?_
    refine PW.store (x := .tmp 21) (r := .kw (KJ (0))) rfl rfl rfl rfl rfl rfl sh_J ?_
    refine PW.assign rfl rfl rfl rfl rfl ?_
    refine PW.nil ?_
    refine SX.then ?_
    refine SC.ret ?_
    refine SX.thenR ?_
    exact SX.done2 (s := 8) (t := 9) (r := .vl (.int .i64 1)) (.inl rfl) rfl rfl rfl rfl

set_option maxHeartbeats 3200000 in
set_option maxRecDepth 100000 in
theorem rdep_c {x y : Int} {A1 A2 : Option Addr} {l1 c1 l2 c2 a b k p : Nat} {w : World} (hX : KJ x (.agg #[.bool (decide (x < 0)), .slice A1 l1 c1]) w) (hY : KJ y (.agg #[.bool (decide (y < 0)), .slice A2 l2 c2]) w) (X : bd a x) (Y : bd b y) (ha : a ≤ 100000) (hb : b ≤ 100000) (hk : k ≤ 65536) (hp : p ≤ 65536) :
    Calls Try.prog 61 #[.agg #[.bool (decide (x < 0)), .slice A1 l1 c1], .agg #[.bool (decide (y < 0)), .slice A2 l2 c2], .int .i64 (k : Int), .int .i64 (p : Int)] w (Ret w (K2 (KJ (dep x y k p)) (KV (.int .i64 0)))) := by
  have wx := wid_bdp X
  obtain ⟨n, hn⟩ : ∃ n : Nat, n = max (wid (pat x)) (p + k) := ⟨_, rfl⟩
  refine calls_sc (l := [.vl (.agg #[.bool (decide (x < 0)), .slice A1 l1 c1]), .vl (.agg #[.bool (decide (y < 0)), .slice A2 l2 c2]), .vl (.int .i64 (k : Int)), .vl (.int .i64 (p : Int))]) (us := [.agg #[.bool (decide (x < 0)), .slice A1 l1 c1], .agg #[.bool (decide (y < 0)), .slice A2 l2 c2], .int .i64 (k : Int), .int .i64 (p : Int)]) 51 Try.func61 rfl Try.ntmps61 (by simp) ⟨rfl, rfl, rfl, rfl, rfl, rfl, rfl, rfl, trivial⟩ ?_
  refine SC.seq ?_
  refine SC.region ?_
  refine PW.boxc (x := .tmp 0) (BI 31) rfl rfl rfl rfl rfl bJ rfl ⟨_, _, _, _, _, rfl, rfl⟩ fun pb1 => ?_
  refine PW.boxc (x := .tmp 1) (BI 31) rfl rfl rfl rfl rfl bJ rfl ⟨_, _, _, _, _, rfl, rfl⟩ fun pb2 => ?_
  refine PW.alloc (BI 31) rfl rfl rfl rfl rfl bJ ?_
  refine PW.assign rfl rfl rfl rfl rfl ?_
  refine PW.nil ?_
  refine SX.then ?_
  refine SC.seq ?_
  refine SC.seq ?_
  refine SC.region ?_
  refine PW.move rfl rfl rfl rfl rfl ?_
  refine PW.call (r := .vl (.bool true)) rfl rfl rfl rfl rfl rfl (KV.st _) rfl (k_within (decide_eq_true (by omega))) ?_
  refine PW.q1 (x := .tmp 14) (.bool false) rfl rfl rfl rfl (fun ρ W h1 => by go_simp) ?_
  refine PW.move rfl rfl rfl rfl rfl ?_
  refine PW.move rfl rfl rfl rfl rfl ?_
  refine PW.call (r := .vl (.bool true)) rfl rfl rfl rfl rfl rfl (KV.st _) rfl (k_within (decide_eq_true (by omega))) ?_
  refine PW.q1 (x := .tmp 18) (.bool false) rfl rfl rfl rfl (fun ρ W h1 => by go_simp) ?_
  refine PW.pick (t := false) rfl rfl rfl rfl rfl rfl ?_
  refine PW.nil ?_
  refine SX.then ?_
  refine SC.cond (t := false) rfl ?_
  refine SC.skip ?_
  refine SX.then ?_
  refine SC.seq ?_
  refine SC.dxl [.val 22 (.kw (KJ (x))), .val 23 (.kw (KJ (x))), .val 24 (.vl (.int .i64 (wid (pat x) : Int))), .val 25 (.vl (.int .i64 (p : Int))), .val 26 (.vl (.int .i64 (k : Int))), .val 27 (.vl (.int .i64 ((p + k : Nat)))), .val 28 (.vl (.int .i64 (n : Int))), .row 29 4 (bv) (fun zs => zs = lof (tb x) n)] [([], [4]), ([], [4]), ([1], []), ([], [3]), ([], [2]), ([3, 4], []), ([2, 5], []), ([0, 6], [])] rfl (by kernel_rfl) (by kernel_rfl) (by kernel_rfl) rfl (by kernel_rfl) ⟨?_, ?_, ?_, ?_, ?_, ?_, ?_, ?_, trivial⟩ ?_
  · exact DX.loadck (k := KJ (x)) rfl rfl rfl rfl rfl rfl rfl hX (KJ.st _)
  · exact DX.loadck (k := KJ (x)) rfl rfl rfl rfl rfl rfl rfl hX (KJ.st _)
  · exact DX.call (r := .vl (.int .i64 (wid (pat x) : Int))) rfl rfl rfl rfl rfl rfl (KV.st _) rfl (k_jlen X (by first | decide | omega))
  · exact DX.move rfl rfl rfl rfl rfl rfl
  · exact DX.move rfl rfl rfl rfl rfl rfl
  · exact DX.q2 (x := .tmp 25) (y := .tmp 26) (.int .i64 ((p + k : Nat))) rfl rfl rfl rfl rfl (fun ρ W h1 h2 => by exact r_add h1 h2 (by omega) (by omega))
  · exact DX.qn [(.tmp 24, .int .i64 (wid (pat x) : Int)), (.tmp 27, .int .i64 ((p + k : Nat)))] (.int .i64 (n : Int)) rfl rfl rfl ⟨rfl, rfl, trivial⟩ (fun ρ W h => by obtain ⟨h1, h2, _⟩ := h; exact r_max h1 h2 (by omega))
  · exact DX.callR rfl rfl rfl rfl rfl rfl (k_bits X (by omega) (by omega))
  refine PW.openx (s := 29) 51 rfl rfl ?_
  rintro vx3 _ rfl
  refine PW.assign rfl rfl rfl rfl rfl ?_
  refine PW.nil ?_
  refine SX.then ?_
  refine SC.seq ?_
  refine SC.region ?_
  refine PW.loadck (k := KJ (y)) rfl rfl rfl rfl rfl rfl rfl hY (KJ.st _) ?_
  refine PW.move rfl rfl rfl rfl rfl ?_
  refine PW.callRow (f := bv) (e := 4) (p := fun zs => zs = lof (tb y) k) 52 rfl rfl rfl rfl rfl rfl (k_bits Y (by omega) (by omega)) ?_
  rintro vx4 _ rfl
  refine PW.more _ (fun a W h => h) ?_
  refine PW.assign rfl rfl rfl rfl rfl ?_
  refine PW.nil ?_
  refine SX.then ?_
  refine SC.seq ?_
  refine SC.seq ?_
  refine SC.region ?_
  refine PW.assign rfl rfl rfl rfl rfl ?_
  refine PW.nil ?_
  refine SX.then ?_
  refine SC.block ?_
  refine SC.loop (S := Nat × List Int) (fun ⟨i, zs⟩ => [(2, .vl (.int .i64 (k : Int))), (3, .vl (.int .i64 (p : Int))), (4, .bc (BI 31) pb1 (.agg #[.bool (decide (x < 0)), .slice A1 l1 c1])), (5, .bc (BI 31) pb2 (.agg #[.bool (decide (y < 0)), .slice A2 l2 c2])), (8, .nb (BI 31)), (9, .vl (.int .i64 0)), (10, .vl (vx3)), (11, .vl (vx4)), (12, .vl (.int .i64 (i : Int))), (51, .ro (vx3) 4 (bv) (zs)), (52, .ro (vx4) 4 (bv) (lof (tb y) k))]) (fun ⟨i, zs⟩ => DpI x y k p n i zs) (fun ⟨i, zs⟩ => k - i) (0, lof (tb x) n) (DpI.start x y k p n) ⟨rfl, rfl, rfl, rfl, rfl, rfl, rfl, rfl, rfl, rfl, rfl, trivial⟩ ?_
  rintro ⟨i, zs⟩ hD
  show SC _ _ _ _ [(2, .vl (.int .i64 (k : Int))), (3, .vl (.int .i64 (p : Int))), (4, .bc (BI 31) pb1 (.agg #[.bool (decide (x < 0)), .slice A1 l1 c1])), (5, .bc (BI 31) pb2 (.agg #[.bool (decide (y < 0)), .slice A2 l2 c2])), (8, .nb (BI 31)), (9, .vl (.int .i64 0)), (10, .vl (vx3)), (11, .vl (vx4)), (12, .vl (.int .i64 (i : Int))), (51, .ro (vx3) 4 (bv) (zs)), (52, .ro (vx4) 4 (bv) (lof (tb y) k))] _
  refine SC.seq ?_
  refine SC.seq ?_
  by_cases hk2 : (i : Int) < (k : Int)
  · refine SC.region ?_
    refine PW.move rfl rfl rfl rfl rfl ?_
    refine PW.move rfl rfl rfl rfl rfl ?_
    refine PW.q2 (x := .tmp 33) (y := .tmp 34) (.bool true) rfl rfl rfl rfl rfl (fun ρ W h1 h2 => by exact r_lt h1 h2 (decide_eq_true hk2)) ?_
    refine PW.nil ?_
    refine SX.then ?_
    refine SC.cond (t := true) rfl ?_
    refine SC.skip ?_
    refine SX.then ?_
    refine SC.seq ?_
    refine SC.block ?_
    refine SC.region ?_
    refine PW.move rfl rfl rfl rfl rfl ?_
    refine PW.move rfl rfl rfl rfl rfl ?_
    refine PW.move rfl rfl rfl rfl rfl ?_
    refine PW.q2 (x := .tmp 39) (y := .tmp 40) (.int .i64 ((p + i : Nat))) rfl rfl rfl rfl rfl (fun ρ W h1 h2 => by exact r_add h1 h2 (by omega) (by omega)) ?_
    refine PW.move rfl rfl rfl rfl rfl ?_
    refine PW.move rfl rfl rfl rfl rfl ?_
    refine PW.ridx (i := i) 52 rfl rfl rfl rfl rfl rfl rfl (by rw [lof_len]; omega) (fun ρ W g c h1 h2 => r_idxB h1 h2 (by rw [lof_len]; omega)) ?_
    refine PW.rget (i := i) 52 rfl rfl rfl rfl rfl rfl (by rw [lof_len]; omega) r_lBv ?_
    refine PW.ridx (i := p + i) 51 rfl rfl rfl rfl rfl rfl rfl (by rw [hD.2, lof_len]; omega) (fun ρ W g c h1 h2 => r_idxB h1 h2 (by rw [hD.2, lof_len]; omega)) ?_
    refine PW.rput (i := p + i) (x := .tmp 45) (at0 (lof (tb y) k) i) 51 rfl rfl rfl rfl rfl (by rw [hD.2, lof_len]; omega) rfl rfl r_sBv ?_
    refine PW.nil ?_
    refine SX.blockN ?_
    refine SX.then ?_
    refine SC.region ?_
    refine PW.move rfl rfl rfl rfl rfl ?_
    refine PW.q2 (x := .tmp 36) (y := .const (.int .i64 1)) (.int .i64 ((i + 1 : Nat))) rfl rfl rfl rfl rfl (fun ρ W h1 h2 => by exact r_add h1 h2 (by omega) (by omega)) ?_
    refine PW.assign rfl rfl rfl rfl rfl ?_
    refine PW.nil ?_
    refine SX.back (i + 1, zs.set (p + i) (at0 (lof (tb y) k) i)) ?_ ?_ ?_
    · exact (hD.step (by omega) (by omega))
    · exact (show k - (i + 1) < k - i by omega)
    · exact ⟨rfl, rfl, rfl, rfl, rfl, rfl, rfl, rfl, rfl, rfl, rfl, trivial⟩
  · obtain rfl : k = i := by have := hD.1; omega
    refine SC.region ?_
    refine PW.move rfl rfl rfl rfl rfl ?_
    refine PW.move rfl rfl rfl rfl rfl ?_
    refine PW.q2 (x := .tmp 33) (y := .tmp 34) (.bool false) rfl rfl rfl rfl rfl (fun ρ W h1 h2 => by exact r_lt h1 h2 (decide_eq_false hk2)) ?_
    refine PW.nil ?_
    refine SX.then ?_
    refine SC.cond (t := false) rfl ?_
    refine SC.exit ?_
    refine SX.thenE ?_
    refine SX.thenE ?_
    refine SX.blockE ?_
    refine SX.then ?_
    refine SC.seq ?_
    refine SC.region ?_
    refine PW.move rfl rfl rfl rfl rfl ?_
    refine PW.fac ⟨pb1, 0, none⟩ rfl rfl rfl rfl rfl facJ0 ?_
    refine PW.flc (s := 4) (.bool (decide (x < 0))) rfl rfl rfl rfl rfl rfl flcJ0 ?_
    refine PW.callG (r := .kw (KJ (dep x y k p))) ce_of2 rfl rfl rfl rfl rfl (KJ.st _) rfl (fun a W hf => by have h1 := hf.vl (s := 47) rfl; have own : OwF W _ _ bv (vx3) (zs) := hf.ho 51 _ rfl; obtain ⟨A4, c4, e4, hc4, rd4⟩ := OwF.rdB own; show Calls Try.prog _ #[a.tmps.getD 47 undef, a.tmps.getD 49 undef] W _; have h2 := hf.vl (s := 49) rfl; rw [h2]; rw [h1, e4]; exact rof_c rd4 (by rw [hD.2, lof_len]; omega) (hD.fin (by omega) (by omega))) ?_
    refine PW.store (x := .tmp 50) (r := .kw (KJ (dep x y k p))) rfl rfl rfl rfl rfl rfl sh_J ?_
    refine PW.assign rfl rfl rfl rfl rfl ?_
    refine PW.nil ?_
    refine SX.then ?_
    refine SC.ret ?_
    exact SX.done2 (s := 8) (t := 9) (r := .vl (.int .i64 0)) (.inl rfl) rfl rfl rfl rfl

theorem k_jdep {x y : Int} {a b k p : Nat} (X : bd a x) (Y : bd b y) (ha : a ≤ 100000) (hb : b ≤ 100000) (hk : k ≤ 65536) (hp : p ≤ 65536) : CallOk 61 [KJ x, KJ y, KV (.int .i64 (k : Int)), KV (.int .i64 (p : Int))] (K2 (KJ (dep x y k p)) (KV (.int .i64 0))) :=
  call4 ce_k_jdep_bad fun W u v u2 v2 h1 h2 e e2 => by
    obtain rfl : u2 = _ := e
    obtain rfl : v2 = _ := e2
    obtain ⟨A1, l1, c1, rfl⟩ := signed h1
    obtain ⟨A2, l2, c2, rfl⟩ := signed h2
    exact rdep_c h1 h2 X Y ha hb hk hp

end Go.Proofs.Ytcgkgcciogibkaa.Sy
/- The contract of the program's Gcd, by rules. -/
set_option linter.unusedVariables false
set_option linter.unusedSimpArgs false
namespace Go.Proofs.Ytcgkgcciogibkaa.Sy
open Go Go.RowKit Ma
theorem ce_gcd : CE 39 := fun args W => by go_simp
theorem sgn_one {x : Int} (h : 0 < x) : sgn x = 1 := by unfold sgn; rw [if_neg (by omega), if_neg (by omega)]
set_option maxHeartbeats 1600000 in
theorem k_gcd0 {x y : Int} {n g : Nat} (X : bd n x) (Y : bd n y) (hn : n ≤ 300000) (hg : Nat.gcd x.natAbs y.natAbs = g) : CallOk 39 [KI x, KI y] (KI (g : Int)) := by
  refine CallOk.enter (l := [.kw (KI x), .kw (KI y)]) 25 ce_gcd Try.func39 rfl Try.ntmps39 (by simp) ⟨KI.st _, rfl, KI.st _, rfl, trivial⟩ fun w => ?_
  refine SC.seq ?_
  refine SC.region ?_
  refine PW.box (x := .tmp 0) (r := .kw (KI (x))) (BI 28) rfl rfl rfl rfl rfl bI rfl sh_I ?_
  refine PW.box (x := .tmp 1) (r := .kw (KI (y))) (BI 28) rfl rfl rfl rfl rfl bI rfl sh_I ?_
  refine PW.alloc (BI 28) rfl rfl rfl rfl rfl bI ?_
  refine PW.nil ?_
  refine SX.then ?_
  refine SC.seq ?_
  refine SC.dx [.val 8 (.kw (KI (x))), .val 9 (.kw (KI ((x.natAbs : Int)))), .val 10 (.kw (KI (y))), .val 11 (.kw (KI ((y.natAbs : Int)))), .put 2 (BI 28) (.kw (KI ((x.natAbs : Int)))), .put 3 (BI 28) (.kw (KI ((y.natAbs : Int))))] [([], [2]), ([0], []), ([], [3]), ([2], []), ([1], [2]), ([3], [3])] rfl (by kernel_rfl) (by kernel_rfl) (by kernel_rfl) rfl ⟨?_, ?_, ?_, ?_, ?_, ?_, trivial⟩ ?_
  · exact DX.load rfl rfl rfl rfl rfl rfl
  · exact DX.call (r := .kw (KI ((x.natAbs : Int)))) rfl rfl rfl rfl rfl rfl (KI.st _) rfl (k_abs)
  · exact DX.load rfl rfl rfl rfl rfl rfl
  · exact DX.call (r := .kw (KI ((y.natAbs : Int)))) rfl rfl rfl rfl rfl rfl (KI.st _) rfl (k_abs)
  · exact DX.store (x := .tmp 9) (r := .kw (KI ((x.natAbs : Int)))) rfl rfl rfl rfl rfl rfl sh_I
  · exact DX.store (x := .tmp 11) (r := .kw (KI ((y.natAbs : Int)))) rfl rfl rfl rfl rfl rfl sh_I
  refine SX.then ?_
  refine SC.seq ?_
  refine SC.block ?_
  refine SC.loop (S := Nat × Nat) (fun ⟨a, b⟩ => [(2, .bx (BI 28) (KI ((a : Int)))), (3, .bx (BI 28) (KI ((b : Int)))), (4, .nb (BI 28))]) (fun ⟨a, b⟩ => Nat.gcd a b = g ∧ bd n (a : Int) ∧ bd n (b : Int)) (fun ⟨a, b⟩ => b) (x.natAbs, y.natAbs) ⟨hg, X.abs, Y.abs⟩ ⟨rfl, rfl, rfl, trivial⟩ ?_
  rintro ⟨a, b⟩ ⟨hi, A, B⟩
  show SC _ _ _ _ [(2, .bx (BI 28) (KI ((a : Int)))), (3, .bx (BI 28) (KI ((b : Int)))), (4, .nb (BI 28))] _
  refine SC.seq ?_
  refine SC.seq ?_
  by_cases hb : (b : Int) = 0
  · obtain rfl : b = 0 := by omega
    obtain rfl : a = g := by simpa using hi
    refine SC.region ?_
    refine PW.load rfl rfl rfl rfl rfl rfl ?_
    refine PW.call (r := .vl (.int .i64 0)) rfl rfl rfl rfl rfl rfl (KV.st _) rfl (k_sign (by rw [hb]; rfl)) ?_
    refine PW.q2 (x := .tmp 13) (y := .const (.int .i64 0)) (.bool false) rfl rfl rfl rfl rfl (fun ρ W h1 h2 => by go_simp) ?_
    refine PW.nil ?_
    refine SX.then ?_
    refine SC.cond (t := false) rfl ?_
    refine SC.exit ?_
    refine SX.thenE ?_
    refine SX.thenE ?_
    refine SX.blockE ?_
    refine SX.then ?_
    refine SC.seq ?_
    refine SC.region ?_
    refine PW.load rfl rfl rfl rfl rfl rfl ?_
    refine PW.store (x := .tmp 24) (r := .kw (KI ((a : Int)))) rfl rfl rfl rfl rfl rfl sh_I ?_
    refine PW.nil ?_
    refine SX.then ?_
    refine SC.ret ?_
    exact SX.doneC (s := 4) (.inl rfl) rfl rfl rfl
  · refine SC.region ?_
    refine PW.load rfl rfl rfl rfl rfl rfl ?_
    refine PW.call (r := .vl (.int .i64 1)) rfl rfl rfl rfl rfl rfl (KV.st _) rfl (k_sign (sgn_one (by omega))) ?_
    refine PW.q2 (x := .tmp 13) (y := .const (.int .i64 0)) (.bool true) rfl rfl rfl rfl rfl (fun ρ W h1 h2 => by go_simp) ?_
    refine PW.nil ?_
    refine SX.then ?_
    refine SC.cond (t := true) rfl ?_
    refine SC.skip ?_
    refine SX.then ?_
    refine SC.block ?_
    refine SC.seq ?_
    refine SC.region ?_
    refine PW.load rfl rfl rfl rfl rfl rfl ?_
    refine PW.load rfl rfl rfl rfl rfl rfl ?_
    refine PW.call (r := .kw (K3 (KI (((a : Int)).tdiv ((b : Int)))) (KI (((a : Int)).tmod ((b : Int)))) (KV (.int .i64 0)))) rfl rfl rfl rfl rfl rfl (K3.st (KI.st _) (KI.st _) (KV.st _)) rfl (k_div A (by first | decide | omega) hb) ?_
    refine PW.move rfl rfl rfl rfl rfl ?_
    refine PW.ext (r := .kw (KI (((a : Int)).tdiv ((b : Int))))) rfl rfl rfl rfl rfl ex30 (KI.st _) rfl ?_
    refine PW.ext (r := .kw (KI (((a : Int)).tmod ((b : Int))))) rfl rfl rfl rfl rfl ex31 (KI.st _) rfl ?_
    refine PW.ext (r := .vl (.int .i64 0)) rfl rfl rfl rfl rfl ex32v (KV.st _) rfl ?_
    refine PW.alloc (BI 28) rfl rfl rfl rfl rfl bI ?_
    refine PW.alloc (BI 28) rfl rfl rfl rfl rfl bI ?_
    refine PW.store (x := .tmp 19) (r := .kw (KI (((a : Int)).tdiv ((b : Int))))) rfl rfl rfl rfl rfl rfl sh_I ?_
    refine PW.store (x := .tmp 20) (r := .kw (KI (((a : Int)).tmod ((b : Int))))) rfl rfl rfl rfl rfl rfl sh_I ?_
    refine PW.assign rfl rfl rfl rfl rfl ?_
    refine PW.nil ?_
    refine SX.then ?_
    refine SC.dx [.val 22 (.kw (KI ((b : Int)))), .val 23 (.kw (KI (((a : Int)).tmod ((b : Int))))), .put 2 (BI 28) (.kw (KI ((b : Int)))), .put 3 (BI 28) (.kw (KI (((a : Int)).tmod ((b : Int)))))] [([], [3]), ([], [6]), ([0], [2]), ([1], [3])] rfl (by kernel_rfl) (by kernel_rfl) (by kernel_rfl) rfl ⟨?_, ?_, ?_, ?_, trivial⟩ ?_
    · exact DX.load rfl rfl rfl rfl rfl rfl
    · exact DX.load rfl rfl rfl rfl rfl rfl
    · exact DX.store (x := .tmp 22) (r := .kw (KI ((b : Int)))) rfl rfl rfl rfl rfl rfl sh_I
    · exact DX.store (x := .tmp 23) (r := .kw (KI (((a : Int)).tmod ((b : Int))))) rfl rfl rfl rfl rfl rfl sh_I
    refine SX.blockN ?_
    refine SX.back (b, a % b) ?_ ?_ ?_
    · exact ⟨by rw [← hi, Nat.gcd_comm a b, Nat.gcd_rec b a, Nat.gcd_comm], B, (A.tmod (y := (b : Int)) : bd n ((a : Int).tmod (b : Int)))⟩
    · exact (show a % b < b from Nat.mod_lt _ (by omega))
    · exact ⟨rfl, rfl, rfl, trivial⟩
theorem k_gcd {x y : Int} {a b : Nat} (X : bd a x) (Y : bd b y) (ha : a ≤ 300000) (hb : b ≤ 300000) : CallOk 39 [KI x, KI y] (KI (Int.gcd x y : Int)) := k_gcd0 (X.mono (Nat.le_max_left a b)) (Y.mono (Nat.le_max_right a b)) (by omega) rfl
end Go.Proofs.Ytcgkgcciogibkaa.Sy
/- IntegerBits: the walk, by rules. -/
set_option linter.unusedVariables false
set_option linter.unusedSimpArgs false
namespace Go.Proofs.Ytcgkgcciogibkaa
open Go.RowKit Ma Sy
set_option maxHeartbeats 3200000 in
set_option maxRecDepth 100000 in
theorem boole_bad {p : Int} {n m : Bool} {A B : Option Addr} {l l' c d : Nat} {w : World} (hp : p < 0 ∨ 15 < p) :
    Calls Try.prog 17 #[.agg #[.bool n, .slice A l c], .int .i64 p, .agg #[.bool m, .slice B l' d]] w (Ret w (K2 (KI 0) (KV (.int .i64 1)))) := by
  by_cases h : p < 0
  · clear hp
    go_enter Try.func17, Try.ntmps17
    go_wp2
    exact bodyPost_ret (v := .tuple #[.agg #[.bool false, .slice none 0 0], .int .i64 1]) (by simp [results, Try.results17, go_sem]) rfl ⟨_, rfl, ⟨_, _, rfl, ⟨_, _, _, _, rfl, RI.zero _⟩, rfl⟩, (by repeat (first | exact Nw.refl _ | apply Nw.drew | apply Nw.alloc | refine Nw.set ?_ (by first | exact Nat.le_refl _ | (simp; done) | (simp; omega) | omega) _))⟩
  · have h2 : 15 < p := by omega
    clear hp
    go_enter Try.func17, Try.ntmps17
    go_wp2
    exact bodyPost_ret (v := .tuple #[.agg #[.bool false, .slice none 0 0], .int .i64 1]) (by simp [results, Try.results17, go_sem]) rfl ⟨_, rfl, ⟨_, _, rfl, ⟨_, _, _, _, rfl, RI.zero _⟩, rfl⟩, (by repeat (first | exact Nw.refl _ | apply Nw.drew | apply Nw.alloc | refine Nw.set ?_ (by first | exact Nat.le_refl _ | (simp; done) | (simp; omega) | omega) _))⟩
theorem k_boole_bad {p x y : Int} (hp : p < 0 ∨ 15 < p) : CallOk 17 [KI x, KV (.int .i64 p), KI y] (K2 (KI 0) (KV (.int .i64 1))) :=
  call3 ce_boole fun W u v u' ⟨n, A, l, c, e, i1⟩ e2 ⟨m, B, l', d, e', i2⟩ => by subst e e'; obtain rfl : v = _ := e2; exact boole_bad hp
set_option maxHeartbeats 12800000 in
set_option maxRecDepth 100000 in
theorem integerBits_walk {n1 n2 : Bool} {A1 A2 : Option Addr} {l1 l2 c1 c2 : Nat} {xs1 xs2 : List Int} {p : Int} {i : Int}  {w : World} (hw : (Lit.int .i64 p).wf = true) (h1 : In w A1 l1 c1 xs1) (h2 : In w A2 l2 c2 xs2) (hv : (Lit.int .i64 i).wf = true) :
    Calls Try.prog 3 #[.int .i64 p, .agg #[.bool n1, .slice A1 l1 c1], .agg #[.bool n2, .slice A2 l2 c2], .int .i64 i] w (Ret w (KV (.bool true))) := by
  obtain ⟨x, hz1⟩ : ∃ z, z = sg n1 (lv b32 xs1) := ⟨_, rfl⟩
  obtain ⟨y, hz2⟩ : ∃ z, z = sg n2 (lv b32 xs2) := ⟨_, rfl⟩
  have hpr := lit_i64 hw
  have hir := lit_i64 hv
  refine calls_sc (l := [.vl (.int .i64 p), .vl (.agg #[.bool n1, .slice A1 l1 c1]), .vl (.agg #[.bool n2, .slice A2 l2 c2]), .vl (.int .i64 i)]) (us := [.int .i64 p, .agg #[.bool n1, .slice A1 l1 c1], .agg #[.bool n2, .slice A2 l2 c2], .int .i64 i]) 67 Try.func3 rfl Try.ntmps3 (by simp) ⟨rfl, rfl, rfl, rfl, rfl, rfl, rfl, rfl, trivial⟩ ?_
  refine SC.seq ?_
  refine SC.region ?_
  refine PW.box (x := .tmp 1) (r := .vl (.agg #[.bool n1, .slice A1 l1 c1])) (BI 24) rfl rfl rfl rfl rfl bN rfl sh_V ?_
  refine PW.box (x := .tmp 2) (r := .vl (.agg #[.bool n2, .slice A2 l2 c2])) (BI 24) rfl rfl rfl rfl rfl bN rfl sh_V ?_
  refine PW.assign rfl rfl rfl rfl rfl ?_
  refine PW.nil ?_
  refine SX.then ?_
  refine SC.seq ?_
  refine SC.seq ?_
  by_cases hs : shB 8 [(n1, A1, l1, c1), (n2, A2, l2, c2)] = true
  · have hlehs : l1 ≤ 8 ∧ l2 ≤ 8 := by simpa [shB] using hs
    have X : bd 8 x := hz1 ▸ bd_sg h1.2.2.2 (by have := h1.1; omega)
    have Y : bd 8 y := hz2 ▸ bd_sg h2.2.2.2 (by have := h2.1; omega)
    have hl1 : l1 ≤ 8 := by omega
    have hl2 : l2 ≤ 8 := by omega
    refine SC.region ?_
    refine PW.loadV rfl rfl rfl rfl rfl rfl ?_
    refine PW.loadV rfl rfl rfl rfl rfl rfl ?_
    refine PW.short 8 [(n1, A1, l1, c1), (n2, A2, l2, c2)] _ rfl rfl rfl (fun a W hf => r_bN2 (hf.vl (s := 17) rfl) (hf.vl (s := 18) rfl)) (fun W => ns_lit2 W) (by simp; exact ⟨In.lim h1, In.lim h2⟩) rfl rfl hs rfl rfl rfl rfl rfl rfl ?_
    refine PW.q1 (x := .tmp 20) (.bool false) rfl rfl rfl rfl (fun ρ W h1 => by go_simp) ?_
    refine PW.nil ?_
    refine SX.then ?_
    refine SC.cond (t := false) rfl ?_
    refine SC.skip ?_
    refine SX.then ?_
    refine SC.seq ?_
    refine SC.region ?_
    refine PW.loadV rfl rfl rfl rfl rfl rfl ?_
    refine PW.callG (r := .kw (K2 (KI (x)) (KJ (x)))) ce_of rfl rfl rfl rfl rfl (K2.st (KI.st _) (KJ.st _)) rfl (fun a W hf => by have e1 := hf.vl (s := 24) rfl; show Calls Try.prog _ #[a.tmps.getD 24 undef] W _; rw [e1]; exact of_in h1 hf.be (by omega) hz1) ?_
    refine PW.move rfl rfl rfl rfl rfl ?_
    refine PW.ext (r := .kw (KI (x))) rfl rfl rfl rfl rfl ex20 (KI.st _) rfl ?_
    refine PW.ext (r := .kw (KJ (x))) rfl rfl rfl rfl rfl ex21 (KJ.st _) rfl ?_
    refine PW.alloc (BI 28) rfl rfl rfl rfl rfl bI ?_
    refine PW.alloc (BI 31) rfl rfl rfl rfl rfl bJ ?_
    refine PW.store (x := .tmp 26) (r := .kw (KI (x))) rfl rfl rfl rfl rfl rfl sh_I ?_
    refine PW.store (x := .tmp 27) (r := .kw (KJ (x))) rfl rfl rfl rfl rfl rfl sh_J ?_
    refine PW.nil ?_
    refine SX.then ?_
    refine SC.seq ?_
    refine SC.region ?_
    refine PW.loadV rfl rfl rfl rfl rfl rfl ?_
    refine PW.callG (r := .kw (K2 (KI (y)) (KJ (y)))) ce_of rfl rfl rfl rfl rfl (K2.st (KI.st _) (KJ.st _)) rfl (fun a W hf => by have e1 := hf.vl (s := 29) rfl; show Calls Try.prog _ #[a.tmps.getD 29 undef] W _; rw [e1]; exact of_in h2 hf.be (by omega) hz2) ?_
    refine PW.move rfl rfl rfl rfl rfl ?_
    refine PW.ext (r := .kw (KI (y))) rfl rfl rfl rfl rfl ex20 (KI.st _) rfl ?_
    refine PW.ext (r := .kw (KJ (y))) rfl rfl rfl rfl rfl ex21 (KJ.st _) rfl ?_
    refine PW.alloc (BI 28) rfl rfl rfl rfl rfl bI ?_
    refine PW.alloc (BI 31) rfl rfl rfl rfl rfl bJ ?_
    refine PW.store (x := .tmp 31) (r := .kw (KI (y))) rfl rfl rfl rfl rfl rfl sh_I ?_
    refine PW.store (x := .tmp 32) (r := .kw (KJ (y))) rfl rfl rfl rfl rfl rfl sh_J ?_
    refine PW.nil ?_
    refine SX.then ?_
    refine SC.seq ?_
    by_cases hp : 0 ≤ p ∧ p ≤ 15
    · refine SC.region ?_
      refine PW.load rfl rfl rfl rfl rfl rfl ?_
      refine PW.move rfl rfl rfl rfl rfl ?_
      refine PW.load rfl rfl rfl rfl rfl rfl ?_
      refine PW.call (r := .kw (K2 (KI (bo p x y)) (KV (.int .i64 0)))) rfl rfl rfl rfl rfl rfl (K2.st (KI.st _) (KV.st _)) rfl (k_boole X Y (by decide) (by decide) hp.1 hp.2) ?_
      refine PW.move rfl rfl rfl rfl rfl ?_
      refine PW.ext (r := .kw (KI (bo p x y))) rfl rfl rfl rfl rfl ex20 (KI.st _) rfl ?_
      refine PW.ext (r := .vl (.int .i64 0)) rfl rfl rfl rfl rfl ex21v (KV.st _) rfl ?_
      refine PW.alloc (BI 28) rfl rfl rfl rfl rfl bI ?_
      refine PW.store (x := .tmp 38) (r := .kw (KI (bo p x y))) rfl rfl rfl rfl rfl rfl sh_I ?_
      refine PW.assign rfl rfl rfl rfl rfl ?_
      refine PW.nil ?_
      refine SX.then ?_
      refine SC.seq ?_
      refine SC.region ?_
      refine PW.move rfl rfl rfl rfl rfl ?_
      refine PW.load rfl rfl rfl rfl rfl rfl ?_
      refine PW.load rfl rfl rfl rfl rfl rfl ?_
      refine PW.call (r := .kw (K2 (KJ (bo p x y)) (KV (.int .i64 0)))) rfl rfl rfl rfl rfl rfl (K2.st (KJ.st _) (KV.st _)) rfl (k_jboole X Y (by decide) (by decide) hp.1 hp.2) ?_
      refine PW.move rfl rfl rfl rfl rfl ?_
      refine PW.ext (r := .kw (KJ (bo p x y))) rfl rfl rfl rfl rfl ex20 (KJ.st _) rfl ?_
      refine PW.ext (r := .vl (.int .i64 0)) rfl rfl rfl rfl rfl ex21v (KV.st _) rfl ?_
      refine PW.alloc (BI 31) rfl rfl rfl rfl rfl bJ ?_
      refine PW.store (x := .tmp 45) (r := .kw (KJ (bo p x y))) rfl rfl rfl rfl rfl rfl sh_J ?_
      refine PW.assign rfl rfl rfl rfl rfl ?_
      refine PW.nil ?_
      refine SX.then ?_
      refine SC.seq ?_
      by_cases hi : i < 0
      · refine SC.dx [.val 47 (.vl (.int .i64 0)), .val 48 (.vl (.int .i64 0)), .val 49 (.vl (.bool true)), .val 50 (.vl (.bool true)), .val 51 (.kw (KI (bo p x y))), .val 52 (.kw (KJ (bo p x y))), .val 53 (.vl (.bool true)), .val 54 (.vl (.bool true)), .val 55 (.vl (.bool true)), .val 56 (.kw (KI (x))), .val 57 (.vl (.int .i64 i)), .val 58 (.vl (.bool false)), .val 59 (.kw (KJ (x))), .val 60 (.vl (.int .i64 i)), .val 61 (.vl (.bool false)), .val 62 (.vl (.bool true)), .val 63 (.vl (.bool true)), .val 64 (.vl (.bool true)), .val 65 (.vl (.bool true)), .val 66 (.vl (.bool true)), .val 8 (.vl (.bool true))] [([], [14]), ([], [16]), ([0, 1], []), ([2], []), ([3], [13]), ([3], [15]), ([4, 5, 3], []), ([3, 6], []), ([7], []), ([8], [9]), ([8], [3]), ([9, 10, 8], []), ([8], [10]), ([8], [3]), ([12, 13, 8], []), ([11, 14, 8], []), ([8, 15], []), ([16], []), ([17], []), ([17, 18], []), ([19], [])] rfl (by kernel_rfl) (by kernel_rfl) (by kernel_rfl) rfl ⟨?_, ?_, ?_, ?_, ?_, ?_, ?_, ?_, ?_, ?_, ?_, ?_, ?_, ?_, ?_, ?_, ?_, ?_, ?_, ?_, ?_, trivial⟩ ?_
        · exact DX.move rfl rfl rfl rfl rfl rfl
        · exact DX.move rfl rfl rfl rfl rfl rfl
        · exact DX.q2 (x := .tmp 47) (y := .tmp 48) (.bool true) rfl rfl rfl rfl rfl (fun ρ W h1 h2 => by go_simp)
        · exact DX.move rfl rfl rfl rfl rfl rfl
        · exact DX.load rfl rfl rfl rfl rfl rfl
        · exact DX.load rfl rfl rfl rfl rfl rfl
        · exact DX.call (r := .vl (.bool true)) rfl rfl rfl rfl rfl rfl (KV.st _) rfl (k_is ((X.bo (op := p) Y)) (by first | decide | omega) rfl)
        · exact DX.pick (t := true) rfl rfl rfl rfl rfl rfl rfl
        · exact DX.move rfl rfl rfl rfl rfl rfl
        · exact DX.load rfl rfl rfl rfl rfl rfl
        · exact DX.move rfl rfl rfl rfl rfl rfl
        · exact DX.call (r := .vl (.bool false)) rfl rfl rfl rfl rfl rfl (KV.st _) rfl (k_bit X (by decide) (by omega) (by omega) (by unfold bt; rw [if_pos hi]))
        · exact DX.load rfl rfl rfl rfl rfl rfl
        · exact DX.move rfl rfl rfl rfl rfl rfl
        · exact DX.call (r := .vl (.bool false)) rfl rfl rfl rfl rfl rfl (KV.st _) rfl (k_jbit_neg hi)
        · exact DX.q2 (x := .tmp 58) (y := .tmp 61) (.bool true) rfl rfl rfl rfl rfl (fun ρ W h1 h2 => by go_simp; first | done | rfl | (cases tb x j <;> rfl))
        · exact DX.pick (t := true) rfl rfl rfl rfl rfl rfl rfl
        · exact DX.move rfl rfl rfl rfl rfl rfl
        · exact DX.call (r := .vl (.bool true)) rfl rfl rfl rfl rfl rfl (KV.st _) rfl (k_awake)
        · exact DX.pick (t := true) rfl rfl rfl rfl rfl rfl rfl
        · exact DX.assign rfl rfl rfl rfl rfl rfl
        refine SX.then ?_
        refine SC.ret ?_
        exact SX.done (r := .vl (.bool true)) rfl rfl rfl
      · obtain ⟨j, rfl⟩ : ∃ j : Nat, i = j := ⟨i.toNat, by omega⟩
        refine SC.dx [.val 47 (.vl (.int .i64 0)), .val 48 (.vl (.int .i64 0)), .val 49 (.vl (.bool true)), .val 50 (.vl (.bool true)), .val 51 (.kw (KI (bo p x y))), .val 52 (.kw (KJ (bo p x y))), .val 53 (.vl (.bool true)), .val 54 (.vl (.bool true)), .val 55 (.vl (.bool true)), .val 56 (.kw (KI (x))), .val 57 (.vl (.int .i64 (j : Int))), .val 58 (.vl (.bool (tb x j))), .val 59 (.kw (KJ (x))), .val 60 (.vl (.int .i64 (j : Int))), .val 61 (.vl (.bool (tb x j))), .val 62 (.vl (.bool true)), .val 63 (.vl (.bool true)), .val 64 (.vl (.bool true)), .val 65 (.vl (.bool true)), .val 66 (.vl (.bool true)), .val 8 (.vl (.bool true))] [([], [14]), ([], [16]), ([0, 1], []), ([2], []), ([3], [13]), ([3], [15]), ([4, 5, 3], []), ([3, 6], []), ([7], []), ([8], [9]), ([8], [3]), ([9, 10, 8], []), ([8], [10]), ([8], [3]), ([12, 13, 8], []), ([11, 14, 8], []), ([8, 15], []), ([16], []), ([17], []), ([17, 18], []), ([19], [])] rfl (by kernel_rfl) (by kernel_rfl) (by kernel_rfl) rfl ⟨?_, ?_, ?_, ?_, ?_, ?_, ?_, ?_, ?_, ?_, ?_, ?_, ?_, ?_, ?_, ?_, ?_, ?_, ?_, ?_, ?_, trivial⟩ ?_
        · exact DX.move rfl rfl rfl rfl rfl rfl
        · exact DX.move rfl rfl rfl rfl rfl rfl
        · exact DX.q2 (x := .tmp 47) (y := .tmp 48) (.bool true) rfl rfl rfl rfl rfl (fun ρ W h1 h2 => by go_simp)
        · exact DX.move rfl rfl rfl rfl rfl rfl
        · exact DX.load rfl rfl rfl rfl rfl rfl
        · exact DX.load rfl rfl rfl rfl rfl rfl
        · exact DX.call (r := .vl (.bool true)) rfl rfl rfl rfl rfl rfl (KV.st _) rfl (k_is ((X.bo (op := p) Y)) (by first | decide | omega) rfl)
        · exact DX.pick (t := true) rfl rfl rfl rfl rfl rfl rfl
        · exact DX.move rfl rfl rfl rfl rfl rfl
        · exact DX.load rfl rfl rfl rfl rfl rfl
        · exact DX.move rfl rfl rfl rfl rfl rfl
        · exact DX.call (r := .vl (.bool (tb x j))) rfl rfl rfl rfl rfl rfl (KV.st _) rfl (k_bit X (by decide) (by omega) (by omega) (by unfold bt; rw [if_neg hi]; rfl))
        · exact DX.load rfl rfl rfl rfl rfl rfl
        · exact DX.move rfl rfl rfl rfl rfl rfl
        · exact DX.call (r := .vl (.bool (tb x j))) rfl rfl rfl rfl rfl rfl (KV.st _) rfl (k_jbit X (by decide) (by omega))
        · exact DX.q2 (x := .tmp 58) (y := .tmp 61) (.bool true) rfl rfl rfl rfl rfl (fun ρ W h1 h2 => by go_simp; first | done | rfl | (cases tb x j <;> rfl))
        · exact DX.pick (t := true) rfl rfl rfl rfl rfl rfl rfl
        · exact DX.move rfl rfl rfl rfl rfl rfl
        · exact DX.call (r := .vl (.bool true)) rfl rfl rfl rfl rfl rfl (KV.st _) rfl (k_awake)
        · exact DX.pick (t := true) rfl rfl rfl rfl rfl rfl rfl
        · exact DX.assign rfl rfl rfl rfl rfl rfl
        refine SX.then ?_
        refine SC.ret ?_
        exact SX.done (r := .vl (.bool true)) rfl rfl rfl
    · refine SC.region ?_
      refine PW.load rfl rfl rfl rfl rfl rfl ?_
      refine PW.move rfl rfl rfl rfl rfl ?_
      refine PW.load rfl rfl rfl rfl rfl rfl ?_
      refine PW.call (r := .kw (K2 (KI (0)) (KV (.int .i64 1)))) rfl rfl rfl rfl rfl rfl (K2.st (KI.st _) (KV.st _)) rfl (k_boole_bad (by omega)) ?_
      refine PW.move rfl rfl rfl rfl rfl ?_
      refine PW.ext (r := .kw (KI (0))) rfl rfl rfl rfl rfl ex20 (KI.st _) rfl ?_
      refine PW.ext (r := .vl (.int .i64 1)) rfl rfl rfl rfl rfl ex21v (KV.st _) rfl ?_
      refine PW.alloc (BI 28) rfl rfl rfl rfl rfl bI ?_
      refine PW.store (x := .tmp 38) (r := .kw (KI (0))) rfl rfl rfl rfl rfl rfl sh_I ?_
      refine PW.assign rfl rfl rfl rfl rfl ?_
      refine PW.nil ?_
      refine SX.then ?_
      refine SC.seq ?_
      refine SC.region ?_
      refine PW.move rfl rfl rfl rfl rfl ?_
      refine PW.load rfl rfl rfl rfl rfl rfl ?_
      refine PW.load rfl rfl rfl rfl rfl rfl ?_
      refine PW.call (r := .kw (K2 (KJ (0)) (KV (.int .i64 1)))) rfl rfl rfl rfl rfl rfl (K2.st (KJ.st _) (KV.st _)) rfl (k_jboole_bad (by omega)) ?_
      refine PW.move rfl rfl rfl rfl rfl ?_
      refine PW.ext (r := .kw (KJ (0))) rfl rfl rfl rfl rfl ex20 (KJ.st _) rfl ?_
      refine PW.ext (r := .vl (.int .i64 1)) rfl rfl rfl rfl rfl ex21v (KV.st _) rfl ?_
      refine PW.alloc (BI 31) rfl rfl rfl rfl rfl bJ ?_
      refine PW.store (x := .tmp 45) (r := .kw (KJ (0))) rfl rfl rfl rfl rfl rfl sh_J ?_
      refine PW.assign rfl rfl rfl rfl rfl ?_
      refine PW.nil ?_
      refine SX.then ?_
      refine SC.seq ?_
      by_cases hi : i < 0
      · refine SC.dx [.val 47 (.vl (.int .i64 1)), .val 48 (.vl (.int .i64 1)), .val 49 (.vl (.bool true)), .val 50 (.vl (.bool true)), .val 51 (.kw (KI (0))), .val 52 (.kw (KJ (0))), .val 53 (.vl (.bool true)), .val 54 (.vl (.bool true)), .val 55 (.vl (.bool true)), .val 56 (.kw (KI (x))), .val 57 (.vl (.int .i64 i)), .val 58 (.vl (.bool false)), .val 59 (.kw (KJ (x))), .val 60 (.vl (.int .i64 i)), .val 61 (.vl (.bool false)), .val 62 (.vl (.bool true)), .val 63 (.vl (.bool true)), .val 64 (.vl (.bool true)), .val 65 (.vl (.bool true)), .val 66 (.vl (.bool true)), .val 8 (.vl (.bool true))] [([], [14]), ([], [16]), ([0, 1], []), ([2], []), ([3], [13]), ([3], [15]), ([4, 5, 3], []), ([3, 6], []), ([7], []), ([8], [9]), ([8], [3]), ([9, 10, 8], []), ([8], [10]), ([8], [3]), ([12, 13, 8], []), ([11, 14, 8], []), ([8, 15], []), ([16], []), ([17], []), ([17, 18], []), ([19], [])] rfl (by kernel_rfl) (by kernel_rfl) (by kernel_rfl) rfl ⟨?_, ?_, ?_, ?_, ?_, ?_, ?_, ?_, ?_, ?_, ?_, ?_, ?_, ?_, ?_, ?_, ?_, ?_, ?_, ?_, ?_, trivial⟩ ?_
        · exact DX.move rfl rfl rfl rfl rfl rfl
        · exact DX.move rfl rfl rfl rfl rfl rfl
        · exact DX.q2 (x := .tmp 47) (y := .tmp 48) (.bool true) rfl rfl rfl rfl rfl (fun ρ W h1 h2 => by go_simp)
        · exact DX.move rfl rfl rfl rfl rfl rfl
        · exact DX.load rfl rfl rfl rfl rfl rfl
        · exact DX.load rfl rfl rfl rfl rfl rfl
        · exact DX.call (r := .vl (.bool true)) rfl rfl rfl rfl rfl rfl (KV.st _) rfl (k_is (bd.zero (a := 1)) (by first | decide | omega) rfl)
        · exact DX.pick (t := true) rfl rfl rfl rfl rfl rfl rfl
        · exact DX.move rfl rfl rfl rfl rfl rfl
        · exact DX.load rfl rfl rfl rfl rfl rfl
        · exact DX.move rfl rfl rfl rfl rfl rfl
        · exact DX.call (r := .vl (.bool false)) rfl rfl rfl rfl rfl rfl (KV.st _) rfl (k_bit X (by decide) (by omega) (by omega) (by unfold bt; rw [if_pos hi]))
        · exact DX.load rfl rfl rfl rfl rfl rfl
        · exact DX.move rfl rfl rfl rfl rfl rfl
        · exact DX.call (r := .vl (.bool false)) rfl rfl rfl rfl rfl rfl (KV.st _) rfl (k_jbit_neg hi)
        · exact DX.q2 (x := .tmp 58) (y := .tmp 61) (.bool true) rfl rfl rfl rfl rfl (fun ρ W h1 h2 => by go_simp; first | done | rfl | (cases tb x j <;> rfl))
        · exact DX.pick (t := true) rfl rfl rfl rfl rfl rfl rfl
        · exact DX.move rfl rfl rfl rfl rfl rfl
        · exact DX.call (r := .vl (.bool true)) rfl rfl rfl rfl rfl rfl (KV.st _) rfl (k_awake)
        · exact DX.pick (t := true) rfl rfl rfl rfl rfl rfl rfl
        · exact DX.assign rfl rfl rfl rfl rfl rfl
        refine SX.then ?_
        refine SC.ret ?_
        exact SX.done (r := .vl (.bool true)) rfl rfl rfl
      · obtain ⟨j, rfl⟩ : ∃ j : Nat, i = j := ⟨i.toNat, by omega⟩
        refine SC.dx [.val 47 (.vl (.int .i64 1)), .val 48 (.vl (.int .i64 1)), .val 49 (.vl (.bool true)), .val 50 (.vl (.bool true)), .val 51 (.kw (KI (0))), .val 52 (.kw (KJ (0))), .val 53 (.vl (.bool true)), .val 54 (.vl (.bool true)), .val 55 (.vl (.bool true)), .val 56 (.kw (KI (x))), .val 57 (.vl (.int .i64 (j : Int))), .val 58 (.vl (.bool (tb x j))), .val 59 (.kw (KJ (x))), .val 60 (.vl (.int .i64 (j : Int))), .val 61 (.vl (.bool (tb x j))), .val 62 (.vl (.bool true)), .val 63 (.vl (.bool true)), .val 64 (.vl (.bool true)), .val 65 (.vl (.bool true)), .val 66 (.vl (.bool true)), .val 8 (.vl (.bool true))] [([], [14]), ([], [16]), ([0, 1], []), ([2], []), ([3], [13]), ([3], [15]), ([4, 5, 3], []), ([3, 6], []), ([7], []), ([8], [9]), ([8], [3]), ([9, 10, 8], []), ([8], [10]), ([8], [3]), ([12, 13, 8], []), ([11, 14, 8], []), ([8, 15], []), ([16], []), ([17], []), ([17, 18], []), ([19], [])] rfl (by kernel_rfl) (by kernel_rfl) (by kernel_rfl) rfl ⟨?_, ?_, ?_, ?_, ?_, ?_, ?_, ?_, ?_, ?_, ?_, ?_, ?_, ?_, ?_, ?_, ?_, ?_, ?_, ?_, ?_, trivial⟩ ?_
        · exact DX.move rfl rfl rfl rfl rfl rfl
        · exact DX.move rfl rfl rfl rfl rfl rfl
        · exact DX.q2 (x := .tmp 47) (y := .tmp 48) (.bool true) rfl rfl rfl rfl rfl (fun ρ W h1 h2 => by go_simp)
        · exact DX.move rfl rfl rfl rfl rfl rfl
        · exact DX.load rfl rfl rfl rfl rfl rfl
        · exact DX.load rfl rfl rfl rfl rfl rfl
        · exact DX.call (r := .vl (.bool true)) rfl rfl rfl rfl rfl rfl (KV.st _) rfl (k_is (bd.zero (a := 1)) (by first | decide | omega) rfl)
        · exact DX.pick (t := true) rfl rfl rfl rfl rfl rfl rfl
        · exact DX.move rfl rfl rfl rfl rfl rfl
        · exact DX.load rfl rfl rfl rfl rfl rfl
        · exact DX.move rfl rfl rfl rfl rfl rfl
        · exact DX.call (r := .vl (.bool (tb x j))) rfl rfl rfl rfl rfl rfl (KV.st _) rfl (k_bit X (by decide) (by omega) (by omega) (by unfold bt; rw [if_neg hi]; rfl))
        · exact DX.load rfl rfl rfl rfl rfl rfl
        · exact DX.move rfl rfl rfl rfl rfl rfl
        · exact DX.call (r := .vl (.bool (tb x j))) rfl rfl rfl rfl rfl rfl (KV.st _) rfl (k_jbit X (by decide) (by omega))
        · exact DX.q2 (x := .tmp 58) (y := .tmp 61) (.bool true) rfl rfl rfl rfl rfl (fun ρ W h1 h2 => by go_simp; first | done | rfl | (cases tb x j <;> rfl))
        · exact DX.pick (t := true) rfl rfl rfl rfl rfl rfl rfl
        · exact DX.move rfl rfl rfl rfl rfl rfl
        · exact DX.call (r := .vl (.bool true)) rfl rfl rfl rfl rfl rfl (KV.st _) rfl (k_awake)
        · exact DX.pick (t := true) rfl rfl rfl rfl rfl rfl rfl
        · exact DX.assign rfl rfl rfl rfl rfl rfl
        refine SX.then ?_
        refine SC.ret ?_
        exact SX.done (r := .vl (.bool true)) rfl rfl rfl
  · have hs : shB 8 [(n1, A1, l1, c1), (n2, A2, l2, c2)] = false := by simpa using hs
    refine SC.region ?_
    refine PW.loadV rfl rfl rfl rfl rfl rfl ?_
    refine PW.loadV rfl rfl rfl rfl rfl rfl ?_
    refine PW.short 8 [(n1, A1, l1, c1), (n2, A2, l2, c2)] _ rfl rfl rfl (fun a W hf => r_bN2 (hf.vl (s := 17) rfl) (hf.vl (s := 18) rfl)) (fun W => ns_lit2 W) (by simp; exact ⟨In.lim h1, In.lim h2⟩) rfl rfl hs rfl rfl rfl rfl rfl rfl ?_
    refine PW.q1 (x := .tmp 20) (.bool true) rfl rfl rfl rfl (fun ρ W h1 => by go_simp) ?_
    refine PW.nil ?_
    refine SX.then ?_
    refine SC.cond (t := true) rfl ?_
    refine SC.seq ?_
    refine SC.region ?_
    refine PW.call (r := .vl (.bool true)) rfl rfl rfl rfl rfl rfl (KV.st _) rfl (k_awake) ?_
    refine PW.assign rfl rfl rfl rfl rfl ?_
    refine PW.nil ?_
    refine SX.then ?_
    refine SC.ret ?_
    refine SX.thenR ?_
    exact SX.done (r := .vl (.bool true)) rfl rfl rfl
end Go.Proofs.Ytcgkgcciogibkaa
