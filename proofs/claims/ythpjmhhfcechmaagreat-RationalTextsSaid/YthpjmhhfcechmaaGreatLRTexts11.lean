/- Parts Jq, Js, in one file. -/
import Derived.Test.YthpjmhhfcechmaaGreatLRTexts10
import Derived.Test.YthpjmhhfcechmaaGreatLRTexts3
import Derived.Test.YthpjmhhfcechmaaGreatLRTexts8
/- The reference's Digit, Parse by rules. -/
set_option linter.unusedVariables false
set_option linter.unusedSimpArgs false
namespace Go.Proofs.YthpjmhhfcechmaaGreat.Sy
open Go Go.RowKit Ma
theorem mulq {a r : Int} (ha : 0 ≤ a ∧ a < 65536) (h : 2 ≤ r ∧ r ≤ 36) : 0 ≤ a * r ∧ a * r < 2359296 := by
 have h1 := Int.mul_nonneg ha.1 (show 0 ≤ r by omega)
 have h2 := Int.mul_le_mul_of_nonneg_left h.2 ha.1
 omega
theorem ce_k_digit : CE 130 := fun args W => by go_simp
set_option maxHeartbeats 3200000 in
set_option maxRecDepth 100000 in
theorem k_digit {c : Int} (h0 : 0 ≤ c) (h1 : c < 256) : CallOk 130 [KV (.int .u8 (c))] (KV (.int .i64 (dv c))) := by
 refine CallOk.enter (l := [.vl (.int .u8 (c))]) 32 ce_k_digit Tryz.func130 rfl Tryz.ntmps130 (by simp) ⟨(KV.st _), rfl, trivial⟩ fun w => ?_
 refine SC.seq ?_
 refine SC.region ?_
 refine PW.assign rfl rfl rfl rfl rfl ?_
 refine PW.nil ?_
 refine SX.then ?_
 refine SC.seq ?_
 refine SC.seq ?_
 by_cases a0 : c ≥ 48
 ·by_cases a1 : c ≤ 57
  ·refine SC.region ?_
   refine PW.move rfl rfl rfl rfl rfl ?_
   refine PW.q2 (x := .tmp 3) (y := .const (.int .u8 48)) (.bool true) rfl rfl rfl rfl rfl (fun ρ W h1 h2 => by exact r_ge8 h1 h2 (decide_eq_true a0)) ?_
   refine PW.move rfl rfl rfl rfl rfl ?_
   refine PW.move rfl rfl rfl rfl rfl ?_
   refine PW.q2 (x := .tmp 6) (y := .const (.int .u8 57)) (.bool true) rfl rfl rfl rfl rfl (fun ρ W h1 h2 => by exact r_le8 h1 h2 (decide_eq_true a1)) ?_
   refine PW.pick (t := true) rfl rfl rfl rfl rfl rfl ?_
   refine PW.nil ?_
   refine SX.then ?_
   refine SC.cond (t := true) rfl ?_
   refine SC.seq ?_
   refine SC.region ?_
   refine PW.move rfl rfl rfl rfl rfl ?_
   refine PW.q2 (x := .tmp 9) (y := .const (.int .u8 48)) (.int .u8 (c - 48)) rfl rfl rfl rfl rfl (fun ρ W h1 h2 => by exact r_sub8 h1 h2 rfl (by omega)) ?_
   refine PW.q1 (x := .tmp 10) (.int .i64 (c - 48)) rfl rfl rfl rfl (fun ρ W h1 => by exact r_8i h1 (by omega)) ?_
   refine PW.assign rfl rfl rfl rfl rfl ?_
   refine PW.nil ?_
   refine SX.then ?_
   refine SC.ret ?_
   refine SX.thenR ?_
   have hr : dv c = c - 48 := by unfold dv; (repeat' split); all_goals omega
   rw [hr]
   exact SX.done (s := 2) (r := .vl (.int .i64 (c - 48))) rfl rfl rfl
  ·refine SC.region ?_
   refine PW.move rfl rfl rfl rfl rfl ?_
   refine PW.q2 (x := .tmp 3) (y := .const (.int .u8 48)) (.bool true) rfl rfl rfl rfl rfl (fun ρ W h1 h2 => by exact r_ge8 h1 h2 (decide_eq_true a0)) ?_
   refine PW.move rfl rfl rfl rfl rfl ?_
   refine PW.move rfl rfl rfl rfl rfl ?_
   refine PW.q2 (x := .tmp 6) (y := .const (.int .u8 57)) (.bool false) rfl rfl rfl rfl rfl (fun ρ W h1 h2 => by exact r_le8 h1 h2 (decide_eq_false a1)) ?_
   refine PW.pick (t := true) rfl rfl rfl rfl rfl rfl ?_
   refine PW.nil ?_
   refine SX.then ?_
   refine SC.cond (t := false) rfl ?_
   refine SC.skip ?_
   refine SX.then ?_
   refine SC.seq ?_
   refine SC.seq ?_
   by_cases b0 : c ≥ 65
   ·by_cases b1 : c ≤ 90
    ·refine SC.region ?_
     refine PW.move rfl rfl rfl rfl rfl ?_
     refine PW.q2 (x := .tmp 12) (y := .const (.int .u8 65)) (.bool true) rfl rfl rfl rfl rfl (fun ρ W h1 h2 => by exact r_ge8 h1 h2 (decide_eq_true b0)) ?_
     refine PW.move rfl rfl rfl rfl rfl ?_
     refine PW.move rfl rfl rfl rfl rfl ?_
     refine PW.q2 (x := .tmp 15) (y := .const (.int .u8 90)) (.bool true) rfl rfl rfl rfl rfl (fun ρ W h1 h2 => by exact r_le8 h1 h2 (decide_eq_true b1)) ?_
     refine PW.pick (t := true) rfl rfl rfl rfl rfl rfl ?_
     refine PW.nil ?_
     refine SX.then ?_
     refine SC.cond (t := true) rfl ?_
     refine SC.seq ?_
     refine SC.region ?_
     refine PW.move rfl rfl rfl rfl rfl ?_
     refine PW.q2 (x := .tmp 18) (y := .const (.int .u8 65)) (.int .u8 (c - 65)) rfl rfl rfl rfl rfl (fun ρ W h1 h2 => by exact r_sub8 h1 h2 rfl (by omega)) ?_
     refine PW.q1 (x := .tmp 19) (.int .i64 (c - 65)) rfl rfl rfl rfl (fun ρ W h1 => by exact r_8i h1 (by omega)) ?_
     refine PW.q2 (x := .tmp 20) (y := .const (.int .i64 10)) (.int .i64 (c - 55)) rfl rfl rfl rfl rfl (fun ρ W h1 h2 => by exact r_add h1 h2 (by omega) (by omega)) ?_
     refine PW.assign rfl rfl rfl rfl rfl ?_
     refine PW.nil ?_
     refine SX.then ?_
     refine SC.ret ?_
     refine SX.thenR ?_
     have hr : dv c = c - 55 := by unfold dv; (repeat' split); all_goals omega
     rw [hr]
     exact SX.done (s := 2) (r := .vl (.int .i64 (c - 55))) rfl rfl rfl
    ·refine SC.region ?_
     refine PW.move rfl rfl rfl rfl rfl ?_
     refine PW.q2 (x := .tmp 12) (y := .const (.int .u8 65)) (.bool true) rfl rfl rfl rfl rfl (fun ρ W h1 h2 => by exact r_ge8 h1 h2 (decide_eq_true b0)) ?_
     refine PW.move rfl rfl rfl rfl rfl ?_
     refine PW.move rfl rfl rfl rfl rfl ?_
     refine PW.q2 (x := .tmp 15) (y := .const (.int .u8 90)) (.bool false) rfl rfl rfl rfl rfl (fun ρ W h1 h2 => by exact r_le8 h1 h2 (decide_eq_false b1)) ?_
     refine PW.pick (t := true) rfl rfl rfl rfl rfl rfl ?_
     refine PW.nil ?_
     refine SX.then ?_
     refine SC.cond (t := false) rfl ?_
     refine SC.skip ?_
     refine SX.then ?_
     refine SC.seq ?_
     refine SC.seq ?_
     by_cases d0 : c ≥ 97
     ·by_cases d1 : c ≤ 122
      ·refine SC.region ?_
       refine PW.move rfl rfl rfl rfl rfl ?_
       refine PW.q2 (x := .tmp 22) (y := .const (.int .u8 97)) (.bool true) rfl rfl rfl rfl rfl (fun ρ W h1 h2 => by exact r_ge8 h1 h2 (decide_eq_true d0)) ?_
       refine PW.move rfl rfl rfl rfl rfl ?_
       refine PW.move rfl rfl rfl rfl rfl ?_
       refine PW.q2 (x := .tmp 25) (y := .const (.int .u8 122)) (.bool true) rfl rfl rfl rfl rfl (fun ρ W h1 h2 => by exact r_le8 h1 h2 (decide_eq_true d1)) ?_
       refine PW.pick (t := true) rfl rfl rfl rfl rfl rfl ?_
       refine PW.nil ?_
       refine SX.then ?_
       refine SC.cond (t := true) rfl ?_
       refine SC.seq ?_
       refine SC.region ?_
       refine PW.move rfl rfl rfl rfl rfl ?_
       refine PW.q2 (x := .tmp 28) (y := .const (.int .u8 97)) (.int .u8 (c - 97)) rfl rfl rfl rfl rfl (fun ρ W h1 h2 => by exact r_sub8 h1 h2 rfl (by omega)) ?_
       refine PW.q1 (x := .tmp 29) (.int .i64 (c - 97)) rfl rfl rfl rfl (fun ρ W h1 => by exact r_8i h1 (by omega)) ?_
       refine PW.q2 (x := .tmp 30) (y := .const (.int .i64 10)) (.int .i64 (c - 87)) rfl rfl rfl rfl rfl (fun ρ W h1 h2 => by exact r_add h1 h2 (by omega) (by omega)) ?_
       refine PW.assign rfl rfl rfl rfl rfl ?_
       refine PW.nil ?_
       refine SX.then ?_
       refine SC.ret ?_
       refine SX.thenR ?_
       have hr : dv c = c - 87 := by unfold dv; (repeat' split); all_goals omega
       rw [hr]
       exact SX.done (s := 2) (r := .vl (.int .i64 (c - 87))) rfl rfl rfl
      ·refine SC.region ?_
       refine PW.move rfl rfl rfl rfl rfl ?_
       refine PW.q2 (x := .tmp 22) (y := .const (.int .u8 97)) (.bool true) rfl rfl rfl rfl rfl (fun ρ W h1 h2 => by exact r_ge8 h1 h2 (decide_eq_true d0)) ?_
       refine PW.move rfl rfl rfl rfl rfl ?_
       refine PW.move rfl rfl rfl rfl rfl ?_
       refine PW.q2 (x := .tmp 25) (y := .const (.int .u8 122)) (.bool false) rfl rfl rfl rfl rfl (fun ρ W h1 h2 => by exact r_le8 h1 h2 (decide_eq_false d1)) ?_
       refine PW.pick (t := true) rfl rfl rfl rfl rfl rfl ?_
       refine PW.nil ?_
       refine SX.then ?_
       refine SC.cond (t := false) rfl ?_
       refine SC.skip ?_
       refine SX.then ?_
       refine SC.seq ?_
       refine SC.region ?_
       refine PW.assign rfl rfl rfl rfl rfl ?_
       refine PW.nil ?_
       refine SX.then ?_
       refine SC.ret ?_
       have hr : dv c = 36 := by unfold dv; (repeat' split); all_goals omega
       rw [hr]
       exact SX.done (s := 2) (r := .vl (.int .i64 36)) rfl rfl rfl
     ·refine SC.region ?_
      refine PW.move rfl rfl rfl rfl rfl ?_
      refine PW.q2 (x := .tmp 22) (y := .const (.int .u8 97)) (.bool false) rfl rfl rfl rfl rfl (fun ρ W h1 h2 => by exact r_ge8 h1 h2 (decide_eq_false d0)) ?_
      refine PW.move rfl rfl rfl rfl rfl ?_
      refine PW.skip rfl rfl rfl ?_
      refine PW.skip rfl rfl rfl ?_
      refine PW.pick (t := false) rfl rfl rfl rfl rfl rfl ?_
      refine PW.nil ?_
      refine SX.then ?_
      refine SC.cond (t := false) rfl ?_
      refine SC.skip ?_
      refine SX.then ?_
      refine SC.seq ?_
      refine SC.region ?_
      refine PW.assign rfl rfl rfl rfl rfl ?_
      refine PW.nil ?_
      refine SX.then ?_
      refine SC.ret ?_
      have hr : dv c = 36 := by unfold dv; (repeat' split); all_goals omega
      rw [hr]
      exact SX.done (s := 2) (r := .vl (.int .i64 36)) rfl rfl rfl
   ·refine SC.region ?_
    refine PW.move rfl rfl rfl rfl rfl ?_
    refine PW.q2 (x := .tmp 12) (y := .const (.int .u8 65)) (.bool false) rfl rfl rfl rfl rfl (fun ρ W h1 h2 => by exact r_ge8 h1 h2 (decide_eq_false b0)) ?_
    refine PW.move rfl rfl rfl rfl rfl ?_
    refine PW.skip rfl rfl rfl ?_
    refine PW.skip rfl rfl rfl ?_
    refine PW.pick (t := false) rfl rfl rfl rfl rfl rfl ?_
    refine PW.nil ?_
    refine SX.then ?_
    refine SC.cond (t := false) rfl ?_
    refine SC.skip ?_
    refine SX.then ?_
    refine SC.seq ?_
    refine SC.seq ?_
    by_cases d0 : c ≥ 97
    ·by_cases d1 : c ≤ 122
     ·refine SC.region ?_
      refine PW.move rfl rfl rfl rfl rfl ?_
      refine PW.q2 (x := .tmp 22) (y := .const (.int .u8 97)) (.bool true) rfl rfl rfl rfl rfl (fun ρ W h1 h2 => by exact r_ge8 h1 h2 (decide_eq_true d0)) ?_
      refine PW.move rfl rfl rfl rfl rfl ?_
      refine PW.move rfl rfl rfl rfl rfl ?_
      refine PW.q2 (x := .tmp 25) (y := .const (.int .u8 122)) (.bool true) rfl rfl rfl rfl rfl (fun ρ W h1 h2 => by exact r_le8 h1 h2 (decide_eq_true d1)) ?_
      refine PW.pick (t := true) rfl rfl rfl rfl rfl rfl ?_
      refine PW.nil ?_
      refine SX.then ?_
      refine SC.cond (t := true) rfl ?_
      refine SC.seq ?_
      refine SC.region ?_
      refine PW.move rfl rfl rfl rfl rfl ?_
      refine PW.q2 (x := .tmp 28) (y := .const (.int .u8 97)) (.int .u8 (c - 97)) rfl rfl rfl rfl rfl (fun ρ W h1 h2 => by exact r_sub8 h1 h2 rfl (by omega)) ?_
      refine PW.q1 (x := .tmp 29) (.int .i64 (c - 97)) rfl rfl rfl rfl (fun ρ W h1 => by exact r_8i h1 (by omega)) ?_
      refine PW.q2 (x := .tmp 30) (y := .const (.int .i64 10)) (.int .i64 (c - 87)) rfl rfl rfl rfl rfl (fun ρ W h1 h2 => by exact r_add h1 h2 (by omega) (by omega)) ?_
      refine PW.assign rfl rfl rfl rfl rfl ?_
      refine PW.nil ?_
      refine SX.then ?_
      refine SC.ret ?_
      refine SX.thenR ?_
      have hr : dv c = c - 87 := by unfold dv; (repeat' split); all_goals omega
      rw [hr]
      exact SX.done (s := 2) (r := .vl (.int .i64 (c - 87))) rfl rfl rfl
     ·refine SC.region ?_
      refine PW.move rfl rfl rfl rfl rfl ?_
      refine PW.q2 (x := .tmp 22) (y := .const (.int .u8 97)) (.bool true) rfl rfl rfl rfl rfl (fun ρ W h1 h2 => by exact r_ge8 h1 h2 (decide_eq_true d0)) ?_
      refine PW.move rfl rfl rfl rfl rfl ?_
      refine PW.move rfl rfl rfl rfl rfl ?_
      refine PW.q2 (x := .tmp 25) (y := .const (.int .u8 122)) (.bool false) rfl rfl rfl rfl rfl (fun ρ W h1 h2 => by exact r_le8 h1 h2 (decide_eq_false d1)) ?_
      refine PW.pick (t := true) rfl rfl rfl rfl rfl rfl ?_
      refine PW.nil ?_
      refine SX.then ?_
      refine SC.cond (t := false) rfl ?_
      refine SC.skip ?_
      refine SX.then ?_
      refine SC.seq ?_
      refine SC.region ?_
      refine PW.assign rfl rfl rfl rfl rfl ?_
      refine PW.nil ?_
      refine SX.then ?_
      refine SC.ret ?_
      have hr : dv c = 36 := by unfold dv; (repeat' split); all_goals omega
      rw [hr]
      exact SX.done (s := 2) (r := .vl (.int .i64 36)) rfl rfl rfl
    ·refine SC.region ?_
     refine PW.move rfl rfl rfl rfl rfl ?_
     refine PW.q2 (x := .tmp 22) (y := .const (.int .u8 97)) (.bool false) rfl rfl rfl rfl rfl (fun ρ W h1 h2 => by exact r_ge8 h1 h2 (decide_eq_false d0)) ?_
     refine PW.move rfl rfl rfl rfl rfl ?_
     refine PW.skip rfl rfl rfl ?_
     refine PW.skip rfl rfl rfl ?_
     refine PW.pick (t := false) rfl rfl rfl rfl rfl rfl ?_
     refine PW.nil ?_
     refine SX.then ?_
     refine SC.cond (t := false) rfl ?_
     refine SC.skip ?_
     refine SX.then ?_
     refine SC.seq ?_
     refine SC.region ?_
     refine PW.assign rfl rfl rfl rfl rfl ?_
     refine PW.nil ?_
     refine SX.then ?_
     refine SC.ret ?_
     have hr : dv c = 36 := by unfold dv; (repeat' split); all_goals omega
     rw [hr]
     exact SX.done (s := 2) (r := .vl (.int .i64 36)) rfl rfl rfl
 ·refine SC.region ?_
  refine PW.move rfl rfl rfl rfl rfl ?_
  refine PW.q2 (x := .tmp 3) (y := .const (.int .u8 48)) (.bool false) rfl rfl rfl rfl rfl (fun ρ W h1 h2 => by exact r_ge8 h1 h2 (decide_eq_false a0)) ?_
  refine PW.move rfl rfl rfl rfl rfl ?_
  refine PW.skip rfl rfl rfl ?_
  refine PW.skip rfl rfl rfl ?_
  refine PW.pick (t := false) rfl rfl rfl rfl rfl rfl ?_
  refine PW.nil ?_
  refine SX.then ?_
  refine SC.cond (t := false) rfl ?_
  refine SC.skip ?_
  refine SX.then ?_
  refine SC.seq ?_
  refine SC.seq ?_
  by_cases b0 : c ≥ 65
  ·by_cases b1 : c ≤ 90
   ·refine SC.region ?_
    refine PW.move rfl rfl rfl rfl rfl ?_
    refine PW.q2 (x := .tmp 12) (y := .const (.int .u8 65)) (.bool true) rfl rfl rfl rfl rfl (fun ρ W h1 h2 => by exact r_ge8 h1 h2 (decide_eq_true b0)) ?_
    refine PW.move rfl rfl rfl rfl rfl ?_
    refine PW.move rfl rfl rfl rfl rfl ?_
    refine PW.q2 (x := .tmp 15) (y := .const (.int .u8 90)) (.bool true) rfl rfl rfl rfl rfl (fun ρ W h1 h2 => by exact r_le8 h1 h2 (decide_eq_true b1)) ?_
    refine PW.pick (t := true) rfl rfl rfl rfl rfl rfl ?_
    refine PW.nil ?_
    refine SX.then ?_
    refine SC.cond (t := true) rfl ?_
    refine SC.seq ?_
    refine SC.region ?_
    refine PW.move rfl rfl rfl rfl rfl ?_
    refine PW.q2 (x := .tmp 18) (y := .const (.int .u8 65)) (.int .u8 (c - 65)) rfl rfl rfl rfl rfl (fun ρ W h1 h2 => by exact r_sub8 h1 h2 rfl (by omega)) ?_
    refine PW.q1 (x := .tmp 19) (.int .i64 (c - 65)) rfl rfl rfl rfl (fun ρ W h1 => by exact r_8i h1 (by omega)) ?_
    refine PW.q2 (x := .tmp 20) (y := .const (.int .i64 10)) (.int .i64 (c - 55)) rfl rfl rfl rfl rfl (fun ρ W h1 h2 => by exact r_add h1 h2 (by omega) (by omega)) ?_
    refine PW.assign rfl rfl rfl rfl rfl ?_
    refine PW.nil ?_
    refine SX.then ?_
    refine SC.ret ?_
    refine SX.thenR ?_
    have hr : dv c = c - 55 := by unfold dv; (repeat' split); all_goals omega
    rw [hr]
    exact SX.done (s := 2) (r := .vl (.int .i64 (c - 55))) rfl rfl rfl
   ·refine SC.region ?_
    refine PW.move rfl rfl rfl rfl rfl ?_
    refine PW.q2 (x := .tmp 12) (y := .const (.int .u8 65)) (.bool true) rfl rfl rfl rfl rfl (fun ρ W h1 h2 => by exact r_ge8 h1 h2 (decide_eq_true b0)) ?_
    refine PW.move rfl rfl rfl rfl rfl ?_
    refine PW.move rfl rfl rfl rfl rfl ?_
    refine PW.q2 (x := .tmp 15) (y := .const (.int .u8 90)) (.bool false) rfl rfl rfl rfl rfl (fun ρ W h1 h2 => by exact r_le8 h1 h2 (decide_eq_false b1)) ?_
    refine PW.pick (t := true) rfl rfl rfl rfl rfl rfl ?_
    refine PW.nil ?_
    refine SX.then ?_
    refine SC.cond (t := false) rfl ?_
    refine SC.skip ?_
    refine SX.then ?_
    refine SC.seq ?_
    refine SC.seq ?_
    by_cases d0 : c ≥ 97
    ·by_cases d1 : c ≤ 122
     ·refine SC.region ?_
      refine PW.move rfl rfl rfl rfl rfl ?_
      refine PW.q2 (x := .tmp 22) (y := .const (.int .u8 97)) (.bool true) rfl rfl rfl rfl rfl (fun ρ W h1 h2 => by exact r_ge8 h1 h2 (decide_eq_true d0)) ?_
      refine PW.move rfl rfl rfl rfl rfl ?_
      refine PW.move rfl rfl rfl rfl rfl ?_
      refine PW.q2 (x := .tmp 25) (y := .const (.int .u8 122)) (.bool true) rfl rfl rfl rfl rfl (fun ρ W h1 h2 => by exact r_le8 h1 h2 (decide_eq_true d1)) ?_
      refine PW.pick (t := true) rfl rfl rfl rfl rfl rfl ?_
      refine PW.nil ?_
      refine SX.then ?_
      refine SC.cond (t := true) rfl ?_
      refine SC.seq ?_
      refine SC.region ?_
      refine PW.move rfl rfl rfl rfl rfl ?_
      refine PW.q2 (x := .tmp 28) (y := .const (.int .u8 97)) (.int .u8 (c - 97)) rfl rfl rfl rfl rfl (fun ρ W h1 h2 => by exact r_sub8 h1 h2 rfl (by omega)) ?_
      refine PW.q1 (x := .tmp 29) (.int .i64 (c - 97)) rfl rfl rfl rfl (fun ρ W h1 => by exact r_8i h1 (by omega)) ?_
      refine PW.q2 (x := .tmp 30) (y := .const (.int .i64 10)) (.int .i64 (c - 87)) rfl rfl rfl rfl rfl (fun ρ W h1 h2 => by exact r_add h1 h2 (by omega) (by omega)) ?_
      refine PW.assign rfl rfl rfl rfl rfl ?_
      refine PW.nil ?_
      refine SX.then ?_
      refine SC.ret ?_
      refine SX.thenR ?_
      have hr : dv c = c - 87 := by unfold dv; (repeat' split); all_goals omega
      rw [hr]
      exact SX.done (s := 2) (r := .vl (.int .i64 (c - 87))) rfl rfl rfl
     ·refine SC.region ?_
      refine PW.move rfl rfl rfl rfl rfl ?_
      refine PW.q2 (x := .tmp 22) (y := .const (.int .u8 97)) (.bool true) rfl rfl rfl rfl rfl (fun ρ W h1 h2 => by exact r_ge8 h1 h2 (decide_eq_true d0)) ?_
      refine PW.move rfl rfl rfl rfl rfl ?_
      refine PW.move rfl rfl rfl rfl rfl ?_
      refine PW.q2 (x := .tmp 25) (y := .const (.int .u8 122)) (.bool false) rfl rfl rfl rfl rfl (fun ρ W h1 h2 => by exact r_le8 h1 h2 (decide_eq_false d1)) ?_
      refine PW.pick (t := true) rfl rfl rfl rfl rfl rfl ?_
      refine PW.nil ?_
      refine SX.then ?_
      refine SC.cond (t := false) rfl ?_
      refine SC.skip ?_
      refine SX.then ?_
      refine SC.seq ?_
      refine SC.region ?_
      refine PW.assign rfl rfl rfl rfl rfl ?_
      refine PW.nil ?_
      refine SX.then ?_
      refine SC.ret ?_
      have hr : dv c = 36 := by unfold dv; (repeat' split); all_goals omega
      rw [hr]
      exact SX.done (s := 2) (r := .vl (.int .i64 36)) rfl rfl rfl
    ·refine SC.region ?_
     refine PW.move rfl rfl rfl rfl rfl ?_
     refine PW.q2 (x := .tmp 22) (y := .const (.int .u8 97)) (.bool false) rfl rfl rfl rfl rfl (fun ρ W h1 h2 => by exact r_ge8 h1 h2 (decide_eq_false d0)) ?_
     refine PW.move rfl rfl rfl rfl rfl ?_
     refine PW.skip rfl rfl rfl ?_
     refine PW.skip rfl rfl rfl ?_
     refine PW.pick (t := false) rfl rfl rfl rfl rfl rfl ?_
     refine PW.nil ?_
     refine SX.then ?_
     refine SC.cond (t := false) rfl ?_
     refine SC.skip ?_
     refine SX.then ?_
     refine SC.seq ?_
     refine SC.region ?_
     refine PW.assign rfl rfl rfl rfl rfl ?_
     refine PW.nil ?_
     refine SX.then ?_
     refine SC.ret ?_
     have hr : dv c = 36 := by unfold dv; (repeat' split); all_goals omega
     rw [hr]
     exact SX.done (s := 2) (r := .vl (.int .i64 36)) rfl rfl rfl
  ·refine SC.region ?_
   refine PW.move rfl rfl rfl rfl rfl ?_
   refine PW.q2 (x := .tmp 12) (y := .const (.int .u8 65)) (.bool false) rfl rfl rfl rfl rfl (fun ρ W h1 h2 => by exact r_ge8 h1 h2 (decide_eq_false b0)) ?_
   refine PW.move rfl rfl rfl rfl rfl ?_
   refine PW.skip rfl rfl rfl ?_
   refine PW.skip rfl rfl rfl ?_
   refine PW.pick (t := false) rfl rfl rfl rfl rfl rfl ?_
   refine PW.nil ?_
   refine SX.then ?_
   refine SC.cond (t := false) rfl ?_
   refine SC.skip ?_
   refine SX.then ?_
   refine SC.seq ?_
   refine SC.seq ?_
   by_cases d0 : c ≥ 97
   ·by_cases d1 : c ≤ 122
    ·refine SC.region ?_
     refine PW.move rfl rfl rfl rfl rfl ?_
     refine PW.q2 (x := .tmp 22) (y := .const (.int .u8 97)) (.bool true) rfl rfl rfl rfl rfl (fun ρ W h1 h2 => by exact r_ge8 h1 h2 (decide_eq_true d0)) ?_
     refine PW.move rfl rfl rfl rfl rfl ?_
     refine PW.move rfl rfl rfl rfl rfl ?_
     refine PW.q2 (x := .tmp 25) (y := .const (.int .u8 122)) (.bool true) rfl rfl rfl rfl rfl (fun ρ W h1 h2 => by exact r_le8 h1 h2 (decide_eq_true d1)) ?_
     refine PW.pick (t := true) rfl rfl rfl rfl rfl rfl ?_
     refine PW.nil ?_
     refine SX.then ?_
     refine SC.cond (t := true) rfl ?_
     refine SC.seq ?_
     refine SC.region ?_
     refine PW.move rfl rfl rfl rfl rfl ?_
     refine PW.q2 (x := .tmp 28) (y := .const (.int .u8 97)) (.int .u8 (c - 97)) rfl rfl rfl rfl rfl (fun ρ W h1 h2 => by exact r_sub8 h1 h2 rfl (by omega)) ?_
     refine PW.q1 (x := .tmp 29) (.int .i64 (c - 97)) rfl rfl rfl rfl (fun ρ W h1 => by exact r_8i h1 (by omega)) ?_
     refine PW.q2 (x := .tmp 30) (y := .const (.int .i64 10)) (.int .i64 (c - 87)) rfl rfl rfl rfl rfl (fun ρ W h1 h2 => by exact r_add h1 h2 (by omega) (by omega)) ?_
     refine PW.assign rfl rfl rfl rfl rfl ?_
     refine PW.nil ?_
     refine SX.then ?_
     refine SC.ret ?_
     refine SX.thenR ?_
     have hr : dv c = c - 87 := by unfold dv; (repeat' split); all_goals omega
     rw [hr]
     exact SX.done (s := 2) (r := .vl (.int .i64 (c - 87))) rfl rfl rfl
    ·refine SC.region ?_
     refine PW.move rfl rfl rfl rfl rfl ?_
     refine PW.q2 (x := .tmp 22) (y := .const (.int .u8 97)) (.bool true) rfl rfl rfl rfl rfl (fun ρ W h1 h2 => by exact r_ge8 h1 h2 (decide_eq_true d0)) ?_
     refine PW.move rfl rfl rfl rfl rfl ?_
     refine PW.move rfl rfl rfl rfl rfl ?_
     refine PW.q2 (x := .tmp 25) (y := .const (.int .u8 122)) (.bool false) rfl rfl rfl rfl rfl (fun ρ W h1 h2 => by exact r_le8 h1 h2 (decide_eq_false d1)) ?_
     refine PW.pick (t := true) rfl rfl rfl rfl rfl rfl ?_
     refine PW.nil ?_
     refine SX.then ?_
     refine SC.cond (t := false) rfl ?_
     refine SC.skip ?_
     refine SX.then ?_
     refine SC.seq ?_
     refine SC.region ?_
     refine PW.assign rfl rfl rfl rfl rfl ?_
     refine PW.nil ?_
     refine SX.then ?_
     refine SC.ret ?_
     have hr : dv c = 36 := by unfold dv; (repeat' split); all_goals omega
     rw [hr]
     exact SX.done (s := 2) (r := .vl (.int .i64 36)) rfl rfl rfl
   ·refine SC.region ?_
    refine PW.move rfl rfl rfl rfl rfl ?_
    refine PW.q2 (x := .tmp 22) (y := .const (.int .u8 97)) (.bool false) rfl rfl rfl rfl rfl (fun ρ W h1 h2 => by exact r_ge8 h1 h2 (decide_eq_false d0)) ?_
    refine PW.move rfl rfl rfl rfl rfl ?_
    refine PW.skip rfl rfl rfl ?_
    refine PW.skip rfl rfl rfl ?_
    refine PW.pick (t := false) rfl rfl rfl rfl rfl rfl ?_
    refine PW.nil ?_
    refine SX.then ?_
    refine SC.cond (t := false) rfl ?_
    refine SC.skip ?_
    refine SX.then ?_
    refine SC.seq ?_
    refine SC.region ?_
    refine PW.assign rfl rfl rfl rfl rfl ?_
    refine PW.nil ?_
    refine SX.then ?_
    refine SC.ret ?_
    have hr : dv c = 36 := by unfold dv; (repeat' split); all_goals omega
    rw [hr]
    exact SX.done (s := 2) (r := .vl (.int .i64 36)) rfl rfl rfl
theorem ce_jparse : CE 90 := fun args W => by go_simp
set_option maxHeartbeats 3200000 in
set_option maxRecDepth 100000 in
theorem k_jparse_radix {s : ByteArray} {r : Int} (h : ¬ (2 ≤ r ∧ r ≤ 36)) : CallOk 90 [KV (.string s), KV (.int .i64 (r))] (KPJ (parseR r (byl s))) := by
 refine CallOk.enter (l := [.vl (.string s), .vl (.int .i64 (r))]) 94 ce_jparse Tryz.func90 rfl Tryz.ntmps90 (by simp) ⟨(KV.st _), rfl, (KV.st _), rfl, trivial⟩ fun w => ?_
 refine SC.seq ?_
 refine SC.region ?_
 refine PW.alloc (BI 34) rfl rfl rfl rfl rfl bJ ?_
 refine PW.assign rfl rfl rfl rfl rfl ?_
 refine PW.nil ?_
 refine SX.then ?_
 refine SC.seq ?_
 refine SC.seq ?_
 by_cases hr2 : r < 2
 ·refine SC.region ?_
  refine PW.move rfl rfl rfl rfl rfl ?_
  refine PW.q2 (x := .tmp 12) (y := .const (.int .i64 2)) (.bool true) rfl rfl rfl rfl rfl (fun ρ W h1 h2 => by exact r_lt h1 h2 (decide_eq_true hr2)) ?_
  refine PW.move rfl rfl rfl rfl rfl ?_
  refine PW.skip rfl rfl rfl ?_
  refine PW.skip rfl rfl rfl ?_
  refine PW.pick (t := true) rfl rfl rfl rfl rfl rfl ?_
  refine PW.nil ?_
  refine SX.then ?_
  refine SC.cond (t := true) rfl ?_
  refine SC.seq ?_
  refine SC.region ?_
  refine PW.val (r := .kw (KJ (0))) rfl rfl rfl rfl (fun a W hf => ⟨.agg #[.bool false, .slice none 0 0], by go_simp, zeroJ W, KJ.st _⟩) ?_
  refine PW.store (x := .tmp 18) (r := .kw (KJ (0))) rfl rfl rfl rfl rfl rfl sh_J ?_
  refine PW.assign rfl rfl rfl rfl rfl ?_
  refine PW.nil ?_
  refine SX.then ?_
  refine SC.ret ?_
  refine SX.thenR ?_
  rw [parse_radix h]
  exact SX.done2 (s := 4) (t := 5) (r := .vl (.int .i64 1)) (.inl rfl) rfl rfl rfl rfl
 ·refine SC.region ?_
  refine PW.move rfl rfl rfl rfl rfl ?_
  refine PW.q2 (x := .tmp 12) (y := .const (.int .i64 2)) (.bool false) rfl rfl rfl rfl rfl (fun ρ W h1 h2 => by exact r_lt h1 h2 (decide_eq_false hr2)) ?_
  refine PW.move rfl rfl rfl rfl rfl ?_
  refine PW.move rfl rfl rfl rfl rfl ?_
  refine PW.q2 (x := .tmp 15) (y := .const (.int .i64 36)) (.bool true) rfl rfl rfl rfl rfl (fun ρ W h1 h2 => by exact r_gt h1 h2 (decide_eq_true (by omega))) ?_
  refine PW.pick (t := false) rfl rfl rfl rfl rfl rfl ?_
  refine PW.nil ?_
  refine SX.then ?_
  refine SC.cond (t := true) rfl ?_
  refine SC.seq ?_
  refine SC.region ?_
  refine PW.val (r := .kw (KJ (0))) rfl rfl rfl rfl (fun a W hf => ⟨.agg #[.bool false, .slice none 0 0], by go_simp, zeroJ W, KJ.st _⟩) ?_
  refine PW.store (x := .tmp 18) (r := .kw (KJ (0))) rfl rfl rfl rfl rfl rfl sh_J ?_
  refine PW.assign rfl rfl rfl rfl rfl ?_
  refine PW.nil ?_
  refine SX.then ?_
  refine SC.ret ?_
  refine SX.thenR ?_
  rw [parse_radix h]
  exact SX.done2 (s := 4) (t := 5) (r := .vl (.int .i64 1)) (.inl rfl) rfl rfl rfl rfl
set_option maxHeartbeats 3200000 in
set_option maxRecDepth 100000 in
theorem k_jparse_long {s : ByteArray} {r : Int} (h : 2 ≤ r ∧ r ≤ 36) (hl : 20000 < s.size) : CallOk 90 [KV (.string s), KV (.int .i64 (r))] (KPJ (parseR r (byl s))) := by
 refine CallOk.enter (l := [.vl (.string s), .vl (.int .i64 (r))]) 94 ce_jparse Tryz.func90 rfl Tryz.ntmps90 (by simp) ⟨(KV.st _), rfl, (KV.st _), rfl, trivial⟩ fun w => ?_
 refine SC.seq ?_
 refine SC.region ?_
 refine PW.alloc (BI 34) rfl rfl rfl rfl rfl bJ ?_
 refine PW.assign rfl rfl rfl rfl rfl ?_
 refine PW.nil ?_
 refine SX.then ?_
 refine SC.seq ?_
 refine SC.seq ?_
 refine SC.region ?_
 refine PW.move rfl rfl rfl rfl rfl ?_
 refine PW.q2 (x := .tmp 12) (y := .const (.int .i64 2)) (.bool false) rfl rfl rfl rfl rfl (fun ρ W h1 h2 => by exact r_lt h1 h2 (decide_eq_false (by omega))) ?_
 refine PW.move rfl rfl rfl rfl rfl ?_
 refine PW.move rfl rfl rfl rfl rfl ?_
 refine PW.q2 (x := .tmp 15) (y := .const (.int .i64 36)) (.bool false) rfl rfl rfl rfl rfl (fun ρ W h1 h2 => by exact r_gt h1 h2 (decide_eq_false (by omega))) ?_
 refine PW.pick (t := false) rfl rfl rfl rfl rfl rfl ?_
 refine PW.nil ?_
 refine SX.then ?_
 refine SC.cond (t := false) rfl ?_
 refine SC.skip ?_
 refine SX.then ?_
 refine SC.seq ?_
 refine SC.seq ?_
 refine SC.region ?_
 refine PW.move rfl rfl rfl rfl rfl ?_
 refine PW.qn [(.tmp 19, .string s)] (.int .i64 (s.size : Int)) rfl rfl rfl ⟨rfl, trivial⟩ (fun ρ W h => by obtain ⟨h1, _⟩ := h; exact r_slen h1) ?_
 refine PW.q2 (x := .tmp 20) (y := .const (.int .i64 20000)) (.bool true) rfl rfl rfl rfl rfl (fun ρ W h1 h2 => by exact r_gt h1 h2 (decide_eq_true (by omega))) ?_
 refine PW.nil ?_
 refine SX.then ?_
 refine SC.cond (t := true) rfl ?_
 refine SC.seq ?_
 refine SC.region ?_
 refine PW.val (r := .kw (KJ (0))) rfl rfl rfl rfl (fun a W hf => ⟨.agg #[.bool false, .slice none 0 0], by go_simp, zeroJ W, KJ.st _⟩) ?_
 refine PW.store (x := .tmp 22) (r := .kw (KJ (0))) rfl rfl rfl rfl rfl rfl sh_J ?_
 refine PW.assign rfl rfl rfl rfl rfl ?_
 refine PW.nil ?_
 refine SX.then ?_
 refine SC.ret ?_
 refine SX.thenR ?_
 rw [parse_long h (by rw [byl_len]; exact hl)]
 exact SX.done2 (s := 4) (t := 5) (r := .vl (.int .i64 14)) (.inl rfl) rfl rfl rfl rfl
set_option maxHeartbeats 6400000 in
set_option maxRecDepth 100000 in
theorem k_jparse_ok {s : ByteArray} {r : Int} (h : 2 ≤ r ∧ r ≤ 36) (hl : ¬ 20000 < s.size) : CallOk 90 [KV (.string s), KV (.int .i64 (r))] (KPJ (parseR r (byl s))) := by
 refine CallOk.enter (l := [.vl (.string s), .vl (.int .i64 (r))]) 94 ce_jparse Tryz.func90 rfl Tryz.ntmps90 (by simp) ⟨(KV.st _), rfl, (KV.st _), rfl, trivial⟩ fun w => ?_
 refine SC.seq ?_
 refine SC.region ?_
 refine PW.alloc (BI 34) rfl rfl rfl rfl rfl bJ ?_
 refine PW.assign rfl rfl rfl rfl rfl ?_
 refine PW.nil ?_
 refine SX.then ?_
 refine SC.seq ?_
 refine SC.seq ?_
 refine SC.region ?_
 refine PW.move rfl rfl rfl rfl rfl ?_
 refine PW.q2 (x := .tmp 12) (y := .const (.int .i64 2)) (.bool false) rfl rfl rfl rfl rfl (fun ρ W h1 h2 => by exact r_lt h1 h2 (decide_eq_false (by omega))) ?_
 refine PW.move rfl rfl rfl rfl rfl ?_
 refine PW.move rfl rfl rfl rfl rfl ?_
 refine PW.q2 (x := .tmp 15) (y := .const (.int .i64 36)) (.bool false) rfl rfl rfl rfl rfl (fun ρ W h1 h2 => by exact r_gt h1 h2 (decide_eq_false (by omega))) ?_
 refine PW.pick (t := false) rfl rfl rfl rfl rfl rfl ?_
 refine PW.nil ?_
 refine SX.then ?_
 refine SC.cond (t := false) rfl ?_
 refine SC.skip ?_
 refine SX.then ?_
 refine SC.seq ?_
 refine SC.seq ?_
 refine SC.region ?_
 refine PW.move rfl rfl rfl rfl rfl ?_
 refine PW.qn [(.tmp 19, .string s)] (.int .i64 (s.size : Int)) rfl rfl rfl ⟨rfl, trivial⟩ (fun ρ W h => by obtain ⟨h1, _⟩ := h; exact r_slen h1) ?_
 refine PW.q2 (x := .tmp 20) (y := .const (.int .i64 20000)) (.bool false) rfl rfl rfl rfl rfl (fun ρ W h1 h2 => by exact r_gt h1 h2 (decide_eq_false (by omega))) ?_
 refine PW.nil ?_
 refine SX.then ?_
 refine SC.cond (t := false) rfl ?_
 refine SC.skip ?_
 refine SX.then ?_
 refine SC.seq ?_
 by_cases hz : (s.size : Int) > 0
 ·by_cases hm : at0 (byl s) 0 = 45
  ·refine SC.region ?_
   refine PW.move rfl rfl rfl rfl rfl ?_
   refine PW.qn [(.tmp 23, .string s)] (.int .i64 (s.size : Int)) rfl rfl rfl ⟨rfl, trivial⟩ (fun ρ W h => by obtain ⟨h1, _⟩ := h; exact r_slen h1) ?_
   refine PW.q2 (x := .tmp 24) (y := .const (.int .i64 0)) (.bool true) rfl rfl rfl rfl rfl (fun ρ W h1 h2 => by exact r_gt h1 h2 (decide_eq_true hz)) ?_
   refine PW.move rfl rfl rfl rfl rfl ?_
   refine PW.move rfl rfl rfl rfl rfl ?_
   refine PW.qn [(.tmp 27, .string s), (.const (.int .i64 0), .int .i64 0)] (.int .u8 (at0 (byl s) 0)) rfl rfl rfl ⟨rfl, rfl, trivial⟩ (fun ρ W h => by obtain ⟨h1, h2, _⟩ := h; exact r_sidx (i := 0) h1 h2 (by omega)) ?_
   refine PW.q2 (x := .tmp 28) (y := .const (.int .u8 45)) (.bool true) rfl rfl rfl rfl rfl (fun ρ W h1 h2 => by exact r_eq8 h1 h2 (decide_eq_true hm)) ?_
   refine PW.pick (t := true) rfl rfl rfl rfl rfl rfl ?_
   refine PW.assign rfl rfl rfl rfl rfl ?_
   refine PW.nil ?_
   refine SX.then ?_
   refine SC.seq ?_
   refine SC.seq ?_
   refine SC.region ?_
   refine PW.move rfl rfl rfl rfl rfl ?_
   refine PW.qn [(.tmp 31, .string s)] (.int .i64 (s.size : Int)) rfl rfl rfl ⟨rfl, trivial⟩ (fun ρ W h => by obtain ⟨h1, _⟩ := h; exact r_slen h1) ?_
   refine PW.q2 (x := .tmp 32) (y := .const (.int .i64 0)) (.bool true) rfl rfl rfl rfl rfl (fun ρ W h1 h2 => by exact r_gt h1 h2 (decide_eq_true hz)) ?_
   refine PW.move rfl rfl rfl rfl rfl ?_
   refine PW.move rfl rfl rfl rfl rfl ?_
   refine PW.qn [(.tmp 35, .string s), (.const (.int .i64 0), .int .i64 0)] (.int .u8 (at0 (byl s) 0)) rfl rfl rfl ⟨rfl, rfl, trivial⟩ (fun ρ W h => by obtain ⟨h1, h2, _⟩ := h; exact r_sidx (i := 0) h1 h2 (by omega)) ?_
   refine PW.q2 (x := .tmp 36) (y := .const (.int .u8 45)) (.bool true) rfl rfl rfl rfl rfl (fun ρ W h1 h2 => by exact r_eq8 h1 h2 (decide_eq_true hm)) ?_
   refine PW.move rfl rfl rfl rfl rfl ?_
   refine PW.skip rfl rfl rfl ?_
   refine PW.skip rfl rfl rfl ?_
   refine PW.skip rfl rfl rfl ?_
   refine PW.pick (t := true) rfl rfl rfl rfl rfl rfl ?_
   refine PW.pick (t := true) rfl rfl rfl rfl rfl rfl ?_
   refine PW.nil ?_
   refine SX.then ?_
   refine SC.cond (t := true) rfl ?_
   refine SC.region ?_
   refine PW.move rfl rfl rfl rfl rfl ?_
   refine PW.qn [(.tmp 44, .string s), (.const (.int .i64 1), .int .i64 1)] (.string (s.extract 1 s.size)) rfl rfl rfl ⟨rfl, rfl, trivial⟩ (fun ρ W h => by obtain ⟨h1, h2, _⟩ := h; exact r_sfrom (p := 1) h1 h2 (by omega)) ?_
   refine PW.assign rfl rfl rfl rfl rfl ?_
   refine PW.nil ?_
   refine SX.then ?_
   refine SC.seq ?_
   refine SC.seq ?_
   obtain ⟨t, ht⟩ : ∃ t, t = s.extract 1 s.size := ⟨_, rfl⟩
   rw [← ht]
   have htl : t.size ≤ 20000 := by rw [ht, ← byl_len, byl_drop, List.length_drop, byl_len]; omega
   rw [parse_form (b := byl t) h (by rw [byl_len]; omega) (by rw [if_pos (.inl hm), ht, byl_drop])]
   by_cases he : (t.size : Int) = 0
   ·refine SC.region ?_
    refine PW.move rfl rfl rfl rfl rfl ?_
    refine PW.qn [(.tmp 46, .string t)] (.int .i64 (t.size : Int)) rfl rfl rfl ⟨rfl, trivial⟩ (fun ρ W h => by obtain ⟨h1, _⟩ := h; exact r_slen h1) ?_
    refine PW.q2 (x := .tmp 47) (y := .const (.int .i64 0)) (.bool true) rfl rfl rfl rfl rfl (fun ρ W h1 h2 => by exact r_eqT h1 h2 (by omega)) ?_
    refine PW.nil ?_
    refine SX.then ?_
    refine SC.cond (t := true) rfl ?_
    refine SC.seq ?_
    refine SC.region ?_
    refine PW.val (r := .kw (KJ (0))) rfl rfl rfl rfl (fun a W hf => ⟨.agg #[.bool false, .slice none 0 0], by go_simp, zeroJ W, KJ.st _⟩) ?_
    refine PW.store (x := .tmp 49) (r := .kw (KJ (0))) rfl rfl rfl rfl rfl rfl sh_J ?_
    refine PW.assign rfl rfl rfl rfl rfl ?_
    refine PW.nil ?_
    refine SX.then ?_
    refine SC.ret ?_
    refine SX.thenR ?_
    rw [form_empty (z := 0) (by rw [byl_len]; omega)]
    exact SX.done2 (s := 4) (t := 5) (r := .vl (.int .i64 2)) (.inl rfl) rfl rfl rfl rfl
   ·refine SC.region ?_
    refine PW.move rfl rfl rfl rfl rfl ?_
    refine PW.qn [(.tmp 46, .string t)] (.int .i64 (t.size : Int)) rfl rfl rfl ⟨rfl, trivial⟩ (fun ρ W h => by obtain ⟨h1, _⟩ := h; exact r_slen h1) ?_
    refine PW.q2 (x := .tmp 47) (y := .const (.int .i64 0)) (.bool false) rfl rfl rfl rfl rfl (fun ρ W h1 h2 => by exact r_eqF h1 h2 (by omega)) ?_
    refine PW.nil ?_
    refine SX.then ?_
    refine SC.cond (t := false) rfl ?_
    refine SC.skip ?_
    refine SX.then ?_
    refine SC.seq ?_
    refine SC.region ?_
    refine PW.assign rfl rfl rfl rfl rfl ?_
    refine PW.nil ?_
    refine SX.then ?_
    refine SC.seq ?_
    refine SC.seq ?_
    refine SC.region ?_
    refine PW.assign rfl rfl rfl rfl rfl ?_
    refine PW.nil ?_
    refine SX.then ?_
    refine SC.block ?_
    refine SC.weak (fun a W hf => Fr.nilrow 94 3 (.int .i64) hf) ?_
    refine SC.loop (S := Nat × Value × List Int) (fun ⟨i, v, zs⟩ => [(0, .vl (.string t)), (1, .vl (.int .i64 (r))), (4, .nb (BI 34)), (5, .vl (.int .i64 0)), (6, .vl (.bool true)), (7, .vl (v)), (8, .vl (.int .i64 (i : Int))), (94, .ro (v) 3 (.int .i64) (zs))]) (fun ⟨i, v, zs⟩ => PrI 65536 r (byl t) i zs) (fun ⟨i, v, zs⟩ => t.size - i) (0, .slice none 0 0, []) (PrI.start 65536 r (byl t)) ⟨rfl, rfl, rfl, rfl, rfl, rfl, rfl, rfl, trivial⟩ ?_
    rintro ⟨i, v, zs⟩ hP
    show SC _ _ _ _ [(0, .vl (.string t)), (1, .vl (.int .i64 (r))), (4, .nb (BI 34)), (5, .vl (.int .i64 0)), (6, .vl (.bool true)), (7, .vl (v)), (8, .vl (.int .i64 (i : Int))), (94, .ro (v) 3 (.int .i64) (zs))] _
    refine SC.seq ?_
    refine SC.seq ?_
    by_cases hi : (i : Int) < (t.size : Int)
    ·refine SC.region ?_
     refine PW.move rfl rfl rfl rfl rfl ?_
     refine PW.move rfl rfl rfl rfl rfl ?_
     refine PW.qn [(.tmp 51, .string t)] (.int .i64 (t.size : Int)) rfl rfl rfl ⟨rfl, trivial⟩ (fun ρ W h => by obtain ⟨h1, _⟩ := h; exact r_slen h1) ?_
     refine PW.q2 (x := .tmp 50) (y := .tmp 52) (.bool true) rfl rfl rfl rfl rfl (fun ρ W h1 h2 => by exact r_lt h1 h2 (decide_eq_true hi)) ?_
     refine PW.nil ?_
     refine SX.then ?_
     refine SC.cond (t := true) rfl ?_
     refine SC.skip ?_
     refine SX.then ?_
     refine SC.seq ?_
     refine SC.block ?_
     refine SC.seq ?_
     refine SC.region ?_
     refine PW.move rfl rfl rfl rfl rfl ?_
     refine PW.move rfl rfl rfl rfl rfl ?_
     refine PW.qn [(.tmp 56, .string t), (.tmp 57, .int .i64 (i : Int))] (.int .u8 (at0 (byl t) i)) rfl rfl rfl ⟨rfl, rfl, trivial⟩ (fun ρ W h => by obtain ⟨h1, h2, _⟩ := h; exact r_sidx h1 h2 (by omega)) ?_
     refine PW.call (r := .vl (.int .i64 (dv (at0 (byl t) i)))) rfl rfl rfl rfl rfl rfl (KV.st _) rfl (k_digit (byl_byte t i).1 (byl_byte t i).2) ?_
     refine PW.assign rfl rfl rfl rfl rfl ?_
     refine PW.nil ?_
     refine SX.then ?_
     refine SC.seq ?_
     refine SC.seq ?_
     by_cases hd : dv (at0 (byl t) i) ≥ r
     ·refine SC.region ?_
      refine PW.move rfl rfl rfl rfl rfl ?_
      refine PW.move rfl rfl rfl rfl rfl ?_
      refine PW.q2 (x := .tmp 60) (y := .tmp 61) (.bool true) rfl rfl rfl rfl rfl (fun ρ W h1 h2 => by exact r_ge h1 h2 (decide_eq_true hd)) ?_
      refine PW.nil ?_
      refine SX.then ?_
      refine SC.cond (t := true) rfl ?_
      refine SC.seq ?_
      refine SC.region ?_
      refine PW.val (r := .kw (KJ (0))) rfl rfl rfl rfl (fun a W hf => ⟨.agg #[.bool false, .slice none 0 0], by go_simp, zeroJ W, KJ.st _⟩) ?_
      refine PW.store (x := .tmp 63) (r := .kw (KJ (0))) rfl rfl rfl rfl rfl rfl sh_J ?_
      refine PW.assign rfl rfl rfl rfl rfl ?_
      refine PW.nil ?_
      refine SX.then ?_
      refine SC.ret ?_
      refine SX.thenR ?_
      refine SX.blockR ?_
      refine SX.thenR ?_
      refine SX.thenR ?_
      refine SX.blockR ?_
      refine SX.thenR ?_
      rw [form_bad (i := i) (by rw [byl_len]; omega) hd]
      exact SX.done2 (s := 4) (t := 5) (r := .vl (.int .i64 2)) (.inl rfl) rfl rfl rfl rfl
     ·refine SC.region ?_
      refine PW.move rfl rfl rfl rfl rfl ?_
      refine PW.move rfl rfl rfl rfl rfl ?_
      refine PW.q2 (x := .tmp 60) (y := .tmp 61) (.bool false) rfl rfl rfl rfl rfl (fun ρ W h1 h2 => by exact r_ge h1 h2 (decide_eq_false hd)) ?_
      refine PW.nil ?_
      refine SX.then ?_
      refine SC.cond (t := false) rfl ?_
      refine SC.skip ?_
      refine SX.then ?_
      refine SC.seq ?_
      refine SC.seq ?_
      refine SC.region ?_
      refine PW.assign rfl rfl rfl rfl rfl ?_
      refine PW.nil ?_
      refine SX.then ?_
      refine SC.block ?_
      refine SC.loop (S := Nat × List Int × Int) (fun ⟨k, ys, cc⟩ => [(0, .vl (.string t)), (1, .vl (.int .i64 (r))), (4, .nb (BI 34)), (5, .vl (.int .i64 0)), (6, .vl (.bool true)), (7, .vl (v)), (8, .vl (.int .i64 (i : Int))), (9, .vl (.int .i64 (cc))), (10, .vl (.int .i64 (k : Int))), (94, .ro (v) 3 (.int .i64) (ys))]) (fun ⟨k, ys, cc⟩ => PrJ 65536 r (dv (at0 (byl t) i)) zs k ys cc) (fun ⟨k, ys, cc⟩ => zs.length - k) (0, zs, dv (at0 (byl t) i)) (PrJ.start hP.dg (dv_le _).1 (dv_le _).2) ⟨rfl, rfl, rfl, rfl, rfl, rfl, rfl, rfl, rfl, rfl, trivial⟩ ?_
      rintro ⟨k, ys, cc⟩ hJ
      show SC _ _ _ _ [(0, .vl (.string t)), (1, .vl (.int .i64 (r))), (4, .nb (BI 34)), (5, .vl (.int .i64 0)), (6, .vl (.bool true)), (7, .vl (v)), (8, .vl (.int .i64 (i : Int))), (9, .vl (.int .i64 (cc))), (10, .vl (.int .i64 (k : Int))), (94, .ro (v) 3 (.int .i64) (ys))] _
      refine SC.seq ?_
      refine SC.seq ?_
      by_cases hk : (k : Int) < (ys.length : Int)
      ·refine SC.region ?_
       refine PW.move rfl rfl rfl rfl rfl ?_
       refine PW.move rfl rfl rfl rfl rfl ?_
       refine PW.rlen (s := 65) 94 rfl rfl rfl rfl rfl (fun ρ W A c h => r_lenI h) ?_
       refine PW.q2 (x := .tmp 64) (y := .tmp 66) (.bool true) rfl rfl rfl rfl rfl (fun ρ W h1 h2 => by exact r_lt h1 h2 (decide_eq_true hk)) ?_
       refine PW.nil ?_
       refine SX.then ?_
       refine SC.cond (t := true) rfl ?_
       refine SC.skip ?_
       refine SX.then ?_
       refine SC.seq ?_
       refine SC.block ?_
       refine SC.seq ?_
       refine SC.region ?_
       refine PW.move rfl rfl rfl rfl rfl ?_
       refine PW.move rfl rfl rfl rfl rfl ?_
       refine PW.ridx (i := k) 94 rfl rfl rfl rfl rfl rfl rfl (by have := hJ.len; omega) (fun ρ W g c h1 h2 => r_idxI h1 h2 (by have := hJ.len; omega)) ?_
       refine PW.rget (i := k) 94 rfl rfl rfl rfl rfl rfl (by have := hJ.len; omega) r_l64 ?_
       refine PW.move rfl rfl rfl rfl rfl ?_
       refine PW.q2 (x := .tmp 73) (y := .tmp 74) (.int .i64 (at0 ys k * r)) rfl rfl rfl rfl rfl (fun ρ W h1 h2 => by exact r_mul h1 h2 (rfl) (by have := mulq (dg_at hJ.dg BJ_pos k) h; omega)) ?_
       refine PW.move rfl rfl rfl rfl rfl ?_
       refine PW.q2 (x := .tmp 75) (y := .tmp 76) (.int .i64 (at0 ys k * r + cc)) rfl rfl rfl rfl rfl (fun ρ W h1 h2 => by exact r_add h1 h2 (rfl) (by have := mulq (dg_at hJ.dg BJ_pos k) h; have := hJ.c0; have := hJ.c1; omega)) ?_
       refine PW.assign rfl rfl rfl rfl rfl ?_
       refine PW.nil ?_
       refine SX.then ?_
       refine SC.seq ?_
       refine SC.region ?_
       refine PW.move rfl rfl rfl rfl rfl ?_
       refine PW.move rfl rfl rfl rfl rfl ?_
       refine PW.move rfl rfl rfl rfl rfl ?_
       refine PW.q2 (x := .tmp 80) (y := .const (.int .i64 65536)) (.int .i64 ((at0 ys k * r + cc) % 65536)) rfl rfl rfl rfl rfl (fun ρ W h1 h2 => by exact r_rem h1 h2 (rfl) (by have := mulq (dg_at hJ.dg BJ_pos k) h; have := hJ.c0; have := hJ.c1; omega) (by decide)) ?_
       refine PW.ridx (i := k) 94 rfl rfl rfl rfl rfl rfl rfl (by have := hJ.len; omega) (fun ρ W g c h1 h2 => r_idxI h1 h2 (by have := hJ.len; omega)) ?_
       refine PW.rput (i := k) (x := .tmp 81) (((at0 ys k * r + cc) % 65536)) 94 rfl rfl rfl rfl rfl (by have := hJ.len; omega) rfl rfl r_s64 ?_
       refine PW.nil ?_
       refine SX.then ?_
       refine SC.region ?_
       refine PW.move rfl rfl rfl rfl rfl ?_
       refine PW.q2 (x := .tmp 83) (y := .const (.int .i64 65536)) (.int .i64 ((at0 ys k * r + cc) / 65536)) rfl rfl rfl rfl rfl (fun ρ W h1 h2 => by exact r_quo h1 h2 (rfl) (by have := mulq (dg_at hJ.dg BJ_pos k) h; have := hJ.c0; have := hJ.c1; omega) (by decide)) ?_
       refine PW.assign rfl rfl rfl rfl rfl ?_
       refine PW.nil ?_
       refine SX.blockN ?_
       refine SX.then ?_
       refine SC.region ?_
       refine PW.move rfl rfl rfl rfl rfl ?_
       refine PW.q2 (x := .tmp 68) (y := .const (.int .i64 1)) (.int .i64 ((k + 1 : Nat))) rfl rfl rfl rfl rfl (fun ρ W h1 h2 => by exact r_add h1 h2 (by omega) (by have := hJ.len; have := hJ.le; have := hP.le; have := hP.len; have := byl_len t; omega)) ?_
       refine PW.assign rfl rfl rfl rfl rfl ?_
       refine PW.nil ?_
       refine SX.back (k + 1, ys.set k ((at0 ys k * r + cc) % 65536), (at0 ys k * r + cc) / 65536) ?_ ?_ ?_
       ·exact (hJ.step (by decide) (by have := hJ.len; omega) h.1 h.2 rfl hP.dg)
       ·exact (show zs.length - (k + 1) < zs.length - k by have := hJ.len; omega)
       ·exact ⟨rfl, rfl, rfl, rfl, rfl, rfl, rfl, rfl, rfl, rfl, trivial⟩
      ·obtain rfl : k = zs.length := by have := hJ.le; have := hJ.len; omega
       refine SC.region ?_
       refine PW.move rfl rfl rfl rfl rfl ?_
       refine PW.move rfl rfl rfl rfl rfl ?_
       refine PW.rlen (s := 65) 94 rfl rfl rfl rfl rfl (fun ρ W A c h => r_lenI h) ?_
       refine PW.q2 (x := .tmp 64) (y := .tmp 66) (.bool false) rfl rfl rfl rfl rfl (fun ρ W h1 h2 => by exact r_lt h1 h2 (decide_eq_false hk)) ?_
       refine PW.nil ?_
       refine SX.then ?_
       refine SC.cond (t := false) rfl ?_
       refine SC.exit ?_
       refine SX.thenE ?_
       refine SX.thenE ?_
       refine SX.blockE ?_
       refine SX.then ?_
       refine SC.seq ?_
       by_cases hc : cc > 0
       ·refine SC.region ?_
        refine PW.move rfl rfl rfl rfl rfl ?_
        refine PW.q2 (x := .tmp 85) (y := .const (.int .i64 0)) (.bool true) rfl rfl rfl rfl rfl (fun ρ W h1 h2 => by exact r_gt h1 h2 (decide_eq_true hc)) ?_
        refine PW.nil ?_
        refine SX.then ?_
        refine SC.cond (t := true) rfl ?_
        refine SC.region ?_
        refine PW.move rfl rfl rfl rfl rfl ?_
        refine PW.move rfl rfl rfl rfl rfl ?_
        refine PW.app (K := 94) (f := .int .i64) [(cc)] rfl rfl rfl (fun a W hf => r_b1I (hf.vl (s := 88) rfl)) rfl rfl rfl rfl rfl rfl rfl rfl Tryz.underlying32 info_i64 rfl (fun _ => rfl) (by have l1 := hJ.len; have l2 := hP.len; have l3 := byl_len t; have l4 := hP.le; unfold maxLen; show _ + 1 ≤ _; omega) (by have l1 := hJ.len; have l2 := hP.len; have l3 := byl_len t; have l4 := hP.le; show (_ + 1) * 8 ≤ _; omega) rfl fun vq1 uq1 => ?_
        refine PW.assign rfl rfl rfl rfl rfl ?_
        refine PW.nil ?_
        refine SX.blockN ?_
        refine SX.then ?_
        refine SC.region ?_
        refine PW.move rfl rfl rfl rfl rfl ?_
        refine PW.q2 (x := .tmp 54) (y := .const (.int .i64 1)) (.int .i64 ((i + 1 : Nat))) rfl rfl rfl rfl rfl (fun ρ W h1 h2 => by exact r_add h1 h2 (by omega) (by omega)) ?_
        refine PW.assign rfl rfl rfl rfl rfl ?_
        refine PW.nil ?_
        refine SX.back (i + 1, vq1, ys ++ [(cc)]) ?_ ?_ ?_
        ·exact (hP.yes (by decide) (by rw [byl_len]; omega) (by omega) hJ)
        ·exact (show t.size - (i + 1) < t.size - i by omega)
        ·exact ⟨rfl, rfl, rfl, rfl, rfl, rfl, rfl, rfl, trivial⟩
       ·obtain rfl : cc = 0 := by have := hJ.c0; omega
        refine SC.region ?_
        refine PW.move rfl rfl rfl rfl rfl ?_
        refine PW.q2 (x := .tmp 85) (y := .const (.int .i64 0)) (.bool false) rfl rfl rfl rfl rfl (fun ρ W h1 h2 => by exact r_gt h1 h2 (decide_eq_false hc)) ?_
        refine PW.nil ?_
        refine SX.then ?_
        refine SC.cond (t := false) rfl ?_
        refine SC.skip ?_
        refine SX.blockN ?_
        refine SX.then ?_
        refine SC.region ?_
        refine PW.move rfl rfl rfl rfl rfl ?_
        refine PW.q2 (x := .tmp 54) (y := .const (.int .i64 1)) (.int .i64 ((i + 1 : Nat))) rfl rfl rfl rfl rfl (fun ρ W h1 h2 => by exact r_add h1 h2 (by omega) (by omega)) ?_
        refine PW.assign rfl rfl rfl rfl rfl ?_
        refine PW.nil ?_
        refine SX.back (i + 1, v, ys) ?_ ?_ ?_
        ·exact (hP.no (by rw [byl_len]; omega) (by omega) hJ)
        ·exact (show t.size - (i + 1) < t.size - i by omega)
        ·exact ⟨rfl, rfl, rfl, rfl, rfl, rfl, rfl, rfl, trivial⟩
    ·obtain rfl : i = t.size := by have := hP.le; have := byl_len t; omega
     refine SC.region ?_
     refine PW.move rfl rfl rfl rfl rfl ?_
     refine PW.move rfl rfl rfl rfl rfl ?_
     refine PW.qn [(.tmp 51, .string t)] (.int .i64 (t.size : Int)) rfl rfl rfl ⟨rfl, trivial⟩ (fun ρ W h => by obtain ⟨h1, _⟩ := h; exact r_slen h1) ?_
     refine PW.q2 (x := .tmp 50) (y := .tmp 52) (.bool false) rfl rfl rfl rfl rfl (fun ρ W h1 h2 => by exact r_lt h1 h2 (decide_eq_false hi)) ?_
     refine PW.nil ?_
     refine SX.then ?_
     refine SC.cond (t := false) rfl ?_
     refine SC.exit ?_
     refine SX.thenE ?_
     refine SX.thenE ?_
     refine SX.blockE ?_
     refine SX.then ?_
     refine SC.seq ?_
     refine SC.region ?_
     refine PW.move rfl rfl rfl rfl rfl ?_
     refine PW.move rfl rfl rfl rfl rfl ?_
     refine PW.callG (r := .kw (KJ (sg true (pv r 0 (byl t))))) ce_rmade rfl rfl rfl rfl rfl (KJ.st _) rfl (fun a W hf => by have h1 := hf.vl (s := 91) rfl; have h2 := hf.vl (s := 92) rfl; have own : OwF W _ _ (.int .i64) v zs := hf.ho 94 _ rfl; obtain ⟨A4, c4, e4, hc4, rd4⟩ := Own.rd own; show Calls Tryz.prog _ #[a.tmps.getD 91 undef, a.tmps.getD 92 undef] W _; rw [h1, h2, e4, show pv r 0 (byl t) = lv 65536 zs by rw [hP.lv, List.take_of_length_le (by rw [byl_len]; exact Nat.le_refl _)]]; exact rmade_c rfl rd4 hc4 hP.dg) ?_
     refine PW.store (x := .tmp 93) (r := .kw (KJ (sg true (pv r 0 (byl t))))) rfl rfl rfl rfl rfl rfl sh_J ?_
     refine PW.assign rfl rfl rfl rfl rfl ?_
     refine PW.nil ?_
     refine SX.then ?_
     refine SC.ret ?_
     rw [form_ok (by rw [byl_len]; omega) (fun j hj => hP.ok j (by rw [byl_len] at hj; exact hj))]
     rw [show decide (at0 (byl s) 0 = 45) = true by exact decide_eq_true hm]
     exact SX.done2 (s := 4) (t := 5) (r := .vl (.int .i64 0)) (.inl rfl) rfl rfl rfl rfl
  ·refine SC.region ?_
   refine PW.move rfl rfl rfl rfl rfl ?_
   refine PW.qn [(.tmp 23, .string s)] (.int .i64 (s.size : Int)) rfl rfl rfl ⟨rfl, trivial⟩ (fun ρ W h => by obtain ⟨h1, _⟩ := h; exact r_slen h1) ?_
   refine PW.q2 (x := .tmp 24) (y := .const (.int .i64 0)) (.bool true) rfl rfl rfl rfl rfl (fun ρ W h1 h2 => by exact r_gt h1 h2 (decide_eq_true hz)) ?_
   refine PW.move rfl rfl rfl rfl rfl ?_
   refine PW.move rfl rfl rfl rfl rfl ?_
   refine PW.qn [(.tmp 27, .string s), (.const (.int .i64 0), .int .i64 0)] (.int .u8 (at0 (byl s) 0)) rfl rfl rfl ⟨rfl, rfl, trivial⟩ (fun ρ W h => by obtain ⟨h1, h2, _⟩ := h; exact r_sidx (i := 0) h1 h2 (by omega)) ?_
   refine PW.q2 (x := .tmp 28) (y := .const (.int .u8 45)) (.bool false) rfl rfl rfl rfl rfl (fun ρ W h1 h2 => by exact r_eq8 h1 h2 (decide_eq_false hm)) ?_
   refine PW.pick (t := true) rfl rfl rfl rfl rfl rfl ?_
   refine PW.assign rfl rfl rfl rfl rfl ?_
   refine PW.nil ?_
   refine SX.then ?_
   refine SC.seq ?_
   refine SC.seq ?_
   by_cases hp : at0 (byl s) 0 = 43
   ·refine SC.region ?_
    refine PW.move rfl rfl rfl rfl rfl ?_
    refine PW.qn [(.tmp 31, .string s)] (.int .i64 (s.size : Int)) rfl rfl rfl ⟨rfl, trivial⟩ (fun ρ W h => by obtain ⟨h1, _⟩ := h; exact r_slen h1) ?_
    refine PW.q2 (x := .tmp 32) (y := .const (.int .i64 0)) (.bool true) rfl rfl rfl rfl rfl (fun ρ W h1 h2 => by exact r_gt h1 h2 (decide_eq_true hz)) ?_
    refine PW.move rfl rfl rfl rfl rfl ?_
    refine PW.move rfl rfl rfl rfl rfl ?_
    refine PW.qn [(.tmp 35, .string s), (.const (.int .i64 0), .int .i64 0)] (.int .u8 (at0 (byl s) 0)) rfl rfl rfl ⟨rfl, rfl, trivial⟩ (fun ρ W h => by obtain ⟨h1, h2, _⟩ := h; exact r_sidx (i := 0) h1 h2 (by omega)) ?_
    refine PW.q2 (x := .tmp 36) (y := .const (.int .u8 45)) (.bool false) rfl rfl rfl rfl rfl (fun ρ W h1 h2 => by exact r_eq8 h1 h2 (decide_eq_false hm)) ?_
    refine PW.move rfl rfl rfl rfl rfl ?_
    refine PW.move rfl rfl rfl rfl rfl ?_
    refine PW.qn [(.tmp 39, .string s), (.const (.int .i64 0), .int .i64 0)] (.int .u8 (at0 (byl s) 0)) rfl rfl rfl ⟨rfl, rfl, trivial⟩ (fun ρ W h => by obtain ⟨h1, h2, _⟩ := h; exact r_sidx (i := 0) h1 h2 (by omega)) ?_
    refine PW.q2 (x := .tmp 40) (y := .const (.int .u8 43)) (.bool true) rfl rfl rfl rfl rfl (fun ρ W h1 h2 => by exact r_eq8 h1 h2 (decide_eq_true hp)) ?_
    refine PW.pick (t := false) rfl rfl rfl rfl rfl rfl ?_
    refine PW.pick (t := true) rfl rfl rfl rfl rfl rfl ?_
    refine PW.nil ?_
    refine SX.then ?_
    refine SC.cond (t := true) rfl ?_
    refine SC.region ?_
    refine PW.move rfl rfl rfl rfl rfl ?_
    refine PW.qn [(.tmp 44, .string s), (.const (.int .i64 1), .int .i64 1)] (.string (s.extract 1 s.size)) rfl rfl rfl ⟨rfl, rfl, trivial⟩ (fun ρ W h => by obtain ⟨h1, h2, _⟩ := h; exact r_sfrom (p := 1) h1 h2 (by omega)) ?_
    refine PW.assign rfl rfl rfl rfl rfl ?_
    refine PW.nil ?_
    refine SX.then ?_
    refine SC.seq ?_
    refine SC.seq ?_
    obtain ⟨t, ht⟩ : ∃ t, t = s.extract 1 s.size := ⟨_, rfl⟩
    rw [← ht]
    have htl : t.size ≤ 20000 := by rw [ht, ← byl_len, byl_drop, List.length_drop, byl_len]; omega
    rw [parse_form (b := byl t) h (by rw [byl_len]; omega) (by rw [if_pos (.inr hp), ht, byl_drop])]
    by_cases he : (t.size : Int) = 0
    ·refine SC.region ?_
     refine PW.move rfl rfl rfl rfl rfl ?_
     refine PW.qn [(.tmp 46, .string t)] (.int .i64 (t.size : Int)) rfl rfl rfl ⟨rfl, trivial⟩ (fun ρ W h => by obtain ⟨h1, _⟩ := h; exact r_slen h1) ?_
     refine PW.q2 (x := .tmp 47) (y := .const (.int .i64 0)) (.bool true) rfl rfl rfl rfl rfl (fun ρ W h1 h2 => by exact r_eqT h1 h2 (by omega)) ?_
     refine PW.nil ?_
     refine SX.then ?_
     refine SC.cond (t := true) rfl ?_
     refine SC.seq ?_
     refine SC.region ?_
     refine PW.val (r := .kw (KJ (0))) rfl rfl rfl rfl (fun a W hf => ⟨.agg #[.bool false, .slice none 0 0], by go_simp, zeroJ W, KJ.st _⟩) ?_
     refine PW.store (x := .tmp 49) (r := .kw (KJ (0))) rfl rfl rfl rfl rfl rfl sh_J ?_
     refine PW.assign rfl rfl rfl rfl rfl ?_
     refine PW.nil ?_
     refine SX.then ?_
     refine SC.ret ?_
     refine SX.thenR ?_
     rw [form_empty (z := 0) (by rw [byl_len]; omega)]
     exact SX.done2 (s := 4) (t := 5) (r := .vl (.int .i64 2)) (.inl rfl) rfl rfl rfl rfl
    ·refine SC.region ?_
     refine PW.move rfl rfl rfl rfl rfl ?_
     refine PW.qn [(.tmp 46, .string t)] (.int .i64 (t.size : Int)) rfl rfl rfl ⟨rfl, trivial⟩ (fun ρ W h => by obtain ⟨h1, _⟩ := h; exact r_slen h1) ?_
     refine PW.q2 (x := .tmp 47) (y := .const (.int .i64 0)) (.bool false) rfl rfl rfl rfl rfl (fun ρ W h1 h2 => by exact r_eqF h1 h2 (by omega)) ?_
     refine PW.nil ?_
     refine SX.then ?_
     refine SC.cond (t := false) rfl ?_
     refine SC.skip ?_
     refine SX.then ?_
     refine SC.seq ?_
     refine SC.region ?_
     refine PW.assign rfl rfl rfl rfl rfl ?_
     refine PW.nil ?_
     refine SX.then ?_
     refine SC.seq ?_
     refine SC.seq ?_
     refine SC.region ?_
     refine PW.assign rfl rfl rfl rfl rfl ?_
     refine PW.nil ?_
     refine SX.then ?_
     refine SC.block ?_
     refine SC.weak (fun a W hf => Fr.nilrow 94 3 (.int .i64) hf) ?_
     refine SC.loop (S := Nat × Value × List Int) (fun ⟨i, v, zs⟩ => [(0, .vl (.string t)), (1, .vl (.int .i64 (r))), (4, .nb (BI 34)), (5, .vl (.int .i64 0)), (6, .vl (.bool false)), (7, .vl (v)), (8, .vl (.int .i64 (i : Int))), (94, .ro (v) 3 (.int .i64) (zs))]) (fun ⟨i, v, zs⟩ => PrI 65536 r (byl t) i zs) (fun ⟨i, v, zs⟩ => t.size - i) (0, .slice none 0 0, []) (PrI.start 65536 r (byl t)) ⟨rfl, rfl, rfl, rfl, rfl, rfl, rfl, rfl, trivial⟩ ?_
     rintro ⟨i, v, zs⟩ hP
     show SC _ _ _ _ [(0, .vl (.string t)), (1, .vl (.int .i64 (r))), (4, .nb (BI 34)), (5, .vl (.int .i64 0)), (6, .vl (.bool false)), (7, .vl (v)), (8, .vl (.int .i64 (i : Int))), (94, .ro (v) 3 (.int .i64) (zs))] _
     refine SC.seq ?_
     refine SC.seq ?_
     by_cases hi : (i : Int) < (t.size : Int)
     ·refine SC.region ?_
      refine PW.move rfl rfl rfl rfl rfl ?_
      refine PW.move rfl rfl rfl rfl rfl ?_
      refine PW.qn [(.tmp 51, .string t)] (.int .i64 (t.size : Int)) rfl rfl rfl ⟨rfl, trivial⟩ (fun ρ W h => by obtain ⟨h1, _⟩ := h; exact r_slen h1) ?_
      refine PW.q2 (x := .tmp 50) (y := .tmp 52) (.bool true) rfl rfl rfl rfl rfl (fun ρ W h1 h2 => by exact r_lt h1 h2 (decide_eq_true hi)) ?_
      refine PW.nil ?_
      refine SX.then ?_
      refine SC.cond (t := true) rfl ?_
      refine SC.skip ?_
      refine SX.then ?_
      refine SC.seq ?_
      refine SC.block ?_
      refine SC.seq ?_
      refine SC.region ?_
      refine PW.move rfl rfl rfl rfl rfl ?_
      refine PW.move rfl rfl rfl rfl rfl ?_
      refine PW.qn [(.tmp 56, .string t), (.tmp 57, .int .i64 (i : Int))] (.int .u8 (at0 (byl t) i)) rfl rfl rfl ⟨rfl, rfl, trivial⟩ (fun ρ W h => by obtain ⟨h1, h2, _⟩ := h; exact r_sidx h1 h2 (by omega)) ?_
      refine PW.call (r := .vl (.int .i64 (dv (at0 (byl t) i)))) rfl rfl rfl rfl rfl rfl (KV.st _) rfl (k_digit (byl_byte t i).1 (byl_byte t i).2) ?_
      refine PW.assign rfl rfl rfl rfl rfl ?_
      refine PW.nil ?_
      refine SX.then ?_
      refine SC.seq ?_
      refine SC.seq ?_
      by_cases hd : dv (at0 (byl t) i) ≥ r
      ·refine SC.region ?_
       refine PW.move rfl rfl rfl rfl rfl ?_
       refine PW.move rfl rfl rfl rfl rfl ?_
       refine PW.q2 (x := .tmp 60) (y := .tmp 61) (.bool true) rfl rfl rfl rfl rfl (fun ρ W h1 h2 => by exact r_ge h1 h2 (decide_eq_true hd)) ?_
       refine PW.nil ?_
       refine SX.then ?_
       refine SC.cond (t := true) rfl ?_
       refine SC.seq ?_
       refine SC.region ?_
       refine PW.val (r := .kw (KJ (0))) rfl rfl rfl rfl (fun a W hf => ⟨.agg #[.bool false, .slice none 0 0], by go_simp, zeroJ W, KJ.st _⟩) ?_
       refine PW.store (x := .tmp 63) (r := .kw (KJ (0))) rfl rfl rfl rfl rfl rfl sh_J ?_
       refine PW.assign rfl rfl rfl rfl rfl ?_
       refine PW.nil ?_
       refine SX.then ?_
       refine SC.ret ?_
       refine SX.thenR ?_
       refine SX.blockR ?_
       refine SX.thenR ?_
       refine SX.thenR ?_
       refine SX.blockR ?_
       refine SX.thenR ?_
       rw [form_bad (i := i) (by rw [byl_len]; omega) hd]
       exact SX.done2 (s := 4) (t := 5) (r := .vl (.int .i64 2)) (.inl rfl) rfl rfl rfl rfl
      ·refine SC.region ?_
       refine PW.move rfl rfl rfl rfl rfl ?_
       refine PW.move rfl rfl rfl rfl rfl ?_
       refine PW.q2 (x := .tmp 60) (y := .tmp 61) (.bool false) rfl rfl rfl rfl rfl (fun ρ W h1 h2 => by exact r_ge h1 h2 (decide_eq_false hd)) ?_
       refine PW.nil ?_
       refine SX.then ?_
       refine SC.cond (t := false) rfl ?_
       refine SC.skip ?_
       refine SX.then ?_
       refine SC.seq ?_
       refine SC.seq ?_
       refine SC.region ?_
       refine PW.assign rfl rfl rfl rfl rfl ?_
       refine PW.nil ?_
       refine SX.then ?_
       refine SC.block ?_
       refine SC.loop (S := Nat × List Int × Int) (fun ⟨k, ys, cc⟩ => [(0, .vl (.string t)), (1, .vl (.int .i64 (r))), (4, .nb (BI 34)), (5, .vl (.int .i64 0)), (6, .vl (.bool false)), (7, .vl (v)), (8, .vl (.int .i64 (i : Int))), (9, .vl (.int .i64 (cc))), (10, .vl (.int .i64 (k : Int))), (94, .ro (v) 3 (.int .i64) (ys))]) (fun ⟨k, ys, cc⟩ => PrJ 65536 r (dv (at0 (byl t) i)) zs k ys cc) (fun ⟨k, ys, cc⟩ => zs.length - k) (0, zs, dv (at0 (byl t) i)) (PrJ.start hP.dg (dv_le _).1 (dv_le _).2) ⟨rfl, rfl, rfl, rfl, rfl, rfl, rfl, rfl, rfl, rfl, trivial⟩ ?_
       rintro ⟨k, ys, cc⟩ hJ
       show SC _ _ _ _ [(0, .vl (.string t)), (1, .vl (.int .i64 (r))), (4, .nb (BI 34)), (5, .vl (.int .i64 0)), (6, .vl (.bool false)), (7, .vl (v)), (8, .vl (.int .i64 (i : Int))), (9, .vl (.int .i64 (cc))), (10, .vl (.int .i64 (k : Int))), (94, .ro (v) 3 (.int .i64) (ys))] _
       refine SC.seq ?_
       refine SC.seq ?_
       by_cases hk : (k : Int) < (ys.length : Int)
       ·refine SC.region ?_
        refine PW.move rfl rfl rfl rfl rfl ?_
        refine PW.move rfl rfl rfl rfl rfl ?_
        refine PW.rlen (s := 65) 94 rfl rfl rfl rfl rfl (fun ρ W A c h => r_lenI h) ?_
        refine PW.q2 (x := .tmp 64) (y := .tmp 66) (.bool true) rfl rfl rfl rfl rfl (fun ρ W h1 h2 => by exact r_lt h1 h2 (decide_eq_true hk)) ?_
        refine PW.nil ?_
        refine SX.then ?_
        refine SC.cond (t := true) rfl ?_
        refine SC.skip ?_
        refine SX.then ?_
        refine SC.seq ?_
        refine SC.block ?_
        refine SC.seq ?_
        refine SC.region ?_
        refine PW.move rfl rfl rfl rfl rfl ?_
        refine PW.move rfl rfl rfl rfl rfl ?_
        refine PW.ridx (i := k) 94 rfl rfl rfl rfl rfl rfl rfl (by have := hJ.len; omega) (fun ρ W g c h1 h2 => r_idxI h1 h2 (by have := hJ.len; omega)) ?_
        refine PW.rget (i := k) 94 rfl rfl rfl rfl rfl rfl (by have := hJ.len; omega) r_l64 ?_
        refine PW.move rfl rfl rfl rfl rfl ?_
        refine PW.q2 (x := .tmp 73) (y := .tmp 74) (.int .i64 (at0 ys k * r)) rfl rfl rfl rfl rfl (fun ρ W h1 h2 => by exact r_mul h1 h2 (rfl) (by have := mulq (dg_at hJ.dg BJ_pos k) h; omega)) ?_
        refine PW.move rfl rfl rfl rfl rfl ?_
        refine PW.q2 (x := .tmp 75) (y := .tmp 76) (.int .i64 (at0 ys k * r + cc)) rfl rfl rfl rfl rfl (fun ρ W h1 h2 => by exact r_add h1 h2 (rfl) (by have := mulq (dg_at hJ.dg BJ_pos k) h; have := hJ.c0; have := hJ.c1; omega)) ?_
        refine PW.assign rfl rfl rfl rfl rfl ?_
        refine PW.nil ?_
        refine SX.then ?_
        refine SC.seq ?_
        refine SC.region ?_
        refine PW.move rfl rfl rfl rfl rfl ?_
        refine PW.move rfl rfl rfl rfl rfl ?_
        refine PW.move rfl rfl rfl rfl rfl ?_
        refine PW.q2 (x := .tmp 80) (y := .const (.int .i64 65536)) (.int .i64 ((at0 ys k * r + cc) % 65536)) rfl rfl rfl rfl rfl (fun ρ W h1 h2 => by exact r_rem h1 h2 (rfl) (by have := mulq (dg_at hJ.dg BJ_pos k) h; have := hJ.c0; have := hJ.c1; omega) (by decide)) ?_
        refine PW.ridx (i := k) 94 rfl rfl rfl rfl rfl rfl rfl (by have := hJ.len; omega) (fun ρ W g c h1 h2 => r_idxI h1 h2 (by have := hJ.len; omega)) ?_
        refine PW.rput (i := k) (x := .tmp 81) (((at0 ys k * r + cc) % 65536)) 94 rfl rfl rfl rfl rfl (by have := hJ.len; omega) rfl rfl r_s64 ?_
        refine PW.nil ?_
        refine SX.then ?_
        refine SC.region ?_
        refine PW.move rfl rfl rfl rfl rfl ?_
        refine PW.q2 (x := .tmp 83) (y := .const (.int .i64 65536)) (.int .i64 ((at0 ys k * r + cc) / 65536)) rfl rfl rfl rfl rfl (fun ρ W h1 h2 => by exact r_quo h1 h2 (rfl) (by have := mulq (dg_at hJ.dg BJ_pos k) h; have := hJ.c0; have := hJ.c1; omega) (by decide)) ?_
        refine PW.assign rfl rfl rfl rfl rfl ?_
        refine PW.nil ?_
        refine SX.blockN ?_
        refine SX.then ?_
        refine SC.region ?_
        refine PW.move rfl rfl rfl rfl rfl ?_
        refine PW.q2 (x := .tmp 68) (y := .const (.int .i64 1)) (.int .i64 ((k + 1 : Nat))) rfl rfl rfl rfl rfl (fun ρ W h1 h2 => by exact r_add h1 h2 (by omega) (by have := hJ.len; have := hJ.le; have := hP.le; have := hP.len; have := byl_len t; omega)) ?_
        refine PW.assign rfl rfl rfl rfl rfl ?_
        refine PW.nil ?_
        refine SX.back (k + 1, ys.set k ((at0 ys k * r + cc) % 65536), (at0 ys k * r + cc) / 65536) ?_ ?_ ?_
        ·exact (hJ.step (by decide) (by have := hJ.len; omega) h.1 h.2 rfl hP.dg)
        ·exact (show zs.length - (k + 1) < zs.length - k by have := hJ.len; omega)
        ·exact ⟨rfl, rfl, rfl, rfl, rfl, rfl, rfl, rfl, rfl, rfl, trivial⟩
       ·obtain rfl : k = zs.length := by have := hJ.le; have := hJ.len; omega
        refine SC.region ?_
        refine PW.move rfl rfl rfl rfl rfl ?_
        refine PW.move rfl rfl rfl rfl rfl ?_
        refine PW.rlen (s := 65) 94 rfl rfl rfl rfl rfl (fun ρ W A c h => r_lenI h) ?_
        refine PW.q2 (x := .tmp 64) (y := .tmp 66) (.bool false) rfl rfl rfl rfl rfl (fun ρ W h1 h2 => by exact r_lt h1 h2 (decide_eq_false hk)) ?_
        refine PW.nil ?_
        refine SX.then ?_
        refine SC.cond (t := false) rfl ?_
        refine SC.exit ?_
        refine SX.thenE ?_
        refine SX.thenE ?_
        refine SX.blockE ?_
        refine SX.then ?_
        refine SC.seq ?_
        by_cases hc : cc > 0
        ·refine SC.region ?_
         refine PW.move rfl rfl rfl rfl rfl ?_
         refine PW.q2 (x := .tmp 85) (y := .const (.int .i64 0)) (.bool true) rfl rfl rfl rfl rfl (fun ρ W h1 h2 => by exact r_gt h1 h2 (decide_eq_true hc)) ?_
         refine PW.nil ?_
         refine SX.then ?_
         refine SC.cond (t := true) rfl ?_
         refine SC.region ?_
         refine PW.move rfl rfl rfl rfl rfl ?_
         refine PW.move rfl rfl rfl rfl rfl ?_
         refine PW.app (K := 94) (f := .int .i64) [(cc)] rfl rfl rfl (fun a W hf => r_b1I (hf.vl (s := 88) rfl)) rfl rfl rfl rfl rfl rfl rfl rfl Tryz.underlying32 info_i64 rfl (fun _ => rfl) (by have l1 := hJ.len; have l2 := hP.len; have l3 := byl_len t; have l4 := hP.le; unfold maxLen; show _ + 1 ≤ _; omega) (by have l1 := hJ.len; have l2 := hP.len; have l3 := byl_len t; have l4 := hP.le; show (_ + 1) * 8 ≤ _; omega) rfl fun vq2 uq2 => ?_
         refine PW.assign rfl rfl rfl rfl rfl ?_
         refine PW.nil ?_
         refine SX.blockN ?_
         refine SX.then ?_
         refine SC.region ?_
         refine PW.move rfl rfl rfl rfl rfl ?_
         refine PW.q2 (x := .tmp 54) (y := .const (.int .i64 1)) (.int .i64 ((i + 1 : Nat))) rfl rfl rfl rfl rfl (fun ρ W h1 h2 => by exact r_add h1 h2 (by omega) (by omega)) ?_
         refine PW.assign rfl rfl rfl rfl rfl ?_
         refine PW.nil ?_
         refine SX.back (i + 1, vq2, ys ++ [(cc)]) ?_ ?_ ?_
         ·exact (hP.yes (by decide) (by rw [byl_len]; omega) (by omega) hJ)
         ·exact (show t.size - (i + 1) < t.size - i by omega)
         ·exact ⟨rfl, rfl, rfl, rfl, rfl, rfl, rfl, rfl, trivial⟩
        ·obtain rfl : cc = 0 := by have := hJ.c0; omega
         refine SC.region ?_
         refine PW.move rfl rfl rfl rfl rfl ?_
         refine PW.q2 (x := .tmp 85) (y := .const (.int .i64 0)) (.bool false) rfl rfl rfl rfl rfl (fun ρ W h1 h2 => by exact r_gt h1 h2 (decide_eq_false hc)) ?_
         refine PW.nil ?_
         refine SX.then ?_
         refine SC.cond (t := false) rfl ?_
         refine SC.skip ?_
         refine SX.blockN ?_
         refine SX.then ?_
         refine SC.region ?_
         refine PW.move rfl rfl rfl rfl rfl ?_
         refine PW.q2 (x := .tmp 54) (y := .const (.int .i64 1)) (.int .i64 ((i + 1 : Nat))) rfl rfl rfl rfl rfl (fun ρ W h1 h2 => by exact r_add h1 h2 (by omega) (by omega)) ?_
         refine PW.assign rfl rfl rfl rfl rfl ?_
         refine PW.nil ?_
         refine SX.back (i + 1, v, ys) ?_ ?_ ?_
         ·exact (hP.no (by rw [byl_len]; omega) (by omega) hJ)
         ·exact (show t.size - (i + 1) < t.size - i by omega)
         ·exact ⟨rfl, rfl, rfl, rfl, rfl, rfl, rfl, rfl, trivial⟩
     ·obtain rfl : i = t.size := by have := hP.le; have := byl_len t; omega
      refine SC.region ?_
      refine PW.move rfl rfl rfl rfl rfl ?_
      refine PW.move rfl rfl rfl rfl rfl ?_
      refine PW.qn [(.tmp 51, .string t)] (.int .i64 (t.size : Int)) rfl rfl rfl ⟨rfl, trivial⟩ (fun ρ W h => by obtain ⟨h1, _⟩ := h; exact r_slen h1) ?_
      refine PW.q2 (x := .tmp 50) (y := .tmp 52) (.bool false) rfl rfl rfl rfl rfl (fun ρ W h1 h2 => by exact r_lt h1 h2 (decide_eq_false hi)) ?_
      refine PW.nil ?_
      refine SX.then ?_
      refine SC.cond (t := false) rfl ?_
      refine SC.exit ?_
      refine SX.thenE ?_
      refine SX.thenE ?_
      refine SX.blockE ?_
      refine SX.then ?_
      refine SC.seq ?_
      refine SC.region ?_
      refine PW.move rfl rfl rfl rfl rfl ?_
      refine PW.move rfl rfl rfl rfl rfl ?_
      refine PW.callG (r := .kw (KJ (sg false (pv r 0 (byl t))))) ce_rmade rfl rfl rfl rfl rfl (KJ.st _) rfl (fun a W hf => by have h1 := hf.vl (s := 91) rfl; have h2 := hf.vl (s := 92) rfl; have own : OwF W _ _ (.int .i64) v zs := hf.ho 94 _ rfl; obtain ⟨A4, c4, e4, hc4, rd4⟩ := Own.rd own; show Calls Tryz.prog _ #[a.tmps.getD 91 undef, a.tmps.getD 92 undef] W _; rw [h1, h2, e4, show pv r 0 (byl t) = lv 65536 zs by rw [hP.lv, List.take_of_length_le (by rw [byl_len]; exact Nat.le_refl _)]]; exact rmade_c rfl rd4 hc4 hP.dg) ?_
      refine PW.store (x := .tmp 93) (r := .kw (KJ (sg false (pv r 0 (byl t))))) rfl rfl rfl rfl rfl rfl sh_J ?_
      refine PW.assign rfl rfl rfl rfl rfl ?_
      refine PW.nil ?_
      refine SX.then ?_
      refine SC.ret ?_
      rw [form_ok (by rw [byl_len]; omega) (fun j hj => hP.ok j (by rw [byl_len] at hj; exact hj))]
      rw [show decide (at0 (byl s) 0 = 45) = false by exact decide_eq_false hm]
      exact SX.done2 (s := 4) (t := 5) (r := .vl (.int .i64 0)) (.inl rfl) rfl rfl rfl rfl
   ·refine SC.region ?_
    refine PW.move rfl rfl rfl rfl rfl ?_
    refine PW.qn [(.tmp 31, .string s)] (.int .i64 (s.size : Int)) rfl rfl rfl ⟨rfl, trivial⟩ (fun ρ W h => by obtain ⟨h1, _⟩ := h; exact r_slen h1) ?_
    refine PW.q2 (x := .tmp 32) (y := .const (.int .i64 0)) (.bool true) rfl rfl rfl rfl rfl (fun ρ W h1 h2 => by exact r_gt h1 h2 (decide_eq_true hz)) ?_
    refine PW.move rfl rfl rfl rfl rfl ?_
    refine PW.move rfl rfl rfl rfl rfl ?_
    refine PW.qn [(.tmp 35, .string s), (.const (.int .i64 0), .int .i64 0)] (.int .u8 (at0 (byl s) 0)) rfl rfl rfl ⟨rfl, rfl, trivial⟩ (fun ρ W h => by obtain ⟨h1, h2, _⟩ := h; exact r_sidx (i := 0) h1 h2 (by omega)) ?_
    refine PW.q2 (x := .tmp 36) (y := .const (.int .u8 45)) (.bool false) rfl rfl rfl rfl rfl (fun ρ W h1 h2 => by exact r_eq8 h1 h2 (decide_eq_false hm)) ?_
    refine PW.move rfl rfl rfl rfl rfl ?_
    refine PW.move rfl rfl rfl rfl rfl ?_
    refine PW.qn [(.tmp 39, .string s), (.const (.int .i64 0), .int .i64 0)] (.int .u8 (at0 (byl s) 0)) rfl rfl rfl ⟨rfl, rfl, trivial⟩ (fun ρ W h => by obtain ⟨h1, h2, _⟩ := h; exact r_sidx (i := 0) h1 h2 (by omega)) ?_
    refine PW.q2 (x := .tmp 40) (y := .const (.int .u8 43)) (.bool false) rfl rfl rfl rfl rfl (fun ρ W h1 h2 => by exact r_eq8 h1 h2 (decide_eq_false hp)) ?_
    refine PW.pick (t := false) rfl rfl rfl rfl rfl rfl ?_
    refine PW.pick (t := true) rfl rfl rfl rfl rfl rfl ?_
    refine PW.nil ?_
    refine SX.then ?_
    refine SC.cond (t := false) rfl ?_
    refine SC.skip ?_
    refine SX.then ?_
    refine SC.seq ?_
    refine SC.seq ?_
    obtain ⟨t, ht⟩ : ∃ t, t = s := ⟨_, rfl⟩
    subst ht
    have htl : t.size ≤ 20000 := by omega
    rw [parse_form (b := byl t) h (by rw [byl_len]; omega) ((if_neg (fun h9 => h9.elim hm hp)).symm)]
    by_cases he : (t.size : Int) = 0
    ·refine SC.region ?_
     refine PW.move rfl rfl rfl rfl rfl ?_
     refine PW.qn [(.tmp 46, .string t)] (.int .i64 (t.size : Int)) rfl rfl rfl ⟨rfl, trivial⟩ (fun ρ W h => by obtain ⟨h1, _⟩ := h; exact r_slen h1) ?_
     refine PW.q2 (x := .tmp 47) (y := .const (.int .i64 0)) (.bool true) rfl rfl rfl rfl rfl (fun ρ W h1 h2 => by exact r_eqT h1 h2 (by omega)) ?_
     refine PW.nil ?_
     refine SX.then ?_
     refine SC.cond (t := true) rfl ?_
     refine SC.seq ?_
     refine SC.region ?_
     refine PW.val (r := .kw (KJ (0))) rfl rfl rfl rfl (fun a W hf => ⟨.agg #[.bool false, .slice none 0 0], by go_simp, zeroJ W, KJ.st _⟩) ?_
     refine PW.store (x := .tmp 49) (r := .kw (KJ (0))) rfl rfl rfl rfl rfl rfl sh_J ?_
     refine PW.assign rfl rfl rfl rfl rfl ?_
     refine PW.nil ?_
     refine SX.then ?_
     refine SC.ret ?_
     refine SX.thenR ?_
     rw [form_empty (z := 0) (by rw [byl_len]; omega)]
     exact SX.done2 (s := 4) (t := 5) (r := .vl (.int .i64 2)) (.inl rfl) rfl rfl rfl rfl
    ·refine SC.region ?_
     refine PW.move rfl rfl rfl rfl rfl ?_
     refine PW.qn [(.tmp 46, .string t)] (.int .i64 (t.size : Int)) rfl rfl rfl ⟨rfl, trivial⟩ (fun ρ W h => by obtain ⟨h1, _⟩ := h; exact r_slen h1) ?_
     refine PW.q2 (x := .tmp 47) (y := .const (.int .i64 0)) (.bool false) rfl rfl rfl rfl rfl (fun ρ W h1 h2 => by exact r_eqF h1 h2 (by omega)) ?_
     refine PW.nil ?_
     refine SX.then ?_
     refine SC.cond (t := false) rfl ?_
     refine SC.skip ?_
     refine SX.then ?_
     refine SC.seq ?_
     refine SC.region ?_
     refine PW.assign rfl rfl rfl rfl rfl ?_
     refine PW.nil ?_
     refine SX.then ?_
     refine SC.seq ?_
     refine SC.seq ?_
     refine SC.region ?_
     refine PW.assign rfl rfl rfl rfl rfl ?_
     refine PW.nil ?_
     refine SX.then ?_
     refine SC.block ?_
     refine SC.weak (fun a W hf => Fr.nilrow 94 3 (.int .i64) hf) ?_
     refine SC.loop (S := Nat × Value × List Int) (fun ⟨i, v, zs⟩ => [(0, .vl (.string t)), (1, .vl (.int .i64 (r))), (4, .nb (BI 34)), (5, .vl (.int .i64 0)), (6, .vl (.bool false)), (7, .vl (v)), (8, .vl (.int .i64 (i : Int))), (94, .ro (v) 3 (.int .i64) (zs))]) (fun ⟨i, v, zs⟩ => PrI 65536 r (byl t) i zs) (fun ⟨i, v, zs⟩ => t.size - i) (0, .slice none 0 0, []) (PrI.start 65536 r (byl t)) ⟨rfl, rfl, rfl, rfl, rfl, rfl, rfl, rfl, trivial⟩ ?_
     rintro ⟨i, v, zs⟩ hP
     show SC _ _ _ _ [(0, .vl (.string t)), (1, .vl (.int .i64 (r))), (4, .nb (BI 34)), (5, .vl (.int .i64 0)), (6, .vl (.bool false)), (7, .vl (v)), (8, .vl (.int .i64 (i : Int))), (94, .ro (v) 3 (.int .i64) (zs))] _
     refine SC.seq ?_
     refine SC.seq ?_
     by_cases hi : (i : Int) < (t.size : Int)
     ·refine SC.region ?_
      refine PW.move rfl rfl rfl rfl rfl ?_
      refine PW.move rfl rfl rfl rfl rfl ?_
      refine PW.qn [(.tmp 51, .string t)] (.int .i64 (t.size : Int)) rfl rfl rfl ⟨rfl, trivial⟩ (fun ρ W h => by obtain ⟨h1, _⟩ := h; exact r_slen h1) ?_
      refine PW.q2 (x := .tmp 50) (y := .tmp 52) (.bool true) rfl rfl rfl rfl rfl (fun ρ W h1 h2 => by exact r_lt h1 h2 (decide_eq_true hi)) ?_
      refine PW.nil ?_
      refine SX.then ?_
      refine SC.cond (t := true) rfl ?_
      refine SC.skip ?_
      refine SX.then ?_
      refine SC.seq ?_
      refine SC.block ?_
      refine SC.seq ?_
      refine SC.region ?_
      refine PW.move rfl rfl rfl rfl rfl ?_
      refine PW.move rfl rfl rfl rfl rfl ?_
      refine PW.qn [(.tmp 56, .string t), (.tmp 57, .int .i64 (i : Int))] (.int .u8 (at0 (byl t) i)) rfl rfl rfl ⟨rfl, rfl, trivial⟩ (fun ρ W h => by obtain ⟨h1, h2, _⟩ := h; exact r_sidx h1 h2 (by omega)) ?_
      refine PW.call (r := .vl (.int .i64 (dv (at0 (byl t) i)))) rfl rfl rfl rfl rfl rfl (KV.st _) rfl (k_digit (byl_byte t i).1 (byl_byte t i).2) ?_
      refine PW.assign rfl rfl rfl rfl rfl ?_
      refine PW.nil ?_
      refine SX.then ?_
      refine SC.seq ?_
      refine SC.seq ?_
      by_cases hd : dv (at0 (byl t) i) ≥ r
      ·refine SC.region ?_
       refine PW.move rfl rfl rfl rfl rfl ?_
       refine PW.move rfl rfl rfl rfl rfl ?_
       refine PW.q2 (x := .tmp 60) (y := .tmp 61) (.bool true) rfl rfl rfl rfl rfl (fun ρ W h1 h2 => by exact r_ge h1 h2 (decide_eq_true hd)) ?_
       refine PW.nil ?_
       refine SX.then ?_
       refine SC.cond (t := true) rfl ?_
       refine SC.seq ?_
       refine SC.region ?_
       refine PW.val (r := .kw (KJ (0))) rfl rfl rfl rfl (fun a W hf => ⟨.agg #[.bool false, .slice none 0 0], by go_simp, zeroJ W, KJ.st _⟩) ?_
       refine PW.store (x := .tmp 63) (r := .kw (KJ (0))) rfl rfl rfl rfl rfl rfl sh_J ?_
       refine PW.assign rfl rfl rfl rfl rfl ?_
       refine PW.nil ?_
       refine SX.then ?_
       refine SC.ret ?_
       refine SX.thenR ?_
       refine SX.blockR ?_
       refine SX.thenR ?_
       refine SX.thenR ?_
       refine SX.blockR ?_
       refine SX.thenR ?_
       rw [form_bad (i := i) (by rw [byl_len]; omega) hd]
       exact SX.done2 (s := 4) (t := 5) (r := .vl (.int .i64 2)) (.inl rfl) rfl rfl rfl rfl
      ·refine SC.region ?_
       refine PW.move rfl rfl rfl rfl rfl ?_
       refine PW.move rfl rfl rfl rfl rfl ?_
       refine PW.q2 (x := .tmp 60) (y := .tmp 61) (.bool false) rfl rfl rfl rfl rfl (fun ρ W h1 h2 => by exact r_ge h1 h2 (decide_eq_false hd)) ?_
       refine PW.nil ?_
       refine SX.then ?_
       refine SC.cond (t := false) rfl ?_
       refine SC.skip ?_
       refine SX.then ?_
       refine SC.seq ?_
       refine SC.seq ?_
       refine SC.region ?_
       refine PW.assign rfl rfl rfl rfl rfl ?_
       refine PW.nil ?_
       refine SX.then ?_
       refine SC.block ?_
       refine SC.loop (S := Nat × List Int × Int) (fun ⟨k, ys, cc⟩ => [(0, .vl (.string t)), (1, .vl (.int .i64 (r))), (4, .nb (BI 34)), (5, .vl (.int .i64 0)), (6, .vl (.bool false)), (7, .vl (v)), (8, .vl (.int .i64 (i : Int))), (9, .vl (.int .i64 (cc))), (10, .vl (.int .i64 (k : Int))), (94, .ro (v) 3 (.int .i64) (ys))]) (fun ⟨k, ys, cc⟩ => PrJ 65536 r (dv (at0 (byl t) i)) zs k ys cc) (fun ⟨k, ys, cc⟩ => zs.length - k) (0, zs, dv (at0 (byl t) i)) (PrJ.start hP.dg (dv_le _).1 (dv_le _).2) ⟨rfl, rfl, rfl, rfl, rfl, rfl, rfl, rfl, rfl, rfl, trivial⟩ ?_
       rintro ⟨k, ys, cc⟩ hJ
       show SC _ _ _ _ [(0, .vl (.string t)), (1, .vl (.int .i64 (r))), (4, .nb (BI 34)), (5, .vl (.int .i64 0)), (6, .vl (.bool false)), (7, .vl (v)), (8, .vl (.int .i64 (i : Int))), (9, .vl (.int .i64 (cc))), (10, .vl (.int .i64 (k : Int))), (94, .ro (v) 3 (.int .i64) (ys))] _
       refine SC.seq ?_
       refine SC.seq ?_
       by_cases hk : (k : Int) < (ys.length : Int)
       ·refine SC.region ?_
        refine PW.move rfl rfl rfl rfl rfl ?_
        refine PW.move rfl rfl rfl rfl rfl ?_
        refine PW.rlen (s := 65) 94 rfl rfl rfl rfl rfl (fun ρ W A c h => r_lenI h) ?_
        refine PW.q2 (x := .tmp 64) (y := .tmp 66) (.bool true) rfl rfl rfl rfl rfl (fun ρ W h1 h2 => by exact r_lt h1 h2 (decide_eq_true hk)) ?_
        refine PW.nil ?_
        refine SX.then ?_
        refine SC.cond (t := true) rfl ?_
        refine SC.skip ?_
        refine SX.then ?_
        refine SC.seq ?_
        refine SC.block ?_
        refine SC.seq ?_
        refine SC.region ?_
        refine PW.move rfl rfl rfl rfl rfl ?_
        refine PW.move rfl rfl rfl rfl rfl ?_
        refine PW.ridx (i := k) 94 rfl rfl rfl rfl rfl rfl rfl (by have := hJ.len; omega) (fun ρ W g c h1 h2 => r_idxI h1 h2 (by have := hJ.len; omega)) ?_
        refine PW.rget (i := k) 94 rfl rfl rfl rfl rfl rfl (by have := hJ.len; omega) r_l64 ?_
        refine PW.move rfl rfl rfl rfl rfl ?_
        refine PW.q2 (x := .tmp 73) (y := .tmp 74) (.int .i64 (at0 ys k * r)) rfl rfl rfl rfl rfl (fun ρ W h1 h2 => by exact r_mul h1 h2 (rfl) (by have := mulq (dg_at hJ.dg BJ_pos k) h; omega)) ?_
        refine PW.move rfl rfl rfl rfl rfl ?_
        refine PW.q2 (x := .tmp 75) (y := .tmp 76) (.int .i64 (at0 ys k * r + cc)) rfl rfl rfl rfl rfl (fun ρ W h1 h2 => by exact r_add h1 h2 (rfl) (by have := mulq (dg_at hJ.dg BJ_pos k) h; have := hJ.c0; have := hJ.c1; omega)) ?_
        refine PW.assign rfl rfl rfl rfl rfl ?_
        refine PW.nil ?_
        refine SX.then ?_
        refine SC.seq ?_
        refine SC.region ?_
        refine PW.move rfl rfl rfl rfl rfl ?_
        refine PW.move rfl rfl rfl rfl rfl ?_
        refine PW.move rfl rfl rfl rfl rfl ?_
        refine PW.q2 (x := .tmp 80) (y := .const (.int .i64 65536)) (.int .i64 ((at0 ys k * r + cc) % 65536)) rfl rfl rfl rfl rfl (fun ρ W h1 h2 => by exact r_rem h1 h2 (rfl) (by have := mulq (dg_at hJ.dg BJ_pos k) h; have := hJ.c0; have := hJ.c1; omega) (by decide)) ?_
        refine PW.ridx (i := k) 94 rfl rfl rfl rfl rfl rfl rfl (by have := hJ.len; omega) (fun ρ W g c h1 h2 => r_idxI h1 h2 (by have := hJ.len; omega)) ?_
        refine PW.rput (i := k) (x := .tmp 81) (((at0 ys k * r + cc) % 65536)) 94 rfl rfl rfl rfl rfl (by have := hJ.len; omega) rfl rfl r_s64 ?_
        refine PW.nil ?_
        refine SX.then ?_
        refine SC.region ?_
        refine PW.move rfl rfl rfl rfl rfl ?_
        refine PW.q2 (x := .tmp 83) (y := .const (.int .i64 65536)) (.int .i64 ((at0 ys k * r + cc) / 65536)) rfl rfl rfl rfl rfl (fun ρ W h1 h2 => by exact r_quo h1 h2 (rfl) (by have := mulq (dg_at hJ.dg BJ_pos k) h; have := hJ.c0; have := hJ.c1; omega) (by decide)) ?_
        refine PW.assign rfl rfl rfl rfl rfl ?_
        refine PW.nil ?_
        refine SX.blockN ?_
        refine SX.then ?_
        refine SC.region ?_
        refine PW.move rfl rfl rfl rfl rfl ?_
        refine PW.q2 (x := .tmp 68) (y := .const (.int .i64 1)) (.int .i64 ((k + 1 : Nat))) rfl rfl rfl rfl rfl (fun ρ W h1 h2 => by exact r_add h1 h2 (by omega) (by have := hJ.len; have := hJ.le; have := hP.le; have := hP.len; have := byl_len t; omega)) ?_
        refine PW.assign rfl rfl rfl rfl rfl ?_
        refine PW.nil ?_
        refine SX.back (k + 1, ys.set k ((at0 ys k * r + cc) % 65536), (at0 ys k * r + cc) / 65536) ?_ ?_ ?_
        ·exact (hJ.step (by decide) (by have := hJ.len; omega) h.1 h.2 rfl hP.dg)
        ·exact (show zs.length - (k + 1) < zs.length - k by have := hJ.len; omega)
        ·exact ⟨rfl, rfl, rfl, rfl, rfl, rfl, rfl, rfl, rfl, rfl, trivial⟩
       ·obtain rfl : k = zs.length := by have := hJ.le; have := hJ.len; omega
        refine SC.region ?_
        refine PW.move rfl rfl rfl rfl rfl ?_
        refine PW.move rfl rfl rfl rfl rfl ?_
        refine PW.rlen (s := 65) 94 rfl rfl rfl rfl rfl (fun ρ W A c h => r_lenI h) ?_
        refine PW.q2 (x := .tmp 64) (y := .tmp 66) (.bool false) rfl rfl rfl rfl rfl (fun ρ W h1 h2 => by exact r_lt h1 h2 (decide_eq_false hk)) ?_
        refine PW.nil ?_
        refine SX.then ?_
        refine SC.cond (t := false) rfl ?_
        refine SC.exit ?_
        refine SX.thenE ?_
        refine SX.thenE ?_
        refine SX.blockE ?_
        refine SX.then ?_
        refine SC.seq ?_
        by_cases hc : cc > 0
        ·refine SC.region ?_
         refine PW.move rfl rfl rfl rfl rfl ?_
         refine PW.q2 (x := .tmp 85) (y := .const (.int .i64 0)) (.bool true) rfl rfl rfl rfl rfl (fun ρ W h1 h2 => by exact r_gt h1 h2 (decide_eq_true hc)) ?_
         refine PW.nil ?_
         refine SX.then ?_
         refine SC.cond (t := true) rfl ?_
         refine SC.region ?_
         refine PW.move rfl rfl rfl rfl rfl ?_
         refine PW.move rfl rfl rfl rfl rfl ?_
         refine PW.app (K := 94) (f := .int .i64) [(cc)] rfl rfl rfl (fun a W hf => r_b1I (hf.vl (s := 88) rfl)) rfl rfl rfl rfl rfl rfl rfl rfl Tryz.underlying32 info_i64 rfl (fun _ => rfl) (by have l1 := hJ.len; have l2 := hP.len; have l3 := byl_len t; have l4 := hP.le; unfold maxLen; show _ + 1 ≤ _; omega) (by have l1 := hJ.len; have l2 := hP.len; have l3 := byl_len t; have l4 := hP.le; show (_ + 1) * 8 ≤ _; omega) rfl fun vq3 uq3 => ?_
         refine PW.assign rfl rfl rfl rfl rfl ?_
         refine PW.nil ?_
         refine SX.blockN ?_
         refine SX.then ?_
         refine SC.region ?_
         refine PW.move rfl rfl rfl rfl rfl ?_
         refine PW.q2 (x := .tmp 54) (y := .const (.int .i64 1)) (.int .i64 ((i + 1 : Nat))) rfl rfl rfl rfl rfl (fun ρ W h1 h2 => by exact r_add h1 h2 (by omega) (by omega)) ?_
         refine PW.assign rfl rfl rfl rfl rfl ?_
         refine PW.nil ?_
         refine SX.back (i + 1, vq3, ys ++ [(cc)]) ?_ ?_ ?_
         ·exact (hP.yes (by decide) (by rw [byl_len]; omega) (by omega) hJ)
         ·exact (show t.size - (i + 1) < t.size - i by omega)
         ·exact ⟨rfl, rfl, rfl, rfl, rfl, rfl, rfl, rfl, trivial⟩
        ·obtain rfl : cc = 0 := by have := hJ.c0; omega
         refine SC.region ?_
         refine PW.move rfl rfl rfl rfl rfl ?_
         refine PW.q2 (x := .tmp 85) (y := .const (.int .i64 0)) (.bool false) rfl rfl rfl rfl rfl (fun ρ W h1 h2 => by exact r_gt h1 h2 (decide_eq_false hc)) ?_
         refine PW.nil ?_
         refine SX.then ?_
         refine SC.cond (t := false) rfl ?_
         refine SC.skip ?_
         refine SX.blockN ?_
         refine SX.then ?_
         refine SC.region ?_
         refine PW.move rfl rfl rfl rfl rfl ?_
         refine PW.q2 (x := .tmp 54) (y := .const (.int .i64 1)) (.int .i64 ((i + 1 : Nat))) rfl rfl rfl rfl rfl (fun ρ W h1 h2 => by exact r_add h1 h2 (by omega) (by omega)) ?_
         refine PW.assign rfl rfl rfl rfl rfl ?_
         refine PW.nil ?_
         refine SX.back (i + 1, v, ys) ?_ ?_ ?_
         ·exact (hP.no (by rw [byl_len]; omega) (by omega) hJ)
         ·exact (show t.size - (i + 1) < t.size - i by omega)
         ·exact ⟨rfl, rfl, rfl, rfl, rfl, rfl, rfl, rfl, trivial⟩
     ·obtain rfl : i = t.size := by have := hP.le; have := byl_len t; omega
      refine SC.region ?_
      refine PW.move rfl rfl rfl rfl rfl ?_
      refine PW.move rfl rfl rfl rfl rfl ?_
      refine PW.qn [(.tmp 51, .string t)] (.int .i64 (t.size : Int)) rfl rfl rfl ⟨rfl, trivial⟩ (fun ρ W h => by obtain ⟨h1, _⟩ := h; exact r_slen h1) ?_
      refine PW.q2 (x := .tmp 50) (y := .tmp 52) (.bool false) rfl rfl rfl rfl rfl (fun ρ W h1 h2 => by exact r_lt h1 h2 (decide_eq_false hi)) ?_
      refine PW.nil ?_
      refine SX.then ?_
      refine SC.cond (t := false) rfl ?_
      refine SC.exit ?_
      refine SX.thenE ?_
      refine SX.thenE ?_
      refine SX.blockE ?_
      refine SX.then ?_
      refine SC.seq ?_
      refine SC.region ?_
      refine PW.move rfl rfl rfl rfl rfl ?_
      refine PW.move rfl rfl rfl rfl rfl ?_
      refine PW.callG (r := .kw (KJ (sg false (pv r 0 (byl t))))) ce_rmade rfl rfl rfl rfl rfl (KJ.st _) rfl (fun a W hf => by have h1 := hf.vl (s := 91) rfl; have h2 := hf.vl (s := 92) rfl; have own : OwF W _ _ (.int .i64) v zs := hf.ho 94 _ rfl; obtain ⟨A4, c4, e4, hc4, rd4⟩ := Own.rd own; show Calls Tryz.prog _ #[a.tmps.getD 91 undef, a.tmps.getD 92 undef] W _; rw [h1, h2, e4, show pv r 0 (byl t) = lv 65536 zs by rw [hP.lv, List.take_of_length_le (by rw [byl_len]; exact Nat.le_refl _)]]; exact rmade_c rfl rd4 hc4 hP.dg) ?_
      refine PW.store (x := .tmp 93) (r := .kw (KJ (sg false (pv r 0 (byl t))))) rfl rfl rfl rfl rfl rfl sh_J ?_
      refine PW.assign rfl rfl rfl rfl rfl ?_
      refine PW.nil ?_
      refine SX.then ?_
      refine SC.ret ?_
      rw [form_ok (by rw [byl_len]; omega) (fun j hj => hP.ok j (by rw [byl_len] at hj; exact hj))]
      rw [show decide (at0 (byl t) 0 = 45) = false by exact decide_eq_false hm]
      exact SX.done2 (s := 4) (t := 5) (r := .vl (.int .i64 0)) (.inl rfl) rfl rfl rfl rfl
 ·refine SC.region ?_
  refine PW.move rfl rfl rfl rfl rfl ?_
  refine PW.qn [(.tmp 23, .string s)] (.int .i64 (s.size : Int)) rfl rfl rfl ⟨rfl, trivial⟩ (fun ρ W h => by obtain ⟨h1, _⟩ := h; exact r_slen h1) ?_
  refine PW.q2 (x := .tmp 24) (y := .const (.int .i64 0)) (.bool false) rfl rfl rfl rfl rfl (fun ρ W h1 h2 => by exact r_gt h1 h2 (decide_eq_false hz)) ?_
  refine PW.move rfl rfl rfl rfl rfl ?_
  refine PW.skip rfl rfl rfl ?_
  refine PW.skip rfl rfl rfl ?_
  refine PW.skip rfl rfl rfl ?_
  refine PW.pick (t := false) rfl rfl rfl rfl rfl rfl ?_
  refine PW.assign rfl rfl rfl rfl rfl ?_
  refine PW.nil ?_
  refine SX.then ?_
  refine SC.seq ?_
  refine SC.seq ?_
  refine SC.region ?_
  refine PW.move rfl rfl rfl rfl rfl ?_
  refine PW.qn [(.tmp 31, .string s)] (.int .i64 (s.size : Int)) rfl rfl rfl ⟨rfl, trivial⟩ (fun ρ W h => by obtain ⟨h1, _⟩ := h; exact r_slen h1) ?_
  refine PW.q2 (x := .tmp 32) (y := .const (.int .i64 0)) (.bool false) rfl rfl rfl rfl rfl (fun ρ W h1 h2 => by exact r_gt h1 h2 (decide_eq_false hz)) ?_
  refine PW.move rfl rfl rfl rfl rfl ?_
  refine PW.skip rfl rfl rfl ?_
  refine PW.skip rfl rfl rfl ?_
  refine PW.skip rfl rfl rfl ?_
  refine PW.skip rfl rfl rfl ?_
  refine PW.skip rfl rfl rfl ?_
  refine PW.skip rfl rfl rfl ?_
  refine PW.skip rfl rfl rfl ?_
  refine PW.skip rfl rfl rfl ?_
  refine PW.pick (t := false) rfl rfl rfl rfl rfl rfl ?_
  refine PW.nil ?_
  refine SX.then ?_
  refine SC.cond (t := false) rfl ?_
  refine SC.skip ?_
  refine SX.then ?_
  refine SC.seq ?_
  refine SC.seq ?_
  obtain ⟨t, ht⟩ : ∃ t, t = s := ⟨_, rfl⟩
  subst ht
  have htl : t.size ≤ 20000 := by omega
  rw [parse_form (b := byl t) h (by rw [byl_len]; omega) ((if_neg (fun h9 => h9.elim (fun h9 => absurd (pos_of_at0 h9 (by decide)) (by omega)) (fun h9 => absurd (pos_of_at0 h9 (by decide)) (by omega)))).symm)]
  by_cases he : (t.size : Int) = 0
  ·refine SC.region ?_
   refine PW.move rfl rfl rfl rfl rfl ?_
   refine PW.qn [(.tmp 46, .string t)] (.int .i64 (t.size : Int)) rfl rfl rfl ⟨rfl, trivial⟩ (fun ρ W h => by obtain ⟨h1, _⟩ := h; exact r_slen h1) ?_
   refine PW.q2 (x := .tmp 47) (y := .const (.int .i64 0)) (.bool true) rfl rfl rfl rfl rfl (fun ρ W h1 h2 => by exact r_eqT h1 h2 (by omega)) ?_
   refine PW.nil ?_
   refine SX.then ?_
   refine SC.cond (t := true) rfl ?_
   refine SC.seq ?_
   refine SC.region ?_
   refine PW.val (r := .kw (KJ (0))) rfl rfl rfl rfl (fun a W hf => ⟨.agg #[.bool false, .slice none 0 0], by go_simp, zeroJ W, KJ.st _⟩) ?_
   refine PW.store (x := .tmp 49) (r := .kw (KJ (0))) rfl rfl rfl rfl rfl rfl sh_J ?_
   refine PW.assign rfl rfl rfl rfl rfl ?_
   refine PW.nil ?_
   refine SX.then ?_
   refine SC.ret ?_
   refine SX.thenR ?_
   rw [form_empty (z := 0) (by rw [byl_len]; omega)]
   exact SX.done2 (s := 4) (t := 5) (r := .vl (.int .i64 2)) (.inl rfl) rfl rfl rfl rfl
  ·refine SC.region ?_
   refine PW.move rfl rfl rfl rfl rfl ?_
   refine PW.qn [(.tmp 46, .string t)] (.int .i64 (t.size : Int)) rfl rfl rfl ⟨rfl, trivial⟩ (fun ρ W h => by obtain ⟨h1, _⟩ := h; exact r_slen h1) ?_
   refine PW.q2 (x := .tmp 47) (y := .const (.int .i64 0)) (.bool false) rfl rfl rfl rfl rfl (fun ρ W h1 h2 => by exact r_eqF h1 h2 (by omega)) ?_
   refine PW.nil ?_
   refine SX.then ?_
   refine SC.cond (t := false) rfl ?_
   refine SC.skip ?_
   refine SX.then ?_
   refine SC.seq ?_
   refine SC.region ?_
   refine PW.assign rfl rfl rfl rfl rfl ?_
   refine PW.nil ?_
   refine SX.then ?_
   refine SC.seq ?_
   refine SC.seq ?_
   refine SC.region ?_
   refine PW.assign rfl rfl rfl rfl rfl ?_
   refine PW.nil ?_
   refine SX.then ?_
   refine SC.block ?_
   refine SC.weak (fun a W hf => Fr.nilrow 94 3 (.int .i64) hf) ?_
   refine SC.loop (S := Nat × Value × List Int) (fun ⟨i, v, zs⟩ => [(0, .vl (.string t)), (1, .vl (.int .i64 (r))), (4, .nb (BI 34)), (5, .vl (.int .i64 0)), (6, .vl (.bool false)), (7, .vl (v)), (8, .vl (.int .i64 (i : Int))), (94, .ro (v) 3 (.int .i64) (zs))]) (fun ⟨i, v, zs⟩ => PrI 65536 r (byl t) i zs) (fun ⟨i, v, zs⟩ => t.size - i) (0, .slice none 0 0, []) (PrI.start 65536 r (byl t)) ⟨rfl, rfl, rfl, rfl, rfl, rfl, rfl, rfl, trivial⟩ ?_
   rintro ⟨i, v, zs⟩ hP
   show SC _ _ _ _ [(0, .vl (.string t)), (1, .vl (.int .i64 (r))), (4, .nb (BI 34)), (5, .vl (.int .i64 0)), (6, .vl (.bool false)), (7, .vl (v)), (8, .vl (.int .i64 (i : Int))), (94, .ro (v) 3 (.int .i64) (zs))] _
   refine SC.seq ?_
   refine SC.seq ?_
   by_cases hi : (i : Int) < (t.size : Int)
   ·refine SC.region ?_
    refine PW.move rfl rfl rfl rfl rfl ?_
    refine PW.move rfl rfl rfl rfl rfl ?_
    refine PW.qn [(.tmp 51, .string t)] (.int .i64 (t.size : Int)) rfl rfl rfl ⟨rfl, trivial⟩ (fun ρ W h => by obtain ⟨h1, _⟩ := h; exact r_slen h1) ?_
    refine PW.q2 (x := .tmp 50) (y := .tmp 52) (.bool true) rfl rfl rfl rfl rfl (fun ρ W h1 h2 => by exact r_lt h1 h2 (decide_eq_true hi)) ?_
    refine PW.nil ?_
    refine SX.then ?_
    refine SC.cond (t := true) rfl ?_
    refine SC.skip ?_
    refine SX.then ?_
    refine SC.seq ?_
    refine SC.block ?_
    refine SC.seq ?_
    refine SC.region ?_
    refine PW.move rfl rfl rfl rfl rfl ?_
    refine PW.move rfl rfl rfl rfl rfl ?_
    refine PW.qn [(.tmp 56, .string t), (.tmp 57, .int .i64 (i : Int))] (.int .u8 (at0 (byl t) i)) rfl rfl rfl ⟨rfl, rfl, trivial⟩ (fun ρ W h => by obtain ⟨h1, h2, _⟩ := h; exact r_sidx h1 h2 (by omega)) ?_
    refine PW.call (r := .vl (.int .i64 (dv (at0 (byl t) i)))) rfl rfl rfl rfl rfl rfl (KV.st _) rfl (k_digit (byl_byte t i).1 (byl_byte t i).2) ?_
    refine PW.assign rfl rfl rfl rfl rfl ?_
    refine PW.nil ?_
    refine SX.then ?_
    refine SC.seq ?_
    refine SC.seq ?_
    by_cases hd : dv (at0 (byl t) i) ≥ r
    ·refine SC.region ?_
     refine PW.move rfl rfl rfl rfl rfl ?_
     refine PW.move rfl rfl rfl rfl rfl ?_
     refine PW.q2 (x := .tmp 60) (y := .tmp 61) (.bool true) rfl rfl rfl rfl rfl (fun ρ W h1 h2 => by exact r_ge h1 h2 (decide_eq_true hd)) ?_
     refine PW.nil ?_
     refine SX.then ?_
     refine SC.cond (t := true) rfl ?_
     refine SC.seq ?_
     refine SC.region ?_
     refine PW.val (r := .kw (KJ (0))) rfl rfl rfl rfl (fun a W hf => ⟨.agg #[.bool false, .slice none 0 0], by go_simp, zeroJ W, KJ.st _⟩) ?_
     refine PW.store (x := .tmp 63) (r := .kw (KJ (0))) rfl rfl rfl rfl rfl rfl sh_J ?_
     refine PW.assign rfl rfl rfl rfl rfl ?_
     refine PW.nil ?_
     refine SX.then ?_
     refine SC.ret ?_
     refine SX.thenR ?_
     refine SX.blockR ?_
     refine SX.thenR ?_
     refine SX.thenR ?_
     refine SX.blockR ?_
     refine SX.thenR ?_
     rw [form_bad (i := i) (by rw [byl_len]; omega) hd]
     exact SX.done2 (s := 4) (t := 5) (r := .vl (.int .i64 2)) (.inl rfl) rfl rfl rfl rfl
    ·refine SC.region ?_
     refine PW.move rfl rfl rfl rfl rfl ?_
     refine PW.move rfl rfl rfl rfl rfl ?_
     refine PW.q2 (x := .tmp 60) (y := .tmp 61) (.bool false) rfl rfl rfl rfl rfl (fun ρ W h1 h2 => by exact r_ge h1 h2 (decide_eq_false hd)) ?_
     refine PW.nil ?_
     refine SX.then ?_
     refine SC.cond (t := false) rfl ?_
     refine SC.skip ?_
     refine SX.then ?_
     refine SC.seq ?_
     refine SC.seq ?_
     refine SC.region ?_
     refine PW.assign rfl rfl rfl rfl rfl ?_
     refine PW.nil ?_
     refine SX.then ?_
     refine SC.block ?_
     refine SC.loop (S := Nat × List Int × Int) (fun ⟨k, ys, cc⟩ => [(0, .vl (.string t)), (1, .vl (.int .i64 (r))), (4, .nb (BI 34)), (5, .vl (.int .i64 0)), (6, .vl (.bool false)), (7, .vl (v)), (8, .vl (.int .i64 (i : Int))), (9, .vl (.int .i64 (cc))), (10, .vl (.int .i64 (k : Int))), (94, .ro (v) 3 (.int .i64) (ys))]) (fun ⟨k, ys, cc⟩ => PrJ 65536 r (dv (at0 (byl t) i)) zs k ys cc) (fun ⟨k, ys, cc⟩ => zs.length - k) (0, zs, dv (at0 (byl t) i)) (PrJ.start hP.dg (dv_le _).1 (dv_le _).2) ⟨rfl, rfl, rfl, rfl, rfl, rfl, rfl, rfl, rfl, rfl, trivial⟩ ?_
     rintro ⟨k, ys, cc⟩ hJ
     show SC _ _ _ _ [(0, .vl (.string t)), (1, .vl (.int .i64 (r))), (4, .nb (BI 34)), (5, .vl (.int .i64 0)), (6, .vl (.bool false)), (7, .vl (v)), (8, .vl (.int .i64 (i : Int))), (9, .vl (.int .i64 (cc))), (10, .vl (.int .i64 (k : Int))), (94, .ro (v) 3 (.int .i64) (ys))] _
     refine SC.seq ?_
     refine SC.seq ?_
     by_cases hk : (k : Int) < (ys.length : Int)
     ·refine SC.region ?_
      refine PW.move rfl rfl rfl rfl rfl ?_
      refine PW.move rfl rfl rfl rfl rfl ?_
      refine PW.rlen (s := 65) 94 rfl rfl rfl rfl rfl (fun ρ W A c h => r_lenI h) ?_
      refine PW.q2 (x := .tmp 64) (y := .tmp 66) (.bool true) rfl rfl rfl rfl rfl (fun ρ W h1 h2 => by exact r_lt h1 h2 (decide_eq_true hk)) ?_
      refine PW.nil ?_
      refine SX.then ?_
      refine SC.cond (t := true) rfl ?_
      refine SC.skip ?_
      refine SX.then ?_
      refine SC.seq ?_
      refine SC.block ?_
      refine SC.seq ?_
      refine SC.region ?_
      refine PW.move rfl rfl rfl rfl rfl ?_
      refine PW.move rfl rfl rfl rfl rfl ?_
      refine PW.ridx (i := k) 94 rfl rfl rfl rfl rfl rfl rfl (by have := hJ.len; omega) (fun ρ W g c h1 h2 => r_idxI h1 h2 (by have := hJ.len; omega)) ?_
      refine PW.rget (i := k) 94 rfl rfl rfl rfl rfl rfl (by have := hJ.len; omega) r_l64 ?_
      refine PW.move rfl rfl rfl rfl rfl ?_
      refine PW.q2 (x := .tmp 73) (y := .tmp 74) (.int .i64 (at0 ys k * r)) rfl rfl rfl rfl rfl (fun ρ W h1 h2 => by exact r_mul h1 h2 (rfl) (by have := mulq (dg_at hJ.dg BJ_pos k) h; omega)) ?_
      refine PW.move rfl rfl rfl rfl rfl ?_
      refine PW.q2 (x := .tmp 75) (y := .tmp 76) (.int .i64 (at0 ys k * r + cc)) rfl rfl rfl rfl rfl (fun ρ W h1 h2 => by exact r_add h1 h2 (rfl) (by have := mulq (dg_at hJ.dg BJ_pos k) h; have := hJ.c0; have := hJ.c1; omega)) ?_
      refine PW.assign rfl rfl rfl rfl rfl ?_
      refine PW.nil ?_
      refine SX.then ?_
      refine SC.seq ?_
      refine SC.region ?_
      refine PW.move rfl rfl rfl rfl rfl ?_
      refine PW.move rfl rfl rfl rfl rfl ?_
      refine PW.move rfl rfl rfl rfl rfl ?_
      refine PW.q2 (x := .tmp 80) (y := .const (.int .i64 65536)) (.int .i64 ((at0 ys k * r + cc) % 65536)) rfl rfl rfl rfl rfl (fun ρ W h1 h2 => by exact r_rem h1 h2 (rfl) (by have := mulq (dg_at hJ.dg BJ_pos k) h; have := hJ.c0; have := hJ.c1; omega) (by decide)) ?_
      refine PW.ridx (i := k) 94 rfl rfl rfl rfl rfl rfl rfl (by have := hJ.len; omega) (fun ρ W g c h1 h2 => r_idxI h1 h2 (by have := hJ.len; omega)) ?_
      refine PW.rput (i := k) (x := .tmp 81) (((at0 ys k * r + cc) % 65536)) 94 rfl rfl rfl rfl rfl (by have := hJ.len; omega) rfl rfl r_s64 ?_
      refine PW.nil ?_
      refine SX.then ?_
      refine SC.region ?_
      refine PW.move rfl rfl rfl rfl rfl ?_
      refine PW.q2 (x := .tmp 83) (y := .const (.int .i64 65536)) (.int .i64 ((at0 ys k * r + cc) / 65536)) rfl rfl rfl rfl rfl (fun ρ W h1 h2 => by exact r_quo h1 h2 (rfl) (by have := mulq (dg_at hJ.dg BJ_pos k) h; have := hJ.c0; have := hJ.c1; omega) (by decide)) ?_
      refine PW.assign rfl rfl rfl rfl rfl ?_
      refine PW.nil ?_
      refine SX.blockN ?_
      refine SX.then ?_
      refine SC.region ?_
      refine PW.move rfl rfl rfl rfl rfl ?_
      refine PW.q2 (x := .tmp 68) (y := .const (.int .i64 1)) (.int .i64 ((k + 1 : Nat))) rfl rfl rfl rfl rfl (fun ρ W h1 h2 => by exact r_add h1 h2 (by omega) (by have := hJ.len; have := hJ.le; have := hP.le; have := hP.len; have := byl_len t; omega)) ?_
      refine PW.assign rfl rfl rfl rfl rfl ?_
      refine PW.nil ?_
      refine SX.back (k + 1, ys.set k ((at0 ys k * r + cc) % 65536), (at0 ys k * r + cc) / 65536) ?_ ?_ ?_
      ·exact (hJ.step (by decide) (by have := hJ.len; omega) h.1 h.2 rfl hP.dg)
      ·exact (show zs.length - (k + 1) < zs.length - k by have := hJ.len; omega)
      ·exact ⟨rfl, rfl, rfl, rfl, rfl, rfl, rfl, rfl, rfl, rfl, trivial⟩
     ·obtain rfl : k = zs.length := by have := hJ.le; have := hJ.len; omega
      refine SC.region ?_
      refine PW.move rfl rfl rfl rfl rfl ?_
      refine PW.move rfl rfl rfl rfl rfl ?_
      refine PW.rlen (s := 65) 94 rfl rfl rfl rfl rfl (fun ρ W A c h => r_lenI h) ?_
      refine PW.q2 (x := .tmp 64) (y := .tmp 66) (.bool false) rfl rfl rfl rfl rfl (fun ρ W h1 h2 => by exact r_lt h1 h2 (decide_eq_false hk)) ?_
      refine PW.nil ?_
      refine SX.then ?_
      refine SC.cond (t := false) rfl ?_
      refine SC.exit ?_
      refine SX.thenE ?_
      refine SX.thenE ?_
      refine SX.blockE ?_
      refine SX.then ?_
      refine SC.seq ?_
      by_cases hc : cc > 0
      ·refine SC.region ?_
       refine PW.move rfl rfl rfl rfl rfl ?_
       refine PW.q2 (x := .tmp 85) (y := .const (.int .i64 0)) (.bool true) rfl rfl rfl rfl rfl (fun ρ W h1 h2 => by exact r_gt h1 h2 (decide_eq_true hc)) ?_
       refine PW.nil ?_
       refine SX.then ?_
       refine SC.cond (t := true) rfl ?_
       refine SC.region ?_
       refine PW.move rfl rfl rfl rfl rfl ?_
       refine PW.move rfl rfl rfl rfl rfl ?_
       refine PW.app (K := 94) (f := .int .i64) [(cc)] rfl rfl rfl (fun a W hf => r_b1I (hf.vl (s := 88) rfl)) rfl rfl rfl rfl rfl rfl rfl rfl Tryz.underlying32 info_i64 rfl (fun _ => rfl) (by have l1 := hJ.len; have l2 := hP.len; have l3 := byl_len t; have l4 := hP.le; unfold maxLen; show _ + 1 ≤ _; omega) (by have l1 := hJ.len; have l2 := hP.len; have l3 := byl_len t; have l4 := hP.le; show (_ + 1) * 8 ≤ _; omega) rfl fun vq4 uq4 => ?_
       refine PW.assign rfl rfl rfl rfl rfl ?_
       refine PW.nil ?_
       refine SX.blockN ?_
       refine SX.then ?_
       refine SC.region ?_
       refine PW.move rfl rfl rfl rfl rfl ?_
       refine PW.q2 (x := .tmp 54) (y := .const (.int .i64 1)) (.int .i64 ((i + 1 : Nat))) rfl rfl rfl rfl rfl (fun ρ W h1 h2 => by exact r_add h1 h2 (by omega) (by omega)) ?_
       refine PW.assign rfl rfl rfl rfl rfl ?_
       refine PW.nil ?_
       refine SX.back (i + 1, vq4, ys ++ [(cc)]) ?_ ?_ ?_
       ·exact (hP.yes (by decide) (by rw [byl_len]; omega) (by omega) hJ)
       ·exact (show t.size - (i + 1) < t.size - i by omega)
       ·exact ⟨rfl, rfl, rfl, rfl, rfl, rfl, rfl, rfl, trivial⟩
      ·obtain rfl : cc = 0 := by have := hJ.c0; omega
       refine SC.region ?_
       refine PW.move rfl rfl rfl rfl rfl ?_
       refine PW.q2 (x := .tmp 85) (y := .const (.int .i64 0)) (.bool false) rfl rfl rfl rfl rfl (fun ρ W h1 h2 => by exact r_gt h1 h2 (decide_eq_false hc)) ?_
       refine PW.nil ?_
       refine SX.then ?_
       refine SC.cond (t := false) rfl ?_
       refine SC.skip ?_
       refine SX.blockN ?_
       refine SX.then ?_
       refine SC.region ?_
       refine PW.move rfl rfl rfl rfl rfl ?_
       refine PW.q2 (x := .tmp 54) (y := .const (.int .i64 1)) (.int .i64 ((i + 1 : Nat))) rfl rfl rfl rfl rfl (fun ρ W h1 h2 => by exact r_add h1 h2 (by omega) (by omega)) ?_
       refine PW.assign rfl rfl rfl rfl rfl ?_
       refine PW.nil ?_
       refine SX.back (i + 1, v, ys) ?_ ?_ ?_
       ·exact (hP.no (by rw [byl_len]; omega) (by omega) hJ)
       ·exact (show t.size - (i + 1) < t.size - i by omega)
       ·exact ⟨rfl, rfl, rfl, rfl, rfl, rfl, rfl, rfl, trivial⟩
   ·obtain rfl : i = t.size := by have := hP.le; have := byl_len t; omega
    refine SC.region ?_
    refine PW.move rfl rfl rfl rfl rfl ?_
    refine PW.move rfl rfl rfl rfl rfl ?_
    refine PW.qn [(.tmp 51, .string t)] (.int .i64 (t.size : Int)) rfl rfl rfl ⟨rfl, trivial⟩ (fun ρ W h => by obtain ⟨h1, _⟩ := h; exact r_slen h1) ?_
    refine PW.q2 (x := .tmp 50) (y := .tmp 52) (.bool false) rfl rfl rfl rfl rfl (fun ρ W h1 h2 => by exact r_lt h1 h2 (decide_eq_false hi)) ?_
    refine PW.nil ?_
    refine SX.then ?_
    refine SC.cond (t := false) rfl ?_
    refine SC.exit ?_
    refine SX.thenE ?_
    refine SX.thenE ?_
    refine SX.blockE ?_
    refine SX.then ?_
    refine SC.seq ?_
    refine SC.region ?_
    refine PW.move rfl rfl rfl rfl rfl ?_
    refine PW.move rfl rfl rfl rfl rfl ?_
    refine PW.callG (r := .kw (KJ (sg false (pv r 0 (byl t))))) ce_rmade rfl rfl rfl rfl rfl (KJ.st _) rfl (fun a W hf => by have h1 := hf.vl (s := 91) rfl; have h2 := hf.vl (s := 92) rfl; have own : OwF W _ _ (.int .i64) v zs := hf.ho 94 _ rfl; obtain ⟨A4, c4, e4, hc4, rd4⟩ := Own.rd own; show Calls Tryz.prog _ #[a.tmps.getD 91 undef, a.tmps.getD 92 undef] W _; rw [h1, h2, e4, show pv r 0 (byl t) = lv 65536 zs by rw [hP.lv, List.take_of_length_le (by rw [byl_len]; exact Nat.le_refl _)]]; exact rmade_c rfl rd4 hc4 hP.dg) ?_
    refine PW.store (x := .tmp 93) (r := .kw (KJ (sg false (pv r 0 (byl t))))) rfl rfl rfl rfl rfl rfl sh_J ?_
    refine PW.assign rfl rfl rfl rfl rfl ?_
    refine PW.nil ?_
    refine SX.then ?_
    refine SC.ret ?_
    rw [form_ok (by rw [byl_len]; omega) (fun j hj => hP.ok j (by rw [byl_len] at hj; exact hj))]
    rw [show decide (at0 (byl t) 0 = 45) = false by exact decide_eq_false (fun h9 => absurd (pos_of_at0 h9 (by decide)) (by omega))]
    exact SX.done2 (s := 4) (t := 5) (r := .vl (.int .i64 0)) (.inl rfl) rfl rfl rfl rfl
theorem k_jparse {s : ByteArray} {r : Int} : CallOk 90 [KV (.string s), KV (.int .i64 (r))] (KPJ (parseR r (byl s))) := by
 by_cases h : 2 ≤ r ∧ r ≤ 36
 ·by_cases hl : 20000 < s.size
  ·exact k_jparse_long h hl
  ·exact k_jparse_ok h hl
 ·exact k_jparse_radix h
end Go.Proofs.YthpjmhhfcechmaaGreat.Sy
/- The reference's Floor, Shift by rules. -/
set_option linter.unusedVariables false
set_option linter.unusedSimpArgs false
namespace Go.Proofs.YthpjmhhfcechmaaGreat.Sy
open Go Go.RowKit Ma
end Go.Proofs.YthpjmhhfcechmaaGreat.Sy
