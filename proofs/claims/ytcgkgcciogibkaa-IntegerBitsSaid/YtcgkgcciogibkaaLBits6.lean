/- Parts Pw, Pk, Jx, Jy, in one file. -/
import Derived.Lib.RabinKarpLaws
import Derived.Test.YtcgkgcciogibkaaK5
import Derived.Test.YtcgkgcciogibkaaLBits2
import Derived.Test.YtcgkgcciogibkaaLBits5
/- The contract of the program's Power, by rules. -/
set_option linter.unusedVariables false
set_option linter.unusedSimpArgs false
namespace Go.Proofs.Ytcgkgcciogibkaa.Sy
open Go Go.RowKit Ma
theorem ce_power : CE 62 := fun args W => by go_simp
theorem and1_run {k : Nat} {x y : Operand} {dst : Option Tmp} {ty : TypeId} {pos : String} {after : Array Edge} {guard : Option (Nat × Bool)} {ρ : Operand → Value} {W : World} (h1 : ρ x = .int .i64 (k : Int)) (h2 : ρ y = .int .i64 1) (hk : k < 9223372036854775808) :
    (execOp ρ ⟨dst, .binOp .and 3 x y 3, ty, pos, after, guard⟩).run Try.prog W = .ok (.value (.int .i64 ((k % 2 : Nat) : Int))) W := by
  rw [← Go.Proofs.and_one k hk]
  go_simp
theorem quo_run {s m : Nat} {x y : Operand} {dst : Option Tmp} {ty : TypeId} {pos : String} {after : Array Edge} {guard : Option (Nat × Bool)} {ρ : Operand → Value} {W : World} (h1 : ρ x = .int .i64 65536) (h2 : ρ y = .int .i64 (s : Int)) (hs : 1 ≤ s) (hm : 65536 / s = m) :
    (execOp ρ ⟨dst, .binOp .quo 3 x y 3, ty, pos, after, guard⟩).run Try.prog W = .ok (.value (.int .i64 (m : Int))) W := by
  have h3 : ¬ (s : Int) = 0 := by omega
  have e : (m : Int) = 65536 / (s : Int) := by rw [← hm]; exact Int.natCast_ediv _ _
  have b1 : (0 : Int) ≤ 65536 / (s : Int) := Int.ediv_nonneg (by decide) (by omega)
  have b2 : (65536 : Int) / (s : Int) ≤ 65536 := Int.ediv_le_self _ (by decide)
  rw [e]
  clear e hm
  go_simp
  rw [if_neg (by omega), show Int.tdiv 65536 (s : Int) = 65536 / (s : Int) from Int.tdiv_eq_ediv_of_nonneg (by decide), IntWalk.i64_in _ ⟨by omega, by omega⟩]
set_option maxHeartbeats 1600000 in
theorem power_neg {x n : Int} (hn : n < 0) : CallOk 62 [KI x, KV (.int .i64 n)] (K2 (KI 0) (KV (.int .i64 1))) := by
  refine CallOk.enter (l := [.kw (KI x), .vl (.int .i64 n)]) 72 ce_power Try.func62 rfl Try.ntmps62 (by simp) ⟨KI.st _, rfl, KV.st _, rfl, trivial⟩ fun w => ?_
  refine SC.seq ?_
  refine SC.region ?_
  refine PW.box (x := .tmp 0) (r := .kw (KI (x))) (BI 28) rfl rfl rfl rfl rfl bI rfl sh_I ?_
  refine PW.alloc (BI 28) rfl rfl rfl rfl rfl bI ?_
  refine PW.assign rfl rfl rfl rfl rfl ?_
  refine PW.nil ?_
  refine SX.then ?_
  refine SC.seq ?_
  refine SC.seq ?_
  refine SC.region ?_
  refine PW.move rfl rfl rfl rfl rfl ?_
  refine PW.q2 (x := .tmp 11) (y := .const (.int .i64 0)) (.bool true) rfl rfl rfl rfl rfl (fun ρ W h1 h2 => by first | (go_simp; done) | (go_simp; rw [Int.tmod_eq_emod_of_nonneg (by omega)]; exact IntWalk.i64_in _ (by omega)) | (go_simp; omega)) ?_
  refine PW.nil ?_
  refine SX.then ?_
  refine SC.cond (t := true) rfl ?_
  refine SC.seq ?_
  refine SC.region ?_
  refine PW.val (r := .kw (KI (0))) rfl rfl rfl rfl (fun a W hf => ⟨.agg #[.bool false, .slice none 0 0], by go_simp, zeroI _ W W⟩) ?_
  refine PW.store (x := .tmp 13) (r := .kw (KI (0))) rfl rfl rfl rfl rfl rfl sh_I ?_
  refine PW.assign rfl rfl rfl rfl rfl ?_
  refine PW.nil ?_
  refine SX.then ?_
  refine SC.ret ?_
  refine SX.thenR ?_
  exact SX.done2 (s := 4) (t := 5) (r := .vl (.int .i64 1)) (.inl rfl) rfl rfl rfl rfl

set_option maxHeartbeats 1600000 in
theorem power_zero {x : Int} : CallOk 62 [KI x, KV (.int .i64 0)] (K2 (KI 1) (KV (.int .i64 0))) := by
  refine CallOk.enter (l := [.kw (KI x), .vl (.int .i64 0)]) 72 ce_power Try.func62 rfl Try.ntmps62 (by simp) ⟨KI.st _, rfl, KV.st _, rfl, trivial⟩ fun w => ?_
  refine SC.seq ?_
  refine SC.region ?_
  refine PW.box (x := .tmp 0) (r := .kw (KI (x))) (BI 28) rfl rfl rfl rfl rfl bI rfl sh_I ?_
  refine PW.alloc (BI 28) rfl rfl rfl rfl rfl bI ?_
  refine PW.assign rfl rfl rfl rfl rfl ?_
  refine PW.nil ?_
  refine SX.then ?_
  refine SC.seq ?_
  refine SC.seq ?_
  refine SC.region ?_
  refine PW.move rfl rfl rfl rfl rfl ?_
  refine PW.q2 (x := .tmp 11) (y := .const (.int .i64 0)) (.bool false) rfl rfl rfl rfl rfl (fun ρ W h1 h2 => by first | (go_simp; done) | (go_simp; rw [Int.tmod_eq_emod_of_nonneg (by omega)]; exact IntWalk.i64_in _ (by omega)) | (go_simp; omega)) ?_
  refine PW.nil ?_
  refine SX.then ?_
  refine SC.cond (t := false) rfl ?_
  refine SC.skip ?_
  refine SX.then ?_
  refine SC.seq ?_
  refine SC.region ?_
  refine PW.call (r := .kw (KI (1))) rfl rfl rfl rfl rfl rfl (KI.st _) rfl (k_new (by decide)) ?_
  refine PW.alloc (BI 28) rfl rfl rfl rfl rfl bI ?_
  refine PW.store (x := .tmp 14) (r := .kw (KI (1))) rfl rfl rfl rfl rfl rfl sh_I ?_
  refine PW.nil ?_
  refine SX.then ?_
  refine SC.seq ?_
  refine SC.seq ?_
  refine SC.dx [.val 15 (.vl (.int .i64 0)), .val 16 (.vl (.bool true)), .val 17 (.vl (.bool true)), .val 18 (.vl (undef)), .val 19 (.vl (undef)), .val 20 (.vl (undef)), .val 21 (.vl (undef)), .val 22 (.vl (undef)), .val 23 (.vl (.bool true))] [([], [1]), ([0], []), ([1], []), ([2], []), ([2], []), ([2], []), ([2], []), ([2], []), ([2], [])] rfl (by kernel_rfl) (by kernel_rfl) (by kernel_rfl) rfl ⟨?_, ?_, ?_, ?_, ?_, ?_, ?_, ?_, ?_, trivial⟩ ?_
  · exact DX.move rfl rfl rfl rfl rfl rfl
  · exact DX.q2 (x := .tmp 15) (y := .const (.int .i64 0)) (.bool true) rfl rfl rfl rfl rfl (fun ρ W h1 h2 => by first | (go_simp; done) | (go_simp; rw [Int.tmod_eq_emod_of_nonneg (by omega)]; exact IntWalk.i64_in _ (by omega)) | (go_simp; omega))
  · exact DX.move rfl rfl rfl rfl rfl rfl
  · exact DX.skip rfl rfl rfl
  · exact DX.skip rfl rfl rfl
  · exact DX.skip rfl rfl rfl
  · exact DX.skip rfl rfl rfl
  · exact DX.skip rfl rfl rfl
  · exact DX.pick (t := true) rfl rfl rfl rfl rfl rfl rfl
  refine SX.then ?_
  refine SC.cond (t := true) rfl ?_
  refine SC.seq ?_
  refine SC.block ?_
  refine SC.seq ?_
  refine SC.region ?_
  refine PW.move rfl rfl rfl rfl rfl ?_
  refine PW.q2 (x := .tmp 25) (y := .const (.int .i64 0)) (.bool true) rfl rfl rfl rfl rfl (fun ρ W h1 h2 => by first | (go_simp; done) | (go_simp; rw [Int.tmod_eq_emod_of_nonneg (by omega)]; exact IntWalk.i64_in _ (by omega)) | (go_simp; omega)) ?_
  refine PW.move rfl rfl rfl rfl rfl ?_
  refine PW.skip rfl rfl rfl ?_
  refine PW.skip rfl rfl rfl ?_
  refine PW.skip rfl rfl rfl ?_
  refine PW.skip rfl rfl rfl ?_
  refine PW.skip rfl rfl rfl ?_
  refine PW.skip rfl rfl rfl ?_
  refine PW.skip rfl rfl rfl ?_
  refine PW.pick (t := true) rfl rfl rfl rfl rfl rfl ?_
  refine PW.assign rfl rfl rfl rfl rfl ?_
  refine PW.nil ?_
  refine SX.then ?_
  refine SC.cond (t := true) rfl ?_
  refine SC.seq ?_
  refine SC.region ?_
  refine PW.load rfl rfl rfl rfl rfl rfl ?_
  refine PW.store (x := .tmp 36) (r := .kw (KI (1))) rfl rfl rfl rfl rfl rfl sh_I ?_
  refine PW.assign rfl rfl rfl rfl rfl ?_
  refine PW.nil ?_
  refine SX.then ?_
  refine SC.ret ?_
  refine SX.blockR ?_
  refine SX.thenR ?_
  refine SX.thenR ?_
  exact SX.done2 (s := 4) (t := 5) (r := .vl (.int .i64 0)) (.inl rfl) rfl rfl rfl rfl

set_option maxHeartbeats 1600000 in
theorem power_01 {x n : Int} (hx : 0 ≤ x) (hc : cmp (x.natAbs : Int) 1 ≤ 0) (hn : 1 ≤ n) (hn2 : n ≤ 9223372036854775807) : CallOk 62 [KI x, KV (.int .i64 n)] (K2 (KI x) (KV (.int .i64 0))) := by
  refine CallOk.enter (l := [.kw (KI x), .vl (.int .i64 n)]) 72 ce_power Try.func62 rfl Try.ntmps62 (by simp) ⟨KI.st _, rfl, KV.st _, rfl, trivial⟩ fun w => ?_
  refine SC.seq ?_
  refine SC.region ?_
  refine PW.box (x := .tmp 0) (r := .kw (KI (x))) (BI 28) rfl rfl rfl rfl rfl bI rfl sh_I ?_
  refine PW.alloc (BI 28) rfl rfl rfl rfl rfl bI ?_
  refine PW.assign rfl rfl rfl rfl rfl ?_
  refine PW.nil ?_
  refine SX.then ?_
  refine SC.seq ?_
  refine SC.seq ?_
  refine SC.region ?_
  refine PW.move rfl rfl rfl rfl rfl ?_
  refine PW.q2 (x := .tmp 11) (y := .const (.int .i64 0)) (.bool false) rfl rfl rfl rfl rfl (fun ρ W h1 h2 => by first | (go_simp; done) | (go_simp; rw [Int.tmod_eq_emod_of_nonneg (by omega)]; exact IntWalk.i64_in _ (by omega)) | (go_simp; omega)) ?_
  refine PW.nil ?_
  refine SX.then ?_
  refine SC.cond (t := false) rfl ?_
  refine SC.skip ?_
  refine SX.then ?_
  refine SC.seq ?_
  refine SC.region ?_
  refine PW.call (r := .kw (KI (1))) rfl rfl rfl rfl rfl rfl (KI.st _) rfl (k_new (by decide)) ?_
  refine PW.alloc (BI 28) rfl rfl rfl rfl rfl bI ?_
  refine PW.store (x := .tmp 14) (r := .kw (KI (1))) rfl rfl rfl rfl rfl rfl sh_I ?_
  refine PW.nil ?_
  refine SX.then ?_
  refine SC.seq ?_
  refine SC.seq ?_
  refine SC.dx [.val 15 (.vl (.int .i64 n)), .val 16 (.vl (.bool false)), .val 17 (.vl (.bool false)), .val 18 (.kw (KI (x))), .val 19 (.kw (KI ((x.natAbs : Int)))), .val 20 (.kw (KI (1))), .val 21 (.vl (.int .i64 (cmp (x.natAbs : Int) 1))), .val 22 (.vl (.bool true)), .val 23 (.vl (.bool true))] [([], [1]), ([0], []), ([1], []), ([2], [2]), ([3, 2], []), ([2], [6]), ([4, 5, 2], []), ([6, 2], []), ([2, 7], [])] rfl (by kernel_rfl) (by kernel_rfl) (by kernel_rfl) rfl ⟨?_, ?_, ?_, ?_, ?_, ?_, ?_, ?_, ?_, trivial⟩ ?_
  · exact DX.move rfl rfl rfl rfl rfl rfl
  · exact DX.q2 (x := .tmp 15) (y := .const (.int .i64 0)) (.bool false) rfl rfl rfl rfl rfl (fun ρ W h1 h2 => by first | (go_simp; done) | (go_simp; rw [Int.tmod_eq_emod_of_nonneg (by omega)]; exact IntWalk.i64_in _ (by omega)) | (go_simp; omega))
  · exact DX.move rfl rfl rfl rfl rfl rfl
  · exact DX.load rfl rfl rfl rfl rfl rfl
  · exact DX.call (r := .kw (KI ((x.natAbs : Int)))) rfl rfl rfl rfl rfl rfl (KI.st _) rfl (k_abs)
  · exact DX.load rfl rfl rfl rfl rfl rfl
  · exact DX.call (r := .vl (.int .i64 (cmp (x.natAbs : Int) 1))) rfl rfl rfl rfl rfl rfl (KV.st _) rfl (k_cmp (rfl))
  · exact DX.q2 (x := .tmp 21) (y := .const (.int .i64 0)) (.bool true) rfl rfl rfl rfl rfl (fun ρ W h1 h2 => by first | (go_simp; done) | (go_simp; exact hc))
  · exact DX.pick (t := false) rfl rfl rfl rfl rfl rfl rfl
  refine SX.then ?_
  refine SC.cond (t := true) rfl ?_
  refine SC.seq ?_
  refine SC.block ?_
  refine SC.seq ?_
  refine SC.region ?_
  refine PW.move rfl rfl rfl rfl rfl ?_
  refine PW.q2 (x := .tmp 25) (y := .const (.int .i64 0)) (.bool false) rfl rfl rfl rfl rfl (fun ρ W h1 h2 => by first | (go_simp; done) | (go_simp; rw [Int.tmod_eq_emod_of_nonneg (by omega)]; exact IntWalk.i64_in _ (by omega)) | (go_simp; omega)) ?_
  refine PW.move rfl rfl rfl rfl rfl ?_
  refine PW.fld (r := .vl (.bool false)) rfl rfl rfl rfl rfl rfl rfl rfl rfl rfl rfl (fun v W p hh hk => by obtain ⟨q, u, h1, h2, h3⟩ := fldI0 v W p hh hk; exact ⟨q, u, h1, h2, by rw [h3]; show Value.bool _ = _; rw [decide_eq_false (by omega)]⟩) (KV.st _) ?_
  refine PW.move rfl rfl rfl rfl rfl ?_
  refine PW.skip rfl rfl rfl ?_
  refine PW.skip rfl rfl rfl ?_
  refine PW.skip rfl rfl rfl ?_
  refine PW.pick (t := false) rfl rfl rfl rfl rfl rfl ?_
  refine PW.pick (t := false) rfl rfl rfl rfl rfl rfl ?_
  refine PW.assign rfl rfl rfl rfl rfl ?_
  refine PW.nil ?_
  refine SX.then ?_
  refine SC.cond (t := false) rfl ?_
  refine SC.skip ?_
  refine SX.blockN ?_
  refine SX.then ?_
  refine SC.seq ?_
  refine SC.region ?_
  refine PW.load rfl rfl rfl rfl rfl rfl ?_
  refine PW.store (x := .tmp 37) (r := .kw (KI (x))) rfl rfl rfl rfl rfl rfl sh_I ?_
  refine PW.assign rfl rfl rfl rfl rfl ?_
  refine PW.nil ?_
  refine SX.then ?_
  refine SC.ret ?_
  refine SX.thenR ?_
  exact SX.done2 (s := 4) (t := 5) (r := .vl (.int .i64 0)) (.inl rfl) rfl rfl rfl rfl

set_option maxHeartbeats 1600000 in
theorem power_m1e {x n : Int} (hx : x < 0) (hc : cmp (x.natAbs : Int) 1 ≤ 0) (hn : 1 ≤ n) (hn2 : n ≤ 9223372036854775807) (hp : n % 2 = 0) : CallOk 62 [KI x, KV (.int .i64 n)] (K2 (KI 1) (KV (.int .i64 0))) := by
  refine CallOk.enter (l := [.kw (KI x), .vl (.int .i64 n)]) 72 ce_power Try.func62 rfl Try.ntmps62 (by simp) ⟨KI.st _, rfl, KV.st _, rfl, trivial⟩ fun w => ?_
  refine SC.seq ?_
  refine SC.region ?_
  refine PW.box (x := .tmp 0) (r := .kw (KI (x))) (BI 28) rfl rfl rfl rfl rfl bI rfl sh_I ?_
  refine PW.alloc (BI 28) rfl rfl rfl rfl rfl bI ?_
  refine PW.assign rfl rfl rfl rfl rfl ?_
  refine PW.nil ?_
  refine SX.then ?_
  refine SC.seq ?_
  refine SC.seq ?_
  refine SC.region ?_
  refine PW.move rfl rfl rfl rfl rfl ?_
  refine PW.q2 (x := .tmp 11) (y := .const (.int .i64 0)) (.bool false) rfl rfl rfl rfl rfl (fun ρ W h1 h2 => by first | (go_simp; done) | (go_simp; rw [Int.tmod_eq_emod_of_nonneg (by omega)]; exact IntWalk.i64_in _ (by omega)) | (go_simp; omega)) ?_
  refine PW.nil ?_
  refine SX.then ?_
  refine SC.cond (t := false) rfl ?_
  refine SC.skip ?_
  refine SX.then ?_
  refine SC.seq ?_
  refine SC.region ?_
  refine PW.call (r := .kw (KI (1))) rfl rfl rfl rfl rfl rfl (KI.st _) rfl (k_new (by decide)) ?_
  refine PW.alloc (BI 28) rfl rfl rfl rfl rfl bI ?_
  refine PW.store (x := .tmp 14) (r := .kw (KI (1))) rfl rfl rfl rfl rfl rfl sh_I ?_
  refine PW.nil ?_
  refine SX.then ?_
  refine SC.seq ?_
  refine SC.seq ?_
  refine SC.dx [.val 15 (.vl (.int .i64 n)), .val 16 (.vl (.bool false)), .val 17 (.vl (.bool false)), .val 18 (.kw (KI (x))), .val 19 (.kw (KI ((x.natAbs : Int)))), .val 20 (.kw (KI (1))), .val 21 (.vl (.int .i64 (cmp (x.natAbs : Int) 1))), .val 22 (.vl (.bool true)), .val 23 (.vl (.bool true))] [([], [1]), ([0], []), ([1], []), ([2], [2]), ([3, 2], []), ([2], [6]), ([4, 5, 2], []), ([6, 2], []), ([2, 7], [])] rfl (by kernel_rfl) (by kernel_rfl) (by kernel_rfl) rfl ⟨?_, ?_, ?_, ?_, ?_, ?_, ?_, ?_, ?_, trivial⟩ ?_
  · exact DX.move rfl rfl rfl rfl rfl rfl
  · exact DX.q2 (x := .tmp 15) (y := .const (.int .i64 0)) (.bool false) rfl rfl rfl rfl rfl (fun ρ W h1 h2 => by first | (go_simp; done) | (go_simp; rw [Int.tmod_eq_emod_of_nonneg (by omega)]; exact IntWalk.i64_in _ (by omega)) | (go_simp; omega))
  · exact DX.move rfl rfl rfl rfl rfl rfl
  · exact DX.load rfl rfl rfl rfl rfl rfl
  · exact DX.call (r := .kw (KI ((x.natAbs : Int)))) rfl rfl rfl rfl rfl rfl (KI.st _) rfl (k_abs)
  · exact DX.load rfl rfl rfl rfl rfl rfl
  · exact DX.call (r := .vl (.int .i64 (cmp (x.natAbs : Int) 1))) rfl rfl rfl rfl rfl rfl (KV.st _) rfl (k_cmp (rfl))
  · exact DX.q2 (x := .tmp 21) (y := .const (.int .i64 0)) (.bool true) rfl rfl rfl rfl rfl (fun ρ W h1 h2 => by first | (go_simp; done) | (go_simp; exact hc))
  · exact DX.pick (t := false) rfl rfl rfl rfl rfl rfl rfl
  refine SX.then ?_
  refine SC.cond (t := true) rfl ?_
  refine SC.seq ?_
  refine SC.block ?_
  refine SC.seq ?_
  refine SC.region ?_
  refine PW.move rfl rfl rfl rfl rfl ?_
  refine PW.q2 (x := .tmp 25) (y := .const (.int .i64 0)) (.bool false) rfl rfl rfl rfl rfl (fun ρ W h1 h2 => by first | (go_simp; done) | (go_simp; rw [Int.tmod_eq_emod_of_nonneg (by omega)]; exact IntWalk.i64_in _ (by omega)) | (go_simp; omega)) ?_
  refine PW.move rfl rfl rfl rfl rfl ?_
  refine PW.fld (r := .vl (.bool true)) rfl rfl rfl rfl rfl rfl rfl rfl rfl rfl rfl (fun v W p hh hk => by obtain ⟨q, u, h1, h2, h3⟩ := fldI0 v W p hh hk; exact ⟨q, u, h1, h2, by rw [h3]; show Value.bool _ = _; rw [decide_eq_true (by omega)]⟩) (KV.st _) ?_
  refine PW.move rfl rfl rfl rfl rfl ?_
  refine PW.move rfl rfl rfl rfl rfl ?_
  refine PW.q2 (x := .tmp 31) (y := .const (.int .i64 2)) (.int .i64 0) rfl rfl rfl rfl rfl (fun ρ W h1 h2 => by have ht : n.tmod 2 = n % 2 := Int.tmod_eq_emod_of_nonneg (by omega); rw [hp] at ht; go_simp; first | done | exact IntWalk.i64_in _ (by omega)) ?_
  refine PW.q2 (x := .tmp 32) (y := .const (.int .i64 0)) (.bool true) rfl rfl rfl rfl rfl (fun ρ W h1 h2 => by go_simp) ?_
  refine PW.pick (t := true) rfl rfl rfl rfl rfl rfl ?_
  refine PW.pick (t := false) rfl rfl rfl rfl rfl rfl ?_
  refine PW.assign rfl rfl rfl rfl rfl ?_
  refine PW.nil ?_
  refine SX.then ?_
  refine SC.cond (t := true) rfl ?_
  refine SC.seq ?_
  refine SC.region ?_
  refine PW.load rfl rfl rfl rfl rfl rfl ?_
  refine PW.store (x := .tmp 36) (r := .kw (KI (1))) rfl rfl rfl rfl rfl rfl sh_I ?_
  refine PW.assign rfl rfl rfl rfl rfl ?_
  refine PW.nil ?_
  refine SX.then ?_
  refine SC.ret ?_
  refine SX.blockR ?_
  refine SX.thenR ?_
  refine SX.thenR ?_
  exact SX.done2 (s := 4) (t := 5) (r := .vl (.int .i64 0)) (.inl rfl) rfl rfl rfl rfl

set_option maxHeartbeats 1600000 in
theorem power_m1o {x n : Int} (hx : x < 0) (hc : cmp (x.natAbs : Int) 1 ≤ 0) (hn : 1 ≤ n) (hn2 : n ≤ 9223372036854775807) (hp : n % 2 = 1) : CallOk 62 [KI x, KV (.int .i64 n)] (K2 (KI x) (KV (.int .i64 0))) := by
  refine CallOk.enter (l := [.kw (KI x), .vl (.int .i64 n)]) 72 ce_power Try.func62 rfl Try.ntmps62 (by simp) ⟨KI.st _, rfl, KV.st _, rfl, trivial⟩ fun w => ?_
  refine SC.seq ?_
  refine SC.region ?_
  refine PW.box (x := .tmp 0) (r := .kw (KI (x))) (BI 28) rfl rfl rfl rfl rfl bI rfl sh_I ?_
  refine PW.alloc (BI 28) rfl rfl rfl rfl rfl bI ?_
  refine PW.assign rfl rfl rfl rfl rfl ?_
  refine PW.nil ?_
  refine SX.then ?_
  refine SC.seq ?_
  refine SC.seq ?_
  refine SC.region ?_
  refine PW.move rfl rfl rfl rfl rfl ?_
  refine PW.q2 (x := .tmp 11) (y := .const (.int .i64 0)) (.bool false) rfl rfl rfl rfl rfl (fun ρ W h1 h2 => by first | (go_simp; done) | (go_simp; rw [Int.tmod_eq_emod_of_nonneg (by omega)]; exact IntWalk.i64_in _ (by omega)) | (go_simp; omega)) ?_
  refine PW.nil ?_
  refine SX.then ?_
  refine SC.cond (t := false) rfl ?_
  refine SC.skip ?_
  refine SX.then ?_
  refine SC.seq ?_
  refine SC.region ?_
  refine PW.call (r := .kw (KI (1))) rfl rfl rfl rfl rfl rfl (KI.st _) rfl (k_new (by decide)) ?_
  refine PW.alloc (BI 28) rfl rfl rfl rfl rfl bI ?_
  refine PW.store (x := .tmp 14) (r := .kw (KI (1))) rfl rfl rfl rfl rfl rfl sh_I ?_
  refine PW.nil ?_
  refine SX.then ?_
  refine SC.seq ?_
  refine SC.seq ?_
  refine SC.dx [.val 15 (.vl (.int .i64 n)), .val 16 (.vl (.bool false)), .val 17 (.vl (.bool false)), .val 18 (.kw (KI (x))), .val 19 (.kw (KI ((x.natAbs : Int)))), .val 20 (.kw (KI (1))), .val 21 (.vl (.int .i64 (cmp (x.natAbs : Int) 1))), .val 22 (.vl (.bool true)), .val 23 (.vl (.bool true))] [([], [1]), ([0], []), ([1], []), ([2], [2]), ([3, 2], []), ([2], [6]), ([4, 5, 2], []), ([6, 2], []), ([2, 7], [])] rfl (by kernel_rfl) (by kernel_rfl) (by kernel_rfl) rfl ⟨?_, ?_, ?_, ?_, ?_, ?_, ?_, ?_, ?_, trivial⟩ ?_
  · exact DX.move rfl rfl rfl rfl rfl rfl
  · exact DX.q2 (x := .tmp 15) (y := .const (.int .i64 0)) (.bool false) rfl rfl rfl rfl rfl (fun ρ W h1 h2 => by first | (go_simp; done) | (go_simp; rw [Int.tmod_eq_emod_of_nonneg (by omega)]; exact IntWalk.i64_in _ (by omega)) | (go_simp; omega))
  · exact DX.move rfl rfl rfl rfl rfl rfl
  · exact DX.load rfl rfl rfl rfl rfl rfl
  · exact DX.call (r := .kw (KI ((x.natAbs : Int)))) rfl rfl rfl rfl rfl rfl (KI.st _) rfl (k_abs)
  · exact DX.load rfl rfl rfl rfl rfl rfl
  · exact DX.call (r := .vl (.int .i64 (cmp (x.natAbs : Int) 1))) rfl rfl rfl rfl rfl rfl (KV.st _) rfl (k_cmp (rfl))
  · exact DX.q2 (x := .tmp 21) (y := .const (.int .i64 0)) (.bool true) rfl rfl rfl rfl rfl (fun ρ W h1 h2 => by first | (go_simp; done) | (go_simp; exact hc))
  · exact DX.pick (t := false) rfl rfl rfl rfl rfl rfl rfl
  refine SX.then ?_
  refine SC.cond (t := true) rfl ?_
  refine SC.seq ?_
  refine SC.block ?_
  refine SC.seq ?_
  refine SC.region ?_
  refine PW.move rfl rfl rfl rfl rfl ?_
  refine PW.q2 (x := .tmp 25) (y := .const (.int .i64 0)) (.bool false) rfl rfl rfl rfl rfl (fun ρ W h1 h2 => by first | (go_simp; done) | (go_simp; rw [Int.tmod_eq_emod_of_nonneg (by omega)]; exact IntWalk.i64_in _ (by omega)) | (go_simp; omega)) ?_
  refine PW.move rfl rfl rfl rfl rfl ?_
  refine PW.fld (r := .vl (.bool true)) rfl rfl rfl rfl rfl rfl rfl rfl rfl rfl rfl (fun v W p hh hk => by obtain ⟨q, u, h1, h2, h3⟩ := fldI0 v W p hh hk; exact ⟨q, u, h1, h2, by rw [h3]; show Value.bool _ = _; rw [decide_eq_true (by omega)]⟩) (KV.st _) ?_
  refine PW.move rfl rfl rfl rfl rfl ?_
  refine PW.move rfl rfl rfl rfl rfl ?_
  refine PW.q2 (x := .tmp 31) (y := .const (.int .i64 2)) (.int .i64 1) rfl rfl rfl rfl rfl (fun ρ W h1 h2 => by have ht : n.tmod 2 = n % 2 := Int.tmod_eq_emod_of_nonneg (by omega); rw [hp] at ht; go_simp; first | done | exact IntWalk.i64_in _ (by omega)) ?_
  refine PW.q2 (x := .tmp 32) (y := .const (.int .i64 0)) (.bool false) rfl rfl rfl rfl rfl (fun ρ W h1 h2 => by go_simp) ?_
  refine PW.pick (t := true) rfl rfl rfl rfl rfl rfl ?_
  refine PW.pick (t := false) rfl rfl rfl rfl rfl rfl ?_
  refine PW.assign rfl rfl rfl rfl rfl ?_
  refine PW.nil ?_
  refine SX.then ?_
  refine SC.cond (t := false) rfl ?_
  refine SC.skip ?_
  refine SX.blockN ?_
  refine SX.then ?_
  refine SC.seq ?_
  refine SC.region ?_
  refine PW.load rfl rfl rfl rfl rfl rfl ?_
  refine PW.store (x := .tmp 37) (r := .kw (KI (x))) rfl rfl rfl rfl rfl rfl sh_I ?_
  refine PW.assign rfl rfl rfl rfl rfl ?_
  refine PW.nil ?_
  refine SX.then ?_
  refine SC.ret ?_
  refine SX.thenR ?_
  exact SX.done2 (s := 4) (t := 5) (r := .vl (.int .i64 0)) (.inl rfl) rfl rfl rfl rfl

set_option maxHeartbeats 1600000 in
theorem power_big {x : Int} {n s m : Nat} (hm : 65536 / s = m) (hx : 2 ≤ x.natAbs) (hc : 0 < cmp (x.natAbs : Int) 1) {a : Nat} (X : bd a x) (ha : a ≤ 100000) (hn : 1 ≤ n) (hn2 : n ≤ 9223372036854775807) (hs : wid (pat (x.natAbs : Int)) = s + 1) (hs1 : 1 ≤ s) (hs2 : s ≤ 9223372036854775806) : CallOk 62 [KI x, KV (.int .i64 (n : Int))] (if wid (pat (x ^ n)) ≤ 65536 then K2 (KI (x ^ n)) (KV (.int .i64 0)) else K2 (KI 0) (KV (.int .i64 14))) := by
  refine CallOk.enter (l := [.kw (KI x), .vl (.int .i64 (n : Int))]) 72 ce_power Try.func62 rfl Try.ntmps62 (by simp) ⟨KI.st _, rfl, KV.st _, rfl, trivial⟩ fun w => ?_
  refine SC.seq ?_
  refine SC.region ?_
  refine PW.box (x := .tmp 0) (r := .kw (KI (x))) (BI 28) rfl rfl rfl rfl rfl bI rfl sh_I ?_
  refine PW.alloc (BI 28) rfl rfl rfl rfl rfl bI ?_
  refine PW.assign rfl rfl rfl rfl rfl ?_
  refine PW.nil ?_
  refine SX.then ?_
  refine SC.seq ?_
  refine SC.seq ?_
  refine SC.region ?_
  refine PW.move rfl rfl rfl rfl rfl ?_
  refine PW.q2 (x := .tmp 11) (y := .const (.int .i64 0)) (.bool false) rfl rfl rfl rfl rfl (fun ρ W h1 h2 => by first | (go_simp; done) | (go_simp; rw [Int.tmod_eq_emod_of_nonneg (by omega)]; exact IntWalk.i64_in _ (by omega)) | (go_simp; omega)) ?_
  refine PW.nil ?_
  refine SX.then ?_
  refine SC.cond (t := false) rfl ?_
  refine SC.skip ?_
  refine SX.then ?_
  refine SC.seq ?_
  refine SC.region ?_
  refine PW.call (r := .kw (KI (1))) rfl rfl rfl rfl rfl rfl (KI.st _) rfl (k_new (by decide)) ?_
  refine PW.alloc (BI 28) rfl rfl rfl rfl rfl bI ?_
  refine PW.store (x := .tmp 14) (r := .kw (KI (1))) rfl rfl rfl rfl rfl rfl sh_I ?_
  refine PW.nil ?_
  refine SX.then ?_
  refine SC.seq ?_
  refine SC.seq ?_
  refine SC.dx [.val 15 (.vl (.int .i64 (n : Int))), .val 16 (.vl (.bool false)), .val 17 (.vl (.bool false)), .val 18 (.kw (KI (x))), .val 19 (.kw (KI ((x.natAbs : Int)))), .val 20 (.kw (KI (1))), .val 21 (.vl (.int .i64 (cmp (x.natAbs : Int) 1))), .val 22 (.vl (.bool false)), .val 23 (.vl (.bool false))] [([], [1]), ([0], []), ([1], []), ([2], [2]), ([3, 2], []), ([2], [6]), ([4, 5, 2], []), ([6, 2], []), ([2, 7], [])] rfl (by kernel_rfl) (by kernel_rfl) (by kernel_rfl) rfl ⟨?_, ?_, ?_, ?_, ?_, ?_, ?_, ?_, ?_, trivial⟩ ?_
  · exact DX.move rfl rfl rfl rfl rfl rfl
  · exact DX.q2 (x := .tmp 15) (y := .const (.int .i64 0)) (.bool false) rfl rfl rfl rfl rfl (fun ρ W h1 h2 => by first | (go_simp; done) | (go_simp; rw [Int.tmod_eq_emod_of_nonneg (by omega)]; exact IntWalk.i64_in _ (by omega)) | (go_simp; omega))
  · exact DX.move rfl rfl rfl rfl rfl rfl
  · exact DX.load rfl rfl rfl rfl rfl rfl
  · exact DX.call (r := .kw (KI ((x.natAbs : Int)))) rfl rfl rfl rfl rfl rfl (KI.st _) rfl (k_abs)
  · exact DX.load rfl rfl rfl rfl rfl rfl
  · exact DX.call (r := .vl (.int .i64 (cmp (x.natAbs : Int) 1))) rfl rfl rfl rfl rfl rfl (KV.st _) rfl (k_cmp (rfl))
  · exact DX.q2 (x := .tmp 21) (y := .const (.int .i64 0)) (.bool false) rfl rfl rfl rfl rfl (fun ρ W h1 h2 => by first | (go_simp; done) | (go_simp; exact hc))
  · exact DX.pick (t := false) rfl rfl rfl rfl rfl rfl rfl
  refine SX.then ?_
  refine SC.cond (t := false) rfl ?_
  refine SC.skip ?_
  refine SX.then ?_
  refine SC.seq ?_
  refine SC.seq ?_
  refine SC.region ?_
  refine PW.load rfl rfl rfl rfl rfl rfl ?_
  refine PW.call (r := .kw (KI ((x.natAbs : Int)))) rfl rfl rfl rfl rfl rfl (KI.st _) rfl (k_abs) ?_
  refine PW.call (r := .vl (.int .i64 ((s : Int) + 1))) rfl rfl rfl rfl rfl rfl (KV.st _) rfl (k_len X.abs (by first | decide | omega) (by rw [hs]; rfl)) ?_
  refine PW.q2 (x := .tmp 40) (y := .const (.int .i64 1)) (.int .i64 (s : Int)) rfl rfl rfl rfl rfl (fun ρ W h1 h2 => by first | (go_simp; done) | (go_simp; exact IntWalk.i64_in _ (by omega)) | (go_simp; exact Int.tmod_eq_emod_of_nonneg (by omega)) | (go_simp; exact Int.tdiv_eq_ediv_of_nonneg (by omega)) | (go_simp; exact (IntWalk.i64_in _ (by omega)).trans (by omega)) | (go_simp; rw [Int.tmod_eq_emod_of_nonneg (by omega)]; exact IntWalk.i64_in _ (by omega)) | (go_simp; omega)) ?_
  refine PW.assign rfl rfl rfl rfl rfl ?_
  refine PW.nil ?_
  refine SX.then ?_
  refine SC.seq ?_
  by_cases hq : m < n
  · refine SC.region ?_
    refine PW.move rfl rfl rfl rfl rfl ?_
    refine PW.q2 (x := .tmp 42) (y := .const (.int .i64 0)) (.bool true) rfl rfl rfl rfl rfl (fun ρ W h1 h2 => by first | (go_simp; done) | (go_simp; rw [Int.tmod_eq_emod_of_nonneg (by omega)]; exact IntWalk.i64_in _ (by omega)) | (go_simp; omega)) ?_
    refine PW.move rfl rfl rfl rfl rfl ?_
    refine PW.move rfl rfl rfl rfl rfl ?_
    refine PW.move rfl rfl rfl rfl rfl ?_
    refine PW.q2 (x := .const (.int .i64 65536)) (y := .tmp 46) (.int .i64 (m : Int)) rfl rfl rfl rfl rfl (fun ρ W h1 h2 => by exact quo_run h1 h2 hs1 hm) ?_
    refine PW.q2 (x := .tmp 45) (y := .tmp 47) (.bool true) rfl rfl rfl rfl rfl (fun ρ W h1 h2 => by first | (go_simp; done) | (go_simp; rw [Int.tmod_eq_emod_of_nonneg (by omega)]; exact IntWalk.i64_in _ (by omega)) | (go_simp; omega)) ?_
    refine PW.pick (t := true) rfl rfl rfl rfl rfl rfl ?_
    refine PW.nil ?_
    refine SX.then ?_
    refine SC.cond (t := true) rfl ?_
    refine SC.seq ?_
    refine SC.region ?_
    refine PW.val (r := .kw (KI (0))) rfl rfl rfl rfl (fun a W hf => ⟨.agg #[.bool false, .slice none 0 0], by go_simp, zeroI _ W W⟩) ?_
    refine PW.store (x := .tmp 50) (r := .kw (KI (0))) rfl rfl rfl rfl rfl rfl sh_I ?_
    refine PW.assign rfl rfl rfl rfl rfl ?_
    refine PW.nil ?_
    refine SX.then ?_
    refine SC.ret ?_
    refine SX.thenR ?_
    rw [if_neg (by have := pw_large (n := n) hx hs hs1 (by rw [hm]; exact hq); omega)]
    exact SX.done2 (s := 4) (t := 5) (r := .vl (.int .i64 14)) (.inl rfl) rfl rfl rfl rfl
  · obtain ⟨hX, hX0⟩ := pw_bits (n := n) hx hs hs1 (by rw [hm]; exact hq)
    refine SC.region ?_
    refine PW.move rfl rfl rfl rfl rfl ?_
    refine PW.q2 (x := .tmp 42) (y := .const (.int .i64 0)) (.bool true) rfl rfl rfl rfl rfl (fun ρ W h1 h2 => by first | (go_simp; done) | (go_simp; rw [Int.tmod_eq_emod_of_nonneg (by omega)]; exact IntWalk.i64_in _ (by omega)) | (go_simp; omega)) ?_
    refine PW.move rfl rfl rfl rfl rfl ?_
    refine PW.move rfl rfl rfl rfl rfl ?_
    refine PW.move rfl rfl rfl rfl rfl ?_
    refine PW.q2 (x := .const (.int .i64 65536)) (y := .tmp 46) (.int .i64 (m : Int)) rfl rfl rfl rfl rfl (fun ρ W h1 h2 => by exact quo_run h1 h2 hs1 hm) ?_
    refine PW.q2 (x := .tmp 45) (y := .tmp 47) (.bool false) rfl rfl rfl rfl rfl (fun ρ W h1 h2 => by first | (go_simp; done) | (go_simp; rw [Int.tmod_eq_emod_of_nonneg (by omega)]; exact IntWalk.i64_in _ (by omega)) | (go_simp; omega)) ?_
    refine PW.pick (t := true) rfl rfl rfl rfl rfl rfl ?_
    refine PW.nil ?_
    refine SX.then ?_
    refine SC.cond (t := false) rfl ?_
    refine SC.skip ?_
    refine SX.then ?_
    refine SC.seq ?_
    refine SC.dx [.val 51 (.kw (KI (1))), .val 52 (.kw (KI (x))), .new 8 (BI 28), .new 9 (BI 28), .put 8 (BI 28) (.kw (KI (1))), .put 9 (BI 28) (.kw (KI (x)))] [([], [6]), ([], [2]), ([], []), ([], []), ([2, 0], []), ([3, 1], [])] rfl (by kernel_rfl) (by kernel_rfl) (by kernel_rfl) rfl ⟨?_, ?_, ?_, ?_, ?_, ?_, trivial⟩ ?_
    · exact DX.load rfl rfl rfl rfl rfl rfl
    · exact DX.load rfl rfl rfl rfl rfl rfl
    · exact DX.alloc (BI 28) rfl rfl rfl rfl bI rfl
    · exact DX.alloc (BI 28) rfl rfl rfl rfl bI rfl
    · exact DX.store (x := .tmp 51) (r := .kw (KI (1))) rfl rfl rfl rfl rfl rfl sh_I
    · exact DX.store (x := .tmp 52) (r := .kw (KI (x))) rfl rfl rfl rfl rfl rfl sh_I
    refine SX.then ?_
    refine SC.seq ?_
    refine SC.seq ?_
    refine SC.region ?_
    refine PW.move rfl rfl rfl rfl rfl ?_
    refine PW.assign rfl rfl rfl rfl rfl ?_
    refine PW.nil ?_
    refine SX.then ?_
    refine SC.block ?_
    refine SC.loop (S := Int × Int × Nat) (fun ⟨o, b, k⟩ => [(4, .nb (BI 28)), (5, .vl (.int .i64 0)), (8, .bx (BI 28) (KI (o))), (9, .bx (BI 28) (KI (b))), (10, .vl (.int .i64 (k : Int)))]) (fun ⟨o, b, k⟩ => o * b ^ k = x ^ n ∧ 1 ≤ k ∧ k ≤ n) (fun ⟨o, b, k⟩ => k) (1, x, n) ⟨Int.one_mul _, hn, Nat.le_refl _⟩ ⟨rfl, rfl, rfl, rfl, rfl, trivial⟩ ?_
    rintro ⟨o, b, k⟩ ⟨hi, hk1, hkn⟩
    show SC _ _ _ _ [(4, .nb (BI 28)), (5, .vl (.int .i64 0)), (8, .bx (BI 28) (KI (o))), (9, .bx (BI 28) (KI (b))), (10, .vl (.int .i64 (k : Int)))] _
    obtain ⟨bo, bb⟩ := pw_bd hi hX0 hk1 hX
    refine SC.seq ?_
    refine SC.block ?_
    refine SC.seq ?_
    refine SC.seq ?_
    by_cases ho : k % 2 = 1
    · refine SC.region ?_
      refine PW.move rfl rfl rfl rfl rfl ?_
      refine PW.q2 (x := .tmp 56) (y := .const (.int .i64 1)) (.int .i64 ((k % 2 : Nat) : Int)) rfl rfl rfl rfl rfl (fun ρ W h1 h2 => by exact and1_run h1 h2 (by omega)) ?_
      refine PW.q2 (x := .tmp 57) (y := .const (.int .i64 1)) (.bool true) rfl rfl rfl rfl rfl (fun ρ W h1 h2 => by first | (go_simp; done) | (go_simp; rw [Int.tmod_eq_emod_of_nonneg (by omega)]; exact IntWalk.i64_in _ (by omega)) | (go_simp; omega)) ?_
      refine PW.nil ?_
      refine SX.then ?_
      refine SC.cond (t := true) rfl ?_
      refine SC.region ?_
      refine PW.load rfl rfl rfl rfl rfl rfl ?_
      refine PW.load rfl rfl rfl rfl rfl rfl ?_
      refine PW.call (r := .kw (KI (o * b))) rfl rfl rfl rfl rfl rfl (KI.st _) rfl (k_mul bo bb (by first | decide | omega) (by first | decide | omega)) ?_
      refine PW.store (x := .tmp 61) (r := .kw (KI (o * b))) rfl rfl rfl rfl rfl rfl sh_I ?_
      refine PW.nil ?_
      refine SX.then ?_
      refine SC.seq ?_
      refine SC.seq ?_
      by_cases he : k = 1
      · refine SC.region ?_
        refine PW.move rfl rfl rfl rfl rfl ?_
        refine PW.q2 (x := .tmp 62) (y := .const (.int .i64 1)) (.bool true) rfl rfl rfl rfl rfl (fun ρ W h1 h2 => by first | (go_simp; done) | (go_simp; rw [Int.tmod_eq_emod_of_nonneg (by omega)]; exact IntWalk.i64_in _ (by omega)) | (go_simp; omega)) ?_
        refine PW.nil ?_
        refine SX.then ?_
        refine SC.cond (t := true) rfl ?_
        refine SC.exit ?_
        have e8 : o * b = x ^ n := pw_end hi he
        rw [e8]
        refine SX.thenE ?_
        refine SX.blockX rfl ?_
        refine SX.thenE ?_
        refine SX.thenE ?_
        refine SX.blockE ?_
        refine SX.then ?_
        refine SC.seq ?_
        refine SC.seq ?_
        by_cases hl : 65536 < wid (pat (x ^ n))
        · refine SC.region ?_
          refine PW.load rfl rfl rfl rfl rfl rfl ?_
          refine PW.call (r := .vl (.int .i64 (wid (pat (x ^ n)) : Int))) rfl rfl rfl rfl rfl rfl (KV.st _) rfl (k_len hX (by first | decide | omega) (rfl)) ?_
          refine PW.q2 (x := .tmp 68) (y := .const (.int .i64 65536)) (.bool true) rfl rfl rfl rfl rfl (fun ρ W h1 h2 => by first | (go_simp; done) | (go_simp; rw [Int.tmod_eq_emod_of_nonneg (by omega)]; exact IntWalk.i64_in _ (by omega)) | (go_simp; omega)) ?_
          refine PW.nil ?_
          refine SX.then ?_
          refine SC.cond (t := true) rfl ?_
          refine SC.seq ?_
          refine SC.region ?_
          refine PW.val (r := .kw (KI (0))) rfl rfl rfl rfl (fun a W hf => ⟨.agg #[.bool false, .slice none 0 0], by go_simp, zeroI _ W W⟩) ?_
          refine PW.store (x := .tmp 70) (r := .kw (KI (0))) rfl rfl rfl rfl rfl rfl sh_I ?_
          refine PW.assign rfl rfl rfl rfl rfl ?_
          refine PW.nil ?_
          refine SX.then ?_
          refine SC.ret ?_
          refine SX.thenR ?_
          rw [if_neg (by omega)]
          exact SX.done2 (s := 4) (t := 5) (r := .vl (.int .i64 14)) (.inl rfl) rfl rfl rfl rfl
        · refine SC.region ?_
          refine PW.load rfl rfl rfl rfl rfl rfl ?_
          refine PW.call (r := .vl (.int .i64 (wid (pat (x ^ n)) : Int))) rfl rfl rfl rfl rfl rfl (KV.st _) rfl (k_len hX (by first | decide | omega) (rfl)) ?_
          refine PW.q2 (x := .tmp 68) (y := .const (.int .i64 65536)) (.bool false) rfl rfl rfl rfl rfl (fun ρ W h1 h2 => by first | (go_simp; done) | (go_simp; rw [Int.tmod_eq_emod_of_nonneg (by omega)]; exact IntWalk.i64_in _ (by omega)) | (go_simp; omega)) ?_
          refine PW.nil ?_
          refine SX.then ?_
          refine SC.cond (t := false) rfl ?_
          refine SC.skip ?_
          refine SX.then ?_
          refine SC.seq ?_
          refine SC.region ?_
          refine PW.load rfl rfl rfl rfl rfl rfl ?_
          refine PW.store (x := .tmp 71) (r := .kw (KI (x ^ n))) rfl rfl rfl rfl rfl rfl sh_I ?_
          refine PW.assign rfl rfl rfl rfl rfl ?_
          refine PW.nil ?_
          refine SX.then ?_
          refine SC.ret ?_
          rw [if_pos (by omega)]
          exact SX.done2 (s := 4) (t := 5) (r := .vl (.int .i64 0)) (.inl rfl) rfl rfl rfl rfl
      · refine SC.region ?_
        refine PW.move rfl rfl rfl rfl rfl ?_
        refine PW.q2 (x := .tmp 62) (y := .const (.int .i64 1)) (.bool false) rfl rfl rfl rfl rfl (fun ρ W h1 h2 => by first | (go_simp; done) | (go_simp; rw [Int.tmod_eq_emod_of_nonneg (by omega)]; exact IntWalk.i64_in _ (by omega)) | (go_simp; omega)) ?_
        refine PW.nil ?_
        refine SX.then ?_
        refine SC.cond (t := false) rfl ?_
        refine SC.skip ?_
        refine SX.then ?_
        refine SC.region ?_
        refine PW.load rfl rfl rfl rfl rfl rfl ?_
        refine PW.load rfl rfl rfl rfl rfl rfl ?_
        refine PW.call (r := .kw (KI (b * b))) rfl rfl rfl rfl rfl rfl (KI.st _) rfl (k_mul bb bb (by first | decide | omega) (by first | decide | omega)) ?_
        refine PW.store (x := .tmp 66) (r := .kw (KI (b * b))) rfl rfl rfl rfl rfl rfl sh_I ?_
        refine PW.nil ?_
        refine SX.blockN ?_
        refine SX.then ?_
        refine SC.region ?_
        refine PW.move rfl rfl rfl rfl rfl ?_
        refine PW.q2 (x := .tmp 54) (y := .const (.int .u64 1)) (.int .i64 ((k / 2 : Nat) : Int)) rfl rfl rfl rfl rfl (fun ρ W h1 h2 => by first | (go_simp; done) | (go_simp; omega)) ?_
        refine PW.assign rfl rfl rfl rfl rfl ?_
        refine PW.nil ?_
        refine SX.back (o * b, b * b, k / 2) ?_ ?_ ?_
        · exact ⟨pw_odd hi (by omega), by omega, by omega⟩
        · exact (show k / 2 < k by omega)
        · exact ⟨rfl, rfl, rfl, rfl, rfl, trivial⟩
    · refine SC.region ?_
      refine PW.move rfl rfl rfl rfl rfl ?_
      refine PW.q2 (x := .tmp 56) (y := .const (.int .i64 1)) (.int .i64 ((k % 2 : Nat) : Int)) rfl rfl rfl rfl rfl (fun ρ W h1 h2 => by exact and1_run h1 h2 (by omega)) ?_
      refine PW.q2 (x := .tmp 57) (y := .const (.int .i64 1)) (.bool false) rfl rfl rfl rfl rfl (fun ρ W h1 h2 => by first | (go_simp; done) | (go_simp; rw [Int.tmod_eq_emod_of_nonneg (by omega)]; exact IntWalk.i64_in _ (by omega)) | (go_simp; omega)) ?_
      refine PW.nil ?_
      refine SX.then ?_
      refine SC.cond (t := false) rfl ?_
      refine SC.skip ?_
      refine SX.then ?_
      refine SC.seq ?_
      refine SC.seq ?_
      refine SC.region ?_
      refine PW.move rfl rfl rfl rfl rfl ?_
      refine PW.q2 (x := .tmp 62) (y := .const (.int .i64 1)) (.bool false) rfl rfl rfl rfl rfl (fun ρ W h1 h2 => by first | (go_simp; done) | (go_simp; rw [Int.tmod_eq_emod_of_nonneg (by omega)]; exact IntWalk.i64_in _ (by omega)) | (go_simp; omega)) ?_
      refine PW.nil ?_
      refine SX.then ?_
      refine SC.cond (t := false) rfl ?_
      refine SC.skip ?_
      refine SX.then ?_
      refine SC.region ?_
      refine PW.load rfl rfl rfl rfl rfl rfl ?_
      refine PW.load rfl rfl rfl rfl rfl rfl ?_
      refine PW.call (r := .kw (KI (b * b))) rfl rfl rfl rfl rfl rfl (KI.st _) rfl (k_mul bb bb (by first | decide | omega) (by first | decide | omega)) ?_
      refine PW.store (x := .tmp 66) (r := .kw (KI (b * b))) rfl rfl rfl rfl rfl rfl sh_I ?_
      refine PW.nil ?_
      refine SX.blockN ?_
      refine SX.then ?_
      refine SC.region ?_
      refine PW.move rfl rfl rfl rfl rfl ?_
      refine PW.q2 (x := .tmp 54) (y := .const (.int .u64 1)) (.int .i64 ((k / 2 : Nat) : Int)) rfl rfl rfl rfl rfl (fun ρ W h1 h2 => by first | (go_simp; done) | (go_simp; omega)) ?_
      refine PW.assign rfl rfl rfl rfl rfl ?_
      refine PW.nil ?_
      refine SX.back (o, b * b, k / 2) ?_ ?_ ?_
      · exact ⟨pw_even hi (by omega), by omega, by omega⟩
      · exact (show k / 2 < k by omega)
      · exact ⟨rfl, rfl, rfl, rfl, rfl, trivial⟩

end Go.Proofs.Ytcgkgcciogibkaa.Sy
/- The contract of the program's Power, in one; powers of powers of two. -/
set_option linter.unusedVariables false
set_option linter.unusedSimpArgs false
namespace Go.Proofs.Ytcgkgcciogibkaa.Sy
open Go Go.RowKit Ma
/-- What Power hands back. -/
def KP (x : Int) (n : Nat) : Know := if wid (pat (x ^ n)) ≤ 65536 then K2 (KI (x ^ n)) (KV (.int .i64 0)) else K2 (KI 0) (KV (.int .i64 14))
theorem k_power {x : Int} {n a : Nat} (X : bd a x) (ha : a ≤ 100000) (hn2 : n ≤ 9223372036854775807) : CallOk 62 [KI x, KV (.int .i64 (n : Int))] (KP x n) := by
  unfold KP
  by_cases h0 : n = 0
  · subst h0
    rw [Int.pow_zero, if_pos (by decide)]
    exact power_zero
  · by_cases h1 : x.natAbs ≤ 1
    · have hc : cmp (x.natAbs : Int) 1 ≤ 0 := by unfold cmp; split <;> (try split) <;> omega
      by_cases hx : 0 ≤ x
      · have e : x ^ n = x := by
          rcases (show x = 0 ∨ x = 1 by omega) with rfl | rfl
          · exact Int.zero_pow h0
          · exact Int.one_pow
        rw [e, if_pos (by rcases (show x = 0 ∨ x = 1 by omega) with rfl | rfl <;> decide)]
        exact power_01 hx hc (by omega) (by omega)
      · obtain rfl : x = -1 := by omega
        by_cases hp : n % 2 = 0
        · have e : (-1 : Int) ^ n = 1 := by
            obtain ⟨m, rfl⟩ : ∃ m, n = 2 * m := ⟨n / 2, by omega⟩
            rw [Int.pow_mul, show (-1 : Int) ^ 2 = 1 by decide, Int.one_pow]
          rw [e, if_pos (by decide)]
          exact power_m1e (by decide) hc (by omega) (by omega) (by omega)
        · have e : (-1 : Int) ^ n = -1 := by
            obtain ⟨m, rfl⟩ : ∃ m, n = 2 * m + 1 := ⟨n / 2, by omega⟩
            rw [Int.pow_succ, Int.pow_mul, show (-1 : Int) ^ 2 = 1 by decide, Int.one_pow]
            decide
          rw [e, if_pos (by decide)]
          exact power_m1o (by decide) hc (by omega) (by omega) (by omega)
    · have hc : 0 < cmp (x.natAbs : Int) 1 := by unfold cmp; rw [if_neg (by omega), if_neg (by omega)]; decide
      have hw : 2 ≤ wid (pat (x.natAbs : Int)) := by
        rw [wid_nat _ (by omega)]
        apply Classical.byContradiction
        intro hq
        have := wid_lt (x.natAbs : Int)
        have h3 : (2 : Int) ^ wid (x.natAbs : Int) ≤ 2 ^ 1 := pow_le (by decide) (by omega)
        omega
      have hw2 : wid (pat (x.natAbs : Int)) ≤ 32 * a := by
        rw [wid_nat _ (by omega)]
        apply wid_le_of
        have := bd2.1 X
        omega
      exact power_big rfl (s := wid (pat (x.natAbs : Int)) - 1) (by omega) hc X ha (by omega) hn2 (by omega) (by omega) (by omega)
theorem KP.st (x : Int) (n : Nat) : St (KP x n) := by unfold KP; split <;> exact K2.st (KI.st _) (KV.st _)
theorem KP.ok {x : Int} {n : Nat} (h : wid (pat (x ^ n)) ≤ 65536) : KP x n = K2 (KI (x ^ n)) (KV (.int .i64 0)) := if_pos h
theorem KP.large {x : Int} {n : Nat} (h : 65536 < wid (pat (x ^ n))) : KP x n = K2 (KI 0) (KV (.int .i64 14)) := if_neg (by omega)
theorem k_power_ok {x : Int} {n a : Nat} (X : bd a x) (ha : a ≤ 100000) (hn2 : n ≤ 9223372036854775807) (h : wid (pat (x ^ n)) ≤ 65536) : CallOk 62 [KI x, KV (.int .i64 (n : Int))] (K2 (KI (x ^ n)) (KV (.int .i64 0))) := KP.ok h ▸ k_power X ha hn2
theorem k_power_large {x : Int} {n a : Nat} (X : bd a x) (ha : a ≤ 100000) (hn2 : n ≤ 9223372036854775807) (h : 65536 < wid (pat (x ^ n))) : CallOk 62 [KI x, KV (.int .i64 (n : Int))] (K2 (KI 0) (KV (.int .i64 14))) := KP.large h ▸ k_power X ha hn2
/-! ### Powers of powers of two -/
theorem wid_pow2 (j : Nat) : wid (2 ^ j) = j + 1 := by
  have hp : (0 : Int) < 2 ^ j := Int.pow_pos (by decide)
  exact wid_of (by rw [Int.pow_succ]; omega) (by omega) (by rw [Nat.add_sub_cancel]; exact Int.le_refl _)
theorem wid_pow2m (j : Nat) : wid (2 ^ j - 1) = j := by
  have hp : (0 : Int) < 2 ^ j := Int.pow_pos (by decide)
  cases j with
  | zero => decide
  | succ i =>
    have hi : (0 : Int) < 2 ^ i := Int.pow_pos (by decide)
    exact wid_of (by omega) (by omega) (by rw [Nat.add_sub_cancel, Int.pow_succ]; omega)
theorem pat_pow2 (j : Nat) : wid (pat (2 ^ j)) = j + 1 := by
  have hp : (0 : Int) < 2 ^ j := Int.pow_pos (by decide)
  rw [wid_nat _ (by omega), wid_pow2]
theorem pat_npow2 (j : Nat) : wid (pat (-(2 ^ j))) = j := by
  have hp : (0 : Int) < 2 ^ j := Int.pow_pos (by decide)
  have : pat (-(2 ^ j)) = 2 ^ j - 1 := by unfold pat; rw [if_pos (by omega)]; omega
  rw [this, wid_pow2m]
theorem npow_even {x : Int} {m : Nat} (h : m % 2 = 0) : (-x) ^ m = x ^ m := by
  obtain ⟨k, rfl⟩ : ∃ k, m = 2 * k := ⟨m / 2, by omega⟩
  rw [Int.pow_mul, Int.pow_mul, show (-x) ^ 2 = x ^ 2 by grind]
theorem npow_odd {x : Int} {m : Nat} (h : m % 2 = 1) : (-x) ^ m = -(x ^ m) := by
  obtain ⟨k, rfl⟩ : ∃ k, m = 2 * k + 1 := ⟨m / 2, by omega⟩
  rw [Int.pow_succ, Int.pow_succ, npow_even (by omega), Int.mul_neg]
end Go.Proofs.Ytcgkgcciogibkaa.Sy
/- The reference's Length, Power, Root by rules. -/
set_option linter.unusedVariables false
set_option linter.unusedSimpArgs false
namespace Go.Proofs.Ytcgkgcciogibkaa.Sy
open Go Go.RowKit Ma
theorem sgn_gt_iff {x : Int} : sgn x > 0 ↔ 0 < x := by unfold sgn; split <;> (try split) <;> omega
theorem sgn_lt_iff {x : Int} : sgn x < 0 ↔ x < 0 := by unfold sgn; split <;> (try split) <;> omega
theorem wid_le1 {x : Int} (h : x.natAbs ≤ 1) : (wid (x.natAbs : Int) : Int) ≤ 1 := by have := wid_le_of (z := (x.natAbs : Int)) (n := 1) (by omega); omega
theorem wid_gt1 {x : Int} (h : 2 ≤ x.natAbs) : 1 < wid (x.natAbs : Int) := by
  have h1 := wid_lt (x.natAbs : Int)
  apply Classical.byContradiction
  intro h2
  have h3 := pow_le (b := 2) (by decide) (show wid (x.natAbs : Int) ≤ 1 by omega)
  omega
theorem bd_le1 {x : Int} (h : x.natAbs ≤ 1) : bd 1 x := bd.lit (by omega)
theorem wid_bdn {z : Int} {a : Nat} (h : bd a z) : wid (z.natAbs : Int) ≤ 32 * a := wid_le_of (by have := bd2.1 h; omega)
theorem wid_bdp {z : Int} {a : Nat} (h : bd a z) : wid (pat z) ≤ 32 * a := wid_le_of (by have := bd2.1 h; unfold pat; split <;> omega)
theorem pw_zero {x : Int} {n : Nat} (h : n = 0) : x ^ n = 1 := by subst h; exact Int.pow_zero x
theorem pw_one {x : Int} {n : Nat} (h : x = 1) : x ^ n = 1 := by subst h; exact Int.one_pow
theorem pw_even1 {x : Int} {n : Nat} (h : x = -1) (he : n % 2 = 0) : x ^ n = 1 := by subst h; rw [npow_even he]; exact Int.one_pow
theorem pw_self {x : Int} {n : Nat} (h : x = -1) (he : ¬ n % 2 = 0) : x ^ n = x := by subst h; rw [npow_odd (by omega), Int.one_pow]
theorem pw_self0 {x : Int} {n : Nat} (h : x = 0) (he : ¬ n = 0) : x ^ n = x := by subst h; exact Int.zero_pow he
theorem bd.pw2 {x : Int} (X : bd 2 x) {n : Nat} (hn : n ≤ 41) : bd 83 (x ^ n) := by
  have h0 : x.natAbs ≤ 4294967296 ^ 2 := by
    have e : (b32 : Int) ^ 2 = ((4294967296 ^ 2 : Nat) : Int) := by rw [Int.natCast_pow]; rfl
    unfold bd at X
    rw [e] at X
    omega
  have h1 : x.natAbs ^ n ≤ (4294967296 ^ 2) ^ n := Nat.pow_le_pow_left h0 n
  have h2 : (4294967296 ^ 2) ^ n ≤ 4294967296 ^ 82 := by rw [← Nat.pow_mul]; exact Nat.pow_le_pow_right (by decide) (by omega)
  have h3 : 4294967296 ^ 82 < 4294967296 ^ 83 := Nat.pow_lt_pow_right (by decide) (by decide)
  have h4 : (x ^ n).natAbs < 4294967296 ^ 83 := by rw [Int.natAbs_pow]; omega
  have e : (b32 : Int) ^ 83 = ((4294967296 ^ 83 : Nat) : Int) := by rw [Int.natCast_pow]; rfl
  unfold bd
  rw [e]
  omega
theorem bd_two {n i : Nat} (h : i ≤ 32 * n + 1) : bd (n + 1) (2 ^ i : Int) := by
  have h1 := pow_le (b := 2) (by decide) (show i + 1 ≤ 32 * (n + 1) by omega)
  have h2 : (0 : Int) < 2 ^ i := Int.pow_pos (by decide)
  rw [Int.pow_succ] at h1
  rw [bd2]
  omega
/-- The rounds of Root. -/
structure Rq (x : Int) (m t : Nat) (q : Int) : Prop where
  q0 : 0 ≤ q
  lo : q * q ≤ x
  hi : x < (q + 2 ^ t) * (q + 2 ^ t)
  le : t ≤ m
theorem Rq.start {x : Int} {w : Nat} (h : wid (x.natAbs : Int) = w) (hx : 0 ≤ x) : Rq x (w / 2 + 1) (w / 2 + 1) 0 := by
  refine ⟨by omega, by omega, ?_, Nat.le_refl _⟩
  have h1 := wid_lt (x.natAbs : Int)
  have h2 := pow_le (b := 2) (by decide) (show wid (x.natAbs : Int) ≤ (w / 2 + 1) + (w / 2 + 1) by omega)
  rw [Int.pow_add] at h2
  rw [Int.zero_add]
  omega
theorem Rq.up {x q : Int} {m i : Nat} (h : Rq x m (i + 1) q) (hq : (q + 2 ^ i) * (q + 2 ^ i) ≤ x) : Rq x m i (q + 2 ^ i) := by
  have hp : (0 : Int) < 2 ^ i := Int.pow_pos (by decide)
  have := h.hi
  have e : q + 2 ^ (i + 1) = q + 2 ^ i + 2 ^ i := by rw [Int.pow_succ]; omega
  rw [e] at this
  exact ⟨by have := h.q0; omega, hq, this, by have := h.le; omega⟩
theorem Rq.down {x q : Int} {m i : Nat} (h : Rq x m (i + 1) q) (hq : ¬ (q + 2 ^ i) * (q + 2 ^ i) ≤ x) : Rq x m i q := ⟨h.q0, h.lo, by omega, by have := h.le; omega⟩
theorem Rq.fin {x q r : Int} {m : Nat} (h : Rq x m 0 q) (h0 : 0 ≤ r) (h1 : r * r ≤ x) (h2 : x < (r + 1) * (r + 1)) : q = r := by
  have a := h.hi
  rw [Int.pow_zero] at a
  have b := h.lo
  have c := h.q0
  rcases Int.lt_trichotomy q r with e | e | e
  · have := Int.mul_le_mul (show q + 1 ≤ r by omega) (show q + 1 ≤ r by omega) (by omega) h0
    omega
  · exact e
  · have := Int.mul_le_mul (show r + 1 ≤ q by omega) (show r + 1 ≤ q by omega) (by omega) c
    omega
theorem Rq.bd {x q : Int} {m t n : Nat} (h : Rq x m t q) (X : Go.Proofs.Ytcgkgcciogibkaa.bd n x) : Go.Proofs.Ytcgkgcciogibkaa.bd n q := by
  have a := h.lo
  have b := h.q0
  have c : q ≤ x := by
    by_cases e : q = 0
    · rw [e] at a ⊢; omega
    · have := Int.mul_le_mul_of_nonneg_right (show 1 ≤ q by omega) b
      omega
  unfold Go.Proofs.Ytcgkgcciogibkaa.bd at *
  omega

theorem ce_k_jlen : CE 49 := fun args W => by go_simp

set_option maxHeartbeats 3200000 in
set_option maxRecDepth 100000 in
theorem k_jlen {x : Int} {a : Nat} (X : bd a x) (ha : a ≤ 400000) : CallOk 49 [KJ (x)] (KV (.int .i64 (wid (pat x) : Int))) := by
  refine CallOk.enter (l := [.kw (KJ (x))]) 11 ce_k_jlen Try.func49 rfl Try.ntmps49 (by simp) ⟨(KJ.st _), rfl, trivial⟩ fun w => ?_
  refine SC.seq ?_
  refine SC.region ?_
  refine PW.box (x := .tmp 0) (r := .kw (KJ (x))) (BI 31) rfl rfl rfl rfl rfl bJ rfl sh_J ?_
  refine PW.assign rfl rfl rfl rfl rfl ?_
  refine PW.nil ?_
  refine SX.then ?_
  refine SC.seq ?_
  refine SC.seq ?_
  by_cases nx : x < 0
  · refine SC.region ?_
    refine PW.fld (r := .vl (.bool true)) rfl rfl rfl rfl rfl rfl rfl rfl rfl rfl rfl (fldJ0 (decide_eq_true nx)) (KV.st _) ?_
    refine PW.nil ?_
    refine SX.then ?_
    refine SC.cond (t := true) rfl ?_
    refine SC.seq ?_
    refine SC.dx [.val 5 (.kw (KJ (x))), .val 6 (.kw (KJ (1))), .val 7 (.kw (KJ (x + 1))), .val 8 (.vl (.int .i64 (wid ((x + 1).natAbs) : Int))), .val 2 (.vl (.int .i64 (wid ((x + 1).natAbs) : Int)))] [([], [1]), ([], []), ([0, 1], []), ([2], []), ([3], [])] rfl (by kernel_rfl) (by kernel_rfl) (by kernel_rfl) rfl ⟨?_, ?_, ?_, ?_, ?_, trivial⟩ ?_
    · exact DX.load rfl rfl rfl rfl rfl rfl
    · exact DX.call (r := .kw (KJ (1))) rfl rfl rfl rfl rfl rfl (KJ.st _) rfl (k_jnew (by decide))
    · exact DX.call (r := .kw (KJ (x + 1))) rfl rfl rfl rfl rfl rfl (KJ.st _) rfl (k_jadd X (bd.lit (by decide)) (by first | decide | omega) (by first | decide | omega))
    · exact DX.call (r := .vl (.int .i64 (wid ((x + 1).natAbs) : Int))) rfl rfl rfl rfl rfl rfl (KV.st _) rfl (k_width (X.add (bd.lit (by decide))) (by first | decide | omega))
    · exact DX.assign rfl rfl rfl rfl rfl rfl
    refine SX.then ?_
    refine SC.ret ?_
    refine SX.thenR ?_
    have hr : (wid (pat x) : Int) = (wid ((x + 1).natAbs) : Int) := by unfold pat; rw [if_pos nx]; congr 2; omega
    rw [hr]
    exact SX.done (s := 2) (r := .vl (.int .i64 (wid ((x + 1).natAbs) : Int))) rfl rfl rfl
  · refine SC.region ?_
    refine PW.fld (r := .vl (.bool false)) rfl rfl rfl rfl rfl rfl rfl rfl rfl rfl rfl (fldJ0 (decide_eq_false nx)) (KV.st _) ?_
    refine PW.nil ?_
    refine SX.then ?_
    refine SC.cond (t := false) rfl ?_
    refine SC.skip ?_
    refine SX.then ?_
    refine SC.seq ?_
    refine SC.region ?_
    refine PW.load rfl rfl rfl rfl rfl rfl ?_
    refine PW.call (r := .vl (.int .i64 (wid ((x).natAbs) : Int))) rfl rfl rfl rfl rfl rfl (KV.st _) rfl (k_width X (by first | decide | omega)) ?_
    refine PW.assign rfl rfl rfl rfl rfl ?_
    refine PW.nil ?_
    refine SX.then ?_
    refine SC.ret ?_
    have hr : (wid (pat x) : Int) = (wid ((x).natAbs) : Int) := by unfold pat; rw [if_neg nx]; congr 2; omega
    rw [hr]
    exact SX.done (s := 2) (r := .vl (.int .i64 (wid ((x).natAbs) : Int))) rfl rfl rfl

theorem ce_k_jpower_neg : CE 63 := fun args W => by go_simp

set_option maxHeartbeats 3200000 in
set_option maxRecDepth 100000 in
theorem k_jpower_neg {x n : Int} (hn : n < 0) : CallOk 63 [KJ (x), KV (.int .i64 (n))] (K2 (KJ 0) (KV (.int .i64 1))) := by
  refine CallOk.enter (l := [.kw (KJ (x)), .vl (.int .i64 (n))]) 50 ce_k_jpower_neg Try.func63 rfl Try.ntmps63 (by simp) ⟨(KJ.st _), rfl, (KV.st _), rfl, trivial⟩ fun w => ?_
  refine SC.seq ?_
  refine SC.region ?_
  refine PW.box (x := .tmp 0) (r := .kw (KJ (x))) (BI 31) rfl rfl rfl rfl rfl bJ rfl sh_J ?_
  refine PW.alloc (BI 31) rfl rfl rfl rfl rfl bJ ?_
  refine PW.assign rfl rfl rfl rfl rfl ?_
  refine PW.nil ?_
  refine SX.then ?_
  refine SC.seq ?_
  refine SC.seq ?_
  refine SC.region ?_
  refine PW.move rfl rfl rfl rfl rfl ?_
  refine PW.q2 (x := .tmp 8) (y := .const (.int .i64 0)) (.bool true) rfl rfl rfl rfl rfl (fun ρ W h1 h2 => by exact r_lt h1 h2 (decide_eq_true hn)) ?_
  refine PW.nil ?_
  refine SX.then ?_
  refine SC.cond (t := true) rfl ?_
  refine SC.seq ?_
  refine SC.region ?_
  refine PW.val (r := .kw (KJ (0))) rfl rfl rfl rfl (fun a W hf => ⟨.agg #[.bool false, .slice none 0 0], by go_simp, zeroJ W, KJ.st _⟩) ?_
  refine PW.store (x := .tmp 10) (r := .kw (KJ (0))) rfl rfl rfl rfl rfl rfl sh_J ?_
  refine PW.assign rfl rfl rfl rfl rfl ?_
  refine PW.nil ?_
  refine SX.then ?_
  refine SC.ret ?_
  refine SX.thenR ?_
  exact SX.done2 (s := 4) (t := 5) (r := .vl (.int .i64 1)) (.inl rfl) rfl rfl rfl rfl

set_option maxHeartbeats 3200000 in
set_option maxRecDepth 100000 in
theorem k_jpower_small {x : Int} {n : Nat} (hx : x.natAbs ≤ 1) (hn : n ≤ 9223372036854775807) : CallOk 63 [KJ (x), KV (.int .i64 (n : Int))] (K2 (KJ (x ^ n)) (KV (.int .i64 0))) := by
  refine CallOk.enter (l := [.kw (KJ (x)), .vl (.int .i64 (n : Int))]) 50 ce_k_jpower_neg Try.func63 rfl Try.ntmps63 (by simp) ⟨(KJ.st _), rfl, (KV.st _), rfl, trivial⟩ fun w => ?_
  refine SC.seq ?_
  refine SC.region ?_
  refine PW.box (x := .tmp 0) (r := .kw (KJ (x))) (BI 31) rfl rfl rfl rfl rfl bJ rfl sh_J ?_
  refine PW.alloc (BI 31) rfl rfl rfl rfl rfl bJ ?_
  refine PW.assign rfl rfl rfl rfl rfl ?_
  refine PW.nil ?_
  refine SX.then ?_
  refine SC.seq ?_
  refine SC.seq ?_
  refine SC.region ?_
  refine PW.move rfl rfl rfl rfl rfl ?_
  refine PW.q2 (x := .tmp 8) (y := .const (.int .i64 0)) (.bool false) rfl rfl rfl rfl rfl (fun ρ W h1 h2 => by exact r_lt h1 h2 (decide_eq_false (by omega))) ?_
  refine PW.nil ?_
  refine SX.then ?_
  refine SC.cond (t := false) rfl ?_
  refine SC.skip ?_
  refine SX.then ?_
  refine SC.seq ?_
  refine SC.region ?_
  refine PW.call (r := .kw (KJ (1))) rfl rfl rfl rfl rfl rfl (KJ.st _) rfl (k_jnew (by decide)) ?_
  refine PW.alloc (BI 31) rfl rfl rfl rfl rfl bJ ?_
  refine PW.store (x := .tmp 11) (r := .kw (KJ (1))) rfl rfl rfl rfl rfl rfl sh_J ?_
  refine PW.nil ?_
  refine SX.then ?_
  refine SC.seq ?_
  refine SC.seq ?_
  refine SC.region ?_
  refine PW.load rfl rfl rfl rfl rfl rfl ?_
  refine PW.call (r := .vl (.int .i64 (wid ((x).natAbs) : Int))) rfl rfl rfl rfl rfl rfl (KV.st _) rfl (k_width ((bd_le1 hx)) (by first | decide | omega)) ?_
  refine PW.q2 (x := .tmp 13) (y := .const (.int .i64 1)) (.bool true) rfl rfl rfl rfl rfl (fun ρ W h1 h2 => by exact r_le h1 h2 (decide_eq_true (wid_le1 hx))) ?_
  refine PW.nil ?_
  refine SX.then ?_
  refine SC.cond (t := true) rfl ?_
  refine SC.seq ?_
  refine SC.seq ?_
  by_cases h0 : n = 0
  · refine SC.region ?_
    refine PW.move rfl rfl rfl rfl rfl ?_
    refine PW.q2 (x := .tmp 15) (y := .const (.int .i64 0)) (.bool true) rfl rfl rfl rfl rfl (fun ρ W h1 h2 => by exact r_eqT h1 h2 (by omega)) ?_
    refine PW.move rfl rfl rfl rfl rfl ?_
    refine PW.skip rfl rfl rfl ?_
    refine PW.skip rfl rfl rfl ?_
    refine PW.skip rfl rfl rfl ?_
    refine PW.pick (t := true) rfl rfl rfl rfl rfl rfl ?_
    refine PW.nil ?_
    refine SX.then ?_
    refine SC.cond (t := true) rfl ?_
    refine SC.seq ?_
    refine SC.region ?_
    refine PW.load rfl rfl rfl rfl rfl rfl ?_
    refine PW.store (x := .tmp 22) (r := .kw (KJ (1))) rfl rfl rfl rfl rfl rfl sh_J ?_
    refine PW.assign rfl rfl rfl rfl rfl ?_
    refine PW.nil ?_
    refine SX.then ?_
    refine SC.ret ?_
    refine SX.thenR ?_
    refine SX.thenR ?_
    have hr : x ^ n = 1 := pw_zero h0
    rw [hr]
    exact SX.done2 (s := 4) (t := 5) (r := .vl (.int .i64 0)) (.inl rfl) rfl rfl rfl rfl
  · by_cases hp : 0 < x
    · refine SC.region ?_
      refine PW.move rfl rfl rfl rfl rfl ?_
      refine PW.q2 (x := .tmp 15) (y := .const (.int .i64 0)) (.bool false) rfl rfl rfl rfl rfl (fun ρ W h1 h2 => by exact r_eqF h1 h2 (by omega)) ?_
      refine PW.move rfl rfl rfl rfl rfl ?_
      refine PW.load rfl rfl rfl rfl rfl rfl ?_
      refine PW.call (r := .vl (.int .i64 (sgn x))) rfl rfl rfl rfl rfl rfl (KV.st _) rfl (k_jsign rfl) ?_
      refine PW.q2 (x := .tmp 19) (y := .const (.int .i64 0)) (.bool true) rfl rfl rfl rfl rfl (fun ρ W h1 h2 => by exact r_gt h1 h2 (decide_eq_true (sgn_gt_iff.2 hp))) ?_
      refine PW.pick (t := false) rfl rfl rfl rfl rfl rfl ?_
      refine PW.nil ?_
      refine SX.then ?_
      refine SC.cond (t := true) rfl ?_
      refine SC.seq ?_
      refine SC.region ?_
      refine PW.load rfl rfl rfl rfl rfl rfl ?_
      refine PW.store (x := .tmp 22) (r := .kw (KJ (1))) rfl rfl rfl rfl rfl rfl sh_J ?_
      refine PW.assign rfl rfl rfl rfl rfl ?_
      refine PW.nil ?_
      refine SX.then ?_
      refine SC.ret ?_
      refine SX.thenR ?_
      refine SX.thenR ?_
      have hr : x ^ n = 1 := pw_one (by omega)
      rw [hr]
      exact SX.done2 (s := 4) (t := 5) (r := .vl (.int .i64 0)) (.inl rfl) rfl rfl rfl rfl
    · refine SC.region ?_
      refine PW.move rfl rfl rfl rfl rfl ?_
      refine PW.q2 (x := .tmp 15) (y := .const (.int .i64 0)) (.bool false) rfl rfl rfl rfl rfl (fun ρ W h1 h2 => by exact r_eqF h1 h2 (by omega)) ?_
      refine PW.move rfl rfl rfl rfl rfl ?_
      refine PW.load rfl rfl rfl rfl rfl rfl ?_
      refine PW.call (r := .vl (.int .i64 (sgn x))) rfl rfl rfl rfl rfl rfl (KV.st _) rfl (k_jsign rfl) ?_
      refine PW.q2 (x := .tmp 19) (y := .const (.int .i64 0)) (.bool false) rfl rfl rfl rfl rfl (fun ρ W h1 h2 => by exact r_gt h1 h2 (decide_eq_false (fun h => hp (sgn_gt_iff.1 h)))) ?_
      refine PW.pick (t := false) rfl rfl rfl rfl rfl rfl ?_
      refine PW.nil ?_
      refine SX.then ?_
      refine SC.cond (t := false) rfl ?_
      refine SC.skip ?_
      refine SX.then ?_
      refine SC.seq ?_
      refine SC.seq ?_
      by_cases nx : x < 0
      · by_cases he : n % 2 = 0
        · refine SC.region ?_
          refine PW.load rfl rfl rfl rfl rfl rfl ?_
          refine PW.call (r := .vl (.int .i64 (sgn x))) rfl rfl rfl rfl rfl rfl (KV.st _) rfl (k_jsign rfl) ?_
          refine PW.q2 (x := .tmp 24) (y := .const (.int .i64 0)) (.bool true) rfl rfl rfl rfl rfl (fun ρ W h1 h2 => by exact r_lt h1 h2 (decide_eq_true (sgn_lt_iff.2 nx))) ?_
          refine PW.move rfl rfl rfl rfl rfl ?_
          refine PW.move rfl rfl rfl rfl rfl ?_
          refine PW.q2 (x := .tmp 27) (y := .const (.int .i64 2)) (.int .i64 ((n % 2 : Nat))) rfl rfl rfl rfl rfl (fun ρ W h1 h2 => by exact r_rem h1 h2 (by omega) (by omega) (by decide)) ?_
          refine PW.q2 (x := .tmp 28) (y := .const (.int .i64 0)) (.bool true) rfl rfl rfl rfl rfl (fun ρ W h1 h2 => by exact r_eqT h1 h2 (by omega)) ?_
          refine PW.pick (t := true) rfl rfl rfl rfl rfl rfl ?_
          refine PW.nil ?_
          refine SX.then ?_
          refine SC.cond (t := true) rfl ?_
          refine SC.seq ?_
          refine SC.region ?_
          refine PW.load rfl rfl rfl rfl rfl rfl ?_
          refine PW.store (x := .tmp 31) (r := .kw (KJ (1))) rfl rfl rfl rfl rfl rfl sh_J ?_
          refine PW.assign rfl rfl rfl rfl rfl ?_
          refine PW.nil ?_
          refine SX.then ?_
          refine SC.ret ?_
          refine SX.thenR ?_
          refine SX.thenR ?_
          have hr : x ^ n = 1 := pw_even1 (by omega) he
          rw [hr]
          exact SX.done2 (s := 4) (t := 5) (r := .vl (.int .i64 0)) (.inl rfl) rfl rfl rfl rfl
        · refine SC.region ?_
          refine PW.load rfl rfl rfl rfl rfl rfl ?_
          refine PW.call (r := .vl (.int .i64 (sgn x))) rfl rfl rfl rfl rfl rfl (KV.st _) rfl (k_jsign rfl) ?_
          refine PW.q2 (x := .tmp 24) (y := .const (.int .i64 0)) (.bool true) rfl rfl rfl rfl rfl (fun ρ W h1 h2 => by exact r_lt h1 h2 (decide_eq_true (sgn_lt_iff.2 nx))) ?_
          refine PW.move rfl rfl rfl rfl rfl ?_
          refine PW.move rfl rfl rfl rfl rfl ?_
          refine PW.q2 (x := .tmp 27) (y := .const (.int .i64 2)) (.int .i64 ((n % 2 : Nat))) rfl rfl rfl rfl rfl (fun ρ W h1 h2 => by exact r_rem h1 h2 (by omega) (by omega) (by decide)) ?_
          refine PW.q2 (x := .tmp 28) (y := .const (.int .i64 0)) (.bool false) rfl rfl rfl rfl rfl (fun ρ W h1 h2 => by exact r_eqF h1 h2 (by omega)) ?_
          refine PW.pick (t := true) rfl rfl rfl rfl rfl rfl ?_
          refine PW.nil ?_
          refine SX.then ?_
          refine SC.cond (t := false) rfl ?_
          refine SC.skip ?_
          refine SX.then ?_
          refine SC.seq ?_
          refine SC.region ?_
          refine PW.load rfl rfl rfl rfl rfl rfl ?_
          refine PW.store (x := .tmp 32) (r := .kw (KJ (x))) rfl rfl rfl rfl rfl rfl sh_J ?_
          refine PW.assign rfl rfl rfl rfl rfl ?_
          refine PW.nil ?_
          refine SX.then ?_
          refine SC.ret ?_
          refine SX.thenR ?_
          have hr : x ^ n = x := pw_self (by omega) he
          rw [hr]
          exact SX.done2 (s := 4) (t := 5) (r := .vl (.int .i64 0)) (.inl rfl) rfl rfl rfl rfl
      · refine SC.region ?_
        refine PW.load rfl rfl rfl rfl rfl rfl ?_
        refine PW.call (r := .vl (.int .i64 (sgn x))) rfl rfl rfl rfl rfl rfl (KV.st _) rfl (k_jsign rfl) ?_
        refine PW.q2 (x := .tmp 24) (y := .const (.int .i64 0)) (.bool false) rfl rfl rfl rfl rfl (fun ρ W h1 h2 => by exact r_lt h1 h2 (decide_eq_false (fun h => nx (sgn_lt_iff.1 h)))) ?_
        refine PW.move rfl rfl rfl rfl rfl ?_
        refine PW.skip rfl rfl rfl ?_
        refine PW.skip rfl rfl rfl ?_
        refine PW.skip rfl rfl rfl ?_
        refine PW.pick (t := false) rfl rfl rfl rfl rfl rfl ?_
        refine PW.nil ?_
        refine SX.then ?_
        refine SC.cond (t := false) rfl ?_
        refine SC.skip ?_
        refine SX.then ?_
        refine SC.seq ?_
        refine SC.region ?_
        refine PW.load rfl rfl rfl rfl rfl rfl ?_
        refine PW.store (x := .tmp 32) (r := .kw (KJ (x))) rfl rfl rfl rfl rfl rfl sh_J ?_
        refine PW.assign rfl rfl rfl rfl rfl ?_
        refine PW.nil ?_
        refine SX.then ?_
        refine SC.ret ?_
        refine SX.thenR ?_
        have hr : x ^ n = x := pw_self0 (by omega) h0
        rw [hr]
        exact SX.done2 (s := 4) (t := 5) (r := .vl (.int .i64 0)) (.inl rfl) rfl rfl rfl rfl

set_option maxHeartbeats 3200000 in
set_option maxRecDepth 100000 in
theorem k_jpower {x : Int} {n : Nat} (X : bd 2 x) (hx : 2 ≤ x.natAbs) (hn : n ≤ 40) : CallOk 63 [KJ (x), KV (.int .i64 (n : Int))] (K2 (KJ (x ^ n)) (KV (.int .i64 0))) := by
  refine CallOk.enter (l := [.kw (KJ (x)), .vl (.int .i64 (n : Int))]) 50 ce_k_jpower_neg Try.func63 rfl Try.ntmps63 (by simp) ⟨(KJ.st _), rfl, (KV.st _), rfl, trivial⟩ fun w => ?_
  refine SC.seq ?_
  refine SC.region ?_
  refine PW.box (x := .tmp 0) (r := .kw (KJ (x))) (BI 31) rfl rfl rfl rfl rfl bJ rfl sh_J ?_
  refine PW.alloc (BI 31) rfl rfl rfl rfl rfl bJ ?_
  refine PW.assign rfl rfl rfl rfl rfl ?_
  refine PW.nil ?_
  refine SX.then ?_
  refine SC.seq ?_
  refine SC.seq ?_
  refine SC.region ?_
  refine PW.move rfl rfl rfl rfl rfl ?_
  refine PW.q2 (x := .tmp 8) (y := .const (.int .i64 0)) (.bool false) rfl rfl rfl rfl rfl (fun ρ W h1 h2 => by exact r_lt h1 h2 (decide_eq_false (by omega))) ?_
  refine PW.nil ?_
  refine SX.then ?_
  refine SC.cond (t := false) rfl ?_
  refine SC.skip ?_
  refine SX.then ?_
  refine SC.seq ?_
  refine SC.region ?_
  refine PW.call (r := .kw (KJ (1))) rfl rfl rfl rfl rfl rfl (KJ.st _) rfl (k_jnew (by decide)) ?_
  refine PW.alloc (BI 31) rfl rfl rfl rfl rfl bJ ?_
  refine PW.store (x := .tmp 11) (r := .kw (KJ (1))) rfl rfl rfl rfl rfl rfl sh_J ?_
  refine PW.nil ?_
  refine SX.then ?_
  refine SC.seq ?_
  refine SC.seq ?_
  refine SC.region ?_
  refine PW.load rfl rfl rfl rfl rfl rfl ?_
  refine PW.call (r := .vl (.int .i64 (wid ((x).natAbs) : Int))) rfl rfl rfl rfl rfl rfl (KV.st _) rfl (k_width X (by first | decide | omega)) ?_
  refine PW.q2 (x := .tmp 13) (y := .const (.int .i64 1)) (.bool false) rfl rfl rfl rfl rfl (fun ρ W h1 h2 => by exact r_le h1 h2 (decide_eq_false (by have := wid_gt1 hx; omega))) ?_
  refine PW.nil ?_
  refine SX.then ?_
  refine SC.cond (t := false) rfl ?_
  refine SC.skip ?_
  refine SX.then ?_
  refine SC.seq ?_
  refine SC.seq ?_
  refine SC.region ?_
  refine PW.assign rfl rfl rfl rfl rfl ?_
  refine PW.nil ?_
  refine SX.then ?_
  refine SC.block ?_
  refine SC.loop (S := Nat × Int) (fun ⟨i, y⟩ => [(1, .vl (.int .i64 (n : Int))), (2, .bx (BI 31) (KJ (x))), (4, .nb (BI 31)), (5, .vl (.int .i64 0)), (6, .bx (BI 31) (KJ (y))), (7, .vl (.int .i64 (i : Int)))]) (fun ⟨i, y⟩ => i ≤ n ∧ y = x ^ i) (fun ⟨i, y⟩ => n - i) (0, 1) ⟨Nat.zero_le n, (Int.pow_zero x).symm⟩ ⟨rfl, rfl, rfl, rfl, rfl, rfl, trivial⟩ ?_
  rintro ⟨i, y⟩ ⟨hP, hy⟩
  show SC _ _ _ _ [(1, .vl (.int .i64 (n : Int))), (2, .bx (BI 31) (KJ (x))), (4, .nb (BI 31)), (5, .vl (.int .i64 0)), (6, .bx (BI 31) (KJ (y))), (7, .vl (.int .i64 (i : Int)))] _
  have Y2 : bd 83 y := hy ▸ bd.pw2 X (by omega)
  refine SC.seq ?_
  refine SC.seq ?_
  by_cases hk : (i : Int) < (n : Int)
  · refine SC.region ?_
    refine PW.move rfl rfl rfl rfl rfl ?_
    refine PW.move rfl rfl rfl rfl rfl ?_
    refine PW.q2 (x := .tmp 33) (y := .tmp 34) (.bool true) rfl rfl rfl rfl rfl (fun ρ W h1 h2 => by exact r_lt h1 h2 (decide_eq_true hk)) ?_
    refine PW.nil ?_
    refine SX.then ?_
    refine SC.cond (t := true) rfl ?_
    refine SC.skip ?_
    refine SX.then ?_
    refine SC.seq ?_
    refine SC.block ?_
    refine SC.seq ?_
    refine SC.region ?_
    refine PW.load rfl rfl rfl rfl rfl rfl ?_
    refine PW.load rfl rfl rfl rfl rfl rfl ?_
    refine PW.call (r := .kw (KJ (y * x))) rfl rfl rfl rfl rfl rfl (KJ.st _) rfl (k_jmul Y2 X (by first | decide | omega) (by first | decide | omega)) ?_
    refine PW.store (x := .tmp 40) (r := .kw (KJ (y * x))) rfl rfl rfl rfl rfl rfl sh_J ?_
    refine PW.nil ?_
    refine SX.then ?_
    refine SC.seq ?_
    refine SC.region ?_
    refine PW.load rfl rfl rfl rfl rfl rfl ?_
    refine PW.call (r := .vl (.int .i64 (wid ((y * x).natAbs) : Int))) rfl rfl rfl rfl rfl rfl (KV.st _) rfl (k_width (Y2.mul X) (by first | decide | omega)) ?_
    refine PW.q2 (x := .tmp 42) (y := .const (.int .i64 65537)) (.bool false) rfl rfl rfl rfl rfl (fun ρ W h1 h2 => by exact r_gt h1 h2 (decide_eq_false (by have := wid_bdn (Y2.mul X); omega))) ?_
    refine PW.nil ?_
    refine SX.then ?_
    refine SC.cond (t := false) rfl ?_
    refine SC.skip ?_
    refine SX.blockN ?_
    refine SX.then ?_
    refine SC.region ?_
    refine PW.move rfl rfl rfl rfl rfl ?_
    refine PW.q2 (x := .tmp 36) (y := .const (.int .i64 1)) (.int .i64 ((i + 1 : Nat))) rfl rfl rfl rfl rfl (fun ρ W h1 h2 => by exact r_add h1 h2 (by omega) (by omega)) ?_
    refine PW.assign rfl rfl rfl rfl rfl ?_
    refine PW.nil ?_
    refine SX.back (i + 1, y * x) ?_ ?_ ?_
    · exact ⟨(by omega : i + 1 ≤ n), (by rw [hy, Int.pow_succ] : y * x = x ^ (i + 1))⟩
    · exact (show n - (i + 1) < n - i by omega)
    · exact ⟨rfl, rfl, rfl, rfl, rfl, rfl, trivial⟩
  · obtain rfl : i = n := by omega
    refine SC.region ?_
    refine PW.move rfl rfl rfl rfl rfl ?_
    refine PW.move rfl rfl rfl rfl rfl ?_
    refine PW.q2 (x := .tmp 33) (y := .tmp 34) (.bool false) rfl rfl rfl rfl rfl (fun ρ W h1 h2 => by exact r_lt h1 h2 (decide_eq_false hk)) ?_
    refine PW.nil ?_
    refine SX.then ?_
    refine SC.cond (t := false) rfl ?_
    refine SC.exit ?_
    refine SX.thenE ?_
    refine SX.thenE ?_
    refine SX.blockE ?_
    refine SX.then ?_
    refine SC.seq ?_
    refine SC.seq ?_
    refine SC.region ?_
    refine PW.load rfl rfl rfl rfl rfl rfl ?_
    refine PW.call (r := .vl (.int .i64 (wid (pat y) : Int))) rfl rfl rfl rfl rfl rfl (KV.st _) rfl (k_jlen Y2 (by first | decide | omega)) ?_
    refine PW.q2 (x := .tmp 46) (y := .const (.int .i64 65536)) (.bool false) rfl rfl rfl rfl rfl (fun ρ W h1 h2 => by exact r_gt h1 h2 (decide_eq_false (by have := wid_bdp Y2; omega))) ?_
    refine PW.nil ?_
    refine SX.then ?_
    refine SC.cond (t := false) rfl ?_
    refine SC.skip ?_
    refine SX.then ?_
    refine SC.seq ?_
    refine SC.region ?_
    refine PW.load rfl rfl rfl rfl rfl rfl ?_
    refine PW.store (x := .tmp 49) (r := .kw (KJ (y))) rfl rfl rfl rfl rfl rfl sh_J ?_
    refine PW.assign rfl rfl rfl rfl rfl ?_
    refine PW.nil ?_
    refine SX.then ?_
    refine SC.ret ?_
    rw [← hy]
    exact SX.done2 (s := 4) (t := 5) (r := .vl (.int .i64 0)) (.inl rfl) rfl rfl rfl rfl

theorem ce_k_jroot_neg : CE 65 := fun args W => by go_simp

set_option maxHeartbeats 3200000 in
set_option maxRecDepth 100000 in
theorem k_jroot_neg {x : Int} (hx : x < 0) : CallOk 65 [KJ (x)] (K2 (KJ 0) (KV (.int .i64 1))) := by
  refine CallOk.enter (l := [.kw (KJ (x))]) 31 ce_k_jroot_neg Try.func65 rfl Try.ntmps65 (by simp) ⟨(KJ.st _), rfl, trivial⟩ fun w => ?_
  refine SC.seq ?_
  refine SC.region ?_
  refine PW.box (x := .tmp 0) (r := .kw (KJ (x))) (BI 31) rfl rfl rfl rfl rfl bJ rfl sh_J ?_
  refine PW.alloc (BI 31) rfl rfl rfl rfl rfl bJ ?_
  refine PW.assign rfl rfl rfl rfl rfl ?_
  refine PW.nil ?_
  refine SX.then ?_
  refine SC.seq ?_
  refine SC.seq ?_
  refine SC.region ?_
  refine PW.load rfl rfl rfl rfl rfl rfl ?_
  refine PW.call (r := .vl (.int .i64 (sgn x))) rfl rfl rfl rfl rfl rfl (KV.st _) rfl (k_jsign rfl) ?_
  refine PW.q2 (x := .tmp 8) (y := .const (.int .i64 0)) (.bool true) rfl rfl rfl rfl rfl (fun ρ W h1 h2 => by exact r_lt h1 h2 (decide_eq_true (sgn_lt_iff.2 hx))) ?_
  refine PW.nil ?_
  refine SX.then ?_
  refine SC.cond (t := true) rfl ?_
  refine SC.seq ?_
  refine SC.region ?_
  refine PW.val (r := .kw (KJ (0))) rfl rfl rfl rfl (fun a W hf => ⟨.agg #[.bool false, .slice none 0 0], by go_simp, zeroJ W, KJ.st _⟩) ?_
  refine PW.store (x := .tmp 10) (r := .kw (KJ (0))) rfl rfl rfl rfl rfl rfl sh_J ?_
  refine PW.assign rfl rfl rfl rfl rfl ?_
  refine PW.nil ?_
  refine SX.then ?_
  refine SC.ret ?_
  refine SX.thenR ?_
  exact SX.done2 (s := 2) (t := 3) (r := .vl (.int .i64 1)) (.inl rfl) rfl rfl rfl rfl

set_option maxHeartbeats 3200000 in
set_option maxRecDepth 100000 in
theorem k_jroot {x r : Int} {n : Nat} (X : bd n x) (hn : n ≤ 50000) (h0 : 0 ≤ r) (h1 : r * r ≤ x) (h2 : x < (r + 1) * (r + 1)) : CallOk 65 [KJ (x)] (K2 (KJ r) (KV (.int .i64 0))) := by
  have hx0 : 0 ≤ x := Int.le_trans (Int.mul_nonneg h0 h0) h1
  obtain ⟨wx, hwx⟩ : ∃ k, wid (x.natAbs : Int) = k := ⟨_, rfl⟩
  have hwn : wx ≤ 32 * n := hwx ▸ wid_bdn X
  refine CallOk.enter (l := [.kw (KJ (x))]) 31 ce_k_jroot_neg Try.func65 rfl Try.ntmps65 (by simp) ⟨(KJ.st _), rfl, trivial⟩ fun w => ?_
  refine SC.seq ?_
  refine SC.region ?_
  refine PW.box (x := .tmp 0) (r := .kw (KJ (x))) (BI 31) rfl rfl rfl rfl rfl bJ rfl sh_J ?_
  refine PW.alloc (BI 31) rfl rfl rfl rfl rfl bJ ?_
  refine PW.assign rfl rfl rfl rfl rfl ?_
  refine PW.nil ?_
  refine SX.then ?_
  refine SC.seq ?_
  refine SC.seq ?_
  refine SC.region ?_
  refine PW.load rfl rfl rfl rfl rfl rfl ?_
  refine PW.call (r := .vl (.int .i64 (sgn x))) rfl rfl rfl rfl rfl rfl (KV.st _) rfl (k_jsign rfl) ?_
  refine PW.q2 (x := .tmp 8) (y := .const (.int .i64 0)) (.bool false) rfl rfl rfl rfl rfl (fun ρ W h1 h2 => by exact r_lt h1 h2 (decide_eq_false (fun h => absurd (sgn_lt_iff.1 h) (by omega)))) ?_
  refine PW.nil ?_
  refine SX.then ?_
  refine SC.cond (t := false) rfl ?_
  refine SC.skip ?_
  refine SX.then ?_
  refine SC.seq ?_
  refine SC.region ?_
  refine PW.call (r := .kw (KJ (0))) rfl rfl rfl rfl rfl rfl (KJ.st _) rfl (k_jnew (by decide)) ?_
  refine PW.alloc (BI 31) rfl rfl rfl rfl rfl bJ ?_
  refine PW.store (x := .tmp 11) (r := .kw (KJ (0))) rfl rfl rfl rfl rfl rfl sh_J ?_
  refine PW.nil ?_
  refine SX.then ?_
  refine SC.seq ?_
  refine SC.seq ?_
  refine SC.region ?_
  refine PW.load rfl rfl rfl rfl rfl rfl ?_
  refine PW.call (r := .vl (.int .i64 (wid ((x).natAbs) : Int))) rfl rfl rfl rfl rfl rfl (KV.st _) rfl (k_width X (by first | decide | omega)) ?_
  refine PW.q2 (x := .tmp 13) (y := .const (.int .i64 2)) (.int .i64 (((wx / 2 + 1 : Nat) : Int) - 1)) rfl rfl rfl rfl rfl (fun ρ W h1 h2 => by exact r_quo h1 h2 (by rw [hwx]; omega) (by rw [hwx]; omega) (by decide)) ?_
  refine PW.assign rfl rfl rfl rfl rfl ?_
  refine PW.nil ?_
  refine SX.then ?_
  refine SC.block ?_
  refine SC.loop (S := Nat × Int) (fun ⟨t, q⟩ => [(1, .bx (BI 31) (KJ (x))), (2, .nb (BI 31)), (3, .vl (.int .i64 0)), (4, .bx (BI 31) (KJ (q))), (5, .vl (.int .i64 ((t : Int) - 1)))]) (fun ⟨t, q⟩ => Rq x (wx / 2 + 1) t q) (fun ⟨t, q⟩ => t) (wx / 2 + 1, 0) (Rq.start hwx (by omega)) ⟨rfl, rfl, rfl, rfl, rfl, trivial⟩ ?_
  rintro ⟨t, q⟩ hP
  show SC _ _ _ _ [(1, .bx (BI 31) (KJ (x))), (2, .nb (BI 31)), (3, .vl (.int .i64 0)), (4, .bx (BI 31) (KJ (q))), (5, .vl (.int .i64 ((t : Int) - 1)))] _
  refine SC.seq ?_
  refine SC.seq ?_
  by_cases ht : (0 : Int) ≤ (t : Int) - 1
  · obtain ⟨i, rfl⟩ : ∃ i, t = i + 1 := ⟨t - 1, by omega⟩
    rw [show ((i + 1 : Nat) : Int) - 1 = (i : Int) by omega]
    rw [show ((i + 1 : Nat) : Int) - 1 = (i : Int) by omega] at ht
    have h2i : bd (n + 1) (2 ^ i : Int) := bd_two (by have := hP.le; omega)
    have Q : bd n q := hP.bd X
    have hil := hP.le
    refine SC.region ?_
    refine PW.move rfl rfl rfl rfl rfl ?_
    refine PW.q2 (x := .tmp 15) (y := .const (.int .i64 0)) (.bool true) rfl rfl rfl rfl rfl (fun ρ W h1 h2 => by exact r_ge h1 h2 (decide_eq_true ht)) ?_
    refine PW.nil ?_
    refine SX.then ?_
    refine SC.cond (t := true) rfl ?_
    refine SC.skip ?_
    refine SX.then ?_
    refine SC.seq ?_
    refine SC.block ?_
    refine SC.seq ?_
    refine SC.dx [.val 19 (.kw (KJ (q))), .val 20 (.vl (.int .i64 (i : Int))), .val 21 (.kw (KJ (2 ^ i))), .val 22 (.kw (KJ (q + (2 ^ i)))), .new 6 (BI 31), .put 6 (BI 31) (.kw (KJ (q + (2 ^ i))))] [([], [4]), ([], [5]), ([1], []), ([0, 2], []), ([], []), ([4, 3], [])] rfl (by kernel_rfl) (by kernel_rfl) (by kernel_rfl) rfl ⟨?_, ?_, ?_, ?_, ?_, ?_, trivial⟩ ?_
    · exact DX.load rfl rfl rfl rfl rfl rfl
    · exact DX.move rfl rfl rfl rfl rfl rfl
    · exact DX.call (r := .kw (KJ (2 ^ i))) rfl rfl rfl rfl rfl rfl (KJ.st _) rfl (k_two (by omega))
    · exact DX.call (r := .kw (KJ (q + (2 ^ i)))) rfl rfl rfl rfl rfl rfl (KJ.st _) rfl (k_jadd Q h2i (by first | decide | omega) (by first | decide | omega))
    · exact DX.alloc (BI 31) rfl rfl rfl rfl bJ rfl
    · exact DX.store (x := .tmp 22) (r := .kw (KJ (q + (2 ^ i)))) rfl rfl rfl rfl rfl rfl sh_J
    refine SX.then ?_
    refine SC.seq ?_
    by_cases hq : (q + 2 ^ i) * (q + 2 ^ i) ≤ x
    · refine SC.dx [.val 23 (.kw (KJ (q + (2 ^ i)))), .val 24 (.kw (KJ (q + (2 ^ i)))), .val 25 (.kw (KJ ((q + (2 ^ i)) * (q + (2 ^ i))))), .val 26 (.kw (KJ (x))), .val 27 (.vl (.int .i64 (cmp ((q + (2 ^ i)) * (q + (2 ^ i))) x))), .val 28 (.vl (.bool true))] [([], [6]), ([], [6]), ([0, 1], []), ([], [1]), ([2, 3], []), ([4], [])] rfl (by kernel_rfl) (by kernel_rfl) (by kernel_rfl) rfl ⟨?_, ?_, ?_, ?_, ?_, ?_, trivial⟩ ?_
      · exact DX.load rfl rfl rfl rfl rfl rfl
      · exact DX.load rfl rfl rfl rfl rfl rfl
      · exact DX.call (r := .kw (KJ ((q + (2 ^ i)) * (q + (2 ^ i))))) rfl rfl rfl rfl rfl rfl (KJ.st _) rfl (k_jmul (Q.add h2i) (Q.add h2i) (by first | decide | omega) (by first | decide | omega))
      · exact DX.load rfl rfl rfl rfl rfl rfl
      · exact DX.call (r := .vl (.int .i64 (cmp ((q + (2 ^ i)) * (q + (2 ^ i))) x))) rfl rfl rfl rfl rfl rfl (KV.st _) rfl (k_jcmp ((Q.add h2i).mul (Q.add h2i)) X (by first | decide | omega) (by first | decide | omega) rfl)
      · exact DX.q2 (x := .tmp 27) (y := .const (.int .i64 0)) (.bool true) rfl rfl rfl rfl rfl (fun ρ W h1 h2 => by exact r_le h1 h2 (decide_eq_true (cmp_np hq)))
      refine SX.then ?_
      refine SC.cond (t := true) rfl ?_
      refine SC.region ?_
      refine PW.load rfl rfl rfl rfl rfl rfl ?_
      refine PW.store (x := .tmp 29) (r := .kw (KJ (q + (2 ^ i)))) rfl rfl rfl rfl rfl rfl sh_J ?_
      refine PW.nil ?_
      refine SX.blockN ?_
      refine SX.then ?_
      refine SC.region ?_
      refine PW.move rfl rfl rfl rfl rfl ?_
      refine PW.q2 (x := .tmp 17) (y := .const (.int .i64 1)) (.int .i64 ((i : Int) - 1)) rfl rfl rfl rfl rfl (fun ρ W h1 h2 => by exact r_sub h1 h2 (rfl) (by omega)) ?_
      refine PW.assign rfl rfl rfl rfl rfl ?_
      refine PW.nil ?_
      refine SX.back (i, q + 2 ^ i) ?_ ?_ ?_
      · exact (hP.up hq)
      · exact (show i < i + 1 by omega)
      · exact ⟨rfl, rfl, rfl, rfl, rfl, trivial⟩
    · refine SC.dx [.val 23 (.kw (KJ (q + (2 ^ i)))), .val 24 (.kw (KJ (q + (2 ^ i)))), .val 25 (.kw (KJ ((q + (2 ^ i)) * (q + (2 ^ i))))), .val 26 (.kw (KJ (x))), .val 27 (.vl (.int .i64 (cmp ((q + (2 ^ i)) * (q + (2 ^ i))) x))), .val 28 (.vl (.bool false))] [([], [6]), ([], [6]), ([0, 1], []), ([], [1]), ([2, 3], []), ([4], [])] rfl (by kernel_rfl) (by kernel_rfl) (by kernel_rfl) rfl ⟨?_, ?_, ?_, ?_, ?_, ?_, trivial⟩ ?_
      · exact DX.load rfl rfl rfl rfl rfl rfl
      · exact DX.load rfl rfl rfl rfl rfl rfl
      · exact DX.call (r := .kw (KJ ((q + (2 ^ i)) * (q + (2 ^ i))))) rfl rfl rfl rfl rfl rfl (KJ.st _) rfl (k_jmul (Q.add h2i) (Q.add h2i) (by first | decide | omega) (by first | decide | omega))
      · exact DX.load rfl rfl rfl rfl rfl rfl
      · exact DX.call (r := .vl (.int .i64 (cmp ((q + (2 ^ i)) * (q + (2 ^ i))) x))) rfl rfl rfl rfl rfl rfl (KV.st _) rfl (k_jcmp ((Q.add h2i).mul (Q.add h2i)) X (by first | decide | omega) (by first | decide | omega) rfl)
      · exact DX.q2 (x := .tmp 27) (y := .const (.int .i64 0)) (.bool false) rfl rfl rfl rfl rfl (fun ρ W h1 h2 => by exact r_le h1 h2 (by rw [cmp_gt (by omega)]; decide))
      refine SX.then ?_
      refine SC.cond (t := false) rfl ?_
      refine SC.skip ?_
      refine SX.blockN ?_
      refine SX.then ?_
      refine SC.region ?_
      refine PW.move rfl rfl rfl rfl rfl ?_
      refine PW.q2 (x := .tmp 17) (y := .const (.int .i64 1)) (.int .i64 ((i : Int) - 1)) rfl rfl rfl rfl rfl (fun ρ W h1 h2 => by exact r_sub h1 h2 (rfl) (by omega)) ?_
      refine PW.assign rfl rfl rfl rfl rfl ?_
      refine PW.nil ?_
      refine SX.back (i, q) ?_ ?_ ?_
      · exact (hP.down hq)
      · exact (show i < i + 1 by omega)
      · exact ⟨rfl, rfl, rfl, rfl, rfl, trivial⟩
  · obtain rfl : t = 0 := by omega
    obtain rfl : q = r := hP.fin h0 h1 h2
    refine SC.region ?_
    refine PW.move rfl rfl rfl rfl rfl ?_
    refine PW.q2 (x := .tmp 15) (y := .const (.int .i64 0)) (.bool false) rfl rfl rfl rfl rfl (fun ρ W h1 h2 => by exact r_ge h1 h2 (decide_eq_false ht)) ?_
    refine PW.nil ?_
    refine SX.then ?_
    refine SC.cond (t := false) rfl ?_
    refine SC.exit ?_
    refine SX.thenE ?_
    refine SX.thenE ?_
    refine SX.blockE ?_
    refine SX.then ?_
    refine SC.seq ?_
    refine SC.region ?_
    refine PW.load rfl rfl rfl rfl rfl rfl ?_
    refine PW.store (x := .tmp 30) (r := .kw (KJ (q))) rfl rfl rfl rfl rfl rfl sh_J ?_
    refine PW.assign rfl rfl rfl rfl rfl ?_
    refine PW.nil ?_
    refine SX.then ?_
    refine SC.ret ?_
    exact SX.done2 (s := 2) (t := 3) (r := .vl (.int .i64 0)) (.inl rfl) rfl rfl rfl rfl

end Go.Proofs.Ytcgkgcciogibkaa.Sy
/- The reference's Bits and Of by rules. -/
set_option linter.unusedVariables false
set_option linter.unusedSimpArgs false
namespace Go.Proofs.Ytcgkgcciogibkaa.Sy
open Go Go.RowKit Ma
theorem CallOk.toJ {f : FuncId} {ks : List Know} {a b : Int} (h : CallOk f ks (KJ a)) (e : a = b) : CallOk f ks (KJ b) := e ▸ h

set_option maxHeartbeats 3200000 in
set_option maxRecDepth 100000 in
theorem rbits_t {x : Int} {A : Option Addr} {l c n a : Nat} {w : World} (hX : KJ x (.agg #[.bool true, .slice A l c]) w) (X : bd a x) (ha : a ≤ 100000) (hn : n ≤ 4000000) (hx : x < 0) :
    Calls Try.prog 73 #[.agg #[.bool true, .slice A l c], .int .i64 (n : Int)] w (Ret w (KRf w.heap.size 4 bv (fun zs => zs = lof (tb x) n))) := by
  have Y := (bd.lit (by decide) : bd 1 (-1)).sub X
  refine calls_sc (l := [.vl (.agg #[.bool true, .slice A l c]), .vl (.int .i64 (n : Int))]) (us := [.agg #[.bool true, .slice A l c], .int .i64 (n : Int)]) 29 Try.func73 rfl Try.ntmps73 (by simp) ⟨rfl, rfl, rfl, rfl, trivial⟩ ?_
  refine SC.seq ?_
  refine SC.region ?_
  refine PW.boxc (x := .tmp 0) (BI 31) rfl rfl rfl rfl rfl bJ rfl ⟨_, _, _, _, _, rfl, rfl⟩ fun pb1 => ?_
  refine PW.assign rfl rfl rfl rfl rfl ?_
  refine PW.nil ?_
  refine SX.then ?_
  refine SC.seq ?_
  refine SC.region ?_
  refine PW.loadck (k := KJ (x)) rfl rfl rfl rfl rfl rfl rfl hX (KJ.st _) ?_
  refine PW.alloc (BI 31) rfl rfl rfl rfl rfl bJ ?_
  refine PW.store (x := .tmp 8) (r := .kw (KJ (x))) rfl rfl rfl rfl rfl rfl sh_J ?_
  refine PW.nil ?_
  refine SX.then ?_
  refine SC.seq ?_
  refine SC.seq ?_
  refine SC.region ?_
  refine PW.fac ⟨pb1, 0, none⟩ rfl rfl rfl rfl rfl facJ0 ?_
  refine PW.flc (s := 2) (.bool true) rfl rfl rfl rfl rfl rfl flcJ0 ?_
  refine PW.nil ?_
  refine SX.then ?_
  refine SC.cond (t := true) rfl ?_
  refine SC.dx [.val 11 (.kw (KJ (-1))), .val 12 (.kw (KJ (x))), .val 13 (.kw (KJ ((-1) - x))), .put 5 (BI 31) (.kw (KJ ((-1) - x)))] [([], []), ([], [2]), ([0, 1], []), ([2], [5])] rfl (by kernel_rfl) (by kernel_rfl) (by kernel_rfl) rfl ⟨?_, ?_, ?_, ?_, trivial⟩ ?_
  · exact DX.call (r := .kw (KJ (-1))) rfl rfl rfl rfl rfl rfl (KJ.st _) rfl (k_jnew (by decide))
  · exact DX.loadck (k := KJ (x)) rfl rfl rfl rfl rfl rfl rfl hX (KJ.st _)
  · exact DX.call (r := .kw (KJ ((-1) - x))) rfl rfl rfl rfl rfl rfl (KJ.st _) rfl (k_jsub (bd.lit (by decide)) X (by first | decide | omega) (by first | decide | omega))
  · exact DX.store (x := .tmp 13) (r := .kw (KJ ((-1) - x))) rfl rfl rfl rfl rfl rfl sh_J
  refine SX.then ?_
  refine SC.seq ?_
  refine SC.rebase (s := 5) [(1, .vl (.int .i64 (n : Int))), (2, .bc (BI 31) pb1 (.agg #[.bool true, .slice A l c])), (4, .vl (.slice none 0 0))] rfl ⟨rfl, rfl, rfl, trivial⟩ rfl fun p5 v5 w1 hb hb0 hY => ?_
  have hX := KJ.st _ _ _ _ (IntK.of_below hb) hX
  refine SC.region ?_
  refine PW.assign rfl rfl rfl rfl rfl ?_
  refine PW.nil ?_
  refine SX.then ?_
  refine SC.seq ?_
  refine SC.seq ?_
  refine SC.region ?_
  refine PW.assign rfl rfl rfl rfl rfl ?_
  refine PW.nil ?_
  refine SX.then ?_
  refine SC.block ?_
  refine SC.weak (fun a W hf => Fr.nilrow 29 4 (bv) hf) ?_
  refine SC.loop (S := Nat × Value × List Int) (fun ⟨i, v, zs⟩ => [(1, .vl (.int .i64 (n : Int))), (2, .bc (BI 31) pb1 (.agg #[.bool true, .slice A l c])), (5, .bc (BI 31) p5 (v5)), (6, .vl (v)), (7, .vl (.int .i64 (i : Int))), (29, .ro (v) 4 (bv) (zs))]) (fun ⟨i, v, zs⟩ => i ≤ n ∧ zs = lof (tb x) i) (fun ⟨i, v, zs⟩ => n - i) (0, .slice none 0 0, []) ⟨by omega, rfl⟩ ⟨rfl, rfl, rfl, rfl, rfl, rfl, trivial⟩ ?_
  rintro ⟨i, v, zs⟩ ⟨hi, hz2⟩
  show SC _ _ _ _ [(1, .vl (.int .i64 (n : Int))), (2, .bc (BI 31) pb1 (.agg #[.bool true, .slice A l c])), (5, .bc (BI 31) p5 (v5)), (6, .vl (v)), (7, .vl (.int .i64 (i : Int))), (29, .ro (v) 4 (bv) (zs))] _
  refine SC.seq ?_
  refine SC.seq ?_
  by_cases hk : (i : Int) < (n : Int)
  · refine SC.region ?_
    refine PW.move rfl rfl rfl rfl rfl ?_
    refine PW.move rfl rfl rfl rfl rfl ?_
    refine PW.q2 (x := .tmp 14) (y := .tmp 15) (.bool true) rfl rfl rfl rfl rfl (fun ρ W h1 h2 => by exact r_lt h1 h2 (decide_eq_true hk)) ?_
    refine PW.nil ?_
    refine SX.then ?_
    refine SC.cond (t := true) rfl ?_
    refine SC.skip ?_
    refine SX.then ?_
    refine SC.seq ?_
    refine SC.block ?_
    refine SC.dxl [.val 19 (.vl (v)), .val 20 (.kw (KJ (-1 - x))), .val 21 (.vl (.int .i64 (i : Int))), .val 22 (.vl (.bool (tb ((-1 - x).natAbs : Int) i))), .val 23 (.vl (.pointer (some ⟨pb1, 0, none⟩))), .val 24 (.vl (.bool true)), .val 25 (.vl (.bool (decide (bi (tb x i) = 1)))), .row 26 4 (bv) (fun zs => zs = [bi (tb x i)])] [([], [6]), ([], [5]), ([], [7]), ([1, 2], []), ([], [2]), ([4], [2]), ([3, 5], []), ([6], [])] rfl (by kernel_rfl) (by kernel_rfl) (by kernel_rfl) rfl (by kernel_rfl) ⟨?_, ?_, ?_, ?_, ?_, ?_, ?_, ?_, trivial⟩ ?_
    · exact DX.move rfl rfl rfl rfl rfl rfl
    · exact DX.loadck (k := KJ (-1 - x)) rfl rfl rfl rfl rfl rfl rfl hY (KJ.st _)
    · exact DX.move rfl rfl rfl rfl rfl rfl
    · exact DX.call (r := .vl (.bool (tb ((-1 - x).natAbs : Int) i))) rfl rfl rfl rfl rfl rfl (KV.st _) rfl (k_set Y (by omega) (by omega))
    · exact DX.fac ⟨pb1, 0, none⟩ rfl rfl rfl rfl rfl facJ0
    · exact DX.flc (s := 2) (.bool true) rfl rfl rfl rfl rfl rfl flcJ0
    · exact DX.q2 (x := .tmp 22) (y := .tmp 24) (.bool (decide (bi (tb x i) = 1))) rfl rfl rfl rfl rfl (fun ρ W h1 h2 => by exact r_neB h1 h2 (by rw [bi_eq]; exact bits_t hx i))
    · exact DX.bs (f := bv) [bi (tb x i)] rfl rfl rfl (fun a W hf => r_b1B (hf.vl (s := 25) rfl)) (by unfold maxLen; show 1 ≤ _; omega)
    refine PW.openx (s := 26) 30 rfl rfl ?_
    rintro vx2 _ rfl
    refine PW.keep [(1, .vl (.int .i64 (n : Int))), (2, .bc (BI 31) pb1 (.agg #[.bool true, .slice A l c])), (5, .bc (BI 31) p5 (v5)), (6, .vl (v)), (7, .vl (.int .i64 (i : Int))), (14, .vl (.int .i64 (i : Int))), (15, .vl (.int .i64 (n : Int))), (16, .vl (.bool true)), (19, .vl (v)), (21, .vl (.int .i64 (i : Int))), (22, .vl (.bool (tb ((-1 - x).natAbs : Int) i))), (23, .vl (.pointer (some ⟨pb1, 0, none⟩))), (24, .vl (.bool true)), (25, .vl (.bool (decide (bi (tb x i) = 1)))), (26, .vl (vx2)), (29, .ro (v) 4 (bv) (zs)), (30, .ro (vx2) 4 (bv) ([bi (tb x i)]))] ⟨rfl, rfl, rfl, rfl, rfl, rfl, rfl, rfl, rfl, rfl, rfl, rfl, rfl, rfl, rfl, rfl, rfl, trivial⟩ ?_
    refine PW.apr (K := 29) (K2 := 30) (f := bv) rfl rfl rfl rfl rfl rfl rfl rfl rfl Try.underlying96 info_bool rfl (fun _ => rfl) (by have l1 := hz2 ▸ lof_len (tb x) i; unfold maxLen; show _ + 1 ≤ _; omega) (by have l1 := hz2 ▸ lof_len (tb x) i; show (_ + 1) * 1 ≤ _; omega) rfl fun vq3 => ?_
    refine PW.assign rfl rfl rfl rfl rfl ?_
    refine PW.nil ?_
    refine SX.blockN ?_
    refine SX.then ?_
    refine SC.region ?_
    refine PW.move rfl rfl rfl rfl rfl ?_
    refine PW.q2 (x := .tmp 17) (y := .const (.int .i64 1)) (.int .i64 ((i + 1 : Nat))) rfl rfl rfl rfl rfl (fun ρ W h1 h2 => by exact r_add h1 h2 (by omega) (by omega)) ?_
    refine PW.assign rfl rfl rfl rfl rfl ?_
    refine PW.nil ?_
    refine SX.back (i + 1, vq3, zs ++ ([bi (tb x i)])) ?_ ?_ ?_
    · exact ⟨by omega, by rw [hz2, lof_succ]⟩
    · exact (show n - (i + 1) < n - i by omega)
    · exact ⟨rfl, rfl, rfl, rfl, rfl, rfl, trivial⟩
  · obtain rfl : i = n := by omega
    refine SC.region ?_
    refine PW.move rfl rfl rfl rfl rfl ?_
    refine PW.move rfl rfl rfl rfl rfl ?_
    refine PW.q2 (x := .tmp 14) (y := .tmp 15) (.bool false) rfl rfl rfl rfl rfl (fun ρ W h1 h2 => by exact r_lt h1 h2 (decide_eq_false hk)) ?_
    refine PW.nil ?_
    refine SX.then ?_
    refine SC.cond (t := false) rfl ?_
    refine SC.exit ?_
    refine SX.thenE ?_
    refine SX.thenE ?_
    refine SX.blockE ?_
    refine SX.then ?_
    refine SC.seq ?_
    refine SC.region ?_
    refine PW.move rfl rfl rfl rfl rfl ?_
    refine PW.assign rfl rfl rfl rfl rfl ?_
    refine PW.nil ?_
    refine SX.then ?_
    refine SC.ret ?_
    exact SX.doneRow (s := 4) (K1 := 29) (.inl rfl) rfl rfl rfl hz2 hb rfl

set_option maxHeartbeats 3200000 in
set_option maxRecDepth 100000 in
theorem rbits_f {x : Int} {A : Option Addr} {l c n a : Nat} {w : World} (hX : KJ x (.agg #[.bool false, .slice A l c]) w) (X : bd a x) (ha : a ≤ 100000) (hn : n ≤ 4000000) (hx : ¬ x < 0) :
    Calls Try.prog 73 #[.agg #[.bool false, .slice A l c], .int .i64 (n : Int)] w (Ret w (KRf w.heap.size 4 bv (fun zs => zs = lof (tb x) n))) := by
  have Y := X
  refine calls_sc (l := [.vl (.agg #[.bool false, .slice A l c]), .vl (.int .i64 (n : Int))]) (us := [.agg #[.bool false, .slice A l c], .int .i64 (n : Int)]) 29 Try.func73 rfl Try.ntmps73 (by simp) ⟨rfl, rfl, rfl, rfl, trivial⟩ ?_
  refine SC.seq ?_
  refine SC.region ?_
  refine PW.boxc (x := .tmp 0) (BI 31) rfl rfl rfl rfl rfl bJ rfl ⟨_, _, _, _, _, rfl, rfl⟩ fun pb1 => ?_
  refine PW.assign rfl rfl rfl rfl rfl ?_
  refine PW.nil ?_
  refine SX.then ?_
  refine SC.seq ?_
  refine SC.region ?_
  refine PW.loadck (k := KJ (x)) rfl rfl rfl rfl rfl rfl rfl hX (KJ.st _) ?_
  refine PW.alloc (BI 31) rfl rfl rfl rfl rfl bJ ?_
  refine PW.store (x := .tmp 8) (r := .kw (KJ (x))) rfl rfl rfl rfl rfl rfl sh_J ?_
  refine PW.nil ?_
  refine SX.then ?_
  refine SC.seq ?_
  refine SC.seq ?_
  refine SC.region ?_
  refine PW.fac ⟨pb1, 0, none⟩ rfl rfl rfl rfl rfl facJ0 ?_
  refine PW.flc (s := 2) (.bool false) rfl rfl rfl rfl rfl rfl flcJ0 ?_
  refine PW.nil ?_
  refine SX.then ?_
  refine SC.cond (t := false) rfl ?_
  refine SC.skip ?_
  refine SX.then ?_
  refine SC.seq ?_
  refine SC.rebase (s := 5) [(1, .vl (.int .i64 (n : Int))), (2, .bc (BI 31) pb1 (.agg #[.bool false, .slice A l c])), (4, .vl (.slice none 0 0))] rfl ⟨rfl, rfl, rfl, trivial⟩ rfl fun p5 v5 w1 hb hb0 hY => ?_
  have hX := KJ.st _ _ _ _ (IntK.of_below hb) hX
  refine SC.region ?_
  refine PW.assign rfl rfl rfl rfl rfl ?_
  refine PW.nil ?_
  refine SX.then ?_
  refine SC.seq ?_
  refine SC.seq ?_
  refine SC.region ?_
  refine PW.assign rfl rfl rfl rfl rfl ?_
  refine PW.nil ?_
  refine SX.then ?_
  refine SC.block ?_
  refine SC.weak (fun a W hf => Fr.nilrow 29 4 (bv) hf) ?_
  refine SC.loop (S := Nat × Value × List Int) (fun ⟨i, v, zs⟩ => [(1, .vl (.int .i64 (n : Int))), (2, .bc (BI 31) pb1 (.agg #[.bool false, .slice A l c])), (5, .bc (BI 31) p5 (v5)), (6, .vl (v)), (7, .vl (.int .i64 (i : Int))), (29, .ro (v) 4 (bv) (zs))]) (fun ⟨i, v, zs⟩ => i ≤ n ∧ zs = lof (tb x) i) (fun ⟨i, v, zs⟩ => n - i) (0, .slice none 0 0, []) ⟨by omega, rfl⟩ ⟨rfl, rfl, rfl, rfl, rfl, rfl, trivial⟩ ?_
  rintro ⟨i, v, zs⟩ ⟨hi, hz2⟩
  show SC _ _ _ _ [(1, .vl (.int .i64 (n : Int))), (2, .bc (BI 31) pb1 (.agg #[.bool false, .slice A l c])), (5, .bc (BI 31) p5 (v5)), (6, .vl (v)), (7, .vl (.int .i64 (i : Int))), (29, .ro (v) 4 (bv) (zs))] _
  refine SC.seq ?_
  refine SC.seq ?_
  by_cases hk : (i : Int) < (n : Int)
  · refine SC.region ?_
    refine PW.move rfl rfl rfl rfl rfl ?_
    refine PW.move rfl rfl rfl rfl rfl ?_
    refine PW.q2 (x := .tmp 14) (y := .tmp 15) (.bool true) rfl rfl rfl rfl rfl (fun ρ W h1 h2 => by exact r_lt h1 h2 (decide_eq_true hk)) ?_
    refine PW.nil ?_
    refine SX.then ?_
    refine SC.cond (t := true) rfl ?_
    refine SC.skip ?_
    refine SX.then ?_
    refine SC.seq ?_
    refine SC.block ?_
    refine SC.dxl [.val 19 (.vl (v)), .val 20 (.kw (KJ (x))), .val 21 (.vl (.int .i64 (i : Int))), .val 22 (.vl (.bool (tb ((x).natAbs : Int) i))), .val 23 (.vl (.pointer (some ⟨pb1, 0, none⟩))), .val 24 (.vl (.bool false)), .val 25 (.vl (.bool (decide (bi (tb x i) = 1)))), .row 26 4 (bv) (fun zs => zs = [bi (tb x i)])] [([], [6]), ([], [5]), ([], [7]), ([1, 2], []), ([], [2]), ([4], [2]), ([3, 5], []), ([6], [])] rfl (by kernel_rfl) (by kernel_rfl) (by kernel_rfl) rfl (by kernel_rfl) ⟨?_, ?_, ?_, ?_, ?_, ?_, ?_, ?_, trivial⟩ ?_
    · exact DX.move rfl rfl rfl rfl rfl rfl
    · exact DX.loadck (k := KJ (x)) rfl rfl rfl rfl rfl rfl rfl hY (KJ.st _)
    · exact DX.move rfl rfl rfl rfl rfl rfl
    · exact DX.call (r := .vl (.bool (tb ((x).natAbs : Int) i))) rfl rfl rfl rfl rfl rfl (KV.st _) rfl (k_set Y (by omega) (by omega))
    · exact DX.fac ⟨pb1, 0, none⟩ rfl rfl rfl rfl rfl facJ0
    · exact DX.flc (s := 2) (.bool false) rfl rfl rfl rfl rfl rfl flcJ0
    · exact DX.q2 (x := .tmp 22) (y := .tmp 24) (.bool (decide (bi (tb x i) = 1))) rfl rfl rfl rfl rfl (fun ρ W h1 h2 => by exact r_neB h1 h2 (by rw [bi_eq]; exact bits_f hx i))
    · exact DX.bs (f := bv) [bi (tb x i)] rfl rfl rfl (fun a W hf => r_b1B (hf.vl (s := 25) rfl)) (by unfold maxLen; show 1 ≤ _; omega)
    refine PW.openx (s := 26) 30 rfl rfl ?_
    rintro vx2 _ rfl
    refine PW.keep [(1, .vl (.int .i64 (n : Int))), (2, .bc (BI 31) pb1 (.agg #[.bool false, .slice A l c])), (5, .bc (BI 31) p5 (v5)), (6, .vl (v)), (7, .vl (.int .i64 (i : Int))), (14, .vl (.int .i64 (i : Int))), (15, .vl (.int .i64 (n : Int))), (16, .vl (.bool true)), (19, .vl (v)), (21, .vl (.int .i64 (i : Int))), (22, .vl (.bool (tb ((x).natAbs : Int) i))), (23, .vl (.pointer (some ⟨pb1, 0, none⟩))), (24, .vl (.bool false)), (25, .vl (.bool (decide (bi (tb x i) = 1)))), (26, .vl (vx2)), (29, .ro (v) 4 (bv) (zs)), (30, .ro (vx2) 4 (bv) ([bi (tb x i)]))] ⟨rfl, rfl, rfl, rfl, rfl, rfl, rfl, rfl, rfl, rfl, rfl, rfl, rfl, rfl, rfl, rfl, rfl, trivial⟩ ?_
    refine PW.apr (K := 29) (K2 := 30) (f := bv) rfl rfl rfl rfl rfl rfl rfl rfl rfl Try.underlying96 info_bool rfl (fun _ => rfl) (by have l1 := hz2 ▸ lof_len (tb x) i; unfold maxLen; show _ + 1 ≤ _; omega) (by have l1 := hz2 ▸ lof_len (tb x) i; show (_ + 1) * 1 ≤ _; omega) rfl fun vq3 => ?_
    refine PW.assign rfl rfl rfl rfl rfl ?_
    refine PW.nil ?_
    refine SX.blockN ?_
    refine SX.then ?_
    refine SC.region ?_
    refine PW.move rfl rfl rfl rfl rfl ?_
    refine PW.q2 (x := .tmp 17) (y := .const (.int .i64 1)) (.int .i64 ((i + 1 : Nat))) rfl rfl rfl rfl rfl (fun ρ W h1 h2 => by exact r_add h1 h2 (by omega) (by omega)) ?_
    refine PW.assign rfl rfl rfl rfl rfl ?_
    refine PW.nil ?_
    refine SX.back (i + 1, vq3, zs ++ ([bi (tb x i)])) ?_ ?_ ?_
    · exact ⟨by omega, by rw [hz2, lof_succ]⟩
    · exact (show n - (i + 1) < n - i by omega)
    · exact ⟨rfl, rfl, rfl, rfl, rfl, rfl, trivial⟩
  · obtain rfl : i = n := by omega
    refine SC.region ?_
    refine PW.move rfl rfl rfl rfl rfl ?_
    refine PW.move rfl rfl rfl rfl rfl ?_
    refine PW.q2 (x := .tmp 14) (y := .tmp 15) (.bool false) rfl rfl rfl rfl rfl (fun ρ W h1 h2 => by exact r_lt h1 h2 (decide_eq_false hk)) ?_
    refine PW.nil ?_
    refine SX.then ?_
    refine SC.cond (t := false) rfl ?_
    refine SC.exit ?_
    refine SX.thenE ?_
    refine SX.thenE ?_
    refine SX.blockE ?_
    refine SX.then ?_
    refine SC.seq ?_
    refine SC.region ?_
    refine PW.move rfl rfl rfl rfl rfl ?_
    refine PW.assign rfl rfl rfl rfl rfl ?_
    refine PW.nil ?_
    refine SX.then ?_
    refine SC.ret ?_
    exact SX.doneRow (s := 4) (K1 := 29) (.inl rfl) rfl rfl rfl hz2 hb rfl

theorem ce_bits : CE 73 := fun args W => by go_simp
theorem k_bits {x : Int} {a n : Nat} (X : bd a x) (ha : a ≤ 100000) (hn : n ≤ 4000000) : CallRow 73 [KJ x, KV (.int .i64 (n : Int))] 4 bv (fun zs => zs = lof (tb x) n) := ⟨ce_bits, fun W us hu => by
  obtain ⟨u, v, rfl, ⟨m, A, l, c, e, h⟩, e2⟩ := all2 hu
  obtain rfl : v = _ := e2
  have hm : m = decide (x < 0) := by obtain ⟨_, _, _, _, _, _, _, hm⟩ := RJ.num h; exact hm
  have hX : KJ x u W := ⟨m, A, l, c, e, h⟩
  subst e
  by_cases hx : x < 0
  · rw [decide_eq_true hx] at hm; subst hm; exact rbits_t hX X ha hn hx
  · rw [decide_eq_false hx] at hm; subst hm; exact rbits_f hX X ha hn hx⟩

set_option maxHeartbeats 3200000 in
set_option maxRecDepth 100000 in
theorem rof_t {z : Int} {A : Option Addr} {c a : Nat} {ls : List Int} {w : World} (rA : RdB w A ls) (hl : ls.length ≤ 4000000) (hz : BitsOf z ls true) (Z : bd a (bflip true z)) (ha : a ≤ 400000) :
    Calls Try.prog 75 #[.slice A ls.length c, .bool true] w (Ret w (KJ z)) := by
  refine calls_sc (l := [.vl (.slice A ls.length c), .vl (.bool true)]) (us := [.slice A ls.length c, .bool true]) 47 Try.func75 rfl Try.ntmps75 (by simp) ⟨rfl, rfl, rfl, rfl, trivial⟩ ?_
  refine SC.seq ?_
  refine SC.region ?_
  refine PW.alloc (BI 31) rfl rfl rfl rfl rfl bJ ?_
  refine PW.nil ?_
  refine SX.then ?_
  refine SC.seq ?_
  refine SC.region ?_
  refine PW.move rfl rfl rfl rfl rfl ?_
  refine PW.qn [(.tmp 8, .slice A ls.length c)] (.int .i64 (ls.length : Int)) rfl rfl rfl ⟨rfl, trivial⟩ (fun ρ W h => by obtain ⟨h1, _⟩ := h; exact r_lenB h1) ?_
  refine PW.q2 (x := .tmp 9) (y := .const (.int .i64 16)) (.int .i64 ((ls.length / 16 : Nat))) rfl rfl rfl rfl rfl (fun ρ W h1 h2 => by exact r_quo h1 h2 (by omega) (by omega) (by decide)) ?_
  refine PW.q2 (x := .tmp 10) (y := .const (.int .i64 1)) (.int .i64 ((ls.length / 16 + 1 : Nat))) rfl rfl rfl rfl rfl (fun ρ W h1 h2 => by exact r_add h1 h2 (by omega) (by omega)) ?_
  refine PW.make (n := (ls.length / 16 + 1)) 47 rfl rfl rfl rfl rfl Try.underlying29 info_i64 (by omega) (by unfold maxLen; omega) fun g1 => ?_
  refine PW.assign rfl rfl rfl rfl rfl ?_
  refine PW.nil ?_
  refine SX.then ?_
  refine SC.seq ?_
  refine SC.seq ?_
  refine SC.region ?_
  refine PW.move rfl rfl rfl rfl rfl ?_
  refine PW.qn [(.tmp 13, .slice A ls.length c)] (.int .i64 (ls.length : Int)) rfl rfl rfl ⟨rfl, trivial⟩ (fun ρ W h => by obtain ⟨h1, _⟩ := h; exact r_lenB h1) ?_
  refine PW.q2 (x := .tmp 14) (y := .const (.int .i64 1)) (.int .i64 ((ls.length : Int) - 1)) rfl rfl rfl rfl rfl (fun ρ W h1 h2 => by exact r_sub h1 h2 (rfl) (by omega)) ?_
  refine PW.assign rfl rfl rfl rfl rfl ?_
  refine PW.nil ?_
  refine SX.then ?_
  refine SC.block ?_
  refine SC.loop (S := Nat × List Int) (fun ⟨t, ds⟩ => [(0, .vl (.slice A ls.length c)), (1, .vl (.bool true)), (4, .nb (BI 31)), (5, .vl (.slice (some ⟨g1, 0, none⟩) (ls.length / 16 + 1) (ls.length / 16 + 1))), (6, .vl (.int .i64 ((t : Int) - 1))), (47, .ro (.slice (some ⟨g1, 0, none⟩) (ls.length / 16 + 1) (ls.length / 16 + 1)) 3 (.int .i64) (ds))]) (fun ⟨t, ds⟩ => OfI (bflip true z) ls.length t ds) (fun ⟨t, ds⟩ => t) (ls.length, List.replicate (ls.length / 16 + 1) 0) (OfI.start hz.high.1 hz.high.2) ⟨rfl, rfl, rfl, rfl, rfl, rfl, trivial⟩ ?_
  rintro ⟨t, ds⟩ hP
  show SC _ _ _ _ [(0, .vl (.slice A ls.length c)), (1, .vl (.bool true)), (4, .nb (BI 31)), (5, .vl (.slice (some ⟨g1, 0, none⟩) (ls.length / 16 + 1) (ls.length / 16 + 1))), (6, .vl (.int .i64 ((t : Int) - 1))), (47, .ro (.slice (some ⟨g1, 0, none⟩) (ls.length / 16 + 1) (ls.length / 16 + 1)) 3 (.int .i64) (ds))] _
  refine SC.seq ?_
  refine SC.seq ?_
  by_cases ht : (0 : Int) ≤ (t : Int) - 1
  · obtain ⟨i, rfl⟩ : ∃ i, t = i + 1 := ⟨t - 1, by omega⟩
    rw [show ((i + 1 : Nat) : Int) - 1 = (i : Int) by omega]
    rw [show ((i + 1 : Nat) : Int) - 1 = (i : Int) by omega] at ht
    have hbn := hP.bound
    have hdl := hP.2.1
    have hil := hP.1
    have hbit : (decide (at0 ls i = 1) != true) = tb (bflip true z) i := by rw [tb_bflip, hz i, if_pos (by omega)]
    refine SC.region ?_
    refine PW.move rfl rfl rfl rfl rfl ?_
    refine PW.q2 (x := .tmp 16) (y := .const (.int .i64 0)) (.bool true) rfl rfl rfl rfl rfl (fun ρ W h1 h2 => by exact r_ge h1 h2 (decide_eq_true ht)) ?_
    refine PW.nil ?_
    refine SX.then ?_
    refine SC.cond (t := true) rfl ?_
    refine SC.skip ?_
    refine SX.then ?_
    refine SC.seq ?_
    refine SC.block ?_
    refine SC.seq ?_
    refine SC.region ?_
    refine PW.move rfl rfl rfl rfl rfl ?_
    refine PW.move rfl rfl rfl rfl rfl ?_
    refine PW.q2 (x := .tmp 21) (y := .const (.int .i64 16)) (.int .i64 ((i / 16 : Nat))) rfl rfl rfl rfl rfl (fun ρ W h1 h2 => by exact r_quo h1 h2 (by omega) (by omega) (by decide)) ?_
    refine PW.q2 (x := .tmp 20) (y := .tmp 22) (.pointer (some ⟨g1, i / 16, none⟩)) rfl rfl rfl rfl rfl (fun ρ W h1 h2 => r_idxI h1 h2 (by first | omega | (simp only [List.length_set]; omega))) ?_
    refine PW.rload (K := 47) (i := i / 16) rfl rfl rfl rfl rfl rfl (by first | omega | (simp only [List.length_set]; omega)) r_l64 ?_
    refine PW.q2 (x := .tmp 24) (y := .const (.int .i64 2)) (.int .i64 (at0 ds (i / 16) * 2)) rfl rfl rfl rfl rfl (fun ρ W h1 h2 => by exact r_mul h1 h2 (rfl) (by omega)) ?_
    refine PW.q2 (x := .tmp 20) (y := .tmp 22) (.pointer (some ⟨g1, i / 16, none⟩)) rfl rfl rfl rfl rfl (fun ρ W h1 h2 => r_idxI h1 h2 (by first | omega | (simp only [List.length_set]; omega))) ?_
    refine PW.rstore (K := 47) (x := .tmp 25) (i := i / 16) (y := (at0 ds (i / 16) * 2)) rfl rfl rfl rfl rfl (by first | omega | (simp only [List.length_set]; omega)) rfl rfl r_s64 ?_
    refine PW.nil ?_
    refine SX.then ?_
    refine SC.seq ?_
    by_cases hb : tb (bflip true z) i = true
    · refine SC.region ?_
      refine PW.move rfl rfl rfl rfl rfl ?_
      refine PW.move rfl rfl rfl rfl rfl ?_
      refine PW.q2 (x := .tmp 27) (y := .tmp 28) (.pointer (padd A i)) rfl rfl rfl rfl rfl (fun ρ W h1 h2 => r_idxRB rA h1 h2 (by omega)) ?_
      refine PW.igetB (i := i) rfl rfl rfl rfl rfl rfl rA (by omega) r_lBv ?_
      refine PW.move rfl rfl rfl rfl rfl ?_
      refine PW.q2 (x := .tmp 30) (y := .tmp 31) (.bool true) rfl rfl rfl rfl rfl (fun ρ W h1 h2 => by exact r_neB h1 h2 (by rw [hbit]; exact hb)) ?_
      refine PW.nil ?_
      refine SX.then ?_
      refine SC.cond (t := true) rfl ?_
      refine SC.region ?_
      refine PW.move rfl rfl rfl rfl rfl ?_
      refine PW.move rfl rfl rfl rfl rfl ?_
      refine PW.q2 (x := .tmp 34) (y := .const (.int .i64 16)) (.int .i64 ((i / 16 : Nat))) rfl rfl rfl rfl rfl (fun ρ W h1 h2 => by exact r_quo h1 h2 (by omega) (by omega) (by decide)) ?_
      refine PW.q2 (x := .tmp 33) (y := .tmp 35) (.pointer (some ⟨g1, i / 16, none⟩)) rfl rfl rfl rfl rfl (fun ρ W h1 h2 => r_idxI h1 h2 (by first | omega | (simp only [List.length_set]; omega))) ?_
      refine PW.rload (K := 47) (i := i / 16) rfl rfl rfl rfl rfl rfl (by first | omega | (simp only [List.length_set]; omega)) r_l64 ?_
      refine PW.q2 (x := .tmp 37) (y := .const (.int .i64 1)) (.int .i64 (at0 ds (i / 16) * 2 + 1)) rfl rfl rfl rfl rfl (fun ρ W h1 h2 => by exact r_add h1 h2 (by rw [Ma.at0_put_self _ (by omega)]) (by omega)) ?_
      refine PW.q2 (x := .tmp 33) (y := .tmp 35) (.pointer (some ⟨g1, i / 16, none⟩)) rfl rfl rfl rfl rfl (fun ρ W h1 h2 => r_idxI h1 h2 (by first | omega | (simp only [List.length_set]; omega))) ?_
      refine PW.rstore (K := 47) (x := .tmp 38) (i := i / 16) (y := (at0 ds (i / 16) * 2 + 1)) rfl rfl rfl rfl rfl (by first | omega | (simp only [List.length_set]; omega)) rfl rfl r_s64 ?_
      refine PW.nil ?_
      refine SX.blockN ?_
      refine SX.then ?_
      refine SC.region ?_
      refine PW.move rfl rfl rfl rfl rfl ?_
      refine PW.q2 (x := .tmp 18) (y := .const (.int .i64 1)) (.int .i64 ((i : Int) - 1)) rfl rfl rfl rfl rfl (fun ρ W h1 h2 => by exact r_sub h1 h2 (rfl) (by omega)) ?_
      refine PW.assign rfl rfl rfl rfl rfl ?_
      refine PW.nil ?_
      refine SX.back (i, (ds.set (i / 16) (at0 ds (i / 16) * 2)).set (i / 16) (at0 ds (i / 16) * 2 + 1)) ?_ ?_ ?_
      · exact (by rw [List.set_set]; exact hP.step (by rw [hb]; rfl))
      · exact (show i < i + 1 by omega)
      · exact ⟨rfl, rfl, rfl, rfl, rfl, rfl, trivial⟩
    · refine SC.region ?_
      refine PW.move rfl rfl rfl rfl rfl ?_
      refine PW.move rfl rfl rfl rfl rfl ?_
      refine PW.q2 (x := .tmp 27) (y := .tmp 28) (.pointer (padd A i)) rfl rfl rfl rfl rfl (fun ρ W h1 h2 => r_idxRB rA h1 h2 (by omega)) ?_
      refine PW.igetB (i := i) rfl rfl rfl rfl rfl rfl rA (by omega) r_lBv ?_
      refine PW.move rfl rfl rfl rfl rfl ?_
      refine PW.q2 (x := .tmp 30) (y := .tmp 31) (.bool false) rfl rfl rfl rfl rfl (fun ρ W h1 h2 => by exact r_neB h1 h2 (by rw [hbit]; exact (by simpa using hb))) ?_
      refine PW.nil ?_
      refine SX.then ?_
      refine SC.cond (t := false) rfl ?_
      refine SC.skip ?_
      refine SX.blockN ?_
      refine SX.then ?_
      refine SC.region ?_
      refine PW.move rfl rfl rfl rfl rfl ?_
      refine PW.q2 (x := .tmp 18) (y := .const (.int .i64 1)) (.int .i64 ((i : Int) - 1)) rfl rfl rfl rfl rfl (fun ρ W h1 h2 => by exact r_sub h1 h2 (rfl) (by omega)) ?_
      refine PW.assign rfl rfl rfl rfl rfl ?_
      refine PW.nil ?_
      refine SX.back (i, ds.set (i / 16) (at0 ds (i / 16) * 2)) ?_ ?_ ?_
      · exact (hP.step (by rw [show tb (bflip true z) i = false by simpa using hb]; simp))
      · exact (show i < i + 1 by omega)
      · exact ⟨rfl, rfl, rfl, rfl, rfl, rfl, trivial⟩
  · obtain rfl : t = 0 := by omega
    refine SC.region ?_
    refine PW.move rfl rfl rfl rfl rfl ?_
    refine PW.q2 (x := .tmp 16) (y := .const (.int .i64 0)) (.bool false) rfl rfl rfl rfl rfl (fun ρ W h1 h2 => by exact r_ge h1 h2 (decide_eq_false ht)) ?_
    refine PW.nil ?_
    refine SX.then ?_
    refine SC.cond (t := false) rfl ?_
    refine SC.exit ?_
    refine SX.thenE ?_
    refine SX.thenE ?_
    refine SX.blockE ?_
    refine SX.then ?_
    refine SC.seq ?_
    refine SC.region ?_
    refine PW.move rfl rfl rfl rfl rfl ?_
    refine PW.callG (r := .kw (KJ (bflip true z))) ce_rmade rfl rfl rfl rfl rfl (KJ.st _) rfl (fun a W hf => by have h2 := hf.vl (s := 40) rfl; have own : OwF W _ _ (.int .i64) (.slice (some ⟨g1, 0, none⟩) (ls.length / 16 + 1) (ls.length / 16 + 1)) ds := hf.ho 47 _ rfl; obtain ⟨A4, c4, e4, hc4, rd4⟩ := Own.rd own; show Calls Try.prog _ #[.bool false, a.tmps.getD 40 undef] W _; rw [h2, e4, ← hP.fin hz.high.1 hz.high.2]; exact rmade_c (n := false) rfl rd4 hc4 hP.dg) ?_
    refine PW.alloc (BI 31) rfl rfl rfl rfl rfl bJ ?_
    refine PW.store (x := .tmp 41) (r := .kw (KJ (bflip true z))) rfl rfl rfl rfl rfl rfl sh_J ?_
    refine PW.nil ?_
    refine SX.then ?_
    refine SC.seq ?_
    refine SC.seq ?_
    refine SC.region ?_
    refine PW.move rfl rfl rfl rfl rfl ?_
    refine PW.nil ?_
    refine SX.then ?_
    refine SC.cond (t := true) rfl ?_
    refine SC.seq ?_
    refine SC.dx [.val 43 (.kw (KJ (-1))), .val 44 (.kw (KJ (bflip true z))), .val 45 (.kw (KJ (z))), .put 4 (BI 31) (.kw (KJ (z)))] [([], []), ([], [7]), ([0, 1], []), ([2], [4])] rfl (by kernel_rfl) (by kernel_rfl) (by kernel_rfl) rfl ⟨?_, ?_, ?_, ?_, trivial⟩ ?_
    · exact DX.call (r := .kw (KJ (-1))) rfl rfl rfl rfl rfl rfl (KJ.st _) rfl (k_jnew (by decide))
    · exact DX.load rfl rfl rfl rfl rfl rfl
    · exact DX.call (r := .kw (KJ (z))) rfl rfl rfl rfl rfl rfl (KJ.st _) rfl ((k_jsub (bd.lit (by decide) : bd 1 (-1)) Z (by omega) (by omega)).toJ (show -1 - (-1 - z) = z by omega))
    · exact DX.store (x := .tmp 45) (r := .kw (KJ (z))) rfl rfl rfl rfl rfl rfl sh_J
    refine SX.then ?_
    refine SC.ret ?_
    refine SX.thenR ?_
    exact SX.doneC (s := 4) (.inl rfl) rfl rfl rfl

set_option maxHeartbeats 3200000 in
set_option maxRecDepth 100000 in
theorem rof_f {z : Int} {A : Option Addr} {c a : Nat} {ls : List Int} {w : World} (rA : RdB w A ls) (hl : ls.length ≤ 4000000) (hz : BitsOf z ls false) (Z : bd a (bflip false z)) (ha : a ≤ 400000) :
    Calls Try.prog 75 #[.slice A ls.length c, .bool false] w (Ret w (KJ z)) := by
  refine calls_sc (l := [.vl (.slice A ls.length c), .vl (.bool false)]) (us := [.slice A ls.length c, .bool false]) 47 Try.func75 rfl Try.ntmps75 (by simp) ⟨rfl, rfl, rfl, rfl, trivial⟩ ?_
  refine SC.seq ?_
  refine SC.region ?_
  refine PW.alloc (BI 31) rfl rfl rfl rfl rfl bJ ?_
  refine PW.nil ?_
  refine SX.then ?_
  refine SC.seq ?_
  refine SC.region ?_
  refine PW.move rfl rfl rfl rfl rfl ?_
  refine PW.qn [(.tmp 8, .slice A ls.length c)] (.int .i64 (ls.length : Int)) rfl rfl rfl ⟨rfl, trivial⟩ (fun ρ W h => by obtain ⟨h1, _⟩ := h; exact r_lenB h1) ?_
  refine PW.q2 (x := .tmp 9) (y := .const (.int .i64 16)) (.int .i64 ((ls.length / 16 : Nat))) rfl rfl rfl rfl rfl (fun ρ W h1 h2 => by exact r_quo h1 h2 (by omega) (by omega) (by decide)) ?_
  refine PW.q2 (x := .tmp 10) (y := .const (.int .i64 1)) (.int .i64 ((ls.length / 16 + 1 : Nat))) rfl rfl rfl rfl rfl (fun ρ W h1 h2 => by exact r_add h1 h2 (by omega) (by omega)) ?_
  refine PW.make (n := (ls.length / 16 + 1)) 47 rfl rfl rfl rfl rfl Try.underlying29 info_i64 (by omega) (by unfold maxLen; omega) fun g1 => ?_
  refine PW.assign rfl rfl rfl rfl rfl ?_
  refine PW.nil ?_
  refine SX.then ?_
  refine SC.seq ?_
  refine SC.seq ?_
  refine SC.region ?_
  refine PW.move rfl rfl rfl rfl rfl ?_
  refine PW.qn [(.tmp 13, .slice A ls.length c)] (.int .i64 (ls.length : Int)) rfl rfl rfl ⟨rfl, trivial⟩ (fun ρ W h => by obtain ⟨h1, _⟩ := h; exact r_lenB h1) ?_
  refine PW.q2 (x := .tmp 14) (y := .const (.int .i64 1)) (.int .i64 ((ls.length : Int) - 1)) rfl rfl rfl rfl rfl (fun ρ W h1 h2 => by exact r_sub h1 h2 (rfl) (by omega)) ?_
  refine PW.assign rfl rfl rfl rfl rfl ?_
  refine PW.nil ?_
  refine SX.then ?_
  refine SC.block ?_
  refine SC.loop (S := Nat × List Int) (fun ⟨t, ds⟩ => [(0, .vl (.slice A ls.length c)), (1, .vl (.bool false)), (4, .nb (BI 31)), (5, .vl (.slice (some ⟨g1, 0, none⟩) (ls.length / 16 + 1) (ls.length / 16 + 1))), (6, .vl (.int .i64 ((t : Int) - 1))), (47, .ro (.slice (some ⟨g1, 0, none⟩) (ls.length / 16 + 1) (ls.length / 16 + 1)) 3 (.int .i64) (ds))]) (fun ⟨t, ds⟩ => OfI (bflip false z) ls.length t ds) (fun ⟨t, ds⟩ => t) (ls.length, List.replicate (ls.length / 16 + 1) 0) (OfI.start hz.high.1 hz.high.2) ⟨rfl, rfl, rfl, rfl, rfl, rfl, trivial⟩ ?_
  rintro ⟨t, ds⟩ hP
  show SC _ _ _ _ [(0, .vl (.slice A ls.length c)), (1, .vl (.bool false)), (4, .nb (BI 31)), (5, .vl (.slice (some ⟨g1, 0, none⟩) (ls.length / 16 + 1) (ls.length / 16 + 1))), (6, .vl (.int .i64 ((t : Int) - 1))), (47, .ro (.slice (some ⟨g1, 0, none⟩) (ls.length / 16 + 1) (ls.length / 16 + 1)) 3 (.int .i64) (ds))] _
  refine SC.seq ?_
  refine SC.seq ?_
  by_cases ht : (0 : Int) ≤ (t : Int) - 1
  · obtain ⟨i, rfl⟩ : ∃ i, t = i + 1 := ⟨t - 1, by omega⟩
    rw [show ((i + 1 : Nat) : Int) - 1 = (i : Int) by omega]
    rw [show ((i + 1 : Nat) : Int) - 1 = (i : Int) by omega] at ht
    have hbn := hP.bound
    have hdl := hP.2.1
    have hil := hP.1
    have hbit : (decide (at0 ls i = 1) != false) = tb (bflip false z) i := by rw [tb_bflip, hz i, if_pos (by omega)]
    refine SC.region ?_
    refine PW.move rfl rfl rfl rfl rfl ?_
    refine PW.q2 (x := .tmp 16) (y := .const (.int .i64 0)) (.bool true) rfl rfl rfl rfl rfl (fun ρ W h1 h2 => by exact r_ge h1 h2 (decide_eq_true ht)) ?_
    refine PW.nil ?_
    refine SX.then ?_
    refine SC.cond (t := true) rfl ?_
    refine SC.skip ?_
    refine SX.then ?_
    refine SC.seq ?_
    refine SC.block ?_
    refine SC.seq ?_
    refine SC.region ?_
    refine PW.move rfl rfl rfl rfl rfl ?_
    refine PW.move rfl rfl rfl rfl rfl ?_
    refine PW.q2 (x := .tmp 21) (y := .const (.int .i64 16)) (.int .i64 ((i / 16 : Nat))) rfl rfl rfl rfl rfl (fun ρ W h1 h2 => by exact r_quo h1 h2 (by omega) (by omega) (by decide)) ?_
    refine PW.q2 (x := .tmp 20) (y := .tmp 22) (.pointer (some ⟨g1, i / 16, none⟩)) rfl rfl rfl rfl rfl (fun ρ W h1 h2 => r_idxI h1 h2 (by first | omega | (simp only [List.length_set]; omega))) ?_
    refine PW.rload (K := 47) (i := i / 16) rfl rfl rfl rfl rfl rfl (by first | omega | (simp only [List.length_set]; omega)) r_l64 ?_
    refine PW.q2 (x := .tmp 24) (y := .const (.int .i64 2)) (.int .i64 (at0 ds (i / 16) * 2)) rfl rfl rfl rfl rfl (fun ρ W h1 h2 => by exact r_mul h1 h2 (rfl) (by omega)) ?_
    refine PW.q2 (x := .tmp 20) (y := .tmp 22) (.pointer (some ⟨g1, i / 16, none⟩)) rfl rfl rfl rfl rfl (fun ρ W h1 h2 => r_idxI h1 h2 (by first | omega | (simp only [List.length_set]; omega))) ?_
    refine PW.rstore (K := 47) (x := .tmp 25) (i := i / 16) (y := (at0 ds (i / 16) * 2)) rfl rfl rfl rfl rfl (by first | omega | (simp only [List.length_set]; omega)) rfl rfl r_s64 ?_
    refine PW.nil ?_
    refine SX.then ?_
    refine SC.seq ?_
    by_cases hb : tb (bflip false z) i = true
    · refine SC.region ?_
      refine PW.move rfl rfl rfl rfl rfl ?_
      refine PW.move rfl rfl rfl rfl rfl ?_
      refine PW.q2 (x := .tmp 27) (y := .tmp 28) (.pointer (padd A i)) rfl rfl rfl rfl rfl (fun ρ W h1 h2 => r_idxRB rA h1 h2 (by omega)) ?_
      refine PW.igetB (i := i) rfl rfl rfl rfl rfl rfl rA (by omega) r_lBv ?_
      refine PW.move rfl rfl rfl rfl rfl ?_
      refine PW.q2 (x := .tmp 30) (y := .tmp 31) (.bool true) rfl rfl rfl rfl rfl (fun ρ W h1 h2 => by exact r_neB h1 h2 (by rw [hbit]; exact hb)) ?_
      refine PW.nil ?_
      refine SX.then ?_
      refine SC.cond (t := true) rfl ?_
      refine SC.region ?_
      refine PW.move rfl rfl rfl rfl rfl ?_
      refine PW.move rfl rfl rfl rfl rfl ?_
      refine PW.q2 (x := .tmp 34) (y := .const (.int .i64 16)) (.int .i64 ((i / 16 : Nat))) rfl rfl rfl rfl rfl (fun ρ W h1 h2 => by exact r_quo h1 h2 (by omega) (by omega) (by decide)) ?_
      refine PW.q2 (x := .tmp 33) (y := .tmp 35) (.pointer (some ⟨g1, i / 16, none⟩)) rfl rfl rfl rfl rfl (fun ρ W h1 h2 => r_idxI h1 h2 (by first | omega | (simp only [List.length_set]; omega))) ?_
      refine PW.rload (K := 47) (i := i / 16) rfl rfl rfl rfl rfl rfl (by first | omega | (simp only [List.length_set]; omega)) r_l64 ?_
      refine PW.q2 (x := .tmp 37) (y := .const (.int .i64 1)) (.int .i64 (at0 ds (i / 16) * 2 + 1)) rfl rfl rfl rfl rfl (fun ρ W h1 h2 => by exact r_add h1 h2 (by rw [Ma.at0_put_self _ (by omega)]) (by omega)) ?_
      refine PW.q2 (x := .tmp 33) (y := .tmp 35) (.pointer (some ⟨g1, i / 16, none⟩)) rfl rfl rfl rfl rfl (fun ρ W h1 h2 => r_idxI h1 h2 (by first | omega | (simp only [List.length_set]; omega))) ?_
      refine PW.rstore (K := 47) (x := .tmp 38) (i := i / 16) (y := (at0 ds (i / 16) * 2 + 1)) rfl rfl rfl rfl rfl (by first | omega | (simp only [List.length_set]; omega)) rfl rfl r_s64 ?_
      refine PW.nil ?_
      refine SX.blockN ?_
      refine SX.then ?_
      refine SC.region ?_
      refine PW.move rfl rfl rfl rfl rfl ?_
      refine PW.q2 (x := .tmp 18) (y := .const (.int .i64 1)) (.int .i64 ((i : Int) - 1)) rfl rfl rfl rfl rfl (fun ρ W h1 h2 => by exact r_sub h1 h2 (rfl) (by omega)) ?_
      refine PW.assign rfl rfl rfl rfl rfl ?_
      refine PW.nil ?_
      refine SX.back (i, (ds.set (i / 16) (at0 ds (i / 16) * 2)).set (i / 16) (at0 ds (i / 16) * 2 + 1)) ?_ ?_ ?_
      · exact (by rw [List.set_set]; exact hP.step (by rw [hb]; rfl))
      · exact (show i < i + 1 by omega)
      · exact ⟨rfl, rfl, rfl, rfl, rfl, rfl, trivial⟩
    · refine SC.region ?_
      refine PW.move rfl rfl rfl rfl rfl ?_
      refine PW.move rfl rfl rfl rfl rfl ?_
      refine PW.q2 (x := .tmp 27) (y := .tmp 28) (.pointer (padd A i)) rfl rfl rfl rfl rfl (fun ρ W h1 h2 => r_idxRB rA h1 h2 (by omega)) ?_
      refine PW.igetB (i := i) rfl rfl rfl rfl rfl rfl rA (by omega) r_lBv ?_
      refine PW.move rfl rfl rfl rfl rfl ?_
      refine PW.q2 (x := .tmp 30) (y := .tmp 31) (.bool false) rfl rfl rfl rfl rfl (fun ρ W h1 h2 => by exact r_neB h1 h2 (by rw [hbit]; exact (by simpa using hb))) ?_
      refine PW.nil ?_
      refine SX.then ?_
      refine SC.cond (t := false) rfl ?_
      refine SC.skip ?_
      refine SX.blockN ?_
      refine SX.then ?_
      refine SC.region ?_
      refine PW.move rfl rfl rfl rfl rfl ?_
      refine PW.q2 (x := .tmp 18) (y := .const (.int .i64 1)) (.int .i64 ((i : Int) - 1)) rfl rfl rfl rfl rfl (fun ρ W h1 h2 => by exact r_sub h1 h2 (rfl) (by omega)) ?_
      refine PW.assign rfl rfl rfl rfl rfl ?_
      refine PW.nil ?_
      refine SX.back (i, ds.set (i / 16) (at0 ds (i / 16) * 2)) ?_ ?_ ?_
      · exact (hP.step (by rw [show tb (bflip false z) i = false by simpa using hb]; simp))
      · exact (show i < i + 1 by omega)
      · exact ⟨rfl, rfl, rfl, rfl, rfl, rfl, trivial⟩
  · obtain rfl : t = 0 := by omega
    refine SC.region ?_
    refine PW.move rfl rfl rfl rfl rfl ?_
    refine PW.q2 (x := .tmp 16) (y := .const (.int .i64 0)) (.bool false) rfl rfl rfl rfl rfl (fun ρ W h1 h2 => by exact r_ge h1 h2 (decide_eq_false ht)) ?_
    refine PW.nil ?_
    refine SX.then ?_
    refine SC.cond (t := false) rfl ?_
    refine SC.exit ?_
    refine SX.thenE ?_
    refine SX.thenE ?_
    refine SX.blockE ?_
    refine SX.then ?_
    refine SC.seq ?_
    refine SC.region ?_
    refine PW.move rfl rfl rfl rfl rfl ?_
    refine PW.callG (r := .kw (KJ (bflip false z))) ce_rmade rfl rfl rfl rfl rfl (KJ.st _) rfl (fun a W hf => by have h2 := hf.vl (s := 40) rfl; have own : OwF W _ _ (.int .i64) (.slice (some ⟨g1, 0, none⟩) (ls.length / 16 + 1) (ls.length / 16 + 1)) ds := hf.ho 47 _ rfl; obtain ⟨A4, c4, e4, hc4, rd4⟩ := Own.rd own; show Calls Try.prog _ #[.bool false, a.tmps.getD 40 undef] W _; rw [h2, e4, ← hP.fin hz.high.1 hz.high.2]; exact rmade_c (n := false) rfl rd4 hc4 hP.dg) ?_
    refine PW.alloc (BI 31) rfl rfl rfl rfl rfl bJ ?_
    refine PW.store (x := .tmp 41) (r := .kw (KJ (bflip false z))) rfl rfl rfl rfl rfl rfl sh_J ?_
    refine PW.nil ?_
    refine SX.then ?_
    refine SC.seq ?_
    refine SC.seq ?_
    refine SC.region ?_
    refine PW.move rfl rfl rfl rfl rfl ?_
    refine PW.nil ?_
    refine SX.then ?_
    refine SC.cond (t := false) rfl ?_
    refine SC.skip ?_
    refine SX.then ?_
    refine SC.seq ?_
    refine SC.region ?_
    refine PW.load rfl rfl rfl rfl rfl rfl ?_
    refine PW.store (x := .tmp 46) (r := .kw (KJ (bflip false z))) rfl rfl rfl rfl rfl rfl sh_J ?_
    refine PW.nil ?_
    refine SX.then ?_
    refine SC.ret ?_
    exact SX.doneC (s := 4) (.inl rfl) rfl rfl rfl

theorem ce_of2 : CE 75 := fun args W => by go_simp
theorem bd_high {z : Int} {n m : Nat} (h0 : 0 ≤ z) (h1 : z < 2 ^ n) (hm : n ≤ 32 * m) : bd m z := by
  have := pow_le (b := 2) (by decide) hm
  rw [bd2]
  omega
theorem rof_c {z : Int} {A : Option Addr} {c : Nat} {ls : List Int} {g : Bool} {w : World} (rA : RdB w A ls) (hl : ls.length ≤ 4000000) (hz : BitsOf z ls g) : Calls Try.prog 75 #[.slice A ls.length c, .bool g] w (Ret w (KJ z)) := by
  cases g
  · exact rof_f rA hl hz (bd_high (m := ls.length / 32 + 1) hz.high.1 hz.high.2 (by omega)) (by omega)
  · exact rof_t rA hl hz (bd_high (m := ls.length / 32 + 1) hz.high.1 hz.high.2 (by omega)) (by omega)

end Go.Proofs.Ytcgkgcciogibkaa.Sy
