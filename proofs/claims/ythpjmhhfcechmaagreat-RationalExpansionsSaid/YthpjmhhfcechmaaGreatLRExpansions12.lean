/- Parts Rbt, Rbs, Rcj, Req, Rdx, C6a, Sri, Rap, in one file. -/
import Derived.Test.YthpjmhhfcechmaaGreatLRExpansions11
import Derived.Test.YthpjmhhfcechmaaGreatLRExpansions3
/- The reference's Between with closed ends, by rules. -/
set_option linter.unusedVariables false
set_option linter.unusedSimpArgs false
namespace Go.Proofs.YthpjmhhfcechmaaGreat.Sy
open Go Go.RowKit Ma
theorem cmpq_ltm {x y : Rat} (h : x < y) : cmpq x y = -1 := if_pos h
theorem cmpq_nltm {x y : Rat} (h : ¬ x < y) : ¬ cmpq x y < 0 := fun hc => by
 unfold cmpq at hc
 rw [if_neg h] at hc
 split at hc <;> omega
theorem cmpq_eqm {x y : Rat} (hle : x ≤ y) (h : ¬ x < y) : cmpq x y = 0 := by
 unfold cmpq
 rw [if_neg h, if_pos (Rat.le_antisymm hle (Rat.not_lt.1 h))]
theorem cmpq_eq0 {x y : Rat} (h : cmpq x y = 0) : x = y := by
 unfold cmpq at h
 split at h
 ·omega
 ·split at h
  ·assumption
  ·omega
theorem ce_btw : CE 103 := fun args W => by go_simp
set_option maxHeartbeats 3200000 in
set_option maxRecDepth 100000 in
theorem k_btw_whole {x y : Rat} {m : Nat} (X : bq m x) (Y : bq m y) (hm : m ≤ 1000) (hd : x.den = 1) (hle : ((flq x : Int) : Rat) ≤ y) : CallOk 103 [KR3 (x).num ((x).den : Int), KV (.bool false), KR3 (y).num ((y).den : Int), KV (.bool false)] (KR3 (((flq x : Int) : Rat)).num ((((flq x : Int) : Rat)).den : Int)) := by
 refine CallOk.enter (l := [.kw (KR3 (x).num ((x).den : Int)), .vl (.bool false), .kw (KR3 (y).num ((y).den : Int)), .vl (.bool false)]) 111 ce_btw Tryz.func103 rfl Tryz.ntmps103 (by simp) ⟨(KR3.st _ _), rfl, (KV.st _), rfl, (KR3.st _ _), rfl, (KV.st _), rfl, trivial⟩ fun w => ?_
 refine SC.seq (SC.region ?_)
 refine PW.box (x := .tmp 0) (r := .kw (KR3 (x).num ((x).den : Int))) (BQ 43) rfl rfl rfl rfl rfl bQJ rfl sh_R3 ?_
 refine PW.box (x := .tmp 2) (r := .kw (KR3 (y).num ((y).den : Int))) (BQ 43) rfl rfl rfl rfl rfl bQJ rfl sh_R3 ?_
 refine PW.alloc (BQ 43) rfl rfl rfl rfl rfl bQJ ?_
 refine PW.nil (SX.then (SC.seq (SC.region ?_)))
 refine PW.load rfl rfl rfl rfl rfl rfl ?_
 refine PW.call (r := .kw (KJ (flq x))) rfl rfl rfl rfl rfl rfl (KJ.st _) rfl (k_jrfloor X (by omega)) ?_
 refine PW.alloc (BI 34) rfl rfl rfl rfl rfl bJ ?_
 refine PW.store (x := .tmp 22) (r := .kw (KJ (flq x))) rfl rfl rfl rfl rfl rfl sh_J ?_
 refine PW.nil (SX.then (SC.seq (SC.region ?_)))
 refine PW.load rfl rfl rfl rfl rfl rfl ?_
 refine PW.call (r := .kw (KR3 (((flq x : Int) : Rat)).num ((((flq x : Int) : Rat)).den : Int))) rfl rfl rfl rfl rfl rfl (KR3.st _ _) rfl (k_jrof) ?_
 refine PW.alloc (BQ 43) rfl rfl rfl rfl rfl bQJ ?_
 refine PW.store (x := .tmp 24) (r := .kw (KR3 (((flq x : Int) : Rat)).num ((((flq x : Int) : Rat)).den : Int))) rfl rfl rfl rfl rfl rfl sh_R3 ?_
 refine PW.nil (SX.then (SC.seq (SC.seq (SC.region ?_))))
 refine PW.load rfl rfl rfl rfl rfl rfl ?_
 refine PW.call (r := .vl (.bool true)) rfl rfl rfl rfl rfl rfl (KV.st _) rfl (callK (k_jrwhole X (by omega)) (by rw [decide_eq_true hd]; rfl)) ?_
 refine PW.q1 (x := .tmp 26) (.bool false) rfl rfl rfl rfl (fun ρ W h1 => by go_simp) ?_
 refine PW.move rfl rfl rfl rfl rfl (PW.move rfl rfl rfl rfl rfl ?_)
 refine PW.pick (t := false) rfl rfl rfl rfl rfl rfl ?_
 refine PW.nil (SX.then (SC.cond (t := false) rfl (SC.skip (SX.then (SC.seq (SC.region ?_))))))
 refine PW.load rfl rfl rfl rfl rfl rfl ?_
 refine PW.load rfl rfl rfl rfl rfl rfl ?_
 refine PW.call (r := .vl (.int .i64 (cmpq (((flq x : Int) : Rat)) y))) rfl rfl rfl rfl rfl rfl (KV.st _) rfl (k_jrcmp (bq.int1 ((bq.fl X))) Y (by omega) (by omega)) ?_
 refine PW.assign rfl rfl rfl rfl rfl (PW.nil (SX.then (SC.seq (SC.seq ?_))))
 by_cases hl : ((flq x : Int) : Rat) < y
 ·refine SC.region ?_
  refine PW.move rfl rfl rfl rfl rfl ?_
  refine PW.q2 (x := .tmp 38) (y := .const (.int .i64 0)) (.bool true) rfl rfl rfl rfl rfl (fun ρ W h1 h2 => by exact r_lt h1 h2 (decide_eq_true (by rw [cmpq_ltm hl]; decide))) ?_
  refine PW.move rfl rfl rfl rfl rfl ?_
  refine PW.skip rfl rfl rfl ?_
  refine PW.skip rfl rfl rfl ?_
  refine PW.skip rfl rfl rfl ?_
  refine PW.skip rfl rfl rfl ?_
  refine PW.skip rfl rfl rfl ?_
  refine PW.skip rfl rfl rfl ?_
  refine PW.pick (t := true) rfl rfl rfl rfl rfl rfl ?_
  refine PW.nil (SX.then (SC.cond (t := true) rfl (SC.seq (SC.region ?_))))
  refine PW.load rfl rfl rfl rfl rfl rfl ?_
  refine PW.store (x := .tmp 48) (r := .kw (KR3 (((flq x : Int) : Rat)).num ((((flq x : Int) : Rat)).den : Int))) rfl rfl rfl rfl rfl rfl sh_R3 ?_
  refine PW.nil (SX.then (SC.ret (SX.thenR ?_)))
  exact SX.doneC (s := 8) (.inl rfl) rfl rfl rfl
 ·refine SC.region ?_
  refine PW.move rfl rfl rfl rfl rfl ?_
  refine PW.q2 (x := .tmp 38) (y := .const (.int .i64 0)) (.bool false) rfl rfl rfl rfl rfl (fun ρ W h1 h2 => by exact r_lt h1 h2 (decide_eq_false (cmpq_nltm hl))) ?_
  refine PW.move rfl rfl rfl rfl rfl (PW.move rfl rfl rfl rfl rfl ?_)
  refine PW.q2 (x := .tmp 41) (y := .const (.int .i64 0)) (.bool true) rfl rfl rfl rfl rfl (fun ρ W h1 h2 => by exact r_eqT h1 h2 (cmpq_eqm hle hl)) ?_
  refine PW.move rfl rfl rfl rfl rfl (PW.move rfl rfl rfl rfl rfl ?_)
  refine PW.q1 (x := .tmp 44) (.bool true) rfl rfl rfl rfl (fun ρ W h1 => by go_simp) ?_
  refine PW.pick (t := true) rfl rfl rfl rfl rfl rfl ?_
  refine PW.pick (t := false) rfl rfl rfl rfl rfl rfl ?_
  refine PW.nil (SX.then (SC.cond (t := true) rfl (SC.seq (SC.region ?_))))
  refine PW.load rfl rfl rfl rfl rfl rfl ?_
  refine PW.store (x := .tmp 48) (r := .kw (KR3 (((flq x : Int) : Rat)).num ((((flq x : Int) : Rat)).den : Int))) rfl rfl rfl rfl rfl rfl sh_R3 ?_
  refine PW.nil (SX.then (SC.ret (SX.thenR ?_)))
  exact SX.doneC (s := 8) (.inl rfl) rfl rfl rfl
set_option maxHeartbeats 3200000 in
set_option maxRecDepth 100000 in
theorem k_btw_next {x y : Rat} {m : Nat} (X : bq m x) (Y : bq m y) (hm : m ≤ 1000) (hd : x.den ≠ 1) (hle : ((flq x + 1 : Int) : Rat) ≤ y) : CallOk 103 [KR3 (x).num ((x).den : Int), KV (.bool false), KR3 (y).num ((y).den : Int), KV (.bool false)] (KR3 (((flq x + 1 : Int) : Rat)).num ((((flq x + 1 : Int) : Rat)).den : Int)) := by
 refine CallOk.enter (l := [.kw (KR3 (x).num ((x).den : Int)), .vl (.bool false), .kw (KR3 (y).num ((y).den : Int)), .vl (.bool false)]) 111 ce_btw Tryz.func103 rfl Tryz.ntmps103 (by simp) ⟨(KR3.st _ _), rfl, (KV.st _), rfl, (KR3.st _ _), rfl, (KV.st _), rfl, trivial⟩ fun w => ?_
 refine SC.seq (SC.region ?_)
 refine PW.box (x := .tmp 0) (r := .kw (KR3 (x).num ((x).den : Int))) (BQ 43) rfl rfl rfl rfl rfl bQJ rfl sh_R3 ?_
 refine PW.box (x := .tmp 2) (r := .kw (KR3 (y).num ((y).den : Int))) (BQ 43) rfl rfl rfl rfl rfl bQJ rfl sh_R3 ?_
 refine PW.alloc (BQ 43) rfl rfl rfl rfl rfl bQJ ?_
 refine PW.nil (SX.then (SC.seq (SC.region ?_)))
 refine PW.load rfl rfl rfl rfl rfl rfl ?_
 refine PW.call (r := .kw (KJ (flq x))) rfl rfl rfl rfl rfl rfl (KJ.st _) rfl (k_jrfloor X (by omega)) ?_
 refine PW.alloc (BI 34) rfl rfl rfl rfl rfl bJ ?_
 refine PW.store (x := .tmp 22) (r := .kw (KJ (flq x))) rfl rfl rfl rfl rfl rfl sh_J ?_
 refine PW.nil (SX.then (SC.seq (SC.region ?_)))
 refine PW.load rfl rfl rfl rfl rfl rfl ?_
 refine PW.call (r := .kw (KR3 (((flq x : Int) : Rat)).num ((((flq x : Int) : Rat)).den : Int))) rfl rfl rfl rfl rfl rfl (KR3.st _ _) rfl (k_jrof) ?_
 refine PW.alloc (BQ 43) rfl rfl rfl rfl rfl bQJ ?_
 refine PW.store (x := .tmp 24) (r := .kw (KR3 (((flq x : Int) : Rat)).num ((((flq x : Int) : Rat)).den : Int))) rfl rfl rfl rfl rfl rfl sh_R3 ?_
 refine PW.nil (SX.then (SC.seq (SC.seq (SC.region ?_))))
 refine PW.load rfl rfl rfl rfl rfl rfl ?_
 refine PW.call (r := .vl (.bool false)) rfl rfl rfl rfl rfl rfl (KV.st _) rfl (callK (k_jrwhole X (by omega)) (by rw [decide_eq_false hd]; rfl)) ?_
 refine PW.q1 (x := .tmp 26) (.bool true) rfl rfl rfl rfl (fun ρ W h1 => by go_simp) ?_
 refine PW.move rfl rfl rfl rfl rfl ?_
 refine PW.skip rfl rfl rfl ?_
 refine PW.pick (t := true) rfl rfl rfl rfl rfl rfl ?_
 refine PW.nil (SX.then (SC.cond (t := true) rfl ?_))
 refine SC.dx [.val 31 (.kw (KJ (flq x))), .val 32 (.kw (KJ (1))), .val 33 (.kw (KJ (flq x + 1))), .val 34 (.kw (KR3 (((flq x + 1 : Int) : Rat)).num ((((flq x + 1 : Int) : Rat)).den : Int))), .put 10 (BQ 43) (.kw (KR3 (((flq x + 1 : Int) : Rat)).num ((((flq x + 1 : Int) : Rat)).den : Int)))] [([], [9]), ([], []), ([0, 1], []), ([2], []), ([3], [10])] rfl (by kernel_rfl) (by kernel_rfl) (by kernel_rfl) rfl ⟨?_, ?_, ?_, ?_, ?_, trivial⟩ ?_
 ·exact DX.load rfl rfl rfl rfl rfl rfl
 ·exact DX.call (r := .kw (KJ (1))) rfl rfl rfl rfl rfl rfl (KJ.st _) rfl (k_jone)
 ·exact DX.call (r := .kw (KJ (flq x + 1))) rfl rfl rfl rfl rfl rfl (KJ.st _) rfl (k_jadd (bq.fl X) bd.one (by omega) (by omega))
 ·exact DX.call (r := .kw (KR3 (((flq x + 1 : Int) : Rat)).num ((((flq x + 1 : Int) : Rat)).den : Int))) rfl rfl rfl rfl rfl rfl (KR3.st _ _) rfl (k_jrof)
 ·exact DX.store (x := .tmp 34) (r := .kw (KR3 (((flq x + 1 : Int) : Rat)).num ((((flq x + 1 : Int) : Rat)).den : Int))) rfl rfl rfl rfl rfl rfl sh_R3
 refine SX.then (SC.seq (SC.region ?_))
 refine PW.load rfl rfl rfl rfl rfl rfl ?_
 refine PW.load rfl rfl rfl rfl rfl rfl ?_
 refine PW.call (r := .vl (.int .i64 (cmpq (((flq x + 1 : Int) : Rat)) y))) rfl rfl rfl rfl rfl rfl (KV.st _) rfl (k_jrcmp (bq.int1 ((bd_succ (bq.fl X)))) Y (by omega) (by omega)) ?_
 refine PW.assign rfl rfl rfl rfl rfl (PW.nil (SX.then (SC.seq (SC.seq ?_))))
 by_cases hl : ((flq x + 1 : Int) : Rat) < y
 ·refine SC.region ?_
  refine PW.move rfl rfl rfl rfl rfl ?_
  refine PW.q2 (x := .tmp 38) (y := .const (.int .i64 0)) (.bool true) rfl rfl rfl rfl rfl (fun ρ W h1 h2 => by exact r_lt h1 h2 (decide_eq_true (by rw [cmpq_ltm hl]; decide))) ?_
  refine PW.move rfl rfl rfl rfl rfl ?_
  refine PW.skip rfl rfl rfl ?_
  refine PW.skip rfl rfl rfl ?_
  refine PW.skip rfl rfl rfl ?_
  refine PW.skip rfl rfl rfl ?_
  refine PW.skip rfl rfl rfl ?_
  refine PW.skip rfl rfl rfl ?_
  refine PW.pick (t := true) rfl rfl rfl rfl rfl rfl ?_
  refine PW.nil (SX.then (SC.cond (t := true) rfl (SC.seq (SC.region ?_))))
  refine PW.load rfl rfl rfl rfl rfl rfl ?_
  refine PW.store (x := .tmp 48) (r := .kw (KR3 (((flq x + 1 : Int) : Rat)).num ((((flq x + 1 : Int) : Rat)).den : Int))) rfl rfl rfl rfl rfl rfl sh_R3 ?_
  refine PW.nil (SX.then (SC.ret (SX.thenR ?_)))
  exact SX.doneC (s := 8) (.inl rfl) rfl rfl rfl
 ·refine SC.region ?_
  refine PW.move rfl rfl rfl rfl rfl ?_
  refine PW.q2 (x := .tmp 38) (y := .const (.int .i64 0)) (.bool false) rfl rfl rfl rfl rfl (fun ρ W h1 h2 => by exact r_lt h1 h2 (decide_eq_false (cmpq_nltm hl))) ?_
  refine PW.move rfl rfl rfl rfl rfl (PW.move rfl rfl rfl rfl rfl ?_)
  refine PW.q2 (x := .tmp 41) (y := .const (.int .i64 0)) (.bool true) rfl rfl rfl rfl rfl (fun ρ W h1 h2 => by exact r_eqT h1 h2 (cmpq_eqm hle hl)) ?_
  refine PW.move rfl rfl rfl rfl rfl (PW.move rfl rfl rfl rfl rfl ?_)
  refine PW.q1 (x := .tmp 44) (.bool true) rfl rfl rfl rfl (fun ρ W h1 => by go_simp) ?_
  refine PW.pick (t := true) rfl rfl rfl rfl rfl rfl ?_
  refine PW.pick (t := false) rfl rfl rfl rfl rfl rfl ?_
  refine PW.nil (SX.then (SC.cond (t := true) rfl (SC.seq (SC.region ?_))))
  refine PW.load rfl rfl rfl rfl rfl rfl ?_
  refine PW.store (x := .tmp 48) (r := .kw (KR3 (((flq x + 1 : Int) : Rat)).num ((((flq x + 1 : Int) : Rat)).den : Int))) rfl rfl rfl rfl rfl rfl sh_R3 ?_
  refine PW.nil (SX.then (SC.ret (SX.thenR ?_)))
  exact SX.doneC (s := 8) (.inl rfl) rfl rfl rfl
set_option maxHeartbeats 3200000 in
set_option maxRecDepth 100000 in
theorem k_btw_step {x y : Rat} {m : Nat} (X : bq m x) (Y : bq m y) (hm : m ≤ 1000) {z : Rat} (Z : bq m z) (hz : z ≠ 0) (hd : x.den ≠ 1) (hn : ¬ ((flq x + 1 : Int) : Rat) ≤ y) (h1 : y - ((flq x : Int) : Rat) ≠ 0) (h2 : x - ((flq x : Int) : Rat) ≠ 0) (X1 : bq m (((1 : Int) : Rat) / (y - ((flq x : Int) : Rat)))) (Y1 : bq m (((1 : Int) : Rat) / (x - ((flq x : Int) : Rat)))) (ih : CallOk 103 [KR3 (((1 : Int) : Rat) / (y - ((flq x : Int) : Rat))).num ((((1 : Int) : Rat) / (y - ((flq x : Int) : Rat))).den : Int), KV (.bool false), KR3 (((1 : Int) : Rat) / (x - ((flq x : Int) : Rat))).num ((((1 : Int) : Rat) / (x - ((flq x : Int) : Rat))).den : Int), KV (.bool false)] (KR3 (z).num ((z).den : Int))) : CallOk 103 [KR3 (x).num ((x).den : Int), KV (.bool false), KR3 (y).num ((y).den : Int), KV (.bool false)] (KR3 (((flq x : Int) : Rat) + ((1 : Int) : Rat) / z).num ((((flq x : Int) : Rat) + ((1 : Int) : Rat) / z).den : Int)) := by
 refine CallOk.enter (l := [.kw (KR3 (x).num ((x).den : Int)), .vl (.bool false), .kw (KR3 (y).num ((y).den : Int)), .vl (.bool false)]) 111 ce_btw Tryz.func103 rfl Tryz.ntmps103 (by simp) ⟨(KR3.st _ _), rfl, (KV.st _), rfl, (KR3.st _ _), rfl, (KV.st _), rfl, trivial⟩ fun w => ?_
 refine SC.seq (SC.region ?_)
 refine PW.box (x := .tmp 0) (r := .kw (KR3 (x).num ((x).den : Int))) (BQ 43) rfl rfl rfl rfl rfl bQJ rfl sh_R3 ?_
 refine PW.box (x := .tmp 2) (r := .kw (KR3 (y).num ((y).den : Int))) (BQ 43) rfl rfl rfl rfl rfl bQJ rfl sh_R3 ?_
 refine PW.alloc (BQ 43) rfl rfl rfl rfl rfl bQJ ?_
 refine PW.nil (SX.then (SC.seq (SC.region ?_)))
 refine PW.load rfl rfl rfl rfl rfl rfl ?_
 refine PW.call (r := .kw (KJ (flq x))) rfl rfl rfl rfl rfl rfl (KJ.st _) rfl (k_jrfloor X (by omega)) ?_
 refine PW.alloc (BI 34) rfl rfl rfl rfl rfl bJ ?_
 refine PW.store (x := .tmp 22) (r := .kw (KJ (flq x))) rfl rfl rfl rfl rfl rfl sh_J ?_
 refine PW.nil (SX.then (SC.seq (SC.region ?_)))
 refine PW.load rfl rfl rfl rfl rfl rfl ?_
 refine PW.call (r := .kw (KR3 (((flq x : Int) : Rat)).num ((((flq x : Int) : Rat)).den : Int))) rfl rfl rfl rfl rfl rfl (KR3.st _ _) rfl (k_jrof) ?_
 refine PW.alloc (BQ 43) rfl rfl rfl rfl rfl bQJ ?_
 refine PW.store (x := .tmp 24) (r := .kw (KR3 (((flq x : Int) : Rat)).num ((((flq x : Int) : Rat)).den : Int))) rfl rfl rfl rfl rfl rfl sh_R3 ?_
 refine PW.nil (SX.then (SC.seq (SC.seq (SC.region ?_))))
 refine PW.load rfl rfl rfl rfl rfl rfl ?_
 refine PW.call (r := .vl (.bool false)) rfl rfl rfl rfl rfl rfl (KV.st _) rfl (callK (k_jrwhole X (by omega)) (by rw [decide_eq_false hd]; rfl)) ?_
 refine PW.q1 (x := .tmp 26) (.bool true) rfl rfl rfl rfl (fun ρ W h1 => by go_simp) ?_
 refine PW.move rfl rfl rfl rfl rfl ?_
 refine PW.skip rfl rfl rfl ?_
 refine PW.pick (t := true) rfl rfl rfl rfl rfl rfl ?_
 refine PW.nil (SX.then (SC.cond (t := true) rfl ?_))
 refine SC.dx [.val 31 (.kw (KJ (flq x))), .val 32 (.kw (KJ (1))), .val 33 (.kw (KJ (flq x + 1))), .val 34 (.kw (KR3 (((flq x + 1 : Int) : Rat)).num ((((flq x + 1 : Int) : Rat)).den : Int))), .put 10 (BQ 43) (.kw (KR3 (((flq x + 1 : Int) : Rat)).num ((((flq x + 1 : Int) : Rat)).den : Int)))] [([], [9]), ([], []), ([0, 1], []), ([2], []), ([3], [10])] rfl (by kernel_rfl) (by kernel_rfl) (by kernel_rfl) rfl ⟨?_, ?_, ?_, ?_, ?_, trivial⟩ ?_
 ·exact DX.load rfl rfl rfl rfl rfl rfl
 ·exact DX.call (r := .kw (KJ (1))) rfl rfl rfl rfl rfl rfl (KJ.st _) rfl (k_jone)
 ·exact DX.call (r := .kw (KJ (flq x + 1))) rfl rfl rfl rfl rfl rfl (KJ.st _) rfl (k_jadd (bq.fl X) bd.one (by omega) (by omega))
 ·exact DX.call (r := .kw (KR3 (((flq x + 1 : Int) : Rat)).num ((((flq x + 1 : Int) : Rat)).den : Int))) rfl rfl rfl rfl rfl rfl (KR3.st _ _) rfl (k_jrof)
 ·exact DX.store (x := .tmp 34) (r := .kw (KR3 (((flq x + 1 : Int) : Rat)).num ((((flq x + 1 : Int) : Rat)).den : Int))) rfl rfl rfl rfl rfl rfl sh_R3
 refine SX.then (SC.seq (SC.region ?_))
 refine PW.load rfl rfl rfl rfl rfl rfl ?_
 refine PW.load rfl rfl rfl rfl rfl rfl ?_
 refine PW.call (r := .vl (.int .i64 (cmpq (((flq x + 1 : Int) : Rat)) y))) rfl rfl rfl rfl rfl rfl (KV.st _) rfl (k_jrcmp (bq.int1 ((bd_succ (bq.fl X)))) Y (by omega) (by omega)) ?_
 refine PW.assign rfl rfl rfl rfl rfl (PW.nil (SX.then (SC.seq (SC.seq (SC.region (PW.move rfl rfl rfl rfl rfl ?_))))))
 refine PW.q2 (x := .tmp 38) (y := .const (.int .i64 0)) (.bool false) rfl rfl rfl rfl rfl (fun ρ W h1 h2 => by exact r_lt h1 h2 (decide_eq_false (fun h => hn (cmpq_le.1 (by omega))))) ?_
 refine PW.move rfl rfl rfl rfl rfl (PW.move rfl rfl rfl rfl rfl ?_)
 refine PW.q2 (x := .tmp 41) (y := .const (.int .i64 0)) (.bool false) rfl rfl rfl rfl rfl (fun ρ W h1 h2 => by exact r_eqF h1 h2 (fun h => hn (cmpq_le.1 (by omega)))) ?_
 refine PW.move rfl rfl rfl rfl rfl ?_
 refine PW.skip rfl rfl rfl ?_
 refine PW.skip rfl rfl rfl ?_
 refine PW.pick (t := false) rfl rfl rfl rfl rfl rfl ?_
 refine PW.pick (t := false) rfl rfl rfl rfl rfl rfl ?_
 refine PW.nil (SX.then (SC.cond (t := false) rfl (SC.skip (SX.then (SC.seq ?_)))))
 refine SC.dx [.val 50 (.kw (KR3 (((1 : Int) : Rat)).num ((((1 : Int) : Rat)).den : Int))), .val 51 (.kw (KR3 (y).num ((y).den : Int))), .val 52 (.kw (KJ (flq x))), .val 53 (.kw (KR3 (((flq x : Int) : Rat)).num ((((flq x : Int) : Rat)).den : Int))), .val 54 (.kw (KR3 (y - (((flq x : Int) : Rat))).num ((y - (((flq x : Int) : Rat))).den : Int))), .val 55 (.kw (K2 (KR3 (((1 : Int) : Rat) / (y - ((flq x : Int) : Rat))).num ((((1 : Int) : Rat) / (y - ((flq x : Int) : Rat))).den : Int)) (KV (.int .i64 0)))), .val 49 (.kw (K2 (KR3 (((1 : Int) : Rat) / (y - ((flq x : Int) : Rat))).num ((((1 : Int) : Rat) / (y - ((flq x : Int) : Rat))).den : Int)) (KV (.int .i64 0)))), .val 56 (.kw (KR3 (((1 : Int) : Rat) / (y - ((flq x : Int) : Rat))).num ((((1 : Int) : Rat) / (y - ((flq x : Int) : Rat))).den : Int))), .val 57 (.vl (.int .i64 0)), .new 12 (BQ 43), .put 12 (BQ 43) (.kw (KR3 (((1 : Int) : Rat) / (y - ((flq x : Int) : Rat))).num ((((1 : Int) : Rat) / (y - ((flq x : Int) : Rat))).den : Int))), .val 13 (.vl (.int .i64 0))] [([], []), ([], [6]), ([], [9]), ([2], []), ([1, 3], []), ([0, 4], []), ([5], []), ([6], []), ([6], []), ([], []), ([9, 7], []), ([8], [])] rfl (by kernel_rfl) (by kernel_rfl) (by kernel_rfl) rfl ⟨?_, ?_, ?_, ?_, ?_, ?_, ?_, ?_, ?_, ?_, ?_, ?_, trivial⟩ ?_
 ·exact DX.call (r := .kw (KR3 (((1 : Int) : Rat)).num ((((1 : Int) : Rat)).den : Int))) rfl rfl rfl rfl rfl rfl (KR3.st _ _) rfl (k_jrint (by decide))
 ·exact DX.load rfl rfl rfl rfl rfl rfl
 ·exact DX.load rfl rfl rfl rfl rfl rfl
 ·exact DX.call (r := .kw (KR3 (((flq x : Int) : Rat)).num ((((flq x : Int) : Rat)).den : Int))) rfl rfl rfl rfl rfl rfl (KR3.st _ _) rfl (k_jrof)
 ·exact DX.call (r := .kw (KR3 (y - (((flq x : Int) : Rat))).num ((y - (((flq x : Int) : Rat))).den : Int))) rfl rfl rfl rfl rfl rfl (KR3.st _ _) rfl (k_jrsub Y (bq.int1 ((bq.fl X))) (by omega) (by omega))
 ·exact DX.call (r := .kw (K2 (KR3 (((1 : Int) : Rat) / (y - ((flq x : Int) : Rat))).num ((((1 : Int) : Rat) / (y - ((flq x : Int) : Rat))).den : Int)) (KV (.int .i64 0)))) rfl rfl rfl rfl rfl rfl (K2.st (KR3.st _ _) (KV.st _)) rfl (k_jrdiv (bq.int (bd.lit (by decide))) (Y.sub (bq.int1 ((bq.fl X)))) (by omega) (by omega) h1)
 ·exact DX.move rfl rfl rfl rfl rfl rfl
 ·exact DX.ext (r := .kw (KR3 (((1 : Int) : Rat) / (y - ((flq x : Int) : Rat))).num ((((1 : Int) : Rat) / (y - ((flq x : Int) : Rat))).den : Int))) rfl rfl rfl rfl rfl ex20 (KR3.st _ _) rfl
 ·exact DX.ext (r := .vl (.int .i64 0)) rfl rfl rfl rfl rfl ex21v (KV.st _) rfl
 ·exact DX.alloc (BQ 43) rfl rfl rfl rfl bQJ rfl
 ·exact DX.store (x := .tmp 56) (r := .kw (KR3 (((1 : Int) : Rat) / (y - ((flq x : Int) : Rat))).num ((((1 : Int) : Rat) / (y - ((flq x : Int) : Rat))).den : Int))) rfl rfl rfl rfl rfl rfl sh_R3
 ·exact DX.assign rfl rfl rfl rfl rfl rfl
 refine SX.then (SC.seq (SC.seq ?_))
 refine SC.dx [.val 58 (.kw (KR3 (x).num ((x).den : Int))), .val 59 (.kw (KJ (flq x))), .val 60 (.kw (KR3 (((flq x : Int) : Rat)).num ((((flq x : Int) : Rat)).den : Int))), .val 61 (.vl (.int .i64 (cmpq x (((flq x : Int) : Rat))))), .val 62 (.vl (.bool false))] [([], [4]), ([], [9]), ([1], []), ([0, 2], []), ([3], [])] rfl (by kernel_rfl) (by kernel_rfl) (by kernel_rfl) rfl ⟨?_, ?_, ?_, ?_, ?_, trivial⟩ ?_
 ·exact DX.load rfl rfl rfl rfl rfl rfl
 ·exact DX.load rfl rfl rfl rfl rfl rfl
 ·exact DX.call (r := .kw (KR3 (((flq x : Int) : Rat)).num ((((flq x : Int) : Rat)).den : Int))) rfl rfl rfl rfl rfl rfl (KR3.st _ _) rfl (k_jrof)
 ·exact DX.call (r := .vl (.int .i64 (cmpq x (((flq x : Int) : Rat))))) rfl rfl rfl rfl rfl rfl (KV.st _) rfl (k_jrcmp X (bq.int1 ((bq.fl X))) (by omega) (by omega))
 ·exact DX.q2 (x := .tmp 61) (y := .const (.int .i64 0)) (.bool false) rfl rfl rfl rfl rfl (fun ρ W h1 h2 => by exact r_eqF h1 h2 (fun h => hd (fl_eq (cmpq_eq0 h))))
 refine SX.then (SC.cond (t := false) rfl (SC.skip (SX.then (SC.seq ?_))))
 refine SC.dx [.val 89 (.kw (KR3 (((1 : Int) : Rat)).num ((((1 : Int) : Rat)).den : Int))), .val 90 (.kw (KR3 (x).num ((x).den : Int))), .val 91 (.kw (KJ (flq x))), .val 92 (.kw (KR3 (((flq x : Int) : Rat)).num ((((flq x : Int) : Rat)).den : Int))), .val 93 (.kw (KR3 (x - (((flq x : Int) : Rat))).num ((x - (((flq x : Int) : Rat))).den : Int))), .val 94 (.kw (K2 (KR3 (((1 : Int) : Rat) / (x - ((flq x : Int) : Rat))).num ((((1 : Int) : Rat) / (x - ((flq x : Int) : Rat))).den : Int)) (KV (.int .i64 0)))), .val 88 (.kw (K2 (KR3 (((1 : Int) : Rat) / (x - ((flq x : Int) : Rat))).num ((((1 : Int) : Rat) / (x - ((flq x : Int) : Rat))).den : Int)) (KV (.int .i64 0)))), .val 95 (.kw (KR3 (((1 : Int) : Rat) / (x - ((flq x : Int) : Rat))).num ((((1 : Int) : Rat) / (x - ((flq x : Int) : Rat))).den : Int))), .val 96 (.vl (.int .i64 0)), .new 17 (BQ 43), .put 17 (BQ 43) (.kw (KR3 (((1 : Int) : Rat) / (x - ((flq x : Int) : Rat))).num ((((1 : Int) : Rat) / (x - ((flq x : Int) : Rat))).den : Int))), .val 18 (.vl (.int .i64 0))] [([], []), ([], [4]), ([], [9]), ([2], []), ([1, 3], []), ([0, 4], []), ([5], []), ([6], []), ([6], []), ([], []), ([9, 7], []), ([8], [])] rfl (by kernel_rfl) (by kernel_rfl) (by kernel_rfl) rfl ⟨?_, ?_, ?_, ?_, ?_, ?_, ?_, ?_, ?_, ?_, ?_, ?_, trivial⟩ ?_
 ·exact DX.call (r := .kw (KR3 (((1 : Int) : Rat)).num ((((1 : Int) : Rat)).den : Int))) rfl rfl rfl rfl rfl rfl (KR3.st _ _) rfl (k_jrint (by decide))
 ·exact DX.load rfl rfl rfl rfl rfl rfl
 ·exact DX.load rfl rfl rfl rfl rfl rfl
 ·exact DX.call (r := .kw (KR3 (((flq x : Int) : Rat)).num ((((flq x : Int) : Rat)).den : Int))) rfl rfl rfl rfl rfl rfl (KR3.st _ _) rfl (k_jrof)
 ·exact DX.call (r := .kw (KR3 (x - (((flq x : Int) : Rat))).num ((x - (((flq x : Int) : Rat))).den : Int))) rfl rfl rfl rfl rfl rfl (KR3.st _ _) rfl (k_jrsub X (bq.int1 ((bq.fl X))) (by omega) (by omega))
 ·exact DX.call (r := .kw (K2 (KR3 (((1 : Int) : Rat) / (x - ((flq x : Int) : Rat))).num ((((1 : Int) : Rat) / (x - ((flq x : Int) : Rat))).den : Int)) (KV (.int .i64 0)))) rfl rfl rfl rfl rfl rfl (K2.st (KR3.st _ _) (KV.st _)) rfl (k_jrdiv (bq.int (bd.lit (by decide))) (X.sub (bq.int1 ((bq.fl X)))) (by omega) (by omega) h2)
 ·exact DX.move rfl rfl rfl rfl rfl rfl
 ·exact DX.ext (r := .kw (KR3 (((1 : Int) : Rat) / (x - ((flq x : Int) : Rat))).num ((((1 : Int) : Rat) / (x - ((flq x : Int) : Rat))).den : Int))) rfl rfl rfl rfl rfl ex20 (KR3.st _ _) rfl
 ·exact DX.ext (r := .vl (.int .i64 0)) rfl rfl rfl rfl rfl ex21v (KV.st _) rfl
 ·exact DX.alloc (BQ 43) rfl rfl rfl rfl bQJ rfl
 ·exact DX.store (x := .tmp 95) (r := .kw (KR3 (((1 : Int) : Rat) / (x - ((flq x : Int) : Rat))).num ((((1 : Int) : Rat) / (x - ((flq x : Int) : Rat))).den : Int))) rfl rfl rfl rfl rfl rfl sh_R3
 ·exact DX.assign rfl rfl rfl rfl rfl rfl
 refine SX.then (SC.seq ?_)
 refine SC.dx [.val 98 (.kw (KR3 (((1 : Int) : Rat)).num ((((1 : Int) : Rat)).den : Int))), .val 99 (.kw (KR3 (((1 : Int) : Rat) / (y - ((flq x : Int) : Rat))).num ((((1 : Int) : Rat) / (y - ((flq x : Int) : Rat))).den : Int))), .val 100 (.vl (.bool false)), .val 101 (.kw (KR3 (((1 : Int) : Rat) / (x - ((flq x : Int) : Rat))).num ((((1 : Int) : Rat) / (x - ((flq x : Int) : Rat))).den : Int))), .val 102 (.vl (.bool false)), .val 103 (.kw (KR3 (z).num ((z).den : Int))), .val 104 (.kw (K2 (KR3 ((((1 : Int) : Rat)) / z).num (((((1 : Int) : Rat)) / z).den : Int)) (KV (.int .i64 0)))), .val 97 (.kw (K2 (KR3 ((((1 : Int) : Rat)) / z).num (((((1 : Int) : Rat)) / z).den : Int)) (KV (.int .i64 0)))), .val 105 (.kw (KR3 ((((1 : Int) : Rat)) / z).num (((((1 : Int) : Rat)) / z).den : Int))), .val 106 (.vl (.int .i64 0)), .new 19 (BQ 43), .put 19 (BQ 43) (.kw (KR3 ((((1 : Int) : Rat)) / z).num (((((1 : Int) : Rat)) / z).den : Int))), .val 20 (.vl (.int .i64 0))] [([], []), ([], [12]), ([], [3]), ([], [17]), ([], [1]), ([1, 2, 3, 4], []), ([0, 5], []), ([6], []), ([7], []), ([7], []), ([], []), ([10, 8], []), ([9], [])] rfl (by kernel_rfl) (by kernel_rfl) (by kernel_rfl) rfl ⟨?_, ?_, ?_, ?_, ?_, ?_, ?_, ?_, ?_, ?_, ?_, ?_, ?_, trivial⟩ ?_
 ·exact DX.call (r := .kw (KR3 (((1 : Int) : Rat)).num ((((1 : Int) : Rat)).den : Int))) rfl rfl rfl rfl rfl rfl (KR3.st _ _) rfl (k_jrint (by decide))
 ·exact DX.load rfl rfl rfl rfl rfl rfl
 ·exact DX.move rfl rfl rfl rfl rfl rfl
 ·exact DX.load rfl rfl rfl rfl rfl rfl
 ·exact DX.move rfl rfl rfl rfl rfl rfl
 ·exact DX.call (r := .kw (KR3 (z).num ((z).den : Int))) rfl rfl rfl rfl rfl rfl (KR3.st _ _) rfl (ih)
 ·exact DX.call (r := .kw (K2 (KR3 ((((1 : Int) : Rat)) / z).num (((((1 : Int) : Rat)) / z).den : Int)) (KV (.int .i64 0)))) rfl rfl rfl rfl rfl rfl (K2.st (KR3.st _ _) (KV.st _)) rfl (k_jrdiv (bq.int (bd.lit (by decide))) Z (by omega) (by omega) hz)
 ·exact DX.move rfl rfl rfl rfl rfl rfl
 ·exact DX.ext (r := .kw (KR3 ((((1 : Int) : Rat)) / z).num (((((1 : Int) : Rat)) / z).den : Int))) rfl rfl rfl rfl rfl ex20 (KR3.st _ _) rfl
 ·exact DX.ext (r := .vl (.int .i64 0)) rfl rfl rfl rfl rfl ex21v (KV.st _) rfl
 ·exact DX.alloc (BQ 43) rfl rfl rfl rfl bQJ rfl
 ·exact DX.store (x := .tmp 105) (r := .kw (KR3 ((((1 : Int) : Rat)) / z).num (((((1 : Int) : Rat)) / z).den : Int))) rfl rfl rfl rfl rfl rfl sh_R3
 ·exact DX.assign rfl rfl rfl rfl rfl rfl
 refine SX.then (SC.seq ?_)
 refine SC.dx [.val 107 (.kw (KJ (flq x))), .val 108 (.kw (KR3 (((flq x : Int) : Rat)).num ((((flq x : Int) : Rat)).den : Int))), .val 109 (.kw (KR3 ((((1 : Int) : Rat)) / z).num (((((1 : Int) : Rat)) / z).den : Int))), .val 110 (.kw (KR3 ((((flq x : Int) : Rat)) + ((((1 : Int) : Rat)) / z)).num (((((flq x : Int) : Rat)) + ((((1 : Int) : Rat)) / z)).den : Int))), .put 8 (BQ 43) (.kw (KR3 ((((flq x : Int) : Rat)) + ((((1 : Int) : Rat)) / z)).num (((((flq x : Int) : Rat)) + ((((1 : Int) : Rat)) / z)).den : Int)))] [([], [9]), ([0], []), ([], [19]), ([1, 2], []), ([3], [8])] rfl (by kernel_rfl) (by kernel_rfl) (by kernel_rfl) rfl ⟨?_, ?_, ?_, ?_, ?_, trivial⟩ ?_
 ·exact DX.load rfl rfl rfl rfl rfl rfl
 ·exact DX.call (r := .kw (KR3 (((flq x : Int) : Rat)).num ((((flq x : Int) : Rat)).den : Int))) rfl rfl rfl rfl rfl rfl (KR3.st _ _) rfl (k_jrof)
 ·exact DX.load rfl rfl rfl rfl rfl rfl
 ·exact DX.call (r := .kw (KR3 ((((flq x : Int) : Rat)) + ((((1 : Int) : Rat)) / z)).num (((((flq x : Int) : Rat)) + ((((1 : Int) : Rat)) / z)).den : Int))) rfl rfl rfl rfl rfl rfl (KR3.st _ _) rfl (k_jradd (bq.int1 ((bq.fl X))) ((bq.int (bd.lit (by decide))).div Z hz) (by omega) (by omega))
 ·exact DX.store (x := .tmp 110) (r := .kw (KR3 ((((flq x : Int) : Rat)) + ((((1 : Int) : Rat)) / z)).num (((((flq x : Int) : Rat)) + ((((1 : Int) : Rat)) / z)).den : Int))) rfl rfl rfl rfl rfl rfl sh_R3
 refine SX.then (SC.ret ?_)
 exact SX.doneC (s := 8) (.inl rfl) rfl rfl rfl
end Go.Proofs.YthpjmhhfcechmaaGreat.Sy
/- The reference's Simplest, by rules; both sides hand back the same. -/
namespace Go.Proofs.YthpjmhhfcechmaaGreat.Sy
open Go Go.RowKit Ma
theorem ce_jSimplest : CE 54 := fun args W => by go_simp
set_option maxHeartbeats 3200000 in
set_option maxRecDepth 100000 in
theorem k_jSimplest_ord {x y : Rat} {m : Nat} (X : bq m x) (Y : bq m y) (hm : m ≤ 1000) (hxy : ¬ x ≤ y) : CallOk 54 [KR3 (x).num ((x).den : Int), KR3 (y).num ((y).den : Int)] (K2 (KR3 (((0 : Int) : Rat)).num ((((0 : Int) : Rat)).den : Int)) (KV (.int .i64 7))) := by
 refine CallOk.enter (l := [.kw (KR3 (x).num ((x).den : Int)), .kw (KR3 (y).num ((y).den : Int))]) 32 ce_jSimplest Tryz.func54 rfl Tryz.ntmps54 (by simp) ⟨(KR3.st _ _), rfl, (KR3.st _ _), rfl, trivial⟩ fun w => ?_
 refine SC.seq (SC.region ?_)
 refine PW.box (x := .tmp 0) (r := .kw (KR3 (x).num ((x).den : Int))) (BQ 43) rfl rfl rfl rfl rfl bQJ rfl sh_R3 ?_
 refine PW.box (x := .tmp 1) (r := .kw (KR3 (y).num ((y).den : Int))) (BQ 43) rfl rfl rfl rfl rfl bQJ rfl sh_R3 ?_
 refine PW.alloc (BQ 43) rfl rfl rfl rfl rfl bQJ ?_
 refine PW.assign rfl rfl rfl rfl rfl (PW.nil (SX.then (SC.seq (SC.seq (SC.region ?_)))))
 refine PW.load rfl rfl rfl rfl rfl rfl ?_
 refine PW.load rfl rfl rfl rfl rfl rfl ?_
 refine PW.call (r := .vl (.int .i64 (cmpq x y))) rfl rfl rfl rfl rfl rfl (KV.st _) rfl (k_jrcmp X Y (by omega) (by omega)) ?_
 refine PW.q2 (x := .tmp 8) (y := .const (.int .i64 0)) (.bool true) rfl rfl rfl rfl rfl (fun ρ W h1 h2 => by exact r_gt h1 h2 (decide_eq_true (by have h9 : ¬ cmpq x y ≤ 0 := fun h => hxy (cmpq_le.1 h); omega))) ?_
 refine PW.nil (SX.then (SC.cond (t := true) rfl (SC.seq (SC.region ?_))))
 refine PW.call (r := .kw (KR3 (((0 : Int) : Rat)).num ((((0 : Int) : Rat)).den : Int))) rfl rfl rfl rfl rfl rfl (KR3.st _ _) rfl (k_jrint (by decide)) ?_
 refine PW.store (x := .tmp 10) (r := .kw (KR3 (((0 : Int) : Rat)).num ((((0 : Int) : Rat)).den : Int))) rfl rfl rfl rfl rfl rfl sh_R3 ?_
 refine PW.assign rfl rfl rfl rfl rfl (PW.nil (SX.then (SC.ret (SX.thenR ?_))))
 exact SX.done2 (s := 4) (t := 5) (r := .vl (.int .i64 7)) (.inl rfl) rfl rfl rfl rfl
set_option maxHeartbeats 3200000 in
set_option maxRecDepth 100000 in
theorem k_jSimplest_zero {x y : Rat} {m : Nat} (X : bq m x) (Y : bq m y) (hm : m ≤ 1000) (hxy : x ≤ y) (hx : sgq x ≤ 0) (hy : 0 ≤ sgq y) : CallOk 54 [KR3 (x).num ((x).den : Int), KR3 (y).num ((y).den : Int)] (K2 (KR3 (((0 : Int) : Rat)).num ((((0 : Int) : Rat)).den : Int)) (KV (.int .i64 0))) := by
 refine CallOk.enter (l := [.kw (KR3 (x).num ((x).den : Int)), .kw (KR3 (y).num ((y).den : Int))]) 32 ce_jSimplest Tryz.func54 rfl Tryz.ntmps54 (by simp) ⟨(KR3.st _ _), rfl, (KR3.st _ _), rfl, trivial⟩ fun w => ?_
 refine SC.seq (SC.region ?_)
 refine PW.box (x := .tmp 0) (r := .kw (KR3 (x).num ((x).den : Int))) (BQ 43) rfl rfl rfl rfl rfl bQJ rfl sh_R3 ?_
 refine PW.box (x := .tmp 1) (r := .kw (KR3 (y).num ((y).den : Int))) (BQ 43) rfl rfl rfl rfl rfl bQJ rfl sh_R3 ?_
 refine PW.alloc (BQ 43) rfl rfl rfl rfl rfl bQJ ?_
 refine PW.assign rfl rfl rfl rfl rfl (PW.nil (SX.then (SC.seq (SC.seq (SC.region ?_)))))
 refine PW.load rfl rfl rfl rfl rfl rfl ?_
 refine PW.load rfl rfl rfl rfl rfl rfl ?_
 refine PW.call (r := .vl (.int .i64 (cmpq x y))) rfl rfl rfl rfl rfl rfl (KV.st _) rfl (k_jrcmp X Y (by omega) (by omega)) ?_
 refine PW.q2 (x := .tmp 8) (y := .const (.int .i64 0)) (.bool false) rfl rfl rfl rfl rfl (fun ρ W h1 h2 => by exact r_gt h1 h2 (decide_eq_false (by have := cmpq_le.2 hxy; omega))) ?_
 refine PW.nil (SX.then (SC.cond (t := false) rfl (SC.skip (SX.then (SC.seq (SC.seq (SC.region ?_)))))))
 refine PW.load rfl rfl rfl rfl rfl rfl ?_
 refine PW.call (r := .vl (.int .i64 (sgq x))) rfl rfl rfl rfl rfl rfl (KV.st _) rfl (k_jrsign) ?_
 refine PW.q2 (x := .tmp 12) (y := .const (.int .i64 0)) (.bool true) rfl rfl rfl rfl rfl (fun ρ W h1 h2 => by exact r_le h1 h2 (decide_eq_true (by omega))) ?_
 refine PW.move rfl rfl rfl rfl rfl ?_
 refine PW.load rfl rfl rfl rfl rfl rfl ?_
 refine PW.call (r := .vl (.int .i64 (sgq y))) rfl rfl rfl rfl rfl rfl (KV.st _) rfl (k_jrsign) ?_
 refine PW.q2 (x := .tmp 16) (y := .const (.int .i64 0)) (.bool true) rfl rfl rfl rfl rfl (fun ρ W h1 h2 => by exact r_ge h1 h2 (decide_eq_true (by omega))) ?_
 refine PW.pick (t := true) rfl rfl rfl rfl rfl rfl ?_
 refine PW.nil (SX.then (SC.cond (t := true) rfl (SC.seq (SC.region ?_))))
 refine PW.call (r := .kw (KR3 (((0 : Int) : Rat)).num ((((0 : Int) : Rat)).den : Int))) rfl rfl rfl rfl rfl rfl (KR3.st _ _) rfl (k_jrint (by decide)) ?_
 refine PW.store (x := .tmp 19) (r := .kw (KR3 (((0 : Int) : Rat)).num ((((0 : Int) : Rat)).den : Int))) rfl rfl rfl rfl rfl rfl sh_R3 ?_
 refine PW.assign rfl rfl rfl rfl rfl (PW.nil (SX.then (SC.ret (SX.thenR ?_))))
 exact SX.done2 (s := 4) (t := 5) (r := .vl (.int .i64 0)) (.inl rfl) rfl rfl rfl rfl
set_option maxHeartbeats 3200000 in
set_option maxRecDepth 100000 in
theorem k_jSimplest_pos {x y : Rat} {m : Nat} (X : bq m x) (Y : bq m y) (hm : m ≤ 1000) {z : Rat} (Z : bq m z) (hxy : x ≤ y) (hx : 0 < sgq x) (ih : CallOk 103 [KR3 (x).num ((x).den : Int), KV (.bool false), KR3 (y).num ((y).den : Int), KV (.bool false)] (KR3 (z).num ((z).den : Int))) : CallOk 54 [KR3 (x).num ((x).den : Int), KR3 (y).num ((y).den : Int)] (K2 (KR3 (z).num ((z).den : Int)) (KV (.int .i64 0))) := by
 refine CallOk.enter (l := [.kw (KR3 (x).num ((x).den : Int)), .kw (KR3 (y).num ((y).den : Int))]) 32 ce_jSimplest Tryz.func54 rfl Tryz.ntmps54 (by simp) ⟨(KR3.st _ _), rfl, (KR3.st _ _), rfl, trivial⟩ fun w => ?_
 refine SC.seq (SC.region ?_)
 refine PW.box (x := .tmp 0) (r := .kw (KR3 (x).num ((x).den : Int))) (BQ 43) rfl rfl rfl rfl rfl bQJ rfl sh_R3 ?_
 refine PW.box (x := .tmp 1) (r := .kw (KR3 (y).num ((y).den : Int))) (BQ 43) rfl rfl rfl rfl rfl bQJ rfl sh_R3 ?_
 refine PW.alloc (BQ 43) rfl rfl rfl rfl rfl bQJ ?_
 refine PW.assign rfl rfl rfl rfl rfl (PW.nil (SX.then (SC.seq (SC.seq (SC.region ?_)))))
 refine PW.load rfl rfl rfl rfl rfl rfl ?_
 refine PW.load rfl rfl rfl rfl rfl rfl ?_
 refine PW.call (r := .vl (.int .i64 (cmpq x y))) rfl rfl rfl rfl rfl rfl (KV.st _) rfl (k_jrcmp X Y (by omega) (by omega)) ?_
 refine PW.q2 (x := .tmp 8) (y := .const (.int .i64 0)) (.bool false) rfl rfl rfl rfl rfl (fun ρ W h1 h2 => by exact r_gt h1 h2 (decide_eq_false (by have := cmpq_le.2 hxy; omega))) ?_
 refine PW.nil (SX.then (SC.cond (t := false) rfl (SC.skip (SX.then (SC.seq (SC.seq (SC.region ?_)))))))
 refine PW.load rfl rfl rfl rfl rfl rfl ?_
 refine PW.call (r := .vl (.int .i64 (sgq x))) rfl rfl rfl rfl rfl rfl (KV.st _) rfl (k_jrsign) ?_
 refine PW.q2 (x := .tmp 12) (y := .const (.int .i64 0)) (.bool false) rfl rfl rfl rfl rfl (fun ρ W h1 h2 => by exact r_le h1 h2 (decide_eq_false (by omega))) ?_
 refine PW.move rfl rfl rfl rfl rfl ?_
 refine PW.skip rfl rfl rfl ?_
 refine PW.skip rfl rfl rfl ?_
 refine PW.skip rfl rfl rfl ?_
 refine PW.pick (t := false) rfl rfl rfl rfl rfl rfl ?_
 refine PW.nil (SX.then (SC.cond (t := false) rfl (SC.skip (SX.then (SC.seq (SC.seq (SC.region ?_)))))))
 refine PW.load rfl rfl rfl rfl rfl rfl ?_
 refine PW.call (r := .vl (.int .i64 (sgq x))) rfl rfl rfl rfl rfl rfl (KV.st _) rfl (k_jrsign) ?_
 refine PW.q2 (x := .tmp 21) (y := .const (.int .i64 0)) (.bool true) rfl rfl rfl rfl rfl (fun ρ W h1 h2 => by exact r_gt h1 h2 (decide_eq_true (by omega))) ?_
 refine PW.nil (SX.then (SC.cond (t := true) rfl (SC.seq (SC.region ?_))))
 refine PW.load rfl rfl rfl rfl rfl rfl ?_
 refine PW.load rfl rfl rfl rfl rfl rfl ?_
 refine PW.call (r := .kw (KR3 (z).num ((z).den : Int))) rfl rfl rfl rfl rfl rfl (KR3.st _ _) rfl (ih) ?_
 refine PW.store (x := .tmp 25) (r := .kw (KR3 (z).num ((z).den : Int))) rfl rfl rfl rfl rfl rfl sh_R3 ?_
 refine PW.assign rfl rfl rfl rfl rfl (PW.nil (SX.then (SC.ret (SX.thenR ?_))))
 exact SX.done2 (s := 4) (t := 5) (r := .vl (.int .i64 0)) (.inl rfl) rfl rfl rfl rfl
set_option maxHeartbeats 3200000 in
set_option maxRecDepth 100000 in
theorem k_jSimplest_neg {x y : Rat} {m : Nat} (X : bq m x) (Y : bq m y) (hm : m ≤ 1000) {z : Rat} (Z : bq m z) (hxy : x ≤ y) (hx : sgq x < 0) (hy : sgq y < 0) (ih : CallOk 103 [KR3 (-y).num ((-y).den : Int), KV (.bool false), KR3 (-x).num ((-x).den : Int), KV (.bool false)] (KR3 (z).num ((z).den : Int))) : CallOk 54 [KR3 (x).num ((x).den : Int), KR3 (y).num ((y).den : Int)] (K2 (KR3 (-z).num ((-z).den : Int)) (KV (.int .i64 0))) := by
 refine CallOk.enter (l := [.kw (KR3 (x).num ((x).den : Int)), .kw (KR3 (y).num ((y).den : Int))]) 32 ce_jSimplest Tryz.func54 rfl Tryz.ntmps54 (by simp) ⟨(KR3.st _ _), rfl, (KR3.st _ _), rfl, trivial⟩ fun w => ?_
 refine SC.seq (SC.region ?_)
 refine PW.box (x := .tmp 0) (r := .kw (KR3 (x).num ((x).den : Int))) (BQ 43) rfl rfl rfl rfl rfl bQJ rfl sh_R3 ?_
 refine PW.box (x := .tmp 1) (r := .kw (KR3 (y).num ((y).den : Int))) (BQ 43) rfl rfl rfl rfl rfl bQJ rfl sh_R3 ?_
 refine PW.alloc (BQ 43) rfl rfl rfl rfl rfl bQJ ?_
 refine PW.assign rfl rfl rfl rfl rfl (PW.nil (SX.then (SC.seq (SC.seq (SC.region ?_)))))
 refine PW.load rfl rfl rfl rfl rfl rfl ?_
 refine PW.load rfl rfl rfl rfl rfl rfl ?_
 refine PW.call (r := .vl (.int .i64 (cmpq x y))) rfl rfl rfl rfl rfl rfl (KV.st _) rfl (k_jrcmp X Y (by omega) (by omega)) ?_
 refine PW.q2 (x := .tmp 8) (y := .const (.int .i64 0)) (.bool false) rfl rfl rfl rfl rfl (fun ρ W h1 h2 => by exact r_gt h1 h2 (decide_eq_false (by have := cmpq_le.2 hxy; omega))) ?_
 refine PW.nil (SX.then (SC.cond (t := false) rfl (SC.skip (SX.then (SC.seq (SC.seq (SC.region ?_)))))))
 refine PW.load rfl rfl rfl rfl rfl rfl ?_
 refine PW.call (r := .vl (.int .i64 (sgq x))) rfl rfl rfl rfl rfl rfl (KV.st _) rfl (k_jrsign) ?_
 refine PW.q2 (x := .tmp 12) (y := .const (.int .i64 0)) (.bool true) rfl rfl rfl rfl rfl (fun ρ W h1 h2 => by exact r_le h1 h2 (decide_eq_true (by omega))) ?_
 refine PW.move rfl rfl rfl rfl rfl ?_
 refine PW.load rfl rfl rfl rfl rfl rfl ?_
 refine PW.call (r := .vl (.int .i64 (sgq y))) rfl rfl rfl rfl rfl rfl (KV.st _) rfl (k_jrsign) ?_
 refine PW.q2 (x := .tmp 16) (y := .const (.int .i64 0)) (.bool false) rfl rfl rfl rfl rfl (fun ρ W h1 h2 => by exact r_ge h1 h2 (decide_eq_false (by omega))) ?_
 refine PW.pick (t := true) rfl rfl rfl rfl rfl rfl ?_
 refine PW.nil (SX.then (SC.cond (t := false) rfl (SC.skip (SX.then (SC.seq (SC.seq (SC.region ?_)))))))
 refine PW.load rfl rfl rfl rfl rfl rfl ?_
 refine PW.call (r := .vl (.int .i64 (sgq x))) rfl rfl rfl rfl rfl rfl (KV.st _) rfl (k_jrsign) ?_
 refine PW.q2 (x := .tmp 21) (y := .const (.int .i64 0)) (.bool false) rfl rfl rfl rfl rfl (fun ρ W h1 h2 => by exact r_gt h1 h2 (decide_eq_false (by omega))) ?_
 refine PW.nil (SX.then (SC.cond (t := false) rfl (SC.skip (SX.then (SC.seq ?_)))))
 refine SC.dx [.val 26 (.kw (KR3 (y).num ((y).den : Int))), .val 27 (.kw (KR3 (-y).num ((-y).den : Int))), .val 28 (.kw (KR3 (x).num ((x).den : Int))), .val 29 (.kw (KR3 (-x).num ((-x).den : Int))), .val 30 (.kw (KR3 (z).num ((z).den : Int))), .val 31 (.kw (KR3 (-z).num ((-z).den : Int))), .put 4 (BQ 43) (.kw (KR3 (-z).num ((-z).den : Int))), .val 5 (.vl (.int .i64 0))] [([], [3]), ([0], []), ([], [2]), ([2], []), ([1, 3], []), ([4], []), ([5], [4]), ([], [])] rfl (by kernel_rfl) (by kernel_rfl) (by kernel_rfl) rfl ⟨?_, ?_, ?_, ?_, ?_, ?_, ?_, ?_, trivial⟩ ?_
 ·exact DX.load rfl rfl rfl rfl rfl rfl
 ·exact DX.call (r := .kw (KR3 (-y).num ((-y).den : Int))) rfl rfl rfl rfl rfl rfl (KR3.st _ _) rfl (k_jrneg)
 ·exact DX.load rfl rfl rfl rfl rfl rfl
 ·exact DX.call (r := .kw (KR3 (-x).num ((-x).den : Int))) rfl rfl rfl rfl rfl rfl (KR3.st _ _) rfl (k_jrneg)
 ·exact DX.call (r := .kw (KR3 (z).num ((z).den : Int))) rfl rfl rfl rfl rfl rfl (KR3.st _ _) rfl (ih)
 ·exact DX.call (r := .kw (KR3 (-z).num ((-z).den : Int))) rfl rfl rfl rfl rfl rfl (KR3.st _ _) rfl (k_jrneg)
 ·exact DX.store (x := .tmp 31) (r := .kw (KR3 (-z).num ((-z).den : Int))) rfl rfl rfl rfl rfl rfl sh_R3
 ·exact DX.assign rfl rfl rfl rfl rfl rfl
 refine SX.then (SC.ret ?_)
 exact SX.done2 (s := 4) (t := 5) (r := .vl (.int .i64 0)) (.inl rfl) rfl rfl rfl rfl
theorem btw_up {m n : Nat} {x y z : Rat} {L : List Int} (hm : m ≤ 1000) (X : bq m x) (Y : bq m y) (h0 : 0 < x) (hxy : x ≤ y) (hd : x.den ≠ 1) (hn : ¬ ((flq x + 1 : Int) : Rat) ≤ y)
  (h : SmR m (((1 : Int) : Rat) / (y - ((flq x : Int) : Rat))) (((1 : Int) : Rat) / (x - ((flq x : Int) : Rat))) L z n)
  (ih : CallOk 103 [KR3 (((1 : Int) : Rat) / (y - ((flq x : Int) : Rat))).num ((((1 : Int) : Rat) / (y - ((flq x : Int) : Rat))).den : Int), KV (.bool false), KR3 (((1 : Int) : Rat) / (x - ((flq x : Int) : Rat))).num ((((1 : Int) : Rat) / (x - ((flq x : Int) : Rat))).den : Int), KV (.bool false)] (KR3 (z).num ((z).den : Int))) : ∃ L z, SmR m x y L z (n + 1) ∧ CallOk 103 [KR3 (x).num ((x).den : Int), KV (.bool false), KR3 (y).num ((y).den : Int), KV (.bool false)] (KR3 (z).num ((z).den : Int)) := by
 have ha := fl_lt hd
 have hy := Rat.not_le.1 hn
 have px := sub_pos' ha
 have py := sub_pos' (ltle ha hxy)
 have X1 := Y.left (ltle ha hxy) hy
 have Y1 := X.left ha (lt_fl x)
 have hz := ltle (inv_pos py) h.lo
 exact ⟨_, _, h.up X h0 hxy hd hn, k_btw_step X Y hm (h.bq (inv_pos py) X1 (one_div_le px (sub_mono hxy))) (Rat.ne_of_gt hz) hd hn (Rat.ne_of_gt py) (Rat.ne_of_gt px) X1 Y1 ih⟩
theorem btw_ge1 {m : Nat} (hm : m ≤ 1000) : ∀ (k : Nat) (x y : Rat), ((1 : Int) : Rat) ≤ x → x ≤ y → bq m x → bq m y → x.num * (x.den : Int) < 2 ^ k → y.num * (y.den : Int) < 2 ^ k → ∃ L z, SmR m x y L z (k + 1) ∧ CallOk 103 [KR3 (x).num ((x).den : Int), KV (.bool false), KR3 (y).num ((y).den : Int), KV (.bool false)] (KR3 (z).num ((z).den : Int)) := by
 intro k
 induction k with
 | zero => intro x y h1 _ _ _ hk _; have := ge1_prod h1; simp at hk; omega
 | succ k ih =>
  intro x y h1 hxy X Y hk hk2
  by_cases hd : x.den = 1
  ·exact ⟨_, _, .whole X (gt0_of_ge1 h1) hxy hd (by omega), k_btw_whole X Y hm hd (by rw [fl_self hd]; exact hxy)⟩
  ·by_cases hn : ((flq x + 1 : Int) : Rat) ≤ y
   ·exact ⟨_, _, .next X (gt0_of_ge1 h1) hd hn (by omega), k_btw_next X Y hm hd hn⟩
   ·have ha := fl_lt hd
    have hy := Rat.not_le.1 hn
    obtain ⟨L, z, h, hc⟩ := ih _ _ (step_ge1 hxy hd hn) (one_div_le (sub_pos' ha) (sub_mono hxy)) (Y.left (ltle ha hxy) hy) (X.left ha (lt_fl x)) (step_half (ltle ha hxy) hy (fl_ge1 h1) hk2) (step_half ha (lt_fl x) (fl_ge1 h1) hk)
    exact btw_up hm X Y (gt0_of_ge1 h1) hxy hd hn h hc
theorem btw_pos {m : Nat} {x y : Rat} (hm : m ≤ 1000) (h0 : 0 < x) (hxy : x ≤ y) (X : bq m x) (Y : bq m y) : ∃ L z, SmR m x y L z (64 * m + 2) ∧ CallOk 103 [KR3 (x).num ((x).den : Int), KV (.bool false), KR3 (y).num ((y).den : Int), KV (.bool false)] (KR3 (z).num ((z).den : Int)) := by
 by_cases hd : x.den = 1
 ·exact ⟨_, _, .whole X h0 hxy hd (by omega), k_btw_whole X Y hm hd (by rw [fl_self hd]; exact hxy)⟩
 ·by_cases hn : ((flq x + 1 : Int) : Rat) ≤ y
  ·exact ⟨_, _, .next X h0 hd hn (by omega), k_btw_next X Y hm hd hn⟩
  ·have ha := fl_lt hd
   have hy := Rat.not_le.1 hn
   obtain ⟨L, z, h, hc⟩ := btw_ge1 hm (64 * m) _ _ (step_ge1 hxy hd hn) (one_div_le (sub_pos' ha) (sub_mono hxy)) (Y.left (ltle ha hxy) hy) (X.left ha (lt_fl x)) (left_prod Y (ltle ha hxy) hy) (left_prod X ha (lt_fl x))
   exact btw_up hm X Y h0 hxy hd hn h hc
theorem simp_both {x y : Rat} {m : Nat} (X : bq m x) (Y : bq m y) (h1 : 1 ≤ m) (hm : m ≤ 20) : ∃ (z : Rat) (e : Int), bq m z ∧ CallOk 32 [KQ (x).num (((x).den : Int) - 1), KQ (y).num (((y).den : Int) - 1)] (K2 (KQ (z).num (((z).den : Int) - 1)) (KV (.int .i64 e))) ∧
  CallOk 54 [KR3 (x).num ((x).den : Int), KR3 (y).num ((y).den : Int)] (K2 (KR3 (z).num ((z).den : Int)) (KV (.int .i64 e))) := by
 have B0 : bq m ((0 : Int) : Rat) := ⟨bd.zero, (bd.lit (by decide) : bd 1 1).mono h1⟩
 by_cases hxy : x ≤ y
 ·by_cases hx : 0 < sgq x
  ·have h0 := sgq_posI hx
   obtain ⟨L, z, s, hc⟩ := btw_pos (by omega) h0 hxy X Y
   have Z := s.bq h0 X hxy
   exact ⟨z, 0, Z, k_Simplest_pos X Y (by omega) hxy hx s.at0 (len_fit hm s.len) (by have := s.len; omega) s.c s.s, k_jSimplest_pos X Y (by omega) Z hxy hx hc⟩
  ·by_cases hy : sgq y < 0
   ·have y0 := sgq_negI hy
    have hx : sgq x < 0 := by
     have : x < 0 := by grind
     have := (num_neg_iff x).2 this
     unfold sgq sgn
     rw [if_pos this]; decide
    have h0 : 0 < -y := by grind
    obtain ⟨L, z, s, hc⟩ := btw_pos (by omega) h0 (show -y ≤ -x by grind) Y.neg X.neg
    have Z := s.bq h0 Y.neg (by grind)
    exact ⟨-z, 0, Z.neg, k_Simplest_neg X Y (by omega) hxy hx hy s.at0 (len_fit hm s.len) (by have := s.len; omega) s.c s.s, k_jSimplest_neg X Y (by omega) Z hxy hx hy hc⟩
   ·exact ⟨((0 : Int) : Rat), 0, B0, k_Simplest_zero X Y (by omega) hxy (by omega) (by omega), k_jSimplest_zero X Y (by omega) hxy (by omega) (by omega)⟩
 ·exact ⟨((0 : Int) : Rat), 7, B0, k_Simplest_ord X Y (by omega) hxy, k_jSimplest_ord X Y (by omega) hxy⟩
end Go.Proofs.YthpjmhhfcechmaaGreat.Sy
/- The reference's Contract, Expansion by rules. -/
namespace Go.Proofs.YthpjmhhfcechmaaGreat.Sy
open Go Go.RowKit Ma
def KPJq : Except Int Rat → Know
 | .ok q => K2 (KR3 q.num (q.den : Int)) (KV (.int .i64 0))
 | .error e => K2 (KR3 (((0 : Int) : Rat)).num ((((0 : Int) : Rat)).den : Int)) (KV (.int .i64 e))
structure CfI (m : Nat) (L ps : List Int) (x : Rat) (l : List Int) : Prop where
 s : Ma.CF x l
 eq : ps ++ l = L
 b : bq m x
 ln : L.length ≤ 1000000
theorem CfI.start {m : Nat} {x : Rat} {L : List Int} (h : Ma.CF x L) (X : bq m x) (hn : L.length ≤ 1000000) : CfI m L [] x L := ⟨h, rfl, X, hn⟩
theorem CfI.len {m : Nat} {L ps l : List Int} {x : Rat} (h : CfI m L ps x l) : ps.length ≤ 1000000 := by have := congrArg List.length h.eq; rw [List.length_append] at this; have := h.ln; omega
theorem CfI.step {m : Nat} {L ps l : List Int} {x : Rat} (h : CfI m L ps x l) (hd : x.den ≠ 1) : ∃ l', l = flq x :: l' ∧ CfI m L (ps ++ [flq x]) (((1 : Int) : Rat) / (x - ((flq x : Int) : Rat))) l' := by
 cases hs : h.s with
 | last h1 => exact absurd h1 hd
 | step _ h2 => exact ⟨_, rfl, h2, by rw [List.append_assoc]; exact h.eq, h.b.left (fl_lt hd) (lt_fl x), h.ln⟩
theorem CfI.last {m : Nat} {L ps l : List Int} {x : Rat} (h : CfI m L ps x l) (hd : x.den = 1) : L = ps ++ [flq x] := by
 cases hs : h.s with
 | last h1 => exact h.eq.symm
 | step h1 _ => exact absurd hd h1
theorem SX.doneLs {B N : Nat} {w0 : World} {fr : List (Nat × AV)} {fn : Func} {e : Exit} {s K1 : Nat} {v1 : Value} {et : TypeId} {sz : Nat} {L zs : List Int} {R : List Int → List Value → World → Prop} (he : e = .ret ∨ e = .normal) (hr : fn.results = #[.tmp s]) (hs : look fr s = some (.vl v1)) (h1 : look fr K1 = some (.rs v1 et sz zs.length (R zs))) (hB : B = w0.heap.size) (hL : L = zs) :
  SX B N w0 e fr (bodyPost Tryz.prog fn (Ret w0 (KS w0.heap.size et sz L.length (R L)))) := by
 subst hL
 exact SX.doneS he hr hs h1 hB
set_option maxHeartbeats 6400000 in
set_option maxRecDepth 100000 in
theorem jcontract_c {A : Option Addr} {c m : Nat} {zs : List Int} {w : World} (hL : LJn w A zs) (hb : ∀ i, bd (m + 1) (at0 zs i)) (hT : (m + 4) * zs.length ≤ 40000) (hm : m ≤ 1000) (hl : zs.length ≤ 1000000) :
  Calls Tryz.prog 53 #[.slice A zs.length c] w (Ret w (KPJq (ctrR zs))) := by
 refine calls_sc (l := [.vl (.slice A zs.length c)]) (us := [.slice A zs.length c]) 44 Tryz.func53 rfl Tryz.ntmps53 (by simp) ⟨rfl, rfl, trivial⟩ ?_
 refine SC.seq (SC.region ?_)
 refine PW.alloc (BQ 43) rfl rfl rfl rfl rfl bQJ ?_
 refine PW.assign rfl rfl rfl rfl rfl (PW.nil (SX.then (SC.seq (SC.seq ?_))))
 by_cases h0 : (zs.length : Int) = 0
 ·have hz0 : zs = [] := List.eq_nil_of_length_eq_zero (by omega)
  refine SC.region (PW.move rfl rfl rfl rfl rfl ?_)
  refine PW.qn [(.tmp 8, .slice A zs.length c)] (.int .i64 ((zs.length : Int))) rfl rfl rfl ⟨rfl, trivial⟩ (fun ρ W h => by obtain ⟨h1, _⟩ := h; exact r_lenzj h1) ?_
  refine PW.q2 (x := .tmp 9) (y := .const (.int .i64 0)) (.bool true) rfl rfl rfl rfl rfl (fun ρ W h1 h2 => by exact r_eqT h1 h2 (by omega)) ?_
  refine PW.nil (SX.then (SC.cond (t := true) rfl (SC.seq (SC.region ?_))))
  refine PW.call (r := .kw (KR3 (((0 : Int) : Rat)).num ((((0 : Int) : Rat)).den : Int))) rfl rfl rfl rfl rfl rfl (KR3.st _ _) rfl (k_jrint (by decide)) ?_
  refine PW.store (x := .tmp 11) (r := .kw (KR3 (((0 : Int) : Rat)).num ((((0 : Int) : Rat)).den : Int))) rfl rfl rfl rfl rfl rfl sh_R3 ?_
  refine PW.assign rfl rfl rfl rfl rfl (PW.nil (SX.then (SC.ret (SX.thenR ?_))))
  rw [show ctrR zs = .error 5 by rw [hz0]; rfl]
  exact SX.done2 (s := 2) (t := 3) (r := .vl (.int .i64 5)) (.inl rfl) rfl rfl rfl rfl
 ·refine SC.region ?_
  refine PW.move rfl rfl rfl rfl rfl ?_
  refine PW.qn [(.tmp 8, .slice A zs.length c)] (.int .i64 ((zs.length : Int))) rfl rfl rfl ⟨rfl, trivial⟩ (fun ρ W h => by obtain ⟨h1, _⟩ := h; exact r_lenzj h1) ?_
  refine PW.q2 (x := .tmp 9) (y := .const (.int .i64 0)) (.bool false) rfl rfl rfl rfl rfl (fun ρ W h1 h2 => by exact r_eqF h1 h2 (by omega)) ?_
  refine PW.nil (SX.then (SC.cond (t := false) rfl (SC.skip (SX.then (SC.seq (SC.region (PW.move rfl rfl rfl rfl rfl (PW.move rfl rfl rfl rfl rfl ?_))))))))
  refine PW.qn [(.tmp 13, .slice A zs.length c)] (.int .i64 ((zs.length : Int))) rfl rfl rfl ⟨rfl, trivial⟩ (fun ρ W h => by obtain ⟨h1, _⟩ := h; exact r_lenzj h1) ?_
  refine PW.q2 (x := .tmp 14) (y := .const (.int .i64 1)) (.int .i64 (((zs.length - 1 : Nat) : Int))) rfl rfl rfl rfl rfl (fun ρ W h1 h2 => by exact r_sub h1 h2 (by omega) (by omega)) ?_
  refine PW.q2 (x := .tmp 12) (y := .tmp 15) (.pointer (padd A ((zs.length - 1) * 2))) rfl rfl rfl rfl rfl (fun ρ W h1 h2 => r_idxzAj hL (by omega) h1 h2) ?_
  refine PW.ldzj (i := (zs.length - 1)) hL (by omega) rfl rfl rfl rfl ?_
  refine PW.call (r := .kw (KR3 (((at0 zs (zs.length - 1) : Int) : Rat)).num ((((at0 zs (zs.length - 1) : Int) : Rat)).den : Int))) rfl rfl rfl rfl rfl rfl (KR3.st _ _) rfl (k_jrof) ?_
  refine PW.alloc (BQ 43) rfl rfl rfl rfl rfl bQJ ?_
  refine PW.store (x := .tmp 18) (r := .kw (KR3 (((at0 zs (zs.length - 1) : Int) : Rat)).num ((((at0 zs (zs.length - 1) : Int) : Rat)).den : Int))) rfl rfl rfl rfl rfl rfl sh_R3 ?_
  refine PW.nil (SX.then (SC.seq (SC.seq (SC.region (PW.move rfl rfl rfl rfl rfl ?_)))))
  refine PW.qn [(.tmp 19, .slice A zs.length c)] (.int .i64 ((zs.length : Int))) rfl rfl rfl ⟨rfl, trivial⟩ (fun ρ W h => by obtain ⟨h1, _⟩ := h; exact r_lenzj h1) ?_
  refine PW.q2 (x := .tmp 20) (y := .const (.int .i64 2)) (.int .i64 (((zs.length - 1 : Nat) : Int) - 1)) rfl rfl rfl rfl rfl (fun ρ W h1 h2 => by exact r_sub h1 h2 (by omega) (by omega)) ?_
  refine PW.assign rfl rfl rfl rfl rfl (PW.nil (SX.then (SC.block ?_)))
  refine SC.loop (S := Nat × Rat) (fun ⟨k, q⟩ => [(0, .vl (.slice A zs.length c)), (2, .nb (BQ 43)), (4, .bx (BQ 43) (KR3 (q).num ((q).den : Int))), (5, .vl (.int .i64 ((k : Int) - 1)))]) (fun ⟨k, q⟩ => CrI m zs k q) (fun ⟨k, q⟩ => k) (zs.length - 1, ((at0 zs (zs.length - 1) : Int) : Rat)) (CrI.start (by omega) hb) ⟨rfl, rfl, rfl, rfl, trivial⟩ ?_
  rintro ⟨k, q⟩ hI
  show SC _ _ _ _ [(0, .vl (.slice A zs.length c)), (2, .nb (BQ 43)), (4, .bx (BQ 43) (KR3 (q).num ((q).den : Int))), (5, .vl (.int .i64 ((k : Int) - 1)))] _
  refine SC.seq (SC.seq ?_)
  by_cases hk : (k : Int) - 1 ≥ 0
  ·obtain ⟨i, rfl⟩ : ∃ i, k = i + 1 := ⟨k - 1, by omega⟩
   rw [show ((i + 1 : Nat) : Int) - 1 = (i : Int) by omega]
   rw [show ((i + 1 : Nat) : Int) - 1 = (i : Int) by omega] at hk
   have hle := hI.le hT
   refine SC.region (PW.move rfl rfl rfl rfl rfl ?_)
   refine PW.q2 (x := .tmp 22) (y := .const (.int .i64 0)) (.bool true) rfl rfl rfl rfl rfl (fun ρ W h1 h2 => by exact r_ge h1 h2 (decide_eq_true hk)) ?_
   refine PW.nil (SX.then (SC.cond (t := true) rfl (SC.skip (SX.then (SC.seq (SC.block (SC.seq ?_)))))))
   by_cases hq : q = 0
   ·refine SC.dx [.val 27 (.kw (KR3 (((1 : Int) : Rat)).num ((((1 : Int) : Rat)).den : Int))), .val 28 (.kw (KR3 (q).num ((q).den : Int))), .val 29 (.kw (K2 (KR3 (((0 : Int) : Rat)).num ((((0 : Int) : Rat)).den : Int)) (KV (.int .i64 6)))), .val 26 (.kw (K2 (KR3 (((0 : Int) : Rat)).num ((((0 : Int) : Rat)).den : Int)) (KV (.int .i64 6)))), .val 30 (.kw (KR3 (((0 : Int) : Rat)).num ((((0 : Int) : Rat)).den : Int))), .val 31 (.vl (.int .i64 6)), .new 6 (BQ 43), .put 6 (BQ 43) (.kw (KR3 (((0 : Int) : Rat)).num ((((0 : Int) : Rat)).den : Int))), .val 7 (.vl (.int .i64 6))] [([], []), ([], [4]), ([0, 1], []), ([2], []), ([3], []), ([3], []), ([], []), ([6, 4], []), ([5], [])] rfl (by kernel_rfl) (by kernel_rfl) (by kernel_rfl) rfl ⟨?_, ?_, ?_, ?_, ?_, ?_, ?_, ?_, ?_, trivial⟩ ?_
    ·exact DX.call (r := .kw (KR3 (((1 : Int) : Rat)).num ((((1 : Int) : Rat)).den : Int))) rfl rfl rfl rfl rfl rfl (KR3.st _ _) rfl (k_jrint (by decide))
    ·exact DX.load rfl rfl rfl rfl rfl rfl
    ·exact DX.call (r := .kw (K2 (KR3 (((0 : Int) : Rat)).num ((((0 : Int) : Rat)).den : Int)) (KV (.int .i64 6)))) rfl rfl rfl rfl rfl rfl (K2.st (KR3.st _ _) (KV.st _)) rfl (k_jrdiv0 hq)
    ·exact DX.move rfl rfl rfl rfl rfl rfl
    ·exact DX.ext (r := .kw (KR3 (((0 : Int) : Rat)).num ((((0 : Int) : Rat)).den : Int))) rfl rfl rfl rfl rfl ex20 (KR3.st _ _) rfl
    ·exact DX.ext (r := .vl (.int .i64 6)) rfl rfl rfl rfl rfl ex21v (KV.st _) rfl
    ·exact DX.alloc (BQ 43) rfl rfl rfl rfl bQJ rfl
    ·exact DX.store (x := .tmp 30) (r := .kw (KR3 (((0 : Int) : Rat)).num ((((0 : Int) : Rat)).den : Int))) rfl rfl rfl rfl rfl rfl sh_R3
    ·exact DX.assign rfl rfl rfl rfl rfl rfl
    refine SX.then (SC.seq (SC.seq (SC.region (PW.move rfl rfl rfl rfl rfl ?_))))
    refine PW.q2 (x := .tmp 32) (y := .const (.int .i64 0)) (.bool true) rfl rfl rfl rfl rfl (fun ρ W h1 h2 => by go_simp) ?_
    refine PW.nil (SX.then (SC.cond (t := true) rfl (SC.seq (SC.region ?_))))
    refine PW.call (r := .kw (KR3 (((0 : Int) : Rat)).num ((((0 : Int) : Rat)).den : Int))) rfl rfl rfl rfl rfl rfl (KR3.st _ _) rfl (k_jrint (by decide)) ?_
    refine PW.move rfl rfl rfl rfl rfl ?_
    refine PW.store (x := .tmp 34) (r := .kw (KR3 (((0 : Int) : Rat)).num ((((0 : Int) : Rat)).den : Int))) rfl rfl rfl rfl rfl rfl sh_R3 ?_
    refine PW.assign rfl rfl rfl rfl rfl (PW.nil (SX.then (SC.ret (SX.thenR (SX.blockR (SX.thenR (SX.thenR (SX.blockR (SX.thenR ?_)))))))))
    rw [hI.zero hq]
    exact SX.done2 (s := 2) (t := 3) (r := .vl (.int .i64 6)) (.inl rfl) rfl rfl rfl rfl
   ·refine SC.dx [.val 27 (.kw (KR3 (((1 : Int) : Rat)).num ((((1 : Int) : Rat)).den : Int))), .val 28 (.kw (KR3 (q).num ((q).den : Int))), .val 29 (.kw (K2 (KR3 ((((1 : Int) : Rat)) / q).num (((((1 : Int) : Rat)) / q).den : Int)) (KV (.int .i64 0)))), .val 26 (.kw (K2 (KR3 ((((1 : Int) : Rat)) / q).num (((((1 : Int) : Rat)) / q).den : Int)) (KV (.int .i64 0)))), .val 30 (.kw (KR3 ((((1 : Int) : Rat)) / q).num (((((1 : Int) : Rat)) / q).den : Int))), .val 31 (.vl (.int .i64 0)), .new 6 (BQ 43), .put 6 (BQ 43) (.kw (KR3 ((((1 : Int) : Rat)) / q).num (((((1 : Int) : Rat)) / q).den : Int))), .val 7 (.vl (.int .i64 0))] [([], []), ([], [4]), ([0, 1], []), ([2], []), ([3], []), ([3], []), ([], []), ([6, 4], []), ([5], [])] rfl (by kernel_rfl) (by kernel_rfl) (by kernel_rfl) rfl ⟨?_, ?_, ?_, ?_, ?_, ?_, ?_, ?_, ?_, trivial⟩ ?_
    ·exact DX.call (r := .kw (KR3 (((1 : Int) : Rat)).num ((((1 : Int) : Rat)).den : Int))) rfl rfl rfl rfl rfl rfl (KR3.st _ _) rfl (k_jrint (by decide))
    ·exact DX.load rfl rfl rfl rfl rfl rfl
    ·exact DX.call (r := .kw (K2 (KR3 ((((1 : Int) : Rat)) / q).num (((((1 : Int) : Rat)) / q).den : Int)) (KV (.int .i64 0)))) rfl rfl rfl rfl rfl rfl (K2.st (KR3.st _ _) (KV.st _)) rfl (k_jrdiv (bq.int (bd.lit (by decide))) hI.b (by omega) (by omega) hq)
    ·exact DX.move rfl rfl rfl rfl rfl rfl
    ·exact DX.ext (r := .kw (KR3 ((((1 : Int) : Rat)) / q).num (((((1 : Int) : Rat)) / q).den : Int))) rfl rfl rfl rfl rfl ex20 (KR3.st _ _) rfl
    ·exact DX.ext (r := .vl (.int .i64 0)) rfl rfl rfl rfl rfl ex21v (KV.st _) rfl
    ·exact DX.alloc (BQ 43) rfl rfl rfl rfl bQJ rfl
    ·exact DX.store (x := .tmp 30) (r := .kw (KR3 ((((1 : Int) : Rat)) / q).num (((((1 : Int) : Rat)) / q).den : Int))) rfl rfl rfl rfl rfl rfl sh_R3
    ·exact DX.assign rfl rfl rfl rfl rfl rfl
    refine SX.then (SC.seq (SC.seq (SC.region (PW.move rfl rfl rfl rfl rfl ?_))))
    refine PW.q2 (x := .tmp 32) (y := .const (.int .i64 0)) (.bool false) rfl rfl rfl rfl rfl (fun ρ W h1 h2 => by go_simp) ?_
    refine PW.nil (SX.then (SC.cond (t := false) rfl (SC.skip (SX.then ?_))))
    refine SC.dx [.val 36 (.vl (.slice A zs.length c)), .val 37 (.vl (.int .i64 (i : Int))), .val 38 (.vl (.pointer (padd A (i * 2)))), .val 39 (.kw (KJ (at0 zs i))), .val 40 (.kw (KR3 (((at0 zs i : Int) : Rat)).num ((((at0 zs i : Int) : Rat)).den : Int))), .val 41 (.kw (KR3 ((((1 : Int) : Rat)) / q).num (((((1 : Int) : Rat)) / q).den : Int))), .val 42 (.kw (KR3 ((((at0 zs i : Int) : Rat)) + ((((1 : Int) : Rat)) / q)).num (((((at0 zs i : Int) : Rat)) + ((((1 : Int) : Rat)) / q)).den : Int))), .put 4 (BQ 43) (.kw (KR3 ((((at0 zs i : Int) : Rat)) + ((((1 : Int) : Rat)) / q)).num (((((at0 zs i : Int) : Rat)) + ((((1 : Int) : Rat)) / q)).den : Int)))] [([], [0]), ([], [5]), ([0, 1], []), ([2], []), ([3], []), ([], [6]), ([4, 5], []), ([6], [4])] rfl (by kernel_rfl) (by kernel_rfl) (by kernel_rfl) rfl ⟨?_, ?_, ?_, ?_, ?_, ?_, ?_, ?_, trivial⟩ ?_
    ·exact DX.move rfl rfl rfl rfl rfl rfl
    ·exact DX.move rfl rfl rfl rfl rfl rfl
    ·exact DX.q2 (x := .tmp 36) (y := .tmp 37) (.pointer (padd A (i * 2))) rfl rfl rfl rfl rfl (fun ρ W h1 h2 => r_idxzAj hL (by have := hI.k0; omega) h1 h2)
    ·exact DX.ldzj (i := i) hL (by have := hI.k0; omega) rfl rfl rfl rfl
    ·exact DX.call (r := .kw (KR3 (((at0 zs i : Int) : Rat)).num ((((at0 zs i : Int) : Rat)).den : Int))) rfl rfl rfl rfl rfl rfl (KR3.st _ _) rfl (k_jrof)
    ·exact DX.load rfl rfl rfl rfl rfl rfl
    ·exact DX.call (r := .kw (KR3 ((((at0 zs i : Int) : Rat)) + ((((1 : Int) : Rat)) / q)).num (((((at0 zs i : Int) : Rat)) + ((((1 : Int) : Rat)) / q)).den : Int))) rfl rfl rfl rfl rfl rfl (KR3.st _ _) rfl (k_jradd (bq.int1 ((hb (i)))) ((bq.int (bd.lit (by decide))).div hI.b hq) (by omega) (by omega))
    ·exact DX.store (x := .tmp 42) (r := .kw (KR3 ((((at0 zs i : Int) : Rat)) + ((((1 : Int) : Rat)) / q)).num (((((at0 zs i : Int) : Rat)) + ((((1 : Int) : Rat)) / q)).den : Int))) rfl rfl rfl rfl rfl rfl sh_R3
    refine SX.blockN ?_
    refine SX.then (SC.region (PW.move rfl rfl rfl rfl rfl ?_))
    refine PW.q2 (x := .tmp 24) (y := .const (.int .i64 1)) (.int .i64 ((i : Int) - 1)) rfl rfl rfl rfl rfl (fun ρ W h1 h2 => by exact r_sub h1 h2 (rfl) (by have := hI.k0; omega)) ?_
    refine PW.assign rfl rfl rfl rfl rfl (PW.nil ?_)
    refine SX.back (i, (((at0 zs i : Int) : Rat)) + ((((1 : Int) : Rat)) / q)) ?_ ?_ ?_
    ·exact (hI.step hb hq)
    ·exact (show i < i + 1 by omega)
    ·exact ⟨rfl, rfl, rfl, rfl, trivial⟩
  ·obtain rfl : k = 0 := by omega
   refine SC.region (PW.move rfl rfl rfl rfl rfl ?_)
   refine PW.q2 (x := .tmp 22) (y := .const (.int .i64 0)) (.bool false) rfl rfl rfl rfl rfl (fun ρ W h1 h2 => by exact r_ge h1 h2 (decide_eq_false hk)) ?_
   refine PW.nil (SX.then (SC.cond (t := false) rfl (SC.exit (SX.thenE (SX.thenE (SX.blockE (SX.then (SC.seq (SC.region ?_)))))))))
   refine PW.load rfl rfl rfl rfl rfl rfl ?_
   refine PW.store (x := .tmp 43) (r := .kw (KR3 (q).num ((q).den : Int))) rfl rfl rfl rfl rfl rfl sh_R3 ?_
   refine PW.assign rfl rfl rfl rfl rfl (PW.nil (SX.then (SC.ret ?_)))
   rw [hI.fin]
   exact SX.done2 (s := 2) (t := 3) (r := .vl (.int .i64 0)) (.inl rfl) rfl rfl rfl rfl
theorem ce_jexp : CE 51 := fun args W => by go_simp
set_option maxHeartbeats 3200000 in
set_option maxRecDepth 100000 in
theorem jexp_c {x0 : Rat} {L : List Int} {m n : Nat} (hR : CfR m x0 L n) (X : bq m x0) (hm : m ≤ 1000) (hn1 : n ≤ 1000000) {w : World} {vx : Value} (hx : KR3 (x0).num ((x0).den : Int) vx w) :
  Calls Tryz.prog 51 #[vx] w (Ret w (KS w.heap.size 34 2 L.length (RsJ L))) := by
 have hC := hR.s
 have hn : L.length ≤ 1000000 := by have := hR.len; omega
 refine calls_sc (l := [.kw (KR3 (x0).num ((x0).den : Int))]) (us := [vx]) 26 Tryz.func51 rfl Tryz.ntmps51 (by simp) ⟨⟨hx, KR3.st _ _⟩, rfl, trivial⟩ ?_
 refine SC.seq (SC.region ?_)
 refine PW.box (x := .tmp 0) (r := .kw (KR3 (x0).num ((x0).den : Int))) (BQ 43) rfl rfl rfl rfl rfl bQJ rfl sh_R3 ?_
 refine PW.assign rfl rfl rfl rfl rfl (PW.nil (SX.then (SC.seq (SC.region (PW.assign rfl rfl rfl rfl rfl (PW.nil (SX.then (SC.block ?_))))))))
 refine SC.weak (fun a W hf => Fr.nilzj 26 hf) ?_
 refine SC.loop (S := Value × List Int × Rat × List Int) (fun ⟨v, ps, x, l⟩ => [(1, .bx (BQ 43) (KR3 (x).num ((x).den : Int))), (3, .vl (v)), (26, .rs (v) 34 2 (ps : List Int).length (RsJ (ps)))]) (fun ⟨v, ps, x, l⟩ => CfI m L ps x l) (fun ⟨v, ps, x, l⟩ => l.length) (.slice none 0 0, [], x0, L) (CfI.start hC X hn) ⟨rfl, rfl, rfl, trivial⟩ ?_
 rintro ⟨v, ps, x, l⟩ hI
 show SC _ _ _ _ [(1, .bx (BQ 43) (KR3 (x).num ((x).den : Int))), (3, .vl (v)), (26, .rs (v) 34 2 (ps : List Int).length (RsJ (ps)))] _
 refine SC.block (SC.seq (SC.region ?_))
 refine PW.load rfl rfl rfl rfl rfl rfl ?_
 refine PW.call (r := .kw (KJ (flq x))) rfl rfl rfl rfl rfl rfl (KJ.st _) rfl (k_jrfloor hI.b (by omega)) ?_
 refine PW.alloc (BI 34) rfl rfl rfl rfl rfl bJ ?_
 refine PW.store (x := .tmp 7) (r := .kw (KJ (flq x))) rfl rfl rfl rfl rfl rfl sh_J ?_
 refine PW.nil (SX.then (SC.seq (SC.region (PW.move rfl rfl rfl rfl rfl ?_))))
 refine PW.load rfl rfl rfl rfl rfl rfl ?_
 refine PW.bzj (x := .tmp 9) rfl rfl rfl rfl (fun ρ W m A l c h1 => r_bzj h1) ?_
 refine PW.apzj (K := 26) rfl rfl rfl rfl rfl rfl rfl Tryz.underlying82 (by have := hI.len; omega) rfl fun vz1 => ?_
 refine PW.assign rfl rfl rfl rfl rfl (PW.nil (SX.then (SC.seq ?_)))
 refine SC.dx [.val 12 (.kw (KR3 (x).num ((x).den : Int))), .val 13 (.kw (KJ (flq x))), .val 14 (.kw (KR3 (((flq x : Int) : Rat)).num ((((flq x : Int) : Rat)).den : Int))), .val 15 (.kw (KR3 (x - (((flq x : Int) : Rat))).num ((x - (((flq x : Int) : Rat))).den : Int))), .new 5 (BQ 43), .put 5 (BQ 43) (.kw (KR3 (x - (((flq x : Int) : Rat))).num ((x - (((flq x : Int) : Rat))).den : Int)))] [([], [1]), ([], [4]), ([1], []), ([0, 2], []), ([], []), ([4, 3], [])] rfl (by kernel_rfl) (by kernel_rfl) (by kernel_rfl) rfl ⟨?_, ?_, ?_, ?_, ?_, ?_, trivial⟩ ?_
 ·exact DX.load rfl rfl rfl rfl rfl rfl
 ·exact DX.load rfl rfl rfl rfl rfl rfl
 ·exact DX.call (r := .kw (KR3 (((flq x : Int) : Rat)).num ((((flq x : Int) : Rat)).den : Int))) rfl rfl rfl rfl rfl rfl (KR3.st _ _) rfl (k_jrof)
 ·exact DX.call (r := .kw (KR3 (x - (((flq x : Int) : Rat))).num ((x - (((flq x : Int) : Rat))).den : Int))) rfl rfl rfl rfl rfl rfl (KR3.st _ _) rfl (k_jrsub hI.b (bq.int1 ((bq.fl hI.b))) (by omega) (by omega))
 ·exact DX.alloc (BQ 43) rfl rfl rfl rfl bQJ rfl
 ·exact DX.store (x := .tmp 15) (r := .kw (KR3 (x - (((flq x : Int) : Rat))).num ((x - (((flq x : Int) : Rat))).den : Int))) rfl rfl rfl rfl rfl rfl sh_R3
 refine SX.then (SC.seq (SC.seq ?_))
 by_cases hd : x.den = 1
 ·have hz : x - ((flq x : Int) : Rat) = 0 := by rw [fl_self hd]; grind
  refine SC.region ?_
  refine PW.load rfl rfl rfl rfl rfl rfl ?_
  refine PW.call (r := .vl (.int .i64 (sgq (x - (((flq x : Int) : Rat)))))) rfl rfl rfl rfl rfl rfl (KV.st _) rfl (k_jrsign) ?_
  refine PW.q2 (x := .tmp 17) (y := .const (.int .i64 0)) (.bool true) rfl rfl rfl rfl rfl (fun ρ W h1 h2 => by exact r_eqT h1 h2 (sgq_eq0.2 hz)) ?_
  refine PW.nil (SX.then (SC.cond (t := true) rfl (SC.seq (SC.region (PW.move rfl rfl rfl rfl rfl (PW.assign rfl rfl rfl rfl rfl (PW.nil (SX.then (SC.ret (SX.thenR (SX.blockR (SX.thenR ?_))))))))))))
  refine SX.blockR ?_
  have hL := hI.last hd
  exact SX.doneLs (s := 2) (K1 := 26) (.inl rfl) rfl rfl rfl rfl hL
 ·have hz : x - ((flq x : Int) : Rat) ≠ 0 := Rat.ne_of_gt (sub_pos' (fl_lt hd))
  obtain ⟨l', rfl, hI2⟩ := hI.step hd
  refine SC.region ?_
  refine PW.load rfl rfl rfl rfl rfl rfl ?_
  refine PW.call (r := .vl (.int .i64 (sgq (x - (((flq x : Int) : Rat)))))) rfl rfl rfl rfl rfl rfl (KV.st _) rfl (k_jrsign) ?_
  refine PW.q2 (x := .tmp 17) (y := .const (.int .i64 0)) (.bool false) rfl rfl rfl rfl rfl (fun ρ W h1 h2 => by exact r_eqF h1 h2 (fun h => hz (sgq_eq0.1 h))) ?_
  refine PW.nil (SX.then (SC.cond (t := false) rfl (SC.skip (SX.then ?_))))
  refine SC.dx [.val 21 (.kw (KR3 (((1 : Int) : Rat)).num ((((1 : Int) : Rat)).den : Int))), .val 22 (.kw (KR3 (x - (((flq x : Int) : Rat))).num ((x - (((flq x : Int) : Rat))).den : Int))), .val 23 (.kw (K2 (KR3 ((((1 : Int) : Rat)) / (x - (((flq x : Int) : Rat)))).num (((((1 : Int) : Rat)) / (x - (((flq x : Int) : Rat)))).den : Int)) (KV (.int .i64 0)))), .val 20 (.kw (K2 (KR3 ((((1 : Int) : Rat)) / (x - (((flq x : Int) : Rat)))).num (((((1 : Int) : Rat)) / (x - (((flq x : Int) : Rat)))).den : Int)) (KV (.int .i64 0)))), .val 24 (.kw (KR3 ((((1 : Int) : Rat)) / (x - (((flq x : Int) : Rat)))).num (((((1 : Int) : Rat)) / (x - (((flq x : Int) : Rat)))).den : Int))), .val 25 (.vl (.int .i64 0)), .put 1 (BQ 43) (.kw (KR3 ((((1 : Int) : Rat)) / (x - (((flq x : Int) : Rat)))).num (((((1 : Int) : Rat)) / (x - (((flq x : Int) : Rat)))).den : Int)))] [([], []), ([], [5]), ([0, 1], []), ([2], []), ([3], []), ([3], []), ([4], [1])] rfl (by kernel_rfl) (by kernel_rfl) (by kernel_rfl) rfl ⟨?_, ?_, ?_, ?_, ?_, ?_, ?_, trivial⟩ ?_
  ·exact DX.call (r := .kw (KR3 (((1 : Int) : Rat)).num ((((1 : Int) : Rat)).den : Int))) rfl rfl rfl rfl rfl rfl (KR3.st _ _) rfl (k_jrint (by decide))
  ·exact DX.load rfl rfl rfl rfl rfl rfl
  ·exact DX.call (r := .kw (K2 (KR3 ((((1 : Int) : Rat)) / (x - (((flq x : Int) : Rat)))).num (((((1 : Int) : Rat)) / (x - (((flq x : Int) : Rat)))).den : Int)) (KV (.int .i64 0)))) rfl rfl rfl rfl rfl rfl (K2.st (KR3.st _ _) (KV.st _)) rfl (k_jrdiv (bq.int (bd.lit (by decide))) (hI.b.sub (bq.int1 ((bq.fl hI.b)))) (by omega) (by omega) hz)
  ·exact DX.move rfl rfl rfl rfl rfl rfl
  ·exact DX.ext (r := .kw (KR3 ((((1 : Int) : Rat)) / (x - (((flq x : Int) : Rat)))).num (((((1 : Int) : Rat)) / (x - (((flq x : Int) : Rat)))).den : Int))) rfl rfl rfl rfl rfl ex20 (KR3.st _ _) rfl
  ·exact DX.ext (r := .vl (.int .i64 0)) rfl rfl rfl rfl rfl ex21v (KV.st _) rfl
  ·exact DX.store (x := .tmp 24) (r := .kw (KR3 ((((1 : Int) : Rat)) / (x - (((flq x : Int) : Rat)))).num (((((1 : Int) : Rat)) / (x - (((flq x : Int) : Rat)))).den : Int))) rfl rfl rfl rfl rfl rfl sh_R3
  refine SX.blockN ?_
  refine SX.back (vz1, ps ++ [flq x], (((1 : Int) : Rat)) / (x - (((flq x : Int) : Rat))), l') ?_ ?_ ?_
  ·exact hI2
  ·exact (show l'.length < (flq x :: l').length by simp)
  ·exact ⟨rfl, rfl, rfl, trivial⟩
end Go.Proofs.YthpjmhhfcechmaaGreat.Sy
/- EqualFunc over a row of each side's integers, by rules. -/
namespace Go.Proofs.YthpjmhhfcechmaaGreat.Sy
open Go Go.RowKit Ma
theorem ce_equal : CE 50 := fun args W => by go_simp
set_option maxHeartbeats 3200000 in
set_option maxRecDepth 100000 in
theorem equal_c {A D : Option Addr} {c d m : Nat} {zs : List Int} {w : World} (hL : LIn w A zs) (hJ : LJn w D zs) (hb : ∀ i, bd (m + 1) (at0 zs i)) (hm : m ≤ 1000) (hl : zs.length ≤ 1000000) :
  Calls Tryz.prog 50 #[.slice A zs.length c, .slice D zs.length d, fv 52] w (Ret w (KV (.bool true))) := by
 refine calls_sc (l := [.vl (.slice A zs.length c), .vl (.slice D zs.length d), .vl (fv 52)]) (us := [.slice A zs.length c, .slice D zs.length d, fv 52]) 32 Tryz.func50 rfl Tryz.ntmps50 (by simp) ⟨rfl, rfl, rfl, rfl, rfl, rfl, trivial⟩ ?_
 refine SC.seq (SC.region (PW.assign rfl rfl rfl rfl rfl (PW.nil (SX.then (SC.seq (SC.seq (SC.region (PW.move rfl rfl rfl rfl rfl ?_))))))))
 refine PW.qn [(.tmp 10, .slice A zs.length c)] (.int .i64 ((zs.length : Int))) rfl rfl rfl ⟨rfl, trivial⟩ (fun ρ W h => by obtain ⟨h1, _⟩ := h; exact r_lenz h1) ?_
 refine PW.move rfl rfl rfl rfl rfl ?_
 refine PW.qn [(.tmp 12, .slice D zs.length d)] (.int .i64 ((zs.length : Int))) rfl rfl rfl ⟨rfl, trivial⟩ (fun ρ W h => by obtain ⟨h1, _⟩ := h; exact r_lenzj h1) ?_
 refine PW.q2 (x := .tmp 11) (y := .tmp 13) (.bool false) rfl rfl rfl rfl rfl (fun ρ W h1 h2 => by exact r_neF h1 h2 rfl) ?_
 refine PW.nil (SX.then (SC.cond (t := false) rfl (SC.skip (SX.then (SC.seq (SC.seq (SC.region (PW.move rfl rfl rfl rfl rfl ?_))))))))
 refine PW.qn [(.tmp 15, .slice A zs.length c)] (.int .i64 ((zs.length : Int))) rfl rfl rfl ⟨rfl, trivial⟩ (fun ρ W h => by obtain ⟨h1, _⟩ := h; exact r_lenz h1) ?_
 refine PW.move rfl rfl rfl rfl rfl (PW.nil (SX.then (SC.block ?_)))
 refine SC.loop (S := Nat) (fun k => [(0, .vl (.slice A zs.length c)), (1, .vl (.slice D zs.length d)), (2, .vl (fv 52)), (6, .vl (.bool false)), (15, .vl (.slice A zs.length c)), (16, .vl (.int .i64 ((zs.length : Int)))), (17, .vl (.int .i64 (k : Int)))]) (fun k => k ≤ zs.length) (fun k => zs.length - k) 0 (Nat.zero_le _) ⟨rfl, rfl, rfl, rfl, rfl, rfl, rfl, trivial⟩ ?_
 rintro k hk0
 show SC _ _ _ _ [(0, .vl (.slice A zs.length c)), (1, .vl (.slice D zs.length d)), (2, .vl (fv 52)), (6, .vl (.bool false)), (15, .vl (.slice A zs.length c)), (16, .vl (.int .i64 ((zs.length : Int)))), (17, .vl (.int .i64 (k : Int)))] _
 refine SC.seq ?_
 by_cases hk : k < zs.length
 ·refine SC.region ?_
  refine PW.q2 (x := .tmp 17) (y := .tmp 16) (.bool true) rfl rfl rfl rfl rfl (fun ρ W h1 h2 => by exact r_lt h1 h2 (decide_eq_true (by omega))) ?_
  refine PW.nil (SX.then (SC.seq (SC.cond (t := true) rfl (SC.skip (SX.then (SC.seq (SC.block (SC.seq (SC.region (PW.move rfl rfl rfl rfl rfl ?_))))))))))
  refine PW.q2 (x := .tmp 15) (y := .tmp 17) (.pointer (padd A (k * 2))) rfl rfl rfl rfl rfl (fun ρ W h1 h2 => r_idxzA hL (hk) h1 h2) ?_
  refine PW.ldz (i := k) hL (hk) rfl rfl rfl rfl ?_
  refine PW.alloc (BI 31) rfl rfl rfl rfl rfl bI ?_
  refine PW.assign rfl rfl rfl rfl rfl ?_
  refine PW.store (x := .tmp 21) (r := .kw (KI (at0 zs k))) rfl rfl rfl rfl rfl rfl sh_I ?_
  refine PW.nil (SX.then (SC.seq (SC.region (PW.move rfl rfl rfl rfl rfl (PW.move rfl rfl rfl rfl rfl ?_)))))
  refine PW.q2 (x := .tmp 22) (y := .tmp 23) (.pointer (padd D (k * 2))) rfl rfl rfl rfl rfl (fun ρ W h1 h2 => r_idxzAj hJ (hk) h1 h2) ?_
  refine PW.ldzj (i := k) hJ (hk) rfl rfl rfl rfl ?_
  refine PW.alloc (BI 34) rfl rfl rfl rfl rfl bJ ?_
  refine PW.store (x := .tmp 25) (r := .kw (KJ (at0 zs k))) rfl rfl rfl rfl rfl rfl sh_J ?_
  refine PW.nil (SX.then (SC.seq (SC.region (PW.move rfl rfl rfl rfl rfl ?_))))
  refine PW.load rfl rfl rfl rfl rfl rfl ?_
  refine PW.load rfl rfl rfl rfl rfl rfl ?_
  refine PW.callF (s := 26) (r := .vl (.bool true)) rfl rfl rfl rfl rfl rfl rfl (KV.st _) rfl (k_is (hb k) (by omega) rfl) ?_
  refine PW.q1 (x := .tmp 29) (.bool false) rfl rfl rfl rfl (fun ρ W h1 => by go_simp) ?_
  refine PW.nil (SX.then (SC.cond (t := false) rfl (SC.skip ?_)))
  refine SX.blockN ?_
  refine SX.then (SC.region ?_)
  refine PW.q2 (x := .tmp 17) (y := .const (.int .i64 1)) (.int .i64 ((k + 1 : Nat))) rfl rfl rfl rfl rfl (fun ρ W h1 h2 => by exact r_add h1 h2 (by omega) (by omega)) ?_
  refine PW.move rfl rfl rfl rfl rfl (PW.nil ?_)
  refine SX.back (k + 1) ?_ ?_ ?_
  ·exact (show k + 1 ≤ zs.length by omega)
  ·exact (show zs.length - (k + 1) < zs.length - k by omega)
  ·exact ⟨rfl, rfl, rfl, rfl, rfl, rfl, rfl, trivial⟩
 ·refine SC.region ?_
  refine PW.q2 (x := .tmp 17) (y := .tmp 16) (.bool false) rfl rfl rfl rfl rfl (fun ρ W h1 h2 => by exact r_lt h1 h2 (decide_eq_false (by omega))) ?_
  refine PW.nil (SX.then (SC.seq (SC.cond (t := false) rfl (SC.exit (SX.thenE (SX.thenE (SX.blockE (SX.then (SC.seq (SC.region (PW.assign rfl rfl rfl rfl rfl (PW.nil (SX.then (SC.ret ?_))))))))))))))
  exact SX.done (s := 6) (r := .vl (.bool true)) rfl rfl rfl
end Go.Proofs.YthpjmhhfcechmaaGreat.Sy
/- A walk by rules: in a statement that draws its order, a call that hands back a row of its own. -/
namespace Go.Proofs.YthpjmhhfcechmaaGreat.Sy
open Go Go.RowKit Ma
section
variable {B N : Nat} {w0 : World} {ops : Array Oper} {o : Oper} {rest : List Oper} {fr : List (Nat × AV)} {Q : Exit → Act → World → Prop} {d : Nat}
theorem DX.callE {c : Call} {f : FuncId} {s et sz n : Nat} {k : Know} {R : List Value → World → Prop} (ce : CE f) (hg : o.guard = none) (hd : o.dst = some d) (hN : Nat.blt d N = true) (ho : o.op = .call c) (hc : c.callee = .value (.func f)) (ha : c.args = #[.tmp s]) (hs : look fr s = some (.kw k))
  (h : ∀ v W, k v W → Calls Tryz.prog f #[v] W (Ret W (KS W.heap.size et sz n R))) : Eo B N w0 ops o fr (.gs d et sz n R) := by
 refine ⟨hd, hN, hg, fun a W hf => ?_⟩
 obtain ⟨hkv, _⟩ : k (a.eval (.tmp s)) W ∧ St k := hf.ho s _ hs
 obtain ⟨dst, op, ty, pos, after, guard⟩ := o
 simp only at ho
 subst ho
 unfold Rh.gives
 rw [run_call ce hc a.eval rfl ty W]
 have e0 : c.args.map a.eval = #[a.eval (.tmp s)] := by rw [ha, List.map_toArray]; rfl
 rw [e0]
 exact Rh.gives_enter ((h _ W hkv).mono fun e W' ⟨v, he, hv, hn⟩ => ⟨v, he, hn, hv⟩)
end
end Go.Proofs.YthpjmhhfcechmaaGreat.Sy
/- Short over a row that came in, wherever it lies. -/
namespace Go.Proofs.YthpjmhhfcechmaaGreat
open Go Go.RowKit Ma
def NsA (w : World) (b q : Nat) (ns : List Nn) : Prop := ∀ i n A l c, ns[i]? = some (n, A, l, c) → w.cell? ⟨b, q + i * 2, none⟩ = some (.bool n) ∧ w.cell? ⟨b, q + i * 2 + 1, none⟩ = some (.slice A l c)
theorem NsA.nw {w W : World} {b q : Nat} {ns : List Nn} (h : NsA w b q ns) (k : Nw w W) : NsA W b q ns := fun i n A l c e => ⟨k.c (h i n A l c e).1, k.c (h i n A l c e).2⟩
set_option maxHeartbeats 1600000 in
set_option maxRecDepth 100000 in
theorem shortxA_c {b q c p most : Nat} {ns : List Nn} {w : World} (hc : w.cell? ⟨p, 0, none⟩ = some (.int .i64 most)) (hn : NsA w b q ns) (hm : most ≤ 1000) (hl : ns.length ≤ 1000) (hL : ∀ x ∈ ns, x.2.2.1 ≤ 9223372036854775807) :
  Calls Tryz.prog 114 #[.slice (some ⟨b, q, none⟩) ns.length c, .func (.func 70) #[] #[.pointer (some ⟨p, 0, none⟩)]] w (Ret w (KIx (shB most ns))) := by
 have HN := Lib.hid hn
 have HL := Lib.hid hL
 clear hn hL
 go_enter Tryz.func114, Tryz.ntmps114
 go_wp2
 go_loopw [5, 8] (fun _ ci wr => ∃ k : Nat, ci = .int .i64 k ∧ k ≤ ns.length ∧ shB most (ns.take k) = true ∧ Nw w wr)
  (fun _ ci _ => ns.length - (intOf ci).toNat)
 case atStart => exact ⟨0, rfl, by omega, rfl, Nw.refl w⟩
 case round =>
  obtain ⟨k, rfl, hk, hs, hn⟩ := hrel
  have HS := Lib.hid hs
  clear hs
  have hc2 := hn.c hc
  by_cases hlt : k < ns.length
  ·obtain ⟨⟨n, A, l, cc⟩, he⟩ : ∃ x, ns[k]? = some x := ⟨_, List.getElem?_eq_getElem hlt⟩
   obtain ⟨h1, h2⟩ := (HN.out.nw hn) k n A l cc he
   have hll := HL.out _ (List.mem_of_getElem? he)
   simp only at hll
   have hk0 : (0 : Int) ≤ (k : Int) := by omega
   have hki : (k : Int) < (ns.length : Int) := by omega
   have ht : shB most (ns.take (k + 1)) = (shB most (ns.take k) && decide (l ≤ most)) := by
    unfold shB
    rw [List.take_add_one, he]
    simp
   have HE := Lib.hid he
   have HT := Lib.hid ht
   clear he ht
   by_cases hlm : most < l
   ·have hb : decide (most < l) = true := by simpa using hlm
    go_wp2_with (go_at_call 70; refine (short1_c hc2 hll).mono ?_; rintro e w1 ⟨_, rfl, rfl, hb1⟩)
    go_ret
    have hf : shB most ns = false := by
     unfold shB
     rw [List.all_eq_false]
     exact ⟨_, List.mem_of_getElem? HE.out, by simpa using hlm⟩
    exact ⟨_, rfl, ⟨k, rfl, by rw [hf]; simp⟩, hn.trans hb1⟩
   ·have hb : decide (most < l) = false := by simpa using hlm
    go_wp2_with (go_at_call 70; refine (short1_c hc2 hll).mono ?_; rintro e w1 ⟨_, rfl, rfl, hb1⟩)
    go_roundw
    case rel => exact ⟨k + 1, by go_num, by omega, by rw [HT.out, HS.out]; simp; omega, hn.trans hb1⟩
    case measure => simp [intOf]; omega
  ·have hke : k = ns.length := by omega
   have hf : shB most ns = true := by
    have := HS.out
    rwa [hke, List.take_length] at this
   have HF := Lib.hid hf
   clear hke hf
   go_wp2
   go_ret
   exact ⟨_, rfl, ⟨-1, rfl, by rw [HF.out]; simp⟩, hn⟩
set_option maxHeartbeats 1600000 in
set_option maxRecDepth 100000 in
theorem shortcA_c {b q c p most : Nat} {ns : List Nn} {w : World} (hc : w.cell? ⟨p, 0, none⟩ = some (.int .i64 most)) (hn : NsA w b q ns) (hm : most ≤ 1000) (hl : ns.length ≤ 1000) (hL : ∀ x ∈ ns, x.2.2.1 ≤ 9223372036854775807) :
    Calls Tryz.prog 69 #[.slice (some ⟨b, q, none⟩) ns.length c, .func (.func 70) #[] #[.pointer (some ⟨p, 0, none⟩)]] w (Ret w (KV (.bool (!shB most ns)))) := by
  have HN := Lib.hid hn
  have HL := Lib.hid hL
  clear hn hL
  by_cases hs : shB most ns = true
  all_goals
    have HS := Lib.hid hs
    clear hs
    go_enter Tryz.func69, Tryz.ntmps69
    go_wp2_with (go_at_call 114; refine (shortxA_c hc HN.out hm hl HL.out).mono ?_; rintro e w1 ⟨_, rfl, ⟨r, rfl, hr⟩, hb1⟩)
    go_ret
    have h1 := HS.out
    first
      | (rw [h1] at hr ⊢; exact Ret.Veq (by simp at hr ⊢; omega) hb1)
      | (have h1 : shB most ns = false := by simpa using h1
         rw [h1] at hr ⊢; exact Ret.Veq (by simp at hr ⊢; omega) hb1)
set_option maxHeartbeats 1600000 in
set_option maxRecDepth 100000 in
theorem shortA_c {b q c most : Nat} {ns : List Nn} {w : World} (hn : NsA w b q ns) (hm : most ≤ 1000) (hl : ns.length ≤ 1000) (hL : ∀ x ∈ ns, x.2.2.1 ≤ 9223372036854775807) :
  Calls Tryz.prog 11 #[.int .i64 most, .slice (some ⟨b, q, none⟩) ns.length c] w (Ret w (KV (.bool (shB most ns)))) := by
 have nw1 : Nw w (w.alloc (.cells #[.int .i64 most] 3)) := (Nw.refl w).alloc _
 have hc : (w.alloc (.cells #[.int .i64 most] 3)).cell? ⟨w.heap.size, 0, none⟩ = some (.int .i64 most) := by go_simp
 have HN := Lib.hid (hn.nw nw1)
 have HL := Lib.hid hL
 clear hn hL
 go_enter Tryz.func11, Tryz.ntmps11
 go_wp2_with (go_at_call 69; refine (shortcA_c hc HN.out hm hl HL.out).mono ?_; rintro e w1 ⟨_, rfl, rfl, hb1⟩)
 go_ret
 exact Ret.Veq (by simp) (nw1.trans hb1)
end Go.Proofs.YthpjmhhfcechmaaGreat
/- A row of signs and limbs that came in, wherever it lies: read; Short of it. -/
namespace Go.Proofs.YthpjmhhfcechmaaGreat
open Go Go.RowKit Ma Sy
def LNs (w : World) (A : Option Addr) (ns : List Nn) : Prop := ∀ i n D l c, ns[i]? = some (n, D, l, c) → ∃ b q, A = some ⟨b, q, none⟩ ∧ w.cell? ⟨b, q + i * 2, none⟩ = some (.bool n) ∧ w.cell? ⟨b, q + i * 2 + 1, none⟩ = some (.slice D l c)
theorem LNs.nw {w W : World} {A : Option Addr} {ns : List Nn} (h : LNs w A ns) (k : Nw w W) : LNs W A ns := fun i n D l c e => by
 obtain ⟨b, q, e1, c0, c1⟩ := h i n D l c e
 exact ⟨b, q, e1, k.c c0, k.c c1⟩
set_option maxHeartbeats 1600000 in
set_option maxRecDepth 100000 in
theorem shortx0_c {A : Option Addr} {c p : Nat} {w : World} :
  Calls Tryz.prog 114 #[.slice A 0 c, .func (.func 70) #[] #[.pointer (some ⟨p, 0, none⟩)]] w (Ret w (KIx true)) := by
 go_enter Tryz.func114, Tryz.ntmps114
 go_wp2
 go_loopw [5, 8] (fun _ ci wr => ci = .int .i64 0 ∧ Nw w wr) (fun _ _ _ => 0)
 case atStart => exact ⟨rfl, Nw.refl w⟩
 case round =>
  obtain ⟨rfl, hn⟩ := hrel
  go_wp2
  go_ret
  exact ⟨_, rfl, ⟨-1, rfl, by simp⟩, hn⟩
set_option maxHeartbeats 1600000 in
set_option maxRecDepth 100000 in
theorem shortc0_c {A : Option Addr} {c p : Nat} {w : World} :
  Calls Tryz.prog 69 #[.slice A 0 c, .func (.func 70) #[] #[.pointer (some ⟨p, 0, none⟩)]] w (Ret w (KV (.bool false))) := by
 go_enter Tryz.func69, Tryz.ntmps69
 go_wp2_with (go_at_call 114; refine shortx0_c.mono ?_; rintro e w1 ⟨_, rfl, ⟨r, rfl, hr⟩, hb1⟩)
 go_ret
 exact Ret.Veq (by simp at hr ⊢; omega) hb1
set_option maxHeartbeats 1600000 in
set_option maxRecDepth 100000 in
theorem short0_c {A : Option Addr} {c : Nat} {m : Int} {w : World} :
  Calls Tryz.prog 11 #[.int .i64 m, .slice A 0 c] w (Ret w (KV (.bool true))) := by
 have nw1 : Nw w (w.alloc (.cells #[.int .i64 m] 3)) := (Nw.refl w).alloc _
 go_enter Tryz.func11, Tryz.ntmps11
 go_wp2_with (go_at_call 69; refine shortc0_c.mono ?_; rintro e w1 ⟨_, rfl, rfl, hb1⟩)
 go_ret
 exact Ret.Veq (by simp) (nw1.trans hb1)
theorem shortL_c {A : Option Addr} {c most : Nat} {ns : List Nn} {w : World} (hn : LNs w A ns) (hm : most ≤ 1000) (hl : ns.length ≤ 1000) (hL : ∀ x ∈ ns, x.2.2.1 ≤ 9223372036854775807) :
  Calls Tryz.prog 11 #[.int .i64 most, .slice A ns.length c] w (Ret w (KV (.bool (shB most ns)))) := by
 cases hns : ns with
 | nil => exact short0_c
 | cons x xs =>
  obtain ⟨n, D, l, c'⟩ := x
  obtain ⟨b, q, rfl, _⟩ := hn 0 n D l c' (by rw [hns]; rfl)
  rw [← hns]
  exact shortA_c (fun i n D l c e => by
   obtain ⟨b', q', e1, c0, c1⟩ := hn i n D l c e
   injection e1 with e1
   injection e1 with e1 e2
   subst e1 e2
   exact ⟨c0, c1⟩) hm hl hL
section
variable {x y : Operand} {dst : Option Tmp} {ty : TypeId} {pos : String} {after : Array Edge} {guard : Option (Nat × Bool)} {ρ : Operand → Value} {W : World} {m : Bool} {A D : Option Addr} {l c n : Nat}
theorem r_idxN {g q i : Nat} (h1 : ρ x = .slice (some ⟨g, q, none⟩) n c) (h2 : ρ y = .int .i64 (i : Int)) (hi : i < n) : (execOp ρ ⟨dst, .indexAddr 80 x y, ty, pos, after, guard⟩).run Tryz.prog W = .ok (.value (.pointer (some ⟨g, q + i * 2, none⟩))) W := by
 go_simp
theorem r_ldN {g q : Nat} (h1 : ρ x = .pointer (some ⟨g, q, none⟩)) (h2 : W.cell? ⟨g, q, none⟩ = some (.bool m)) (h3 : W.cell? ⟨g, q + 1, none⟩ = some (.slice D l c)) : (execOp ρ ⟨dst, .load 24 x, ty, pos, after, guard⟩).run Tryz.prog W = .ok (.value (.agg #[.bool m, .slice D l c])) W := by
 go_simp
theorem r_lenN (h1 : ρ x = .slice A n c) : (execOp ρ ⟨dst, .call ⟨.builtin .len, #[x], #[80]⟩, ty, pos, after, guard⟩).run Tryz.prog W = .ok (.value (.int .i64 (n : Int))) W := by
 go_simp
theorem r_idxNA {w : World} {ns : List Nn} {i : Nat} {n0 : Bool} {l0 c0 : Nat} (hL : LNs w A ns) (he : ns[i]? = some (n0, D, l0, c0)) (h1 : ρ x = .slice A ns.length c) (h2 : ρ y = .int .i64 (i : Int)) : (execOp ρ ⟨dst, .indexAddr 80 x y, ty, pos, after, guard⟩).run Tryz.prog W = .ok (.value (.pointer (padd A (i * 2)))) W := by
 obtain ⟨g, q, rfl, _⟩ := hL i _ _ _ _ he
 rw [r_idxN h1 h2 (List.getElem?_eq_some_iff.1 he).1, ← addq]
 rfl
end
end Go.Proofs.YthpjmhhfcechmaaGreat
namespace Go.Proofs.YthpjmhhfcechmaaGreat.Sy
open Go Go.RowKit Ma
section
variable {B N : Nat} {w0 : World} {ops : Array Oper} {rest : List Oper} {fr : List (Nat × AV)} {Q : Exit → Act → World → Prop} {d : Nat} {ty : TypeId} {pos : String} {after : Array Edge}
theorem PW.ldN {A D : Option Addr} {ns : List Nn} {i s l c : Nat} {n : Bool} {guard : Option (Nat × Bool)} (hL : LNs w0 A ns) (he : ns[i]? = some (n, D, l, c)) (hB : B = w0.heap.size) (hw : wantB ops fr ⟨some d, .load 24 (.tmp s), ty, pos, after, guard⟩ = some true) (hN : Nat.blt d N = true) (hs : look fr s = some (.vl (.pointer (padd A (i * 2)))))
  (hk : PW B N w0 ops rest ((d, .vl (.agg #[.bool n, .slice D l c])) :: fr) Q) : PW B N w0 ops (⟨some d, .load 24 (.tmp s), ty, pos, after, guard⟩ :: rest) fr Q :=
 PW.val (r := .vl (.agg #[.bool n, .slice D l c])) hw rfl hN rfl (fun a W hf => by
  obtain ⟨g, q, rfl, c0, c1⟩ := hL i _ _ _ _ he
  have h1 : a.eval (.tmp s) = .pointer (some ⟨g, q + i * 2, none⟩) := by rw [← addq]; exact hf.ho s _ hs
  have k0 : W.cell? ⟨g, q + i * 2, none⟩ = some (.bool n) := by rw [hf.be.cell (by rw [hB]; exact World.block_lt_of_cell? w0 _ c0)]; exact c0
  have k1 : W.cell? ⟨g, q + i * 2 + 1, none⟩ = some (.slice D l c) := by rw [hf.be.cell (by rw [hB]; exact World.block_lt_of_cell? w0 _ c1)]; exact c1
  exact ⟨_, r_ldN h1 k0 k1, rfl⟩) hk
end
end Go.Proofs.YthpjmhhfcechmaaGreat.Sy
/- A walk by rules: an append to a row, as an equation and the frame behind it. -/
namespace Go.Proofs.YthpjmhhfcechmaaGreat.Sy
open Go Go.RowKit Ma
section
variable {B N : Nat} {w0 : World} {ops : Array Oper} {o : Oper} {rest : List Oper} {fr : List (Nat × AV)} {Q : Exit → Act → World → Prop} {d : Nat}
theorem apz_run {a : Act} {W : World} (hf : Fr B N w0 fr a W) {T : TypeId} {K s x : Nat} {v : Value} {zs : List Int} {z : Int} (hd : o.dst = some d) (hN : Nat.blt d N = true) (ho : o.op = .call { callee := .builtin .append, args := #[.tmp s, .tmp x], argTypes := #[T, T] }) (hs : look fr s = some (.vl v)) (hx : look fr x = some (.rz 31 2 1 (RsI [z])))
  (hK : look fr K = some (.rs v 31 2 zs.length (RsI zs))) (hu : Tryz.prog.underlying T = some (.slice 31)) (hn : zs.length + 1 ≤ 4000000) (hKN : Nat.ble N K = true) : ∃ v' W2, (execOp a.eval o).run Tryz.prog W = .ok (.value v') W2 ∧ Fr B N w0 ((K, .rs v' 31 2 (zs ++ [z]).length (RsI (zs ++ [z]))) :: (d, .vl v') :: fr) (a.put (some d) v') W2 := by
  have s1 : a.eval (.tmp s) = v := hf.ho s _ hs
  have own : OwS W B 31 2 v zs.length (RsI zs) := hf.ho K _ hK
  have ownx : OwS W B 31 2 (a.eval (.tmp x)) 1 (RsI [z]) := hf.ho x _ hx
  obtain ⟨⟨xs, p1, p2⟩, p3, p4⟩ := own
  obtain ⟨⟨us, x1, x2⟩, x3, x4⟩ := ownx
  rcases x1.2 with ⟨_, h0⟩ | ⟨gx, cx, curx, ex, _⟩
  ·cases h0
  obtain ⟨i0, q1, q2, q3, q4⟩ := info_parts info_Int
  obtain ⟨qs, rfl, hq⟩ := id x2
  have hone := flat_one qs
  have hcells : ∀ j u, (flat qs)[j]? = some u → W.cell? ((⟨gx, 0, none⟩ : Addr).add j) = some u := x1.cells (g := gx) (by rw [ex]; rfl)
  have hbytes : (zs.length + 1) * 32 ≤ 140737488355328 := by omega
  have h63 : zs.length + 1 ≤ maxLen := by unfold maxLen; omega
  have hz0 : ∀ u ∈ (Value.agg #[.bool false, .slice none 0 0]).cells.toList, notInt u := by
   intro u hu
   have : u = .bool false ∨ u = .slice none 0 0 := by simpa [Value.cells] using hu
   rcases this with rfl | rfl
   ·exact fun k x => by simp
   ·exact fun k x => by simp
  obtain ⟨v', W2, r1, r2, r3, _, r5⟩ := run_append_own_at (P := Tryz.prog) W B T o.type 31 i0 (.agg #[.bool false, .slice none 0 0]) 2 32 hu q1 q2 q3 q4 rfl (by decide) v zs.length xs p1 ⟨gx, 0, none⟩ 1 cx (flat qs) x1.1 hcells (fun u hu => (hone u hu).1) h63 hbytes hf.bs
  have r6 := append_noI (P := Tryz.prog) W B T o.type 31 i0 (.agg #[.bool false, .slice none 0 0]) 2 32 hu q1 q2 q3 q4 rfl (by decide) v zs.length xs p1 ⟨gx, 0, none⟩ 1 cx (flat qs) x1.1 hcells (fun u hu => (hone u hu).1) h63 hbytes hz0 (fun u hu => (hone u hu).2) p3 r1
  have hin : IntK W W2 := p3.intK r3
  have e2 : (execOp a.eval o).run Tryz.prog W = .ok (.value v') W2 := by
   unfold execOp
   simp only [ho, resolve, invoke, builtin, Sem.run_bind, Sem.run_pure, Result.andThen_ok, List.map_toArray, List.map_cons, List.map_nil, s1, ex, r1]
  have own2 : OwS W2 B 31 2 v' (zs ++ [z]).length (RsI (zs ++ [z])) := by
   rw [List.length_append]
   exact ⟨⟨xs ++ flat qs, r2, RsI.st _ _ _ _ hin (p2.append x2)⟩, r6, RsI.st _⟩
  have hf2 := hf.sgrow hK r3 own2 r5 (Nat.le_refl _)
  have hf3 := hf2.set (v := .vl v') hN (u := v') rfl rfl
  refine ⟨v', W2, e2, hf3.ext fun s' => ?_⟩
  have hdK : ¬ d = K := fun e => by subst e; simp [Nat.blt_eq] at hN hKN; omega
  simp only [look_cons]
  by_cases a1 : K = s'
  ·subst a1; rw [if_pos rfl, if_neg hdK, if_pos rfl]
  ·rw [if_neg a1, if_neg a1]
theorem apzj_run {a : Act} {W : World} (hf : Fr B N w0 fr a W) {T : TypeId} {K s x : Nat} {v : Value} {zs : List Int} {z : Int} (hd : o.dst = some d) (hN : Nat.blt d N = true) (ho : o.op = .call { callee := .builtin .append, args := #[.tmp s, .tmp x], argTypes := #[T, T] }) (hs : look fr s = some (.vl v)) (hx : look fr x = some (.rz 34 2 1 (RsJ [z])))
  (hK : look fr K = some (.rs v 34 2 zs.length (RsJ zs))) (hu : Tryz.prog.underlying T = some (.slice 34)) (hn : zs.length + 1 ≤ 4000000) (hKN : Nat.ble N K = true) : ∃ v' W2, (execOp a.eval o).run Tryz.prog W = .ok (.value v') W2 ∧ Fr B N w0 ((K, .rs v' 34 2 (zs ++ [z]).length (RsJ (zs ++ [z]))) :: (d, .vl v') :: fr) (a.put (some d) v') W2 := by
  have s1 : a.eval (.tmp s) = v := hf.ho s _ hs
  have own : OwS W B 34 2 v zs.length (RsJ zs) := hf.ho K _ hK
  have ownx : OwS W B 34 2 (a.eval (.tmp x)) 1 (RsJ [z]) := hf.ho x _ hx
  obtain ⟨⟨xs, p1, p2⟩, p3, p4⟩ := own
  obtain ⟨⟨us, x1, x2⟩, x3, x4⟩ := ownx
  rcases x1.2 with ⟨_, h0⟩ | ⟨gx, cx, curx, ex, _⟩
  ·cases h0
  obtain ⟨i0, q1, q2, q3, q4⟩ := info_parts info_Ij
  obtain ⟨qs, rfl, hq⟩ := id x2
  have hone := flat_one qs
  have hcells : ∀ j u, (flat qs)[j]? = some u → W.cell? ((⟨gx, 0, none⟩ : Addr).add j) = some u := x1.cells (g := gx) (by rw [ex]; rfl)
  have hbytes : (zs.length + 1) * 32 ≤ 140737488355328 := by omega
  have h63 : zs.length + 1 ≤ maxLen := by unfold maxLen; omega
  have hz0 : ∀ u ∈ (Value.agg #[.bool false, .slice none 0 0]).cells.toList, notInt u := by
   intro u hu
   have : u = .bool false ∨ u = .slice none 0 0 := by simpa [Value.cells] using hu
   rcases this with rfl | rfl
   ·exact fun k x => by simp
   ·exact fun k x => by simp
  obtain ⟨v', W2, r1, r2, r3, _, r5⟩ := run_append_own_at (P := Tryz.prog) W B T o.type 34 i0 (.agg #[.bool false, .slice none 0 0]) 2 32 hu q1 q2 q3 q4 rfl (by decide) v zs.length xs p1 ⟨gx, 0, none⟩ 1 cx (flat qs) x1.1 hcells (fun u hu => (hone u hu).1) h63 hbytes hf.bs
  have r6 := append_noI (P := Tryz.prog) W B T o.type 34 i0 (.agg #[.bool false, .slice none 0 0]) 2 32 hu q1 q2 q3 q4 rfl (by decide) v zs.length xs p1 ⟨gx, 0, none⟩ 1 cx (flat qs) x1.1 hcells (fun u hu => (hone u hu).1) h63 hbytes hz0 (fun u hu => (hone u hu).2) p3 r1
  have hin : IntK W W2 := p3.intK r3
  have e2 : (execOp a.eval o).run Tryz.prog W = .ok (.value v') W2 := by
   unfold execOp
   simp only [ho, resolve, invoke, builtin, Sem.run_bind, Sem.run_pure, Result.andThen_ok, List.map_toArray, List.map_cons, List.map_nil, s1, ex, r1]
  have own2 : OwS W2 B 34 2 v' (zs ++ [z]).length (RsJ (zs ++ [z])) := by
   rw [List.length_append]
   exact ⟨⟨xs ++ flat qs, r2, RsJ.st _ _ _ _ hin (p2.append x2)⟩, r6, RsJ.st _⟩
  have hf2 := hf.sgrow hK r3 own2 r5 (Nat.le_refl _)
  have hf3 := hf2.set (v := .vl v') hN (u := v') rfl rfl
  refine ⟨v', W2, e2, hf3.ext fun s' => ?_⟩
  have hdK : ¬ d = K := fun e => by subst e; simp [Nat.blt_eq] at hN hKN; omega
  simp only [look_cons]
  by_cases a1 : K = s'
  ·subst a1; rw [if_pos rfl, if_neg hdK, if_pos rfl]
  ·rw [if_neg a1, if_neg a1]
end
end Go.Proofs.YthpjmhhfcechmaaGreat.Sy
