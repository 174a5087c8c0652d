/- Parts Rrn, D2, D3, in one file. -/
import Derived.RowKit
import Derived.WalkKit
import Derived.ProofKit
import Derived.OpenShut
import Derived.ShutString
import Derived.ChangeOld
import Derived.Lib.SmallJoins
import Derived.Test.YthpjmhhfcechmaaGreatLRRounds10
import Derived.Test.YthpjmhhfcechmaaGreatLRRounds11
import Derived.Test.YthpjmhhfcechmaaGreatLRRounds3
/- RationalRounds: the walk, by rules. -/
set_option linter.unusedVariables false
set_option linter.unusedSimpArgs false
namespace Go.Proofs.YthpjmhhfcechmaaGreat
open Go.RowKit Ma Sy
theorem cmpq_lt {x y : Rat} (h : x < y) : cmpq x y = -1 := if_pos h
theorem rem_add (a b : Rat) : b + (a - b) = a := by grind
theorem sgq_range (x : Rat) : -1 ≤ sgq x ∧ sgq x ≤ 1 := by unfold sgq sgn; split <;> (try split) <;> omega
theorem rnd_0w {x y : Rat} (hy : y ≠ 0) {way : Int} (h : way = 0) : sgq (x - y * ((rdq way (x / y) : Int) : Rat)) ≠ -(sgq y) := by subst h; exact rnd_0 hy
theorem rnd_1w {x y : Rat} (hy : y ≠ 0) {way : Int} (h : way = 1) : sgq (x - y * ((rdq way (x / y) : Int) : Rat)) ≠ sgq y := by subst h; exact rnd_1 hy
theorem rnd_2w {x y : Rat} (hy : y ≠ 0) {way : Int} (h : way = 2) (h0 : sgq (x - y * ((rdq way (x / y) : Int) : Rat)) ≠ 0) : sgq (x - y * ((rdq way (x / y) : Int) : Rat)) = sgq x := by subst h; exact rnd_2 hy h0
theorem rnd_3w {x y : Rat} (hy : y ≠ 0) {way : Int} (h : way = 3) : absq ((x - y * ((rdq way (x / y) : Int) : Rat)) + (x - y * ((rdq way (x / y) : Int) : Rat))) ≤ absq y := by subst h; exact rnd_3 hy
theorem at0_set_ok {qs : List Int} {k : Nat} {f : Int → Int} (h : ∀ i, i < k → at0 qs i = f (i : Int)) (hk : k < qs.length) : ∀ i, i < k + 1 → at0 (qs.set k (f (k : Int))) i = f (i : Int) := fun i hi => by
 by_cases e : k = i
 ·subst e
  rw [at0, List.getD_eq_getElem?_getD, List.getElem?_set_self hk]; rfl
 ·have := h i (by omega)
  rwa [at0, List.getD_eq_getElem?_getD, List.getElem?_set_ne e, ← List.getD_eq_getElem?_getD]
set_option maxHeartbeats 12800000 in
set_option maxRecDepth 100000 in
theorem rationalRounds_walk {n1 n2 n3 n4 : Bool} {A1 A2 A3 A4 : Option Addr} {l1 l2 l3 l4 c1 c2 c3 c4 : Nat} {xs1 xs2 xs3 xs4 : List Int} {w : World} (h1 : In w A1 l1 c1 xs1) (h2 : In w A2 l2 c2 xs2) (h3 : In w A3 l3 c3 xs3) (h4 : In w A4 l4 c4 xs4) :
  Calls Tryz.prog 6 #[.agg #[.bool n1, .slice A1 l1 c1, .bool n2, .slice A2 l2 c2], .agg #[.bool n3, .slice A3 l3 c3, .bool n4, .slice A4 l4 c4]] w (Ret w (KV (.bool true))) := by
 obtain ⟨x, hz1⟩ : ∃ z, z = sg n1 (lv b32 xs1) := ⟨_, rfl⟩
 obtain ⟨y, hz2⟩ : ∃ z, z = sg n2 (lv b32 xs2) := ⟨_, rfl⟩
 obtain ⟨z, hz3⟩ : ∃ z, z = sg n3 (lv b32 xs3) := ⟨_, rfl⟩
 obtain ⟨u, hz4⟩ : ∃ z, z = sg n4 (lv b32 xs4) := ⟨_, rfl⟩
 refine calls_sc (l := [.vl (.agg #[.bool n1, .slice A1 l1 c1, .bool n2, .slice A2 l2 c2]), .vl (.agg #[.bool n3, .slice A3 l3 c3, .bool n4, .slice A4 l4 c4])]) (us := [.agg #[.bool n1, .slice A1 l1 c1, .bool n2, .slice A2 l2 c2], .agg #[.bool n3, .slice A3 l3 c3, .bool n4, .slice A4 l4 c4]]) 159 Tryz.func6 rfl Tryz.ntmps6 (by simp) ⟨rfl, rfl, rfl, rfl, trivial⟩ ?_
 refine SC.seq (SC.region ?_)
 refine PW.box (x := .tmp 0) (r := .vl (.agg #[.bool n1, .slice A1 l1 c1, .bool n2, .slice A2 l2 c2])) (BQ 26) rfl rfl rfl rfl rfl bQN rfl sh_VQ ?_
 refine PW.box (x := .tmp 1) (r := .vl (.agg #[.bool n3, .slice A3 l3 c3, .bool n4, .slice A4 l4 c4])) (BQ 26) rfl rfl rfl rfl rfl bQN rfl sh_VQ ?_
 refine PW.assign rfl rfl rfl rfl rfl (PW.nil (SX.then (SC.seq (SC.seq ?_))))
 by_cases hq : shQ 3 [((n1, A1, l1, c1), (n2, A2, l2, c2)), ((n3, A3, l3, c3), (n4, A4, l4, c4))] = true
 ·have hlehq : (l1 ≤ 3 ∧ l2 ≤ 3) ∧ (l3 ≤ 3 ∧ l4 ≤ 3) := by simpa [shB, shQ] using hq
  have X : bd 3 x := hz1 ▸ bd_sg h1.2.2.2 (by have := h1.1; omega)
  have Y : bd 3 y := hz2 ▸ bd_sg h2.2.2.2 (by have := h2.1; omega)
  have Z : bd 3 z := hz3 ▸ bd_sg h3.2.2.2 (by have := h3.1; omega)
  have U : bd 3 u := hz4 ▸ bd_sg h4.2.2.2 (by have := h4.1; omega)
  have hl1 : l1 ≤ 3 := by omega
  have hl2 : l2 ≤ 3 := by omega
  have hl3 : l3 ≤ 3 := by omega
  have hl4 : l4 ≤ 3 := by omega
  refine SC.region ?_
  refine PW.loadV rfl rfl rfl rfl rfl rfl ?_
  refine PW.loadV rfl rfl rfl rfl rfl rfl ?_
  refine PW.short3 3 [((n1, A1, l1, c1), (n2, A2, l2, c2)), ((n3, A3, l3, c3), (n4, A4, l4, c4))] _ rfl rfl rfl (fun a W hf => r_bQ2 (hf.vl (s := 21) rfl) (hf.vl (s := 22) rfl)) (fun W => qs_lit2 W) (by simp; exact ⟨⟨In.lim h1, In.lim h2⟩, ⟨In.lim h3, In.lim h4⟩⟩) rfl rfl hq rfl rfl rfl rfl rfl rfl ?_
  refine PW.q1 (x := .tmp 24) (.bool false) rfl rfl rfl rfl (fun ρ W h1 => by go_simp) ?_
  refine PW.nil (SX.then (SC.cond (t := false) rfl (SC.skip (SX.then (SC.seq (SC.region ?_))))))
  refine PW.loadV rfl rfl rfl rfl rfl rfl ?_
  refine PW.loadV rfl rfl rfl rfl rfl rfl ?_
  refine PW.callS (n := ([ofq x y, ofq z u] : List Rat).length) (R := RsQ [ofq x y, ofq z u]) 159 _ ce_ofl rfl rfl rfl (fun a W hf => r_bQ2 (hf.vl (s := 27) rfl) (hf.vl (s := 28) rfl)) rfl rfl rfl rfl rfl rfl rfl rfl (fun a W hf => ofl_l (b := W.heap.size) (zs := [ofq x y, ofq z u]) (by rfl) (qs_lit2 W) (Zqs.cons (in_al h1 hf.be) (in_al h2 hf.be) hz1 hz2 X Y (by omega) (by omega) (Zqs.cons (in_al h3 hf.be) (in_al h4 hf.be) hz3 hz4 Z U (by omega) (by omega) (Zqs.nil _ _))) (by decide) (by simp)) fun gq cq => ?_
  refine PW.assign rfl rfl rfl rfl rfl (PW.nil (SX.then (SC.seq ?_)))
  refine SC.dx [.val 31 (.vl (.slice (some ⟨gq, 0, none⟩) 2 cq)), .val 32 (.vl (.pointer (some ⟨gq, 0 * 4, none⟩))), .val 33 (.kw (KQ (ofq x y).num (((ofq x y).den : Int) - 1))), .val 34 (.vl (.slice (some ⟨gq, 0, none⟩) 2 cq)), .val 35 (.vl (.pointer (some ⟨gq, 1 * 4, none⟩))), .val 36 (.kw (KQ (ofq z u).num (((ofq z u).den : Int) - 1))), .new 6 (BQ 38), .new 7 (BQ 38), .put 6 (BQ 38) (.kw (KQ (ofq x y).num (((ofq x y).den : Int) - 1))), .put 7 (BQ 38) (.kw (KQ (ofq z u).num (((ofq z u).den : Int) - 1)))] [([], [5]), ([0], []), ([1], [159]), ([], [5]), ([3], []), ([4], [159]), ([], []), ([], []), ([6, 2], []), ([7, 5], [])] rfl (by kernel_rfl) (by kernel_rfl) (by kernel_rfl) rfl ⟨?_, ?_, ?_, ?_, ?_, ?_, ?_, ?_, ?_, ?_, trivial⟩ ?_
  ·exact DX.move rfl rfl rfl rfl rfl rfl
  ·exact DX.q2 (x := .tmp 31) (y := .const (.int .i64 0)) (.pointer (some ⟨gq, 0 * 4, none⟩)) rfl rfl rfl rfl rfl (fun ρ W h1 h2 => r_idxq (i := 0) h1 h2 (by simp))
  ·exact DX.ldq (zs := [ofq x y, ofq z u]) (K := 159) (i := 0) (by simp) rfl rfl rfl rfl
  ·exact DX.move rfl rfl rfl rfl rfl rfl
  ·exact DX.q2 (x := .tmp 34) (y := .const (.int .i64 1)) (.pointer (some ⟨gq, 1 * 4, none⟩)) rfl rfl rfl rfl rfl (fun ρ W h1 h2 => r_idxq (i := 1) h1 h2 (by simp))
  ·exact DX.ldq (zs := [ofq x y, ofq z u]) (K := 159) (i := 1) (by simp) rfl rfl rfl rfl
  ·exact DX.alloc (BQ 38) rfl rfl rfl rfl bQ rfl
  ·exact DX.alloc (BQ 38) rfl rfl rfl rfl bQ rfl
  ·exact DX.store (x := .tmp 33) (r := .kw (KQ (ofq x y).num (((ofq x y).den : Int) - 1))) rfl rfl rfl rfl rfl rfl sh_Q
  ·exact DX.store (x := .tmp 36) (r := .kw (KQ (ofq z u).num (((ofq z u).den : Int) - 1))) rfl rfl rfl rfl rfl rfl sh_Q
  refine SX.then (SC.seq (SC.seq ?_))
  by_cases hy : ofq z u = 0
  ·refine SC.region ?_
   refine PW.load rfl rfl rfl rfl rfl rfl ?_
   refine PW.call (r := .vl (.int .i64 (sgq (ofq z u)))) rfl rfl rfl rfl rfl rfl (KV.st _) rfl (k_rsign) ?_
   refine PW.q2 (x := .tmp 38) (y := .const (.int .i64 0)) (.bool true) rfl rfl rfl rfl rfl (fun ρ W h1 h2 => by exact r_eqT h1 h2 (sgq_eq0.2 hy)) ?_
   refine PW.nil (SX.then (SC.cond (t := true) rfl (SC.seq (SC.region ?_))))
   refine PW.load rfl rfl rfl rfl rfl rfl ?_
   refine PW.load rfl rfl rfl rfl rfl rfl ?_
   refine PW.call (r := .kw (K3 (KI (0)) (KQ (0) (0)) (KV (.int .i64 6)))) rfl rfl rfl rfl rfl rfl (K3.st (KI.st _) (KQ.st _ _) (KV.st _)) rfl (callK (k_rquo (way := 3) (bq.of X Y) (bq.of Z U) (by decide) (by decide)) (by rw [KQt_zero (by decide) (by decide) hy]; rfl)) ?_
   refine PW.move rfl rfl rfl rfl rfl ?_
   refine PW.ext (r := .kw (KI (0))) rfl rfl rfl rfl rfl ex30 (KI.st _) rfl ?_
   refine PW.ext (r := .kw (KQ (0) (0))) rfl rfl rfl rfl rfl ex31 (KQ.st _ _) rfl ?_
   refine PW.ext (r := .vl (.int .i64 6)) rfl rfl rfl rfl rfl ex32v (KV.st _) rfl ?_
   refine PW.alloc (BI 31) rfl rfl rfl rfl rfl bI ?_
   refine PW.alloc (BQ 38) rfl rfl rfl rfl rfl bQ ?_
   refine PW.store (x := .tmp 44) (r := .kw (KI (0))) rfl rfl rfl rfl rfl rfl sh_I ?_
   refine PW.store (x := .tmp 45) (r := .kw (KQ (0) (0))) rfl rfl rfl rfl rfl rfl sh_Q ?_
   refine PW.assign rfl rfl rfl rfl rfl (PW.nil (SX.then (SC.seq (SC.region (PW.move rfl rfl rfl rfl rfl ?_)))))
   refine PW.q2 (x := .tmp 47) (y := .const (.int .i64 6)) (.bool true) rfl rfl rfl rfl rfl (fun ρ W h1 h2 => by go_simp) ?_
   refine PW.move rfl rfl rfl rfl rfl ?_
   refine PW.call (r := .vl (.bool true)) rfl rfl rfl rfl rfl rfl (KV.st _) rfl (k_awake3) ?_
   refine PW.pick (t := true) rfl rfl rfl rfl rfl rfl ?_
   refine PW.assign rfl rfl rfl rfl rfl (PW.nil (SX.then (SC.ret (SX.thenR ?_))))
   exact SX.done (r := .vl (.bool true)) rfl rfl rfl
  ·refine SC.region ?_
   refine PW.load rfl rfl rfl rfl rfl rfl ?_
   refine PW.call (r := .vl (.int .i64 (sgq (ofq z u)))) rfl rfl rfl rfl rfl rfl (KV.st _) rfl (k_rsign) ?_
   refine PW.q2 (x := .tmp 38) (y := .const (.int .i64 0)) (.bool false) rfl rfl rfl rfl rfl (fun ρ W h1 h2 => by exact r_eqF h1 h2 (fun h => hy (sgq_eq0.1 h))) ?_
   refine PW.nil (SX.then (SC.cond (t := false) rfl (SC.skip (SX.then (SC.seq (SC.region ?_))))))
   refine PW.allocA 160 rfl rfl rfl (fun ρ W => r_allocA) fun gA => ?_
   refine PW.nil (SX.then (SC.seq (SC.seq (SC.region (PW.move rfl rfl rfl rfl rfl (PW.nil (SX.then (SC.block ?_))))))))
   refine SC.loop (S := Nat × List Int) (fun ⟨k, qs⟩ => [(4, .vl (.bool false)), (6, .bx (BQ 38) (KQ (ofq x y).num (((ofq x y).den : Int) - 1))), (7, .bx (BQ 38) (KQ (ofq z u).num (((ofq z u).den : Int) - 1))), (11, .vl (.pointer (some ⟨gA, 0, none⟩))), (52, .vl (.int .i64 (k : Int))), (160, .rs (.slice (some ⟨gA, 0, none⟩) 4 4) 78 2 4 (RsI (qs)))]) (fun ⟨k, qs⟩ => k ≤ 4 ∧ qs.length = 4 ∧ ∀ i, i < k → at0 qs i = rdq (i : Int) ((ofq x y) / (ofq z u))) (fun ⟨k, qs⟩ => 4 - k) (0, [0, 0, 0, 0]) ⟨by omega, rfl, fun i hi => absurd hi (by omega)⟩ ⟨rfl, rfl, rfl, rfl, rfl, rfl, trivial⟩ ?_
   rintro ⟨k, qs⟩ ⟨hk4, hql, hqa⟩
   show SC _ _ _ _ [(4, .vl (.bool false)), (6, .bx (BQ 38) (KQ (ofq x y).num (((ofq x y).den : Int) - 1))), (7, .bx (BQ 38) (KQ (ofq z u).num (((ofq z u).den : Int) - 1))), (11, .vl (.pointer (some ⟨gA, 0, none⟩))), (52, .vl (.int .i64 (k : Int))), (160, .rs (.slice (some ⟨gA, 0, none⟩) 4 4) 78 2 4 (RsI (qs)))] _
   refine SC.seq ?_
   by_cases hk : k < 4
   ·have hN := bq.rd (way := (k : Int)) ((bq.of X Y).div (bq.of Z U) hy)
    have hR := bq.sub (bq.of X Y) ((bq.of Z U).mul (bq.int1 hN))
    refine SC.region ?_
    refine PW.q2 (x := .tmp 52) (y := .const (.int .i64 4)) (.bool true) rfl rfl rfl rfl rfl (fun ρ W h1 h2 => by exact r_lt h1 h2 (decide_eq_true (by omega))) ?_
    refine PW.nil (SX.then (SC.seq (SC.cond (t := true) rfl (SC.skip (SX.then (SC.seq (SC.block (SC.seq (SC.region (PW.move rfl rfl rfl rfl rfl (PW.assign rfl rfl rfl rfl rfl (PW.nil ?_))))))))))))
    refine SX.then (SC.seq (SC.region ?_))
    refine PW.load rfl rfl rfl rfl rfl rfl (PW.move rfl rfl rfl rfl rfl ?_)
    refine PW.load rfl rfl rfl rfl rfl rfl ?_
    refine PW.call (r := .kw (K3 (KI (rdq (k : Int) ((ofq x y) / (ofq z u)))) (KQ ((ofq x y) - (ofq z u) * ((rdq (k : Int) ((ofq x y) / (ofq z u)) : Int) : Rat)).num ((((ofq x y) - (ofq z u) * ((rdq (k : Int) ((ofq x y) / (ofq z u)) : Int) : Rat)).den : Int) - 1)) (KV (.int .i64 0)))) rfl rfl rfl rfl rfl rfl (K3.st (KI.st _) (KQ.st _ _) (KV.st _)) rfl (callK (k_rquo (way := (k : Int)) (bq.of X Y) (bq.of Z U) (by decide) (by decide)) (by rw [KQt_ok (by omega) (by omega) hy]; rfl)) ?_
    refine PW.move rfl rfl rfl rfl rfl ?_
    refine PW.ext (r := .kw (KI (rdq (k : Int) ((ofq x y) / (ofq z u))))) rfl rfl rfl rfl rfl ex30 (KI.st _) rfl ?_
    refine PW.ext (r := .kw (KQ ((ofq x y) - (ofq z u) * ((rdq (k : Int) ((ofq x y) / (ofq z u)) : Int) : Rat)).num ((((ofq x y) - (ofq z u) * ((rdq (k : Int) ((ofq x y) / (ofq z u)) : Int) : Rat)).den : Int) - 1))) rfl rfl rfl rfl rfl ex31 (KQ.st _ _) rfl ?_
    refine PW.ext (r := .vl (.int .i64 0)) rfl rfl rfl rfl rfl ex32v (KV.st _) rfl ?_
    refine PW.alloc (BI 31) rfl rfl rfl rfl rfl bI ?_
    refine PW.alloc (BQ 38) rfl rfl rfl rfl rfl bQ ?_
    refine PW.store (x := .tmp 60) (r := .kw (KI (rdq (k : Int) ((ofq x y) / (ofq z u))))) rfl rfl rfl rfl rfl rfl sh_I ?_
    refine PW.store (x := .tmp 61) (r := .kw (KQ ((ofq x y) - (ofq z u) * ((rdq (k : Int) ((ofq x y) / (ofq z u)) : Int) : Rat)).num ((((ofq x y) - (ofq z u) * ((rdq (k : Int) ((ofq x y) / (ofq z u)) : Int) : Rat)).den : Int) - 1))) rfl rfl rfl rfl rfl rfl sh_Q ?_
    refine PW.assign rfl rfl rfl rfl rfl (PW.nil (SX.then (SC.seq (SC.seq ?_))))
    refine SC.dx [.val 63 (.vl (.int .i64 0)), .val 64 (.vl (.bool false)), .val 65 (.vl (.bool false)), .val 66 (.kw (KQ (ofq z u).num (((ofq z u).den : Int) - 1))), .val 67 (.kw (KI (rdq (k : Int) ((ofq x y) / (ofq z u))))), .val 68 (.kw (KQ (((rdq (k : Int) ((ofq x y) / (ofq z u)) : Int) : Rat)).num (((((rdq (k : Int) ((ofq x y) / (ofq z u)) : Int) : Rat)).den : Int) - 1))), .val 69 (.kw (KQ ((ofq z u) * (((rdq (k : Int) ((ofq x y) / (ofq z u)) : Int) : Rat))).num ((((ofq z u) * (((rdq (k : Int) ((ofq x y) / (ofq z u)) : Int) : Rat))).den : Int) - 1))), .val 70 (.kw (KQ ((ofq x y) - (ofq z u) * ((rdq (k : Int) ((ofq x y) / (ofq z u)) : Int) : Rat)).num ((((ofq x y) - (ofq z u) * ((rdq (k : Int) ((ofq x y) / (ofq z u)) : Int) : Rat)).den : Int) - 1))), .val 71 (.kw (KQ (((ofq z u) * (((rdq (k : Int) ((ofq x y) / (ofq z u)) : Int) : Rat))) + ((ofq x y) - (ofq z u) * ((rdq (k : Int) ((ofq x y) / (ofq z u)) : Int) : Rat))).num (((((ofq z u) * (((rdq (k : Int) ((ofq x y) / (ofq z u)) : Int) : Rat))) + ((ofq x y) - (ofq z u) * ((rdq (k : Int) ((ofq x y) / (ofq z u)) : Int) : Rat))).den : Int) - 1))), .val 72 (.kw (KQ (ofq x y).num (((ofq x y).den : Int) - 1))), .val 73 (.vl (.bool true)), .val 74 (.vl (.bool false)), .val 75 (.vl (.bool false)), .val 76 (.vl (.bool false)), .val 77 (.kw (KQ ((ofq x y) - (ofq z u) * ((rdq (k : Int) ((ofq x y) / (ofq z u)) : Int) : Rat)).num ((((ofq x y) - (ofq z u) * ((rdq (k : Int) ((ofq x y) / (ofq z u)) : Int) : Rat)).den : Int) - 1))), .val 78 (.kw (KQ (absq ((ofq x y) - (ofq z u) * ((rdq (k : Int) ((ofq x y) / (ofq z u)) : Int) : Rat))).num (((absq ((ofq x y) - (ofq z u) * ((rdq (k : Int) ((ofq x y) / (ofq z u)) : Int) : Rat))).den : Int) - 1))), .val 79 (.kw (KQ (ofq z u).num (((ofq z u).den : Int) - 1))), .val 80 (.kw (KQ (absq (ofq z u)).num (((absq (ofq z u)).den : Int) - 1))), .val 81 (.vl (.int .i64 (cmpq (absq ((ofq x y) - (ofq z u) * ((rdq (k : Int) ((ofq x y) / (ofq z u)) : Int) : Rat))) (absq (ofq z u))))), .val 82 (.vl (.bool false)), .val 83 (.vl (.bool false))] [([], [15]), ([0], []), ([1], []), ([2], [7]), ([2], [13]), ([4, 2], []), ([3, 5, 2], []), ([2], [14]), ([6, 7, 2], []), ([2], [6]), ([8, 9, 2], []), ([10, 2], []), ([2, 11], []), ([12], []), ([13], [14]), ([14, 13], []), ([13], [7]), ([16, 13], []), ([15, 17, 13], []), ([18, 13], []), ([13, 19], [])] rfl (by kernel_rfl) (by kernel_rfl) (by kernel_rfl) rfl ⟨?_, ?_, ?_, ?_, ?_, ?_, ?_, ?_, ?_, ?_, ?_, ?_, ?_, ?_, ?_, ?_, ?_, ?_, ?_, ?_, ?_, trivial⟩ ?_
    ·exact DX.move rfl rfl rfl rfl rfl rfl
    ·exact DX.q2 (x := .tmp 63) (y := .const (.int .i64 0)) (.bool false) rfl rfl rfl rfl rfl (fun ρ W h1 h2 => by go_simp)
    ·exact DX.move rfl rfl rfl rfl rfl rfl
    ·exact DX.load rfl rfl rfl rfl rfl rfl
    ·exact DX.load rfl rfl rfl rfl rfl rfl
    ·exact DX.call (r := .kw (KQ (((rdq (k : Int) ((ofq x y) / (ofq z u)) : Int) : Rat)).num (((((rdq (k : Int) ((ofq x y) / (ofq z u)) : Int) : Rat)).den : Int) - 1))) rfl rfl rfl rfl rfl rfl (KQ.st _ _) rfl (k_rof)
    ·exact DX.call (r := .kw (KQ ((ofq z u) * (((rdq (k : Int) ((ofq x y) / (ofq z u)) : Int) : Rat))).num ((((ofq z u) * (((rdq (k : Int) ((ofq x y) / (ofq z u)) : Int) : Rat))).den : Int) - 1))) rfl rfl rfl rfl rfl rfl (KQ.st _ _) rfl (k_rmul ((bq.of Z U)) (bq.int1 hN) (by omega) (by omega))
    ·exact DX.load rfl rfl rfl rfl rfl rfl
    ·exact DX.call (r := .kw (KQ (((ofq z u) * (((rdq (k : Int) ((ofq x y) / (ofq z u)) : Int) : Rat))) + ((ofq x y) - (ofq z u) * ((rdq (k : Int) ((ofq x y) / (ofq z u)) : Int) : Rat))).num (((((ofq z u) * (((rdq (k : Int) ((ofq x y) / (ofq z u)) : Int) : Rat))) + ((ofq x y) - (ofq z u) * ((rdq (k : Int) ((ofq x y) / (ofq z u)) : Int) : Rat))).den : Int) - 1))) rfl rfl rfl rfl rfl rfl (KQ.st _ _) rfl (k_radd (((bq.of Z U)).mul (bq.int1 hN)) hR (by omega) (by omega))
    ·exact DX.load rfl rfl rfl rfl rfl rfl
    ·exact DX.call (r := .vl (.bool true)) rfl rfl rfl rfl rfl rfl (KV.st _) rfl (k_sameT ((((bq.of Z U)).mul (bq.int1 hN)).add hR) ((bq.of X Y)) (by omega) (by omega) (rem_add _ _))
    ·exact DX.q1 (x := .tmp 73) (.bool false) rfl rfl rfl rfl (fun ρ W h1 => by go_simp)
    ·exact DX.pick (t := false) rfl rfl rfl rfl rfl rfl rfl
    ·exact DX.move rfl rfl rfl rfl rfl rfl
    ·exact DX.load rfl rfl rfl rfl rfl rfl
    ·exact DX.call (r := .kw (KQ (absq ((ofq x y) - (ofq z u) * ((rdq (k : Int) ((ofq x y) / (ofq z u)) : Int) : Rat))).num (((absq ((ofq x y) - (ofq z u) * ((rdq (k : Int) ((ofq x y) / (ofq z u)) : Int) : Rat))).den : Int) - 1))) rfl rfl rfl rfl rfl rfl (KQ.st _ _) rfl (k_rabs)
    ·exact DX.load rfl rfl rfl rfl rfl rfl
    ·exact DX.call (r := .kw (KQ (absq (ofq z u)).num (((absq (ofq z u)).den : Int) - 1))) rfl rfl rfl rfl rfl rfl (KQ.st _ _) rfl (k_rabs)
    ·exact DX.call (r := .vl (.int .i64 (cmpq (absq ((ofq x y) - (ofq z u) * ((rdq (k : Int) ((ofq x y) / (ofq z u)) : Int) : Rat))) (absq (ofq z u))))) rfl rfl rfl rfl rfl rfl (KV.st _) rfl (k_rcmp hR.abs (((bq.of Z U)).abs) (by omega) (by omega))
    ·exact DX.q2 (x := .tmp 81) (y := .const (.int .i64 0)) (.bool false) rfl rfl rfl rfl rfl (fun ρ W h1 h2 => by exact r_ge h1 h2 (decide_eq_false (by rw [cmpq_lt (rnd_small hy _)]; decide)))
    ·exact DX.pick (t := false) rfl rfl rfl rfl rfl rfl rfl
    refine SX.then (SC.cond (t := false) rfl (SC.skip (SX.then (SC.seq (SC.region (PW.move rfl rfl rfl rfl rfl ?_))))))
    refine PW.load rfl rfl rfl rfl rfl rfl ?_
    refine PW.q2 (x := .tmp 11) (y := .tmp 84) (.pointer (some ⟨gA, k * 2, none⟩)) rfl rfl rfl rfl rfl (fun ρ W h1 h2 => r_idxA4 (i := k) h1 h2 (by omega)) ?_
    refine PW.sts (K := 160) (i := k) (x := .tmp 85) (zs := qs) rfl rfl rfl rfl rfl (by omega) rfl (fun W m A l c m0 A0 l0 c0 h1 h2 h3 h4 => st_int W m A l c m0 A0 l0 c0 h1 h2 h3 h4) ?_
    refine PW.nil (SX.then (SC.seq (SC.region ?_)))
    refine PW.load rfl rfl rfl rfl rfl rfl ?_
    refine PW.call (r := .vl (.int .i64 (sgq ((ofq x y) - (ofq z u) * ((rdq (k : Int) ((ofq x y) / (ofq z u)) : Int) : Rat))))) rfl rfl rfl rfl rfl rfl (KV.st _) rfl (k_rsign) ?_
    refine PW.assign rfl rfl rfl rfl rfl (PW.nil (SX.then (SC.seq ?_)))
    by_cases hs0 : sgq ((ofq x y) - (ofq z u) * ((rdq (k : Int) ((ofq x y) / (ofq z u)) : Int) : Rat)) = 0
    ·by_cases k0 : k = 0
     ·refine SC.region ?_
      refine PW.move rfl rfl rfl rfl rfl ?_
      refine PW.q2 (x := .tmp 89) (y := .const (.int .i64 0)) (.bool true) rfl rfl rfl rfl rfl (fun ρ W h1 h2 => by exact r_eqT h1 h2 (by omega)) ?_
      refine PW.move rfl rfl rfl rfl rfl (PW.move rfl rfl rfl rfl rfl ?_)
      refine PW.load rfl rfl rfl rfl rfl rfl ?_
      refine PW.call (r := .vl (.int .i64 (sgq (ofq z u)))) rfl rfl rfl rfl rfl rfl (KV.st _) rfl (k_rsign) ?_
      refine PW.q1 (x := .tmp 94) (.int .i64 (-(sgq (ofq z u)))) rfl rfl rfl rfl (fun ρ W h1 => by exact r_negq h1 (by have := sgq_range (ofq z u); omega)) ?_
      refine PW.q2 (x := .tmp 92) (y := .tmp 95) (.bool false) rfl rfl rfl rfl rfl (fun ρ W h1 h2 => by exact r_eqF h1 h2 (rnd_0w hy (by omega))) ?_
      refine PW.pick (t := true) rfl rfl rfl rfl rfl rfl ?_
      refine PW.move rfl rfl rfl rfl rfl (PW.move rfl rfl rfl rfl rfl ?_)
      refine PW.q2 (x := .tmp 99) (y := .const (.int .i64 1)) (.bool false) rfl rfl rfl rfl rfl (fun ρ W h1 h2 => by exact r_eqF h1 h2 (by omega)) ?_
      refine PW.move rfl rfl rfl rfl rfl ?_
      refine PW.skip rfl rfl rfl ?_
      refine PW.skip rfl rfl rfl ?_
      refine PW.skip rfl rfl rfl ?_
      refine PW.skip rfl rfl rfl ?_
      refine PW.pick (t := false) rfl rfl rfl rfl rfl rfl ?_
      refine PW.pick (t := false) rfl rfl rfl rfl rfl rfl ?_
      refine PW.move rfl rfl rfl rfl rfl (PW.move rfl rfl rfl rfl rfl ?_)
      refine PW.q2 (x := .tmp 109) (y := .const (.int .i64 2)) (.bool false) rfl rfl rfl rfl rfl (fun ρ W h1 h2 => by exact r_eqF h1 h2 (by omega)) ?_
      refine PW.move rfl rfl rfl rfl rfl ?_
      refine PW.skip rfl rfl rfl ?_
      refine PW.skip rfl rfl rfl ?_
      refine PW.skip rfl rfl rfl ?_
      refine PW.skip rfl rfl rfl ?_
      refine PW.pick (t := false) rfl rfl rfl rfl rfl rfl ?_
      refine PW.pick (t := false) rfl rfl rfl rfl rfl rfl ?_
      refine PW.assign rfl rfl rfl rfl rfl (PW.nil (SX.then (SC.seq ?_)))
      refine SC.dx [.val 118 (.vl (.int .i64 (sgq ((ofq x y) - (ofq z u) * ((rdq (k : Int) ((ofq x y) / (ofq z u)) : Int) : Rat))))), .val 119 (.vl (.bool false)), .val 120 (.vl (.bool false)), .val 121 (.vl (undef)), .val 122 (.vl (.bool false)), .val 123 (.vl (.bool false)), .val 124 (.vl (.int .i64 (k : Int))), .val 125 (.vl (.bool false)), .val 126 (.vl (.bool false)), .val 127 (.vl (undef)), .val 128 (.vl (undef)), .val 129 (.vl (undef)), .val 130 (.vl (undef)), .val 131 (.vl (undef)), .val 132 (.vl (undef)), .val 133 (.vl (undef)), .val 134 (.vl (undef)), .val 135 (.vl (.bool false)), .val 136 (.vl (.bool false))] [([], [16]), ([0], []), ([1], []), ([2], []), ([2], []), ([4], []), ([5], [12]), ([6, 5], []), ([7, 5], []), ([8], []), ([8], []), ([8], []), ([8], []), ([8], []), ([8], []), ([8], []), ([8], []), ([8, 5], []), ([5, 17], [])] rfl (by kernel_rfl) (by kernel_rfl) (by kernel_rfl) rfl ⟨?_, ?_, ?_, ?_, ?_, ?_, ?_, ?_, ?_, ?_, ?_, ?_, ?_, ?_, ?_, ?_, ?_, ?_, ?_, trivial⟩ ?_
      ·exact DX.move rfl rfl rfl rfl rfl rfl
      ·exact DX.q2 (x := .tmp 118) (y := .const (.int .i64 0)) (.bool false) rfl rfl rfl rfl rfl (fun ρ W h1 h2 => by exact r_neF h1 h2 hs0)
      ·exact DX.move rfl rfl rfl rfl rfl rfl
      ·exact DX.skip rfl rfl rfl
      ·exact DX.pick (t := false) rfl rfl rfl rfl rfl rfl rfl
      ·exact DX.move rfl rfl rfl rfl rfl rfl
      ·exact DX.move rfl rfl rfl rfl rfl rfl
      ·exact DX.q2 (x := .tmp 124) (y := .const (.int .i64 3)) (.bool false) rfl rfl rfl rfl rfl (fun ρ W h1 h2 => by exact r_eqF h1 h2 (by omega))
      ·exact DX.move rfl rfl rfl rfl rfl rfl
      ·exact DX.skip rfl rfl rfl
      ·exact DX.skip rfl rfl rfl
      ·exact DX.skip rfl rfl rfl
      ·exact DX.skip rfl rfl rfl
      ·exact DX.skip rfl rfl rfl
      ·exact DX.skip rfl rfl rfl
      ·exact DX.skip rfl rfl rfl
      ·exact DX.skip rfl rfl rfl
      ·exact DX.pick (t := false) rfl rfl rfl rfl rfl rfl rfl
      ·exact DX.pick (t := false) rfl rfl rfl rfl rfl rfl rfl
      refine SX.then (SC.cond (t := false) rfl (SC.skip ?_))
      refine SX.blockN ?_
      refine SX.then (SC.region ?_)
      refine PW.q2 (x := .tmp 52) (y := .const (.int .i64 1)) (.int .i64 ((k + 1 : Nat))) rfl rfl rfl rfl rfl (fun ρ W h1 h2 => by exact r_add h1 h2 (by omega) (by omega)) ?_
      refine PW.move rfl rfl rfl rfl rfl (PW.nil ?_)
      refine SX.back (k + 1, qs.set k (rdq (k : Int) ((ofq x y) / (ofq z u)))) ?_ ?_ ?_
      ·exact ⟨(by omega : k + 1 ≤ 4), by rw [List.length_set]; exact hql, at0_set_ok (qs := qs) (k := k) (f := fun i => rdq i ((ofq x y) / (ofq z u))) hqa (by omega)⟩
      ·exact (show 4 - (k + 1) < 4 - k by omega)
      ·exact ⟨rfl, rfl, rfl, rfl, rfl, rfl, trivial⟩
     ·by_cases k1 : k = 1
      ·refine SC.region ?_
       refine PW.move rfl rfl rfl rfl rfl ?_
       refine PW.q2 (x := .tmp 89) (y := .const (.int .i64 0)) (.bool false) rfl rfl rfl rfl rfl (fun ρ W h1 h2 => by exact r_eqF h1 h2 (by omega)) ?_
       refine PW.move rfl rfl rfl rfl rfl ?_
       refine PW.skip rfl rfl rfl ?_
       refine PW.skip rfl rfl rfl ?_
       refine PW.skip rfl rfl rfl ?_
       refine PW.skip rfl rfl rfl ?_
       refine PW.skip rfl rfl rfl ?_
       refine PW.pick (t := false) rfl rfl rfl rfl rfl rfl ?_
       refine PW.move rfl rfl rfl rfl rfl (PW.move rfl rfl rfl rfl rfl ?_)
       refine PW.q2 (x := .tmp 99) (y := .const (.int .i64 1)) (.bool true) rfl rfl rfl rfl rfl (fun ρ W h1 h2 => by exact r_eqT h1 h2 (by omega)) ?_
       refine PW.move rfl rfl rfl rfl rfl (PW.move rfl rfl rfl rfl rfl ?_)
       refine PW.load rfl rfl rfl rfl rfl rfl ?_
       refine PW.call (r := .vl (.int .i64 (sgq (ofq z u)))) rfl rfl rfl rfl rfl rfl (KV.st _) rfl (k_rsign) ?_
       refine PW.q2 (x := .tmp 102) (y := .tmp 104) (.bool false) rfl rfl rfl rfl rfl (fun ρ W h1 h2 => by exact r_eqF h1 h2 (rnd_1w hy (by omega))) ?_
       refine PW.pick (t := true) rfl rfl rfl rfl rfl rfl ?_
       refine PW.pick (t := false) rfl rfl rfl rfl rfl rfl ?_
       refine PW.move rfl rfl rfl rfl rfl (PW.move rfl rfl rfl rfl rfl ?_)
       refine PW.q2 (x := .tmp 109) (y := .const (.int .i64 2)) (.bool false) rfl rfl rfl rfl rfl (fun ρ W h1 h2 => by exact r_eqF h1 h2 (by omega)) ?_
       refine PW.move rfl rfl rfl rfl rfl ?_
       refine PW.skip rfl rfl rfl ?_
       refine PW.skip rfl rfl rfl ?_
       refine PW.skip rfl rfl rfl ?_
       refine PW.skip rfl rfl rfl ?_
       refine PW.pick (t := false) rfl rfl rfl rfl rfl rfl ?_
       refine PW.pick (t := false) rfl rfl rfl rfl rfl rfl ?_
       refine PW.assign rfl rfl rfl rfl rfl (PW.nil (SX.then (SC.seq ?_)))
       refine SC.dx [.val 118 (.vl (.int .i64 (sgq ((ofq x y) - (ofq z u) * ((rdq (k : Int) ((ofq x y) / (ofq z u)) : Int) : Rat))))), .val 119 (.vl (.bool false)), .val 120 (.vl (.bool false)), .val 121 (.vl (undef)), .val 122 (.vl (.bool false)), .val 123 (.vl (.bool false)), .val 124 (.vl (.int .i64 (k : Int))), .val 125 (.vl (.bool false)), .val 126 (.vl (.bool false)), .val 127 (.vl (undef)), .val 128 (.vl (undef)), .val 129 (.vl (undef)), .val 130 (.vl (undef)), .val 131 (.vl (undef)), .val 132 (.vl (undef)), .val 133 (.vl (undef)), .val 134 (.vl (undef)), .val 135 (.vl (.bool false)), .val 136 (.vl (.bool false))] [([], [16]), ([0], []), ([1], []), ([2], []), ([2], []), ([4], []), ([5], [12]), ([6, 5], []), ([7, 5], []), ([8], []), ([8], []), ([8], []), ([8], []), ([8], []), ([8], []), ([8], []), ([8], []), ([8, 5], []), ([5, 17], [])] rfl (by kernel_rfl) (by kernel_rfl) (by kernel_rfl) rfl ⟨?_, ?_, ?_, ?_, ?_, ?_, ?_, ?_, ?_, ?_, ?_, ?_, ?_, ?_, ?_, ?_, ?_, ?_, ?_, trivial⟩ ?_
       ·exact DX.move rfl rfl rfl rfl rfl rfl
       ·exact DX.q2 (x := .tmp 118) (y := .const (.int .i64 0)) (.bool false) rfl rfl rfl rfl rfl (fun ρ W h1 h2 => by exact r_neF h1 h2 hs0)
       ·exact DX.move rfl rfl rfl rfl rfl rfl
       ·exact DX.skip rfl rfl rfl
       ·exact DX.pick (t := false) rfl rfl rfl rfl rfl rfl rfl
       ·exact DX.move rfl rfl rfl rfl rfl rfl
       ·exact DX.move rfl rfl rfl rfl rfl rfl
       ·exact DX.q2 (x := .tmp 124) (y := .const (.int .i64 3)) (.bool false) rfl rfl rfl rfl rfl (fun ρ W h1 h2 => by exact r_eqF h1 h2 (by omega))
       ·exact DX.move rfl rfl rfl rfl rfl rfl
       ·exact DX.skip rfl rfl rfl
       ·exact DX.skip rfl rfl rfl
       ·exact DX.skip rfl rfl rfl
       ·exact DX.skip rfl rfl rfl
       ·exact DX.skip rfl rfl rfl
       ·exact DX.skip rfl rfl rfl
       ·exact DX.skip rfl rfl rfl
       ·exact DX.skip rfl rfl rfl
       ·exact DX.pick (t := false) rfl rfl rfl rfl rfl rfl rfl
       ·exact DX.pick (t := false) rfl rfl rfl rfl rfl rfl rfl
       refine SX.then (SC.cond (t := false) rfl (SC.skip ?_))
       refine SX.blockN ?_
       refine SX.then (SC.region ?_)
       refine PW.q2 (x := .tmp 52) (y := .const (.int .i64 1)) (.int .i64 ((k + 1 : Nat))) rfl rfl rfl rfl rfl (fun ρ W h1 h2 => by exact r_add h1 h2 (by omega) (by omega)) ?_
       refine PW.move rfl rfl rfl rfl rfl (PW.nil ?_)
       refine SX.back (k + 1, qs.set k (rdq (k : Int) ((ofq x y) / (ofq z u)))) ?_ ?_ ?_
       ·exact ⟨(by omega : k + 1 ≤ 4), by rw [List.length_set]; exact hql, at0_set_ok (qs := qs) (k := k) (f := fun i => rdq i ((ofq x y) / (ofq z u))) hqa (by omega)⟩
       ·exact (show 4 - (k + 1) < 4 - k by omega)
       ·exact ⟨rfl, rfl, rfl, rfl, rfl, rfl, trivial⟩
      ·by_cases k2 : k = 2
       ·by_cases hx2 : sgq ((ofq x y) - (ofq z u) * ((rdq (k : Int) ((ofq x y) / (ofq z u)) : Int) : Rat)) ≠ sgq (ofq x y)
        ·refine SC.region ?_
         refine PW.move rfl rfl rfl rfl rfl ?_
         refine PW.q2 (x := .tmp 89) (y := .const (.int .i64 0)) (.bool false) rfl rfl rfl rfl rfl (fun ρ W h1 h2 => by exact r_eqF h1 h2 (by omega)) ?_
         refine PW.move rfl rfl rfl rfl rfl ?_
         refine PW.skip rfl rfl rfl ?_
         refine PW.skip rfl rfl rfl ?_
         refine PW.skip rfl rfl rfl ?_
         refine PW.skip rfl rfl rfl ?_
         refine PW.skip rfl rfl rfl ?_
         refine PW.pick (t := false) rfl rfl rfl rfl rfl rfl ?_
         refine PW.move rfl rfl rfl rfl rfl (PW.move rfl rfl rfl rfl rfl ?_)
         refine PW.q2 (x := .tmp 99) (y := .const (.int .i64 1)) (.bool false) rfl rfl rfl rfl rfl (fun ρ W h1 h2 => by exact r_eqF h1 h2 (by omega)) ?_
         refine PW.move rfl rfl rfl rfl rfl ?_
         refine PW.skip rfl rfl rfl ?_
         refine PW.skip rfl rfl rfl ?_
         refine PW.skip rfl rfl rfl ?_
         refine PW.skip rfl rfl rfl ?_
         refine PW.pick (t := false) rfl rfl rfl rfl rfl rfl ?_
         refine PW.pick (t := false) rfl rfl rfl rfl rfl rfl ?_
         refine PW.move rfl rfl rfl rfl rfl (PW.move rfl rfl rfl rfl rfl ?_)
         refine PW.q2 (x := .tmp 109) (y := .const (.int .i64 2)) (.bool true) rfl rfl rfl rfl rfl (fun ρ W h1 h2 => by exact r_eqT h1 h2 (by omega)) ?_
         refine PW.move rfl rfl rfl rfl rfl (PW.move rfl rfl rfl rfl rfl ?_)
         refine PW.load rfl rfl rfl rfl rfl rfl ?_
         refine PW.call (r := .vl (.int .i64 (sgq (ofq x y)))) rfl rfl rfl rfl rfl rfl (KV.st _) rfl (k_rsign) ?_
         refine PW.q2 (x := .tmp 112) (y := .tmp 114) (.bool true) rfl rfl rfl rfl rfl (fun ρ W h1 h2 => by exact r_neT h1 h2 hx2) ?_
         refine PW.pick (t := true) rfl rfl rfl rfl rfl rfl ?_
         refine PW.pick (t := false) rfl rfl rfl rfl rfl rfl ?_
         refine PW.assign rfl rfl rfl rfl rfl (PW.nil (SX.then (SC.seq ?_)))
         refine SC.dx [.val 118 (.vl (.int .i64 (sgq ((ofq x y) - (ofq z u) * ((rdq (k : Int) ((ofq x y) / (ofq z u)) : Int) : Rat))))), .val 119 (.vl (.bool false)), .val 120 (.vl (.bool false)), .val 121 (.vl (undef)), .val 122 (.vl (.bool false)), .val 123 (.vl (.bool false)), .val 124 (.vl (.int .i64 (k : Int))), .val 125 (.vl (.bool false)), .val 126 (.vl (.bool false)), .val 127 (.vl (undef)), .val 128 (.vl (undef)), .val 129 (.vl (undef)), .val 130 (.vl (undef)), .val 131 (.vl (undef)), .val 132 (.vl (undef)), .val 133 (.vl (undef)), .val 134 (.vl (undef)), .val 135 (.vl (.bool false)), .val 136 (.vl (.bool false))] [([], [16]), ([0], []), ([1], []), ([2], []), ([2], []), ([4], []), ([5], [12]), ([6, 5], []), ([7, 5], []), ([8], []), ([8], []), ([8], []), ([8], []), ([8], []), ([8], []), ([8], []), ([8], []), ([8, 5], []), ([5, 17], [])] rfl (by kernel_rfl) (by kernel_rfl) (by kernel_rfl) rfl ⟨?_, ?_, ?_, ?_, ?_, ?_, ?_, ?_, ?_, ?_, ?_, ?_, ?_, ?_, ?_, ?_, ?_, ?_, ?_, trivial⟩ ?_
         ·exact DX.move rfl rfl rfl rfl rfl rfl
         ·exact DX.q2 (x := .tmp 118) (y := .const (.int .i64 0)) (.bool false) rfl rfl rfl rfl rfl (fun ρ W h1 h2 => by exact r_neF h1 h2 hs0)
         ·exact DX.move rfl rfl rfl rfl rfl rfl
         ·exact DX.skip rfl rfl rfl
         ·exact DX.pick (t := false) rfl rfl rfl rfl rfl rfl rfl
         ·exact DX.move rfl rfl rfl rfl rfl rfl
         ·exact DX.move rfl rfl rfl rfl rfl rfl
         ·exact DX.q2 (x := .tmp 124) (y := .const (.int .i64 3)) (.bool false) rfl rfl rfl rfl rfl (fun ρ W h1 h2 => by exact r_eqF h1 h2 (by omega))
         ·exact DX.move rfl rfl rfl rfl rfl rfl
         ·exact DX.skip rfl rfl rfl
         ·exact DX.skip rfl rfl rfl
         ·exact DX.skip rfl rfl rfl
         ·exact DX.skip rfl rfl rfl
         ·exact DX.skip rfl rfl rfl
         ·exact DX.skip rfl rfl rfl
         ·exact DX.skip rfl rfl rfl
         ·exact DX.skip rfl rfl rfl
         ·exact DX.pick (t := false) rfl rfl rfl rfl rfl rfl rfl
         ·exact DX.pick (t := false) rfl rfl rfl rfl rfl rfl rfl
         refine SX.then (SC.cond (t := false) rfl (SC.skip ?_))
         refine SX.blockN ?_
         refine SX.then (SC.region ?_)
         refine PW.q2 (x := .tmp 52) (y := .const (.int .i64 1)) (.int .i64 ((k + 1 : Nat))) rfl rfl rfl rfl rfl (fun ρ W h1 h2 => by exact r_add h1 h2 (by omega) (by omega)) ?_
         refine PW.move rfl rfl rfl rfl rfl (PW.nil ?_)
         refine SX.back (k + 1, qs.set k (rdq (k : Int) ((ofq x y) / (ofq z u)))) ?_ ?_ ?_
         ·exact ⟨(by omega : k + 1 ≤ 4), by rw [List.length_set]; exact hql, at0_set_ok (qs := qs) (k := k) (f := fun i => rdq i ((ofq x y) / (ofq z u))) hqa (by omega)⟩
         ·exact (show 4 - (k + 1) < 4 - k by omega)
         ·exact ⟨rfl, rfl, rfl, rfl, rfl, rfl, trivial⟩
        ·have hx3 := Classical.not_not.1 hx2
         refine SC.region (PW.move rfl rfl rfl rfl rfl ?_)
         refine PW.q2 (x := .tmp 89) (y := .const (.int .i64 0)) (.bool false) rfl rfl rfl rfl rfl (fun ρ W h1 h2 => by exact r_eqF h1 h2 (by omega)) ?_
         refine PW.move rfl rfl rfl rfl rfl ?_
         refine PW.skip rfl rfl rfl ?_
         refine PW.skip rfl rfl rfl ?_
         refine PW.skip rfl rfl rfl ?_
         refine PW.skip rfl rfl rfl ?_
         refine PW.skip rfl rfl rfl ?_
         refine PW.pick (t := false) rfl rfl rfl rfl rfl rfl ?_
         refine PW.move rfl rfl rfl rfl rfl (PW.move rfl rfl rfl rfl rfl ?_)
         refine PW.q2 (x := .tmp 99) (y := .const (.int .i64 1)) (.bool false) rfl rfl rfl rfl rfl (fun ρ W h1 h2 => by exact r_eqF h1 h2 (by omega)) ?_
         refine PW.move rfl rfl rfl rfl rfl ?_
         refine PW.skip rfl rfl rfl ?_
         refine PW.skip rfl rfl rfl ?_
         refine PW.skip rfl rfl rfl ?_
         refine PW.skip rfl rfl rfl ?_
         refine PW.pick (t := false) rfl rfl rfl rfl rfl rfl ?_
         refine PW.pick (t := false) rfl rfl rfl rfl rfl rfl ?_
         refine PW.move rfl rfl rfl rfl rfl (PW.move rfl rfl rfl rfl rfl ?_)
         refine PW.q2 (x := .tmp 109) (y := .const (.int .i64 2)) (.bool true) rfl rfl rfl rfl rfl (fun ρ W h1 h2 => by exact r_eqT h1 h2 (by omega)) ?_
         refine PW.move rfl rfl rfl rfl rfl (PW.move rfl rfl rfl rfl rfl ?_)
         refine PW.load rfl rfl rfl rfl rfl rfl ?_
         refine PW.call (r := .vl (.int .i64 (sgq (ofq x y)))) rfl rfl rfl rfl rfl rfl (KV.st _) rfl (k_rsign) ?_
         refine PW.q2 (x := .tmp 112) (y := .tmp 114) (.bool false) rfl rfl rfl rfl rfl (fun ρ W h1 h2 => by exact r_neF h1 h2 hx3) ?_
         refine PW.pick (t := true) rfl rfl rfl rfl rfl rfl ?_
         refine PW.pick (t := false) rfl rfl rfl rfl rfl rfl ?_
         refine PW.assign rfl rfl rfl rfl rfl (PW.nil (SX.then (SC.seq ?_)))
         refine SC.dx [.val 118 (.vl (.int .i64 (sgq ((ofq x y) - (ofq z u) * ((rdq (k : Int) ((ofq x y) / (ofq z u)) : Int) : Rat))))), .val 119 (.vl (.bool false)), .val 120 (.vl (.bool false)), .val 121 (.vl (undef)), .val 122 (.vl (.bool false)), .val 123 (.vl (.bool false)), .val 124 (.vl (.int .i64 (k : Int))), .val 125 (.vl (.bool false)), .val 126 (.vl (.bool false)), .val 127 (.vl (undef)), .val 128 (.vl (undef)), .val 129 (.vl (undef)), .val 130 (.vl (undef)), .val 131 (.vl (undef)), .val 132 (.vl (undef)), .val 133 (.vl (undef)), .val 134 (.vl (undef)), .val 135 (.vl (.bool false)), .val 136 (.vl (.bool false))] [([], [16]), ([0], []), ([1], []), ([2], []), ([2], []), ([4], []), ([5], [12]), ([6, 5], []), ([7, 5], []), ([8], []), ([8], []), ([8], []), ([8], []), ([8], []), ([8], []), ([8], []), ([8], []), ([8, 5], []), ([5, 17], [])] rfl (by kernel_rfl) (by kernel_rfl) (by kernel_rfl) rfl ⟨?_, ?_, ?_, ?_, ?_, ?_, ?_, ?_, ?_, ?_, ?_, ?_, ?_, ?_, ?_, ?_, ?_, ?_, ?_, trivial⟩ ?_
         ·exact DX.move rfl rfl rfl rfl rfl rfl
         ·exact DX.q2 (x := .tmp 118) (y := .const (.int .i64 0)) (.bool false) rfl rfl rfl rfl rfl (fun ρ W h1 h2 => by exact r_neF h1 h2 hs0)
         ·exact DX.move rfl rfl rfl rfl rfl rfl
         ·exact DX.skip rfl rfl rfl
         ·exact DX.pick (t := false) rfl rfl rfl rfl rfl rfl rfl
         ·exact DX.move rfl rfl rfl rfl rfl rfl
         ·exact DX.move rfl rfl rfl rfl rfl rfl
         ·exact DX.q2 (x := .tmp 124) (y := .const (.int .i64 3)) (.bool false) rfl rfl rfl rfl rfl (fun ρ W h1 h2 => by exact r_eqF h1 h2 (by omega))
         ·exact DX.move rfl rfl rfl rfl rfl rfl
         ·exact DX.skip rfl rfl rfl
         ·exact DX.skip rfl rfl rfl
         ·exact DX.skip rfl rfl rfl
         ·exact DX.skip rfl rfl rfl
         ·exact DX.skip rfl rfl rfl
         ·exact DX.skip rfl rfl rfl
         ·exact DX.skip rfl rfl rfl
         ·exact DX.skip rfl rfl rfl
         ·exact DX.pick (t := false) rfl rfl rfl rfl rfl rfl rfl
         ·exact DX.pick (t := false) rfl rfl rfl rfl rfl rfl rfl
         refine SX.then (SC.cond (t := false) rfl (SC.skip ?_))
         refine SX.blockN ?_
         refine SX.then (SC.region ?_)
         refine PW.q2 (x := .tmp 52) (y := .const (.int .i64 1)) (.int .i64 ((k + 1 : Nat))) rfl rfl rfl rfl rfl (fun ρ W h1 h2 => by exact r_add h1 h2 (by omega) (by omega)) ?_
         refine PW.move rfl rfl rfl rfl rfl (PW.nil ?_)
         refine SX.back (k + 1, qs.set k (rdq (k : Int) ((ofq x y) / (ofq z u)))) ?_ ?_ ?_
         ·exact ⟨(by omega : k + 1 ≤ 4), by rw [List.length_set]; exact hql, at0_set_ok (qs := qs) (k := k) (f := fun i => rdq i ((ofq x y) / (ofq z u))) hqa (by omega)⟩
         ·exact (show 4 - (k + 1) < 4 - k by omega)
         ·exact ⟨rfl, rfl, rfl, rfl, rfl, rfl, trivial⟩
       ·refine SC.region ?_
        refine PW.move rfl rfl rfl rfl rfl ?_
        refine PW.q2 (x := .tmp 89) (y := .const (.int .i64 0)) (.bool false) rfl rfl rfl rfl rfl (fun ρ W h1 h2 => by exact r_eqF h1 h2 (by omega)) ?_
        refine PW.move rfl rfl rfl rfl rfl ?_
        refine PW.skip rfl rfl rfl ?_
        refine PW.skip rfl rfl rfl ?_
        refine PW.skip rfl rfl rfl ?_
        refine PW.skip rfl rfl rfl ?_
        refine PW.skip rfl rfl rfl ?_
        refine PW.pick (t := false) rfl rfl rfl rfl rfl rfl ?_
        refine PW.move rfl rfl rfl rfl rfl (PW.move rfl rfl rfl rfl rfl ?_)
        refine PW.q2 (x := .tmp 99) (y := .const (.int .i64 1)) (.bool false) rfl rfl rfl rfl rfl (fun ρ W h1 h2 => by exact r_eqF h1 h2 (by omega)) ?_
        refine PW.move rfl rfl rfl rfl rfl ?_
        refine PW.skip rfl rfl rfl ?_
        refine PW.skip rfl rfl rfl ?_
        refine PW.skip rfl rfl rfl ?_
        refine PW.skip rfl rfl rfl ?_
        refine PW.pick (t := false) rfl rfl rfl rfl rfl rfl ?_
        refine PW.pick (t := false) rfl rfl rfl rfl rfl rfl ?_
        refine PW.move rfl rfl rfl rfl rfl (PW.move rfl rfl rfl rfl rfl ?_)
        refine PW.q2 (x := .tmp 109) (y := .const (.int .i64 2)) (.bool false) rfl rfl rfl rfl rfl (fun ρ W h1 h2 => by exact r_eqF h1 h2 (by omega)) ?_
        refine PW.move rfl rfl rfl rfl rfl ?_
        refine PW.skip rfl rfl rfl ?_
        refine PW.skip rfl rfl rfl ?_
        refine PW.skip rfl rfl rfl ?_
        refine PW.skip rfl rfl rfl ?_
        refine PW.pick (t := false) rfl rfl rfl rfl rfl rfl ?_
        refine PW.pick (t := false) rfl rfl rfl rfl rfl rfl ?_
        refine PW.assign rfl rfl rfl rfl rfl (PW.nil (SX.then (SC.seq ?_)))
        refine SC.dx [.val 118 (.vl (.int .i64 (sgq ((ofq x y) - (ofq z u) * ((rdq (k : Int) ((ofq x y) / (ofq z u)) : Int) : Rat))))), .val 119 (.vl (.bool false)), .val 120 (.vl (.bool false)), .val 121 (.vl (undef)), .val 122 (.vl (.bool false)), .val 123 (.vl (.bool false)), .val 124 (.vl (.int .i64 (k : Int))), .val 125 (.vl (.bool true)), .val 126 (.vl (.bool true)), .val 127 (.kw (KQ ((ofq x y) - (ofq z u) * ((rdq (k : Int) ((ofq x y) / (ofq z u)) : Int) : Rat)).num ((((ofq x y) - (ofq z u) * ((rdq (k : Int) ((ofq x y) / (ofq z u)) : Int) : Rat)).den : Int) - 1))), .val 128 (.kw (KQ ((ofq x y) - (ofq z u) * ((rdq (k : Int) ((ofq x y) / (ofq z u)) : Int) : Rat)).num ((((ofq x y) - (ofq z u) * ((rdq (k : Int) ((ofq x y) / (ofq z u)) : Int) : Rat)).den : Int) - 1))), .val 129 (.kw (KQ (((ofq x y) - (ofq z u) * ((rdq (k : Int) ((ofq x y) / (ofq z u)) : Int) : Rat)) + ((ofq x y) - (ofq z u) * ((rdq (k : Int) ((ofq x y) / (ofq z u)) : Int) : Rat))).num (((((ofq x y) - (ofq z u) * ((rdq (k : Int) ((ofq x y) / (ofq z u)) : Int) : Rat)) + ((ofq x y) - (ofq z u) * ((rdq (k : Int) ((ofq x y) / (ofq z u)) : Int) : Rat))).den : Int) - 1))), .val 130 (.kw (KQ (absq (((ofq x y) - (ofq z u) * ((rdq (k : Int) ((ofq x y) / (ofq z u)) : Int) : Rat)) + ((ofq x y) - (ofq z u) * ((rdq (k : Int) ((ofq x y) / (ofq z u)) : Int) : Rat)))).num (((absq (((ofq x y) - (ofq z u) * ((rdq (k : Int) ((ofq x y) / (ofq z u)) : Int) : Rat)) + ((ofq x y) - (ofq z u) * ((rdq (k : Int) ((ofq x y) / (ofq z u)) : Int) : Rat)))).den : Int) - 1))), .val 131 (.kw (KQ (ofq z u).num (((ofq z u).den : Int) - 1))), .val 132 (.kw (KQ (absq (ofq z u)).num (((absq (ofq z u)).den : Int) - 1))), .val 133 (.vl (.int .i64 (cmpq (absq (((ofq x y) - (ofq z u) * ((rdq (k : Int) ((ofq x y) / (ofq z u)) : Int) : Rat)) + ((ofq x y) - (ofq z u) * ((rdq (k : Int) ((ofq x y) / (ofq z u)) : Int) : Rat)))) (absq (ofq z u))))), .val 134 (.vl (.bool false)), .val 135 (.vl (.bool false)), .val 136 (.vl (.bool false))] [([], [16]), ([0], []), ([1], []), ([2], []), ([2], []), ([4], []), ([5], [12]), ([6, 5], []), ([7, 5], []), ([8], [14]), ([8], [14]), ([9, 10, 8], []), ([11, 8], []), ([8], [7]), ([13, 8], []), ([12, 14, 8], []), ([15, 8], []), ([8, 16, 5], []), ([5, 17], [])] rfl (by kernel_rfl) (by kernel_rfl) (by kernel_rfl) rfl ⟨?_, ?_, ?_, ?_, ?_, ?_, ?_, ?_, ?_, ?_, ?_, ?_, ?_, ?_, ?_, ?_, ?_, ?_, ?_, trivial⟩ ?_
        ·exact DX.move rfl rfl rfl rfl rfl rfl
        ·exact DX.q2 (x := .tmp 118) (y := .const (.int .i64 0)) (.bool false) rfl rfl rfl rfl rfl (fun ρ W h1 h2 => by exact r_neF h1 h2 hs0)
        ·exact DX.move rfl rfl rfl rfl rfl rfl
        ·exact DX.skip rfl rfl rfl
        ·exact DX.pick (t := false) rfl rfl rfl rfl rfl rfl rfl
        ·exact DX.move rfl rfl rfl rfl rfl rfl
        ·exact DX.move rfl rfl rfl rfl rfl rfl
        ·exact DX.q2 (x := .tmp 124) (y := .const (.int .i64 3)) (.bool true) rfl rfl rfl rfl rfl (fun ρ W h1 h2 => by exact r_eqT h1 h2 (by omega))
        ·exact DX.move rfl rfl rfl rfl rfl rfl
        ·exact DX.load rfl rfl rfl rfl rfl rfl
        ·exact DX.load rfl rfl rfl rfl rfl rfl
        ·exact DX.call (r := .kw (KQ (((ofq x y) - (ofq z u) * ((rdq (k : Int) ((ofq x y) / (ofq z u)) : Int) : Rat)) + ((ofq x y) - (ofq z u) * ((rdq (k : Int) ((ofq x y) / (ofq z u)) : Int) : Rat))).num (((((ofq x y) - (ofq z u) * ((rdq (k : Int) ((ofq x y) / (ofq z u)) : Int) : Rat)) + ((ofq x y) - (ofq z u) * ((rdq (k : Int) ((ofq x y) / (ofq z u)) : Int) : Rat))).den : Int) - 1))) rfl rfl rfl rfl rfl rfl (KQ.st _ _) rfl (k_radd hR hR (by omega) (by omega))
        ·exact DX.call (r := .kw (KQ (absq (((ofq x y) - (ofq z u) * ((rdq (k : Int) ((ofq x y) / (ofq z u)) : Int) : Rat)) + ((ofq x y) - (ofq z u) * ((rdq (k : Int) ((ofq x y) / (ofq z u)) : Int) : Rat)))).num (((absq (((ofq x y) - (ofq z u) * ((rdq (k : Int) ((ofq x y) / (ofq z u)) : Int) : Rat)) + ((ofq x y) - (ofq z u) * ((rdq (k : Int) ((ofq x y) / (ofq z u)) : Int) : Rat)))).den : Int) - 1))) rfl rfl rfl rfl rfl rfl (KQ.st _ _) rfl (k_rabs)
        ·exact DX.load rfl rfl rfl rfl rfl rfl
        ·exact DX.call (r := .kw (KQ (absq (ofq z u)).num (((absq (ofq z u)).den : Int) - 1))) rfl rfl rfl rfl rfl rfl (KQ.st _ _) rfl (k_rabs)
        ·exact DX.call (r := .vl (.int .i64 (cmpq (absq (((ofq x y) - (ofq z u) * ((rdq (k : Int) ((ofq x y) / (ofq z u)) : Int) : Rat)) + ((ofq x y) - (ofq z u) * ((rdq (k : Int) ((ofq x y) / (ofq z u)) : Int) : Rat)))) (absq (ofq z u))))) rfl rfl rfl rfl rfl rfl (KV.st _) rfl (k_rcmp ((hR.add hR).abs) (((bq.of Z U)).abs) (by omega) (by omega))
        ·exact DX.q2 (x := .tmp 133) (y := .const (.int .i64 0)) (.bool false) rfl rfl rfl rfl rfl (fun ρ W h1 h2 => by exact r_gt h1 h2 (decide_eq_false (by have := cmpq_le.2 (rnd_3w hy (way := (k : Int)) (x := ofq x y) (by omega)); omega)))
        ·exact DX.pick (t := true) rfl rfl rfl rfl rfl rfl rfl
        ·exact DX.pick (t := false) rfl rfl rfl rfl rfl rfl rfl
        refine SX.then (SC.cond (t := false) rfl (SC.skip ?_))
        refine SX.blockN ?_
        refine SX.then (SC.region ?_)
        refine PW.q2 (x := .tmp 52) (y := .const (.int .i64 1)) (.int .i64 ((k + 1 : Nat))) rfl rfl rfl rfl rfl (fun ρ W h1 h2 => by exact r_add h1 h2 (by omega) (by omega)) ?_
        refine PW.move rfl rfl rfl rfl rfl (PW.nil ?_)
        refine SX.back (k + 1, qs.set k (rdq (k : Int) ((ofq x y) / (ofq z u)))) ?_ ?_ ?_
        ·exact ⟨(by omega : k + 1 ≤ 4), by rw [List.length_set]; exact hql, at0_set_ok (qs := qs) (k := k) (f := fun i => rdq i ((ofq x y) / (ofq z u))) hqa (by omega)⟩
        ·exact (show 4 - (k + 1) < 4 - k by omega)
        ·exact ⟨rfl, rfl, rfl, rfl, rfl, rfl, trivial⟩
    ·by_cases k0 : k = 0
     ·refine SC.region ?_
      refine PW.move rfl rfl rfl rfl rfl ?_
      refine PW.q2 (x := .tmp 89) (y := .const (.int .i64 0)) (.bool true) rfl rfl rfl rfl rfl (fun ρ W h1 h2 => by exact r_eqT h1 h2 (by omega)) ?_
      refine PW.move rfl rfl rfl rfl rfl (PW.move rfl rfl rfl rfl rfl ?_)
      refine PW.load rfl rfl rfl rfl rfl rfl ?_
      refine PW.call (r := .vl (.int .i64 (sgq (ofq z u)))) rfl rfl rfl rfl rfl rfl (KV.st _) rfl (k_rsign) ?_
      refine PW.q1 (x := .tmp 94) (.int .i64 (-(sgq (ofq z u)))) rfl rfl rfl rfl (fun ρ W h1 => by exact r_negq h1 (by have := sgq_range (ofq z u); omega)) ?_
      refine PW.q2 (x := .tmp 92) (y := .tmp 95) (.bool false) rfl rfl rfl rfl rfl (fun ρ W h1 h2 => by exact r_eqF h1 h2 (rnd_0w hy (by omega))) ?_
      refine PW.pick (t := true) rfl rfl rfl rfl rfl rfl ?_
      refine PW.move rfl rfl rfl rfl rfl (PW.move rfl rfl rfl rfl rfl ?_)
      refine PW.q2 (x := .tmp 99) (y := .const (.int .i64 1)) (.bool false) rfl rfl rfl rfl rfl (fun ρ W h1 h2 => by exact r_eqF h1 h2 (by omega)) ?_
      refine PW.move rfl rfl rfl rfl rfl ?_
      refine PW.skip rfl rfl rfl ?_
      refine PW.skip rfl rfl rfl ?_
      refine PW.skip rfl rfl rfl ?_
      refine PW.skip rfl rfl rfl ?_
      refine PW.pick (t := false) rfl rfl rfl rfl rfl rfl ?_
      refine PW.pick (t := false) rfl rfl rfl rfl rfl rfl ?_
      refine PW.move rfl rfl rfl rfl rfl (PW.move rfl rfl rfl rfl rfl ?_)
      refine PW.q2 (x := .tmp 109) (y := .const (.int .i64 2)) (.bool false) rfl rfl rfl rfl rfl (fun ρ W h1 h2 => by exact r_eqF h1 h2 (by omega)) ?_
      refine PW.move rfl rfl rfl rfl rfl ?_
      refine PW.skip rfl rfl rfl ?_
      refine PW.skip rfl rfl rfl ?_
      refine PW.skip rfl rfl rfl ?_
      refine PW.skip rfl rfl rfl ?_
      refine PW.pick (t := false) rfl rfl rfl rfl rfl rfl ?_
      refine PW.pick (t := false) rfl rfl rfl rfl rfl rfl ?_
      refine PW.assign rfl rfl rfl rfl rfl (PW.nil (SX.then (SC.seq ?_)))
      refine SC.dx [.val 118 (.vl (.int .i64 (sgq ((ofq x y) - (ofq z u) * ((rdq (k : Int) ((ofq x y) / (ofq z u)) : Int) : Rat))))), .val 119 (.vl (.bool true)), .val 120 (.vl (.bool true)), .val 121 (.vl (.bool false)), .val 122 (.vl (.bool false)), .val 123 (.vl (.bool false)), .val 124 (.vl (.int .i64 (k : Int))), .val 125 (.vl (.bool false)), .val 126 (.vl (.bool false)), .val 127 (.vl (undef)), .val 128 (.vl (undef)), .val 129 (.vl (undef)), .val 130 (.vl (undef)), .val 131 (.vl (undef)), .val 132 (.vl (undef)), .val 133 (.vl (undef)), .val 134 (.vl (undef)), .val 135 (.vl (.bool false)), .val 136 (.vl (.bool false))] [([], [16]), ([0], []), ([1], []), ([2], [17]), ([2, 3], []), ([4], []), ([5], [12]), ([6, 5], []), ([7, 5], []), ([8], []), ([8], []), ([8], []), ([8], []), ([8], []), ([8], []), ([8], []), ([8], []), ([8, 5], []), ([5, 17], [])] rfl (by kernel_rfl) (by kernel_rfl) (by kernel_rfl) rfl ⟨?_, ?_, ?_, ?_, ?_, ?_, ?_, ?_, ?_, ?_, ?_, ?_, ?_, ?_, ?_, ?_, ?_, ?_, ?_, trivial⟩ ?_
      ·exact DX.move rfl rfl rfl rfl rfl rfl
      ·exact DX.q2 (x := .tmp 118) (y := .const (.int .i64 0)) (.bool true) rfl rfl rfl rfl rfl (fun ρ W h1 h2 => by exact r_neT h1 h2 hs0)
      ·exact DX.move rfl rfl rfl rfl rfl rfl
      ·exact DX.move rfl rfl rfl rfl rfl rfl
      ·exact DX.pick (t := true) rfl rfl rfl rfl rfl rfl rfl
      ·exact DX.move rfl rfl rfl rfl rfl rfl
      ·exact DX.move rfl rfl rfl rfl rfl rfl
      ·exact DX.q2 (x := .tmp 124) (y := .const (.int .i64 3)) (.bool false) rfl rfl rfl rfl rfl (fun ρ W h1 h2 => by exact r_eqF h1 h2 (by omega))
      ·exact DX.move rfl rfl rfl rfl rfl rfl
      ·exact DX.skip rfl rfl rfl
      ·exact DX.skip rfl rfl rfl
      ·exact DX.skip rfl rfl rfl
      ·exact DX.skip rfl rfl rfl
      ·exact DX.skip rfl rfl rfl
      ·exact DX.skip rfl rfl rfl
      ·exact DX.skip rfl rfl rfl
      ·exact DX.skip rfl rfl rfl
      ·exact DX.pick (t := false) rfl rfl rfl rfl rfl rfl rfl
      ·exact DX.pick (t := false) rfl rfl rfl rfl rfl rfl rfl
      refine SX.then (SC.cond (t := false) rfl (SC.skip ?_))
      refine SX.blockN ?_
      refine SX.then (SC.region ?_)
      refine PW.q2 (x := .tmp 52) (y := .const (.int .i64 1)) (.int .i64 ((k + 1 : Nat))) rfl rfl rfl rfl rfl (fun ρ W h1 h2 => by exact r_add h1 h2 (by omega) (by omega)) ?_
      refine PW.move rfl rfl rfl rfl rfl (PW.nil ?_)
      refine SX.back (k + 1, qs.set k (rdq (k : Int) ((ofq x y) / (ofq z u)))) ?_ ?_ ?_
      ·exact ⟨(by omega : k + 1 ≤ 4), by rw [List.length_set]; exact hql, at0_set_ok (qs := qs) (k := k) (f := fun i => rdq i ((ofq x y) / (ofq z u))) hqa (by omega)⟩
      ·exact (show 4 - (k + 1) < 4 - k by omega)
      ·exact ⟨rfl, rfl, rfl, rfl, rfl, rfl, trivial⟩
     ·by_cases k1 : k = 1
      ·refine SC.region ?_
       refine PW.move rfl rfl rfl rfl rfl ?_
       refine PW.q2 (x := .tmp 89) (y := .const (.int .i64 0)) (.bool false) rfl rfl rfl rfl rfl (fun ρ W h1 h2 => by exact r_eqF h1 h2 (by omega)) ?_
       refine PW.move rfl rfl rfl rfl rfl ?_
       refine PW.skip rfl rfl rfl ?_
       refine PW.skip rfl rfl rfl ?_
       refine PW.skip rfl rfl rfl ?_
       refine PW.skip rfl rfl rfl ?_
       refine PW.skip rfl rfl rfl ?_
       refine PW.pick (t := false) rfl rfl rfl rfl rfl rfl ?_
       refine PW.move rfl rfl rfl rfl rfl (PW.move rfl rfl rfl rfl rfl ?_)
       refine PW.q2 (x := .tmp 99) (y := .const (.int .i64 1)) (.bool true) rfl rfl rfl rfl rfl (fun ρ W h1 h2 => by exact r_eqT h1 h2 (by omega)) ?_
       refine PW.move rfl rfl rfl rfl rfl (PW.move rfl rfl rfl rfl rfl ?_)
       refine PW.load rfl rfl rfl rfl rfl rfl ?_
       refine PW.call (r := .vl (.int .i64 (sgq (ofq z u)))) rfl rfl rfl rfl rfl rfl (KV.st _) rfl (k_rsign) ?_
       refine PW.q2 (x := .tmp 102) (y := .tmp 104) (.bool false) rfl rfl rfl rfl rfl (fun ρ W h1 h2 => by exact r_eqF h1 h2 (rnd_1w hy (by omega))) ?_
       refine PW.pick (t := true) rfl rfl rfl rfl rfl rfl ?_
       refine PW.pick (t := false) rfl rfl rfl rfl rfl rfl ?_
       refine PW.move rfl rfl rfl rfl rfl (PW.move rfl rfl rfl rfl rfl ?_)
       refine PW.q2 (x := .tmp 109) (y := .const (.int .i64 2)) (.bool false) rfl rfl rfl rfl rfl (fun ρ W h1 h2 => by exact r_eqF h1 h2 (by omega)) ?_
       refine PW.move rfl rfl rfl rfl rfl ?_
       refine PW.skip rfl rfl rfl ?_
       refine PW.skip rfl rfl rfl ?_
       refine PW.skip rfl rfl rfl ?_
       refine PW.skip rfl rfl rfl ?_
       refine PW.pick (t := false) rfl rfl rfl rfl rfl rfl ?_
       refine PW.pick (t := false) rfl rfl rfl rfl rfl rfl ?_
       refine PW.assign rfl rfl rfl rfl rfl (PW.nil (SX.then (SC.seq ?_)))
       refine SC.dx [.val 118 (.vl (.int .i64 (sgq ((ofq x y) - (ofq z u) * ((rdq (k : Int) ((ofq x y) / (ofq z u)) : Int) : Rat))))), .val 119 (.vl (.bool true)), .val 120 (.vl (.bool true)), .val 121 (.vl (.bool false)), .val 122 (.vl (.bool false)), .val 123 (.vl (.bool false)), .val 124 (.vl (.int .i64 (k : Int))), .val 125 (.vl (.bool false)), .val 126 (.vl (.bool false)), .val 127 (.vl (undef)), .val 128 (.vl (undef)), .val 129 (.vl (undef)), .val 130 (.vl (undef)), .val 131 (.vl (undef)), .val 132 (.vl (undef)), .val 133 (.vl (undef)), .val 134 (.vl (undef)), .val 135 (.vl (.bool false)), .val 136 (.vl (.bool false))] [([], [16]), ([0], []), ([1], []), ([2], [17]), ([2, 3], []), ([4], []), ([5], [12]), ([6, 5], []), ([7, 5], []), ([8], []), ([8], []), ([8], []), ([8], []), ([8], []), ([8], []), ([8], []), ([8], []), ([8, 5], []), ([5, 17], [])] rfl (by kernel_rfl) (by kernel_rfl) (by kernel_rfl) rfl ⟨?_, ?_, ?_, ?_, ?_, ?_, ?_, ?_, ?_, ?_, ?_, ?_, ?_, ?_, ?_, ?_, ?_, ?_, ?_, trivial⟩ ?_
       ·exact DX.move rfl rfl rfl rfl rfl rfl
       ·exact DX.q2 (x := .tmp 118) (y := .const (.int .i64 0)) (.bool true) rfl rfl rfl rfl rfl (fun ρ W h1 h2 => by exact r_neT h1 h2 hs0)
       ·exact DX.move rfl rfl rfl rfl rfl rfl
       ·exact DX.move rfl rfl rfl rfl rfl rfl
       ·exact DX.pick (t := true) rfl rfl rfl rfl rfl rfl rfl
       ·exact DX.move rfl rfl rfl rfl rfl rfl
       ·exact DX.move rfl rfl rfl rfl rfl rfl
       ·exact DX.q2 (x := .tmp 124) (y := .const (.int .i64 3)) (.bool false) rfl rfl rfl rfl rfl (fun ρ W h1 h2 => by exact r_eqF h1 h2 (by omega))
       ·exact DX.move rfl rfl rfl rfl rfl rfl
       ·exact DX.skip rfl rfl rfl
       ·exact DX.skip rfl rfl rfl
       ·exact DX.skip rfl rfl rfl
       ·exact DX.skip rfl rfl rfl
       ·exact DX.skip rfl rfl rfl
       ·exact DX.skip rfl rfl rfl
       ·exact DX.skip rfl rfl rfl
       ·exact DX.skip rfl rfl rfl
       ·exact DX.pick (t := false) rfl rfl rfl rfl rfl rfl rfl
       ·exact DX.pick (t := false) rfl rfl rfl rfl rfl rfl rfl
       refine SX.then (SC.cond (t := false) rfl (SC.skip ?_))
       refine SX.blockN ?_
       refine SX.then (SC.region ?_)
       refine PW.q2 (x := .tmp 52) (y := .const (.int .i64 1)) (.int .i64 ((k + 1 : Nat))) rfl rfl rfl rfl rfl (fun ρ W h1 h2 => by exact r_add h1 h2 (by omega) (by omega)) ?_
       refine PW.move rfl rfl rfl rfl rfl (PW.nil ?_)
       refine SX.back (k + 1, qs.set k (rdq (k : Int) ((ofq x y) / (ofq z u)))) ?_ ?_ ?_
       ·exact ⟨(by omega : k + 1 ≤ 4), by rw [List.length_set]; exact hql, at0_set_ok (qs := qs) (k := k) (f := fun i => rdq i ((ofq x y) / (ofq z u))) hqa (by omega)⟩
       ·exact (show 4 - (k + 1) < 4 - k by omega)
       ·exact ⟨rfl, rfl, rfl, rfl, rfl, rfl, trivial⟩
      ·by_cases k2 : k = 2
       ·refine SC.region ?_
        refine PW.move rfl rfl rfl rfl rfl ?_
        refine PW.q2 (x := .tmp 89) (y := .const (.int .i64 0)) (.bool false) rfl rfl rfl rfl rfl (fun ρ W h1 h2 => by exact r_eqF h1 h2 (by omega)) ?_
        refine PW.move rfl rfl rfl rfl rfl ?_
        refine PW.skip rfl rfl rfl ?_
        refine PW.skip rfl rfl rfl ?_
        refine PW.skip rfl rfl rfl ?_
        refine PW.skip rfl rfl rfl ?_
        refine PW.skip rfl rfl rfl ?_
        refine PW.pick (t := false) rfl rfl rfl rfl rfl rfl ?_
        refine PW.move rfl rfl rfl rfl rfl (PW.move rfl rfl rfl rfl rfl ?_)
        refine PW.q2 (x := .tmp 99) (y := .const (.int .i64 1)) (.bool false) rfl rfl rfl rfl rfl (fun ρ W h1 h2 => by exact r_eqF h1 h2 (by omega)) ?_
        refine PW.move rfl rfl rfl rfl rfl ?_
        refine PW.skip rfl rfl rfl ?_
        refine PW.skip rfl rfl rfl ?_
        refine PW.skip rfl rfl rfl ?_
        refine PW.skip rfl rfl rfl ?_
        refine PW.pick (t := false) rfl rfl rfl rfl rfl rfl ?_
        refine PW.pick (t := false) rfl rfl rfl rfl rfl rfl ?_
        refine PW.move rfl rfl rfl rfl rfl (PW.move rfl rfl rfl rfl rfl ?_)
        refine PW.q2 (x := .tmp 109) (y := .const (.int .i64 2)) (.bool true) rfl rfl rfl rfl rfl (fun ρ W h1 h2 => by exact r_eqT h1 h2 (by omega)) ?_
        refine PW.move rfl rfl rfl rfl rfl (PW.move rfl rfl rfl rfl rfl ?_)
        refine PW.load rfl rfl rfl rfl rfl rfl ?_
        refine PW.call (r := .vl (.int .i64 (sgq (ofq x y)))) rfl rfl rfl rfl rfl rfl (KV.st _) rfl (k_rsign) ?_
        refine PW.q2 (x := .tmp 112) (y := .tmp 114) (.bool false) rfl rfl rfl rfl rfl (fun ρ W h1 h2 => by exact r_neF h1 h2 (rnd_2w hy (by omega) hs0)) ?_
        refine PW.pick (t := true) rfl rfl rfl rfl rfl rfl ?_
        refine PW.pick (t := false) rfl rfl rfl rfl rfl rfl ?_
        refine PW.assign rfl rfl rfl rfl rfl (PW.nil (SX.then (SC.seq ?_)))
        refine SC.dx [.val 118 (.vl (.int .i64 (sgq ((ofq x y) - (ofq z u) * ((rdq (k : Int) ((ofq x y) / (ofq z u)) : Int) : Rat))))), .val 119 (.vl (.bool true)), .val 120 (.vl (.bool true)), .val 121 (.vl (.bool false)), .val 122 (.vl (.bool false)), .val 123 (.vl (.bool false)), .val 124 (.vl (.int .i64 (k : Int))), .val 125 (.vl (.bool false)), .val 126 (.vl (.bool false)), .val 127 (.vl (undef)), .val 128 (.vl (undef)), .val 129 (.vl (undef)), .val 130 (.vl (undef)), .val 131 (.vl (undef)), .val 132 (.vl (undef)), .val 133 (.vl (undef)), .val 134 (.vl (undef)), .val 135 (.vl (.bool false)), .val 136 (.vl (.bool false))] [([], [16]), ([0], []), ([1], []), ([2], [17]), ([2, 3], []), ([4], []), ([5], [12]), ([6, 5], []), ([7, 5], []), ([8], []), ([8], []), ([8], []), ([8], []), ([8], []), ([8], []), ([8], []), ([8], []), ([8, 5], []), ([5, 17], [])] rfl (by kernel_rfl) (by kernel_rfl) (by kernel_rfl) rfl ⟨?_, ?_, ?_, ?_, ?_, ?_, ?_, ?_, ?_, ?_, ?_, ?_, ?_, ?_, ?_, ?_, ?_, ?_, ?_, trivial⟩ ?_
        ·exact DX.move rfl rfl rfl rfl rfl rfl
        ·exact DX.q2 (x := .tmp 118) (y := .const (.int .i64 0)) (.bool true) rfl rfl rfl rfl rfl (fun ρ W h1 h2 => by exact r_neT h1 h2 hs0)
        ·exact DX.move rfl rfl rfl rfl rfl rfl
        ·exact DX.move rfl rfl rfl rfl rfl rfl
        ·exact DX.pick (t := true) rfl rfl rfl rfl rfl rfl rfl
        ·exact DX.move rfl rfl rfl rfl rfl rfl
        ·exact DX.move rfl rfl rfl rfl rfl rfl
        ·exact DX.q2 (x := .tmp 124) (y := .const (.int .i64 3)) (.bool false) rfl rfl rfl rfl rfl (fun ρ W h1 h2 => by exact r_eqF h1 h2 (by omega))
        ·exact DX.move rfl rfl rfl rfl rfl rfl
        ·exact DX.skip rfl rfl rfl
        ·exact DX.skip rfl rfl rfl
        ·exact DX.skip rfl rfl rfl
        ·exact DX.skip rfl rfl rfl
        ·exact DX.skip rfl rfl rfl
        ·exact DX.skip rfl rfl rfl
        ·exact DX.skip rfl rfl rfl
        ·exact DX.skip rfl rfl rfl
        ·exact DX.pick (t := false) rfl rfl rfl rfl rfl rfl rfl
        ·exact DX.pick (t := false) rfl rfl rfl rfl rfl rfl rfl
        refine SX.then (SC.cond (t := false) rfl (SC.skip ?_))
        refine SX.blockN ?_
        refine SX.then (SC.region ?_)
        refine PW.q2 (x := .tmp 52) (y := .const (.int .i64 1)) (.int .i64 ((k + 1 : Nat))) rfl rfl rfl rfl rfl (fun ρ W h1 h2 => by exact r_add h1 h2 (by omega) (by omega)) ?_
        refine PW.move rfl rfl rfl rfl rfl (PW.nil ?_)
        refine SX.back (k + 1, qs.set k (rdq (k : Int) ((ofq x y) / (ofq z u)))) ?_ ?_ ?_
        ·exact ⟨(by omega : k + 1 ≤ 4), by rw [List.length_set]; exact hql, at0_set_ok (qs := qs) (k := k) (f := fun i => rdq i ((ofq x y) / (ofq z u))) hqa (by omega)⟩
        ·exact (show 4 - (k + 1) < 4 - k by omega)
        ·exact ⟨rfl, rfl, rfl, rfl, rfl, rfl, trivial⟩
       ·refine SC.region ?_
        refine PW.move rfl rfl rfl rfl rfl ?_
        refine PW.q2 (x := .tmp 89) (y := .const (.int .i64 0)) (.bool false) rfl rfl rfl rfl rfl (fun ρ W h1 h2 => by exact r_eqF h1 h2 (by omega)) ?_
        refine PW.move rfl rfl rfl rfl rfl ?_
        refine PW.skip rfl rfl rfl ?_
        refine PW.skip rfl rfl rfl ?_
        refine PW.skip rfl rfl rfl ?_
        refine PW.skip rfl rfl rfl ?_
        refine PW.skip rfl rfl rfl ?_
        refine PW.pick (t := false) rfl rfl rfl rfl rfl rfl ?_
        refine PW.move rfl rfl rfl rfl rfl (PW.move rfl rfl rfl rfl rfl ?_)
        refine PW.q2 (x := .tmp 99) (y := .const (.int .i64 1)) (.bool false) rfl rfl rfl rfl rfl (fun ρ W h1 h2 => by exact r_eqF h1 h2 (by omega)) ?_
        refine PW.move rfl rfl rfl rfl rfl ?_
        refine PW.skip rfl rfl rfl ?_
        refine PW.skip rfl rfl rfl ?_
        refine PW.skip rfl rfl rfl ?_
        refine PW.skip rfl rfl rfl ?_
        refine PW.pick (t := false) rfl rfl rfl rfl rfl rfl ?_
        refine PW.pick (t := false) rfl rfl rfl rfl rfl rfl ?_
        refine PW.move rfl rfl rfl rfl rfl (PW.move rfl rfl rfl rfl rfl ?_)
        refine PW.q2 (x := .tmp 109) (y := .const (.int .i64 2)) (.bool false) rfl rfl rfl rfl rfl (fun ρ W h1 h2 => by exact r_eqF h1 h2 (by omega)) ?_
        refine PW.move rfl rfl rfl rfl rfl ?_
        refine PW.skip rfl rfl rfl ?_
        refine PW.skip rfl rfl rfl ?_
        refine PW.skip rfl rfl rfl ?_
        refine PW.skip rfl rfl rfl ?_
        refine PW.pick (t := false) rfl rfl rfl rfl rfl rfl ?_
        refine PW.pick (t := false) rfl rfl rfl rfl rfl rfl ?_
        refine PW.assign rfl rfl rfl rfl rfl (PW.nil (SX.then (SC.seq ?_)))
        refine SC.dx [.val 118 (.vl (.int .i64 (sgq ((ofq x y) - (ofq z u) * ((rdq (k : Int) ((ofq x y) / (ofq z u)) : Int) : Rat))))), .val 119 (.vl (.bool true)), .val 120 (.vl (.bool true)), .val 121 (.vl (.bool false)), .val 122 (.vl (.bool false)), .val 123 (.vl (.bool false)), .val 124 (.vl (.int .i64 (k : Int))), .val 125 (.vl (.bool true)), .val 126 (.vl (.bool true)), .val 127 (.kw (KQ ((ofq x y) - (ofq z u) * ((rdq (k : Int) ((ofq x y) / (ofq z u)) : Int) : Rat)).num ((((ofq x y) - (ofq z u) * ((rdq (k : Int) ((ofq x y) / (ofq z u)) : Int) : Rat)).den : Int) - 1))), .val 128 (.kw (KQ ((ofq x y) - (ofq z u) * ((rdq (k : Int) ((ofq x y) / (ofq z u)) : Int) : Rat)).num ((((ofq x y) - (ofq z u) * ((rdq (k : Int) ((ofq x y) / (ofq z u)) : Int) : Rat)).den : Int) - 1))), .val 129 (.kw (KQ (((ofq x y) - (ofq z u) * ((rdq (k : Int) ((ofq x y) / (ofq z u)) : Int) : Rat)) + ((ofq x y) - (ofq z u) * ((rdq (k : Int) ((ofq x y) / (ofq z u)) : Int) : Rat))).num (((((ofq x y) - (ofq z u) * ((rdq (k : Int) ((ofq x y) / (ofq z u)) : Int) : Rat)) + ((ofq x y) - (ofq z u) * ((rdq (k : Int) ((ofq x y) / (ofq z u)) : Int) : Rat))).den : Int) - 1))), .val 130 (.kw (KQ (absq (((ofq x y) - (ofq z u) * ((rdq (k : Int) ((ofq x y) / (ofq z u)) : Int) : Rat)) + ((ofq x y) - (ofq z u) * ((rdq (k : Int) ((ofq x y) / (ofq z u)) : Int) : Rat)))).num (((absq (((ofq x y) - (ofq z u) * ((rdq (k : Int) ((ofq x y) / (ofq z u)) : Int) : Rat)) + ((ofq x y) - (ofq z u) * ((rdq (k : Int) ((ofq x y) / (ofq z u)) : Int) : Rat)))).den : Int) - 1))), .val 131 (.kw (KQ (ofq z u).num (((ofq z u).den : Int) - 1))), .val 132 (.kw (KQ (absq (ofq z u)).num (((absq (ofq z u)).den : Int) - 1))), .val 133 (.vl (.int .i64 (cmpq (absq (((ofq x y) - (ofq z u) * ((rdq (k : Int) ((ofq x y) / (ofq z u)) : Int) : Rat)) + ((ofq x y) - (ofq z u) * ((rdq (k : Int) ((ofq x y) / (ofq z u)) : Int) : Rat)))) (absq (ofq z u))))), .val 134 (.vl (.bool false)), .val 135 (.vl (.bool false)), .val 136 (.vl (.bool false))] [([], [16]), ([0], []), ([1], []), ([2], [17]), ([2, 3], []), ([4], []), ([5], [12]), ([6, 5], []), ([7, 5], []), ([8], [14]), ([8], [14]), ([9, 10, 8], []), ([11, 8], []), ([8], [7]), ([13, 8], []), ([12, 14, 8], []), ([15, 8], []), ([8, 16, 5], []), ([5, 17], [])] rfl (by kernel_rfl) (by kernel_rfl) (by kernel_rfl) rfl ⟨?_, ?_, ?_, ?_, ?_, ?_, ?_, ?_, ?_, ?_, ?_, ?_, ?_, ?_, ?_, ?_, ?_, ?_, ?_, trivial⟩ ?_
        ·exact DX.move rfl rfl rfl rfl rfl rfl
        ·exact DX.q2 (x := .tmp 118) (y := .const (.int .i64 0)) (.bool true) rfl rfl rfl rfl rfl (fun ρ W h1 h2 => by exact r_neT h1 h2 hs0)
        ·exact DX.move rfl rfl rfl rfl rfl rfl
        ·exact DX.move rfl rfl rfl rfl rfl rfl
        ·exact DX.pick (t := true) rfl rfl rfl rfl rfl rfl rfl
        ·exact DX.move rfl rfl rfl rfl rfl rfl
        ·exact DX.move rfl rfl rfl rfl rfl rfl
        ·exact DX.q2 (x := .tmp 124) (y := .const (.int .i64 3)) (.bool true) rfl rfl rfl rfl rfl (fun ρ W h1 h2 => by exact r_eqT h1 h2 (by omega))
        ·exact DX.move rfl rfl rfl rfl rfl rfl
        ·exact DX.load rfl rfl rfl rfl rfl rfl
        ·exact DX.load rfl rfl rfl rfl rfl rfl
        ·exact DX.call (r := .kw (KQ (((ofq x y) - (ofq z u) * ((rdq (k : Int) ((ofq x y) / (ofq z u)) : Int) : Rat)) + ((ofq x y) - (ofq z u) * ((rdq (k : Int) ((ofq x y) / (ofq z u)) : Int) : Rat))).num (((((ofq x y) - (ofq z u) * ((rdq (k : Int) ((ofq x y) / (ofq z u)) : Int) : Rat)) + ((ofq x y) - (ofq z u) * ((rdq (k : Int) ((ofq x y) / (ofq z u)) : Int) : Rat))).den : Int) - 1))) rfl rfl rfl rfl rfl rfl (KQ.st _ _) rfl (k_radd hR hR (by omega) (by omega))
        ·exact DX.call (r := .kw (KQ (absq (((ofq x y) - (ofq z u) * ((rdq (k : Int) ((ofq x y) / (ofq z u)) : Int) : Rat)) + ((ofq x y) - (ofq z u) * ((rdq (k : Int) ((ofq x y) / (ofq z u)) : Int) : Rat)))).num (((absq (((ofq x y) - (ofq z u) * ((rdq (k : Int) ((ofq x y) / (ofq z u)) : Int) : Rat)) + ((ofq x y) - (ofq z u) * ((rdq (k : Int) ((ofq x y) / (ofq z u)) : Int) : Rat)))).den : Int) - 1))) rfl rfl rfl rfl rfl rfl (KQ.st _ _) rfl (k_rabs)
        ·exact DX.load rfl rfl rfl rfl rfl rfl
        ·exact DX.call (r := .kw (KQ (absq (ofq z u)).num (((absq (ofq z u)).den : Int) - 1))) rfl rfl rfl rfl rfl rfl (KQ.st _ _) rfl (k_rabs)
        ·exact DX.call (r := .vl (.int .i64 (cmpq (absq (((ofq x y) - (ofq z u) * ((rdq (k : Int) ((ofq x y) / (ofq z u)) : Int) : Rat)) + ((ofq x y) - (ofq z u) * ((rdq (k : Int) ((ofq x y) / (ofq z u)) : Int) : Rat)))) (absq (ofq z u))))) rfl rfl rfl rfl rfl rfl (KV.st _) rfl (k_rcmp ((hR.add hR).abs) (((bq.of Z U)).abs) (by omega) (by omega))
        ·exact DX.q2 (x := .tmp 133) (y := .const (.int .i64 0)) (.bool false) rfl rfl rfl rfl rfl (fun ρ W h1 h2 => by exact r_gt h1 h2 (decide_eq_false (by have := cmpq_le.2 (rnd_3w hy (way := (k : Int)) (x := ofq x y) (by omega)); omega)))
        ·exact DX.pick (t := true) rfl rfl rfl rfl rfl rfl rfl
        ·exact DX.pick (t := false) rfl rfl rfl rfl rfl rfl rfl
        refine SX.then (SC.cond (t := false) rfl (SC.skip ?_))
        refine SX.blockN ?_
        refine SX.then (SC.region ?_)
        refine PW.q2 (x := .tmp 52) (y := .const (.int .i64 1)) (.int .i64 ((k + 1 : Nat))) rfl rfl rfl rfl rfl (fun ρ W h1 h2 => by exact r_add h1 h2 (by omega) (by omega)) ?_
        refine PW.move rfl rfl rfl rfl rfl (PW.nil ?_)
        refine SX.back (k + 1, qs.set k (rdq (k : Int) ((ofq x y) / (ofq z u)))) ?_ ?_ ?_
        ·exact ⟨(by omega : k + 1 ≤ 4), by rw [List.length_set]; exact hql, at0_set_ok (qs := qs) (k := k) (f := fun i => rdq i ((ofq x y) / (ofq z u))) hqa (by omega)⟩
        ·exact (show 4 - (k + 1) < 4 - k by omega)
        ·exact ⟨rfl, rfl, rfl, rfl, rfl, rfl, trivial⟩
   ·refine SC.region ?_
    refine PW.q2 (x := .tmp 52) (y := .const (.int .i64 4)) (.bool false) rfl rfl rfl rfl rfl (fun ρ W h1 h2 => by exact r_lt h1 h2 (decide_eq_false (by omega))) ?_
    refine PW.nil (SX.then (SC.seq (SC.cond (t := false) rfl (SC.exit (SX.thenE (SX.thenE (SX.blockE (SX.then (SC.seq ?_)))))))))
    obtain rfl : k = 4 := by omega
    have hfin : cmp (-(rdq 0 ((-(ofq x y)) / (ofq z u)))) (at0 (qs) 1) = 0 := by rw [hqa 1 (by omega), neg_div']; exact cmp_zero.2 rfl
    refine SC.dx [.val 139 (.kw (KQ (ofq x y).num (((ofq x y).den : Int) - 1))), .val 140 (.kw (KQ (-(ofq x y)).num (((-(ofq x y)).den : Int) - 1))), .val 141 (.kw (KQ (ofq z u).num (((ofq z u).den : Int) - 1))), .val 142 (.kw (K3 (KI (rdq 0 ((-(ofq x y)) / (ofq z u)))) (KQ ((-(ofq x y)) - (ofq z u) * ((rdq 0 ((-(ofq x y)) / (ofq z u)) : Int) : Rat)).num ((((-(ofq x y)) - (ofq z u) * ((rdq 0 ((-(ofq x y)) / (ofq z u)) : Int) : Rat)).den : Int) - 1)) (KV (.int .i64 0)))), .val 138 (.kw (K3 (KI (rdq 0 ((-(ofq x y)) / (ofq z u)))) (KQ ((-(ofq x y)) - (ofq z u) * ((rdq 0 ((-(ofq x y)) / (ofq z u)) : Int) : Rat)).num ((((-(ofq x y)) - (ofq z u) * ((rdq 0 ((-(ofq x y)) / (ofq z u)) : Int) : Rat)).den : Int) - 1)) (KV (.int .i64 0)))), .val 143 (.kw (KI (rdq 0 ((-(ofq x y)) / (ofq z u))))), .val 144 (.kw (KQ ((-(ofq x y)) - (ofq z u) * ((rdq 0 ((-(ofq x y)) / (ofq z u)) : Int) : Rat)).num ((((-(ofq x y)) - (ofq z u) * ((rdq 0 ((-(ofq x y)) / (ofq z u)) : Int) : Rat)).den : Int) - 1))), .val 145 (.vl (.int .i64 0)), .new 18 (BI 31), .new 19 (BQ 38), .put 18 (BI 31) (.kw (KI (rdq 0 ((-(ofq x y)) / (ofq z u))))), .put 19 (BQ 38) (.kw (KQ ((-(ofq x y)) - (ofq z u) * ((rdq 0 ((-(ofq x y)) / (ofq z u)) : Int) : Rat)).num ((((-(ofq x y)) - (ofq z u) * ((rdq 0 ((-(ofq x y)) / (ofq z u)) : Int) : Rat)).den : Int) - 1))), .val 20 (.vl (.int .i64 0))] [([], [6]), ([0], []), ([], [7]), ([1, 2], []), ([3], []), ([4], []), ([4], []), ([4], []), ([], []), ([], []), ([8, 5], []), ([9, 6], []), ([7], [])] rfl (by kernel_rfl) (by kernel_rfl) (by kernel_rfl) rfl ⟨?_, ?_, ?_, ?_, ?_, ?_, ?_, ?_, ?_, ?_, ?_, ?_, ?_, trivial⟩ ?_
    ·exact DX.load rfl rfl rfl rfl rfl rfl
    ·exact DX.call (r := .kw (KQ (-(ofq x y)).num (((-(ofq x y)).den : Int) - 1))) rfl rfl rfl rfl rfl rfl (KQ.st _ _) rfl (k_rneg)
    ·exact DX.load rfl rfl rfl rfl rfl rfl
    ·exact DX.call (r := .kw (K3 (KI (rdq 0 ((-(ofq x y)) / (ofq z u)))) (KQ ((-(ofq x y)) - (ofq z u) * ((rdq 0 ((-(ofq x y)) / (ofq z u)) : Int) : Rat)).num ((((-(ofq x y)) - (ofq z u) * ((rdq 0 ((-(ofq x y)) / (ofq z u)) : Int) : Rat)).den : Int) - 1)) (KV (.int .i64 0)))) rfl rfl rfl rfl rfl rfl (K3.st (KI.st _) (KQ.st _ _) (KV.st _)) rfl (callK (k_rquo (way := 0) (bq.neg (bq.of X Y)) (bq.of Z U) (by decide) (by decide)) (by rw [KQt_ok (by decide) (by decide) hy]; rfl))
    ·exact DX.move rfl rfl rfl rfl rfl rfl
    ·exact DX.ext (r := .kw (KI (rdq 0 ((-(ofq x y)) / (ofq z u))))) rfl rfl rfl rfl rfl ex30 (KI.st _) rfl
    ·exact DX.ext (r := .kw (KQ ((-(ofq x y)) - (ofq z u) * ((rdq 0 ((-(ofq x y)) / (ofq z u)) : Int) : Rat)).num ((((-(ofq x y)) - (ofq z u) * ((rdq 0 ((-(ofq x y)) / (ofq z u)) : Int) : Rat)).den : Int) - 1))) rfl rfl rfl rfl rfl ex31 (KQ.st _ _) rfl
    ·exact DX.ext (r := .vl (.int .i64 0)) rfl rfl rfl rfl rfl ex32v (KV.st _) rfl
    ·exact DX.alloc (BI 31) rfl rfl rfl rfl bI rfl
    ·exact DX.alloc (BQ 38) rfl rfl rfl rfl bQ rfl
    ·exact DX.store (x := .tmp 143) (r := .kw (KI (rdq 0 ((-(ofq x y)) / (ofq z u))))) rfl rfl rfl rfl rfl rfl sh_I
    ·exact DX.store (x := .tmp 144) (r := .kw (KQ ((-(ofq x y)) - (ofq z u) * ((rdq 0 ((-(ofq x y)) / (ofq z u)) : Int) : Rat)).num ((((-(ofq x y)) - (ofq z u) * ((rdq 0 ((-(ofq x y)) / (ofq z u)) : Int) : Rat)).den : Int) - 1))) rfl rfl rfl rfl rfl rfl sh_Q
    ·exact DX.assign rfl rfl rfl rfl rfl rfl
    refine SX.then (SC.seq ?_)
    refine SC.dx [.val 146 (.vl (.int .i64 0)), .val 147 (.vl (.bool true)), .val 148 (.vl (.bool true)), .val 149 (.kw (KI (rdq 0 ((-(ofq x y)) / (ofq z u))))), .val 150 (.kw (KI (-(rdq 0 ((-(ofq x y)) / (ofq z u)))))), .val 151 (.vl (.pointer (some ⟨gA, 1 * 2, none⟩))), .val 152 (.kw (KI (at0 qs 1))), .val 153 (.vl (.int .i64 (cmp (-(rdq 0 ((-(ofq x y)) / (ofq z u)))) (at0 qs 1)))), .val 154 (.vl (.bool true)), .val 155 (.vl (.bool true)), .val 156 (.vl (.bool true)), .val 157 (.vl (.bool true)), .val 158 (.vl (.bool true)), .val 4 (.vl (.bool true))] [([], [20]), ([0], []), ([1], []), ([2], [18]), ([3, 2], []), ([2], [11]), ([5, 2], [160]), ([4, 6, 2], []), ([7, 2], []), ([2, 8], []), ([9], []), ([10], []), ([10, 11], []), ([12], [])] rfl (by kernel_rfl) (by kernel_rfl) (by kernel_rfl) rfl ⟨?_, ?_, ?_, ?_, ?_, ?_, ?_, ?_, ?_, ?_, ?_, ?_, ?_, ?_, trivial⟩ ?_
    ·exact DX.move rfl rfl rfl rfl rfl rfl
    ·exact DX.q2 (x := .tmp 146) (y := .const (.int .i64 0)) (.bool true) rfl rfl rfl rfl rfl (fun ρ W h1 h2 => by go_simp)
    ·exact DX.move rfl rfl rfl rfl rfl rfl
    ·exact DX.load rfl rfl rfl rfl rfl rfl
    ·exact DX.call (r := .kw (KI (-(rdq 0 ((-(ofq x y)) / (ofq z u)))))) rfl rfl rfl rfl rfl rfl (KI.st _) rfl (k_neg)
    ·exact DX.q2 (x := .tmp 11) (y := .const (.int .i64 1)) (.pointer (some ⟨gA, 1 * 2, none⟩)) rfl rfl rfl rfl rfl (fun ρ W h1 h2 => r_idxA4 (i := 1) h1 h2 (by decide))
    ·exact DX.lds (zs := qs) (K := 160) (i := 1) (by omega) rfl rfl rfl rfl rfl rfl (fun W m A l c h1 h2 => ld_int W m A l c h1 h2)
    ·exact DX.call (r := .vl (.int .i64 (cmp (-(rdq 0 ((-(ofq x y)) / (ofq z u)))) (at0 qs 1)))) rfl rfl rfl rfl rfl rfl (KV.st _) rfl (k_cmp rfl)
    ·exact DX.q2 (x := .tmp 153) (y := .const (.int .i64 0)) (.bool true) rfl rfl rfl rfl rfl (fun ρ W h1 h2 => by exact r_eqT h1 h2 hfin)
    ·exact DX.pick (t := true) rfl rfl rfl rfl rfl rfl rfl
    ·exact DX.move rfl rfl rfl rfl rfl rfl
    ·exact DX.call (r := .vl (.bool true)) rfl rfl rfl rfl rfl rfl (KV.st _) rfl (k_awake3)
    ·exact DX.pick (t := true) rfl rfl rfl rfl rfl rfl rfl
    ·exact DX.assign rfl rfl rfl rfl rfl rfl
    refine SX.then (SC.ret ?_)
    exact SX.done (r := .vl (.bool true)) rfl rfl rfl
 ·have hq : shQ 3 [((n1, A1, l1, c1), (n2, A2, l2, c2)), ((n3, A3, l3, c3), (n4, A4, l4, c4))] = false := by simpa using hq
  refine SC.region ?_
  refine PW.loadV rfl rfl rfl rfl rfl rfl ?_
  refine PW.loadV rfl rfl rfl rfl rfl rfl ?_
  refine PW.short3 3 [((n1, A1, l1, c1), (n2, A2, l2, c2)), ((n3, A3, l3, c3), (n4, A4, l4, c4))] _ rfl rfl rfl (fun a W hf => r_bQ2 (hf.vl (s := 21) rfl) (hf.vl (s := 22) rfl)) (fun W => qs_lit2 W) (by simp; exact ⟨⟨In.lim h1, In.lim h2⟩, ⟨In.lim h3, In.lim h4⟩⟩) rfl rfl hq rfl rfl rfl rfl rfl rfl ?_
  refine PW.q1 (x := .tmp 24) (.bool true) rfl rfl rfl rfl (fun ρ W h1 => by go_simp) ?_
  refine PW.nil (SX.then (SC.cond (t := true) rfl (SC.seq (SC.region ?_))))
  refine PW.call (r := .vl (.bool true)) rfl rfl rfl rfl rfl rfl (KV.st _) rfl (k_awake3) ?_
  refine PW.assign rfl rfl rfl rfl rfl (PW.nil (SX.then (SC.ret (SX.thenR ?_))))
  exact SX.done (r := .vl (.bool true)) rfl rfl rfl
end Go.Proofs.YthpjmhhfcechmaaGreat
/- How plain data that came in read. -/
namespace Go.Proofs.YthpjmhhfcechmaaGreat
open Go.RowKit Ma
theorem In.nil (W : World) : In W none 0 0 [] := ⟨rfl, Nat.le_refl _, Rd.nil _ _ _, dg_nil _⟩
theorem In.of {W : World} {x : Addr} {l c : Nat} {zs : List Int} (hl : l ≤ c) (hm : c ≤ maxLen) (hz : zs.length = c) (hcell : ∀ i, i < zs.length → W.cell? (x.add i) = some (.int .u32 (zs.getD i 0))) (hw : ∀ n ∈ zs, (Lit.int .u32 n).wf = true) : In W (some x) l c (zs.take l) := by
 have h1 : (zs.take l).length = l := by rw [List.length_take]; omega
 refine ⟨h1.symm, hl, ⟨by rw [h1]; unfold maxLen at hm; omega, fun i hi => ⟨x, rfl, ?_⟩⟩, fun n hn => ?_⟩
 ·rw [h1] at hi
  rw [hcell i (by omega)]
  simp only [at0, List.getD_eq_getElem?_getD, List.getElem?_take, hi, if_true]
 ·have h2 := hw n (List.mem_of_mem_take hn)
  simp only [Lit.wf, Bool.and_eq_true, decide_eq_true_eq] at h2
  have hm : IntKind.u32.max = 4294967295 := by simp [IntKind.max, IntKind.bits, IntKind.signed]
  have hn : IntKind.u32.min = 0 := by simp [IntKind.min, IntKind.signed]
  rw [hm, hn] at h2
  rw [b32_eq]
  omega
end Go.Proofs.YthpjmhhfcechmaaGreat
/- A fraction as plain data that came in, opened: two signs, two slices. -/
namespace Go.Proofs.YthpjmhhfcechmaaGreat
open Go.ChangeShapes Go.WideShapes Go.ChangeAt Go.RowKit Go.Joins
set_option maxHeartbeats 1600000 in
set_option maxRecDepth 100000 in
theorem open_Q {H : Type} {enc : TypeId × Value → H} {w : World} {base : Nat} {spare : Nat → Bool} {held : Bool} {r : Reach} {b0 : Nat} {v : Value} {d : DataW H} {p : List MemPlace} (hv : Value.okWide Tryz.prog w r b0 26 v) (h : DataW.Trod enc Tryz.prog w base spare held 26 v d p) :
  ∃ (q0 q1 q2 q3 : Value) (y0 y1 y2 y3 : DataW H × List MemPlace) (n m : Nat), v = .agg #[q0, q1, q2, q3] ∧ DataW.trod enc Tryz.prog w base spare held n 4 [q0] = some y0 ∧ DataW.trod enc Tryz.prog w base spare held n 22 [q1] = some y1 ∧ DataW.trod enc Tryz.prog w base spare held m 4 [q2] = some y2 ∧ DataW.trod enc Tryz.prog w base spare held m 22 [q3] = some y3 := by
 obtain ⟨cs, rfl, hsz⟩ := okWide_struct Tryz.underlying26 hv
 have k4 : Tryz.prog.cellsOf 26 = 4 := by kernel_rfl
 have k2 : Tryz.prog.cellsOf 24 = 2 := by kernel_rfl
 have kb : Tryz.prog.cellsOf 4 = 1 := by kernel_rfl
 have ks : Tryz.prog.cellsOf 22 = 1 := by kernel_rfl
 obtain ⟨q0, q1, q2, q3, rfl⟩ := array4 (hsz.trans k4)
 obtain ⟨fuel, hf⟩ := h
 obtain ⟨y0, y1, n, hx, _, h0, h1⟩ := trod_struct2 Tryz.underlying26 hf
 have g0 : DataW.trod enc Tryz.prog w base spare held n 24 [q0, q1] = some y0 := by simpa [Value.cells, k2] using h0
 have g1 : DataW.trod enc Tryz.prog w base spare held n 24 [q2, q3] = some y1 := by simpa [Value.cells, k2] using h1
 obtain ⟨a0, a1, i, _, _, e0, e1⟩ := trod_struct2 Tryz.underlying24 g0
 obtain ⟨b0, b1, j, _, _, f0, f1⟩ := trod_struct2 Tryz.underlying24 g1
 exact ⟨q0, q1, q2, q3, a0, a1, b0, b1, i, j, rfl, by simpa [kb] using e0, by simpa [ks] using e1, by simpa [kb] using f0, by simpa [ks] using f1⟩
end Go.Proofs.YthpjmhhfcechmaaGreat
