/- Parts Rsl, D2, D3, in one file. -/
import Derived.RowKit
import Derived.WalkKit
import Derived.ProofKit
import Derived.OpenShut
import Derived.ShutString
import Derived.ChangeOld
import Derived.Lib.SmallJoins
import Derived.Test.YthpjmhhfcechmaaGreatLRSimple10
import Derived.Test.YthpjmhhfcechmaaGreatLRSimple11
import Derived.Test.YthpjmhhfcechmaaGreatLRSimple3
/- RationalSimple: the walk, by rules. -/
set_option linter.unusedVariables false
set_option linter.unusedSimpArgs false
namespace Go.Proofs.YthpjmhhfcechmaaGreat
open Go.RowKit Ma Sy
theorem cmpq_gt0 {x y : Rat} : cmpq x y > 0 ↔ ¬ x ≤ y := by rw [← cmpq_le]; omega
theorem cmpq_nlt {x y : Rat} (h : y ≤ x) : ¬ cmpq x y < 0 := fun hc => by
 unfold cmpq at hc
 split at hc
 ·rename_i h2; exact Rat.not_lt.2 h h2
 ·split at hc <;> omega
theorem cmpq_ge0 {x y : Rat} : cmpq x y ≥ 0 ↔ y ≤ x := by
 constructor
 ·intro h
  apply Rat.not_lt.1
  intro hc
  unfold cmpq at h
  rw [if_pos hc] at h
  omega
 ·intro h; have := cmpq_nlt h; omega
theorem sgn_pos1 {z : Int} (h : 1 ≤ z) : ¬ sgn z ≤ 0 := by unfold sgn; rw [if_neg (by omega), if_neg (by omega)]; decide
theorem abs_nn (w : Rat) : 0 ≤ absq w := by unfold absq; split <;> grind
theorem sub_abs_le (x w : Rat) : x - absq w ≤ x := by have := abs_nn w; grind
theorem cf_bd {m n : Nat} {x : Rat} {L : List Int} (h : CfR m x L n) : ∀ i, bd (m + 1) (at0 L i) := fun i => by
 by_cases hi : i < L.length
 ·rw [at0_of_lt hi]; exact (h.b _ (List.getElem_mem hi)).mono (by omega)
 ·rw [Ma.at0, List.getD_eq_getElem?_getD, List.getElem?_eq_none (by omega)]; exact bd.zero
set_option maxHeartbeats 12800000 in
set_option maxRecDepth 100000 in
theorem rationalSimple_walk {n1 n2 n3 n4 n5 n6 n7 n8 : Bool} {A1 A2 A3 A4 A5 A6 A7 A8 : Option Addr} {l1 l2 l3 l4 l5 l6 l7 l8 c1 c2 c3 c4 c5 c6 c7 c8 : Nat} {xs1 xs2 xs3 xs4 xs5 xs6 xs7 xs8 : List Int} {w : World} (h1 : In w A1 l1 c1 xs1) (h2 : In w A2 l2 c2 xs2) (h3 : In w A3 l3 c3 xs3) (h4 : In w A4 l4 c4 xs4) (h5 : In w A5 l5 c5 xs5) (h6 : In w A6 l6 c6 xs6) (h7 : In w A7 l7 c7 xs7) (h8 : In w A8 l8 c8 xs8) :
  Calls Tryz.prog 5 #[.agg #[.bool n1, .slice A1 l1 c1, .bool n2, .slice A2 l2 c2], .agg #[.bool n3, .slice A3 l3 c3, .bool n4, .slice A4 l4 c4], .agg #[.bool n5, .slice A5 l5 c5, .bool n6, .slice A6 l6 c6], .agg #[.bool n7, .slice A7 l7 c7, .bool n8, .slice A8 l8 c8]] w (Ret w (KV (.bool true))) := by
 obtain ⟨x, hz1⟩ : ∃ z, z = sg n1 (lv b32 xs1) := ⟨_, rfl⟩
 obtain ⟨y, hz2⟩ : ∃ z, z = sg n2 (lv b32 xs2) := ⟨_, rfl⟩
 obtain ⟨z, hz3⟩ : ∃ z, z = sg n3 (lv b32 xs3) := ⟨_, rfl⟩
 obtain ⟨u, hz4⟩ : ∃ z, z = sg n4 (lv b32 xs4) := ⟨_, rfl⟩
 obtain ⟨v, hz5⟩ : ∃ z, z = sg n5 (lv b32 xs5) := ⟨_, rfl⟩
 obtain ⟨p, hz6⟩ : ∃ z, z = sg n6 (lv b32 xs6) := ⟨_, rfl⟩
 obtain ⟨q, hz7⟩ : ∃ z, z = sg n7 (lv b32 xs7) := ⟨_, rfl⟩
 obtain ⟨r, hz8⟩ : ∃ z, z = sg n8 (lv b32 xs8) := ⟨_, rfl⟩
 refine calls_sc (l := [.vl (.agg #[.bool n1, .slice A1 l1 c1, .bool n2, .slice A2 l2 c2]), .vl (.agg #[.bool n3, .slice A3 l3 c3, .bool n4, .slice A4 l4 c4]), .vl (.agg #[.bool n5, .slice A5 l5 c5, .bool n6, .slice A6 l6 c6]), .vl (.agg #[.bool n7, .slice A7 l7 c7, .bool n8, .slice A8 l8 c8])]) (us := [.agg #[.bool n1, .slice A1 l1 c1, .bool n2, .slice A2 l2 c2], .agg #[.bool n3, .slice A3 l3 c3, .bool n4, .slice A4 l4 c4], .agg #[.bool n5, .slice A5 l5 c5, .bool n6, .slice A6 l6 c6], .agg #[.bool n7, .slice A7 l7 c7, .bool n8, .slice A8 l8 c8]]) 165 Tryz.func5 rfl Tryz.ntmps5 (by simp) ⟨rfl, rfl, rfl, rfl, rfl, rfl, rfl, rfl, trivial⟩ ?_
 refine SC.seq (SC.region ?_)
 refine PW.box (x := .tmp 0) (r := .vl (.agg #[.bool n1, .slice A1 l1 c1, .bool n2, .slice A2 l2 c2])) (BQ 26) rfl rfl rfl rfl rfl bQN rfl sh_VQ ?_
 refine PW.box (x := .tmp 1) (r := .vl (.agg #[.bool n3, .slice A3 l3 c3, .bool n4, .slice A4 l4 c4])) (BQ 26) rfl rfl rfl rfl rfl bQN rfl sh_VQ ?_
 refine PW.box (x := .tmp 2) (r := .vl (.agg #[.bool n5, .slice A5 l5 c5, .bool n6, .slice A6 l6 c6])) (BQ 26) rfl rfl rfl rfl rfl bQN rfl sh_VQ ?_
 refine PW.box (x := .tmp 3) (r := .vl (.agg #[.bool n7, .slice A7 l7 c7, .bool n8, .slice A8 l8 c8])) (BQ 26) rfl rfl rfl rfl rfl bQN rfl sh_VQ ?_
 refine PW.assign rfl rfl rfl rfl rfl (PW.nil (SX.then (SC.seq (SC.seq ?_))))
 by_cases hq : shQ 2 [((n1, A1, l1, c1), (n2, A2, l2, c2)), ((n3, A3, l3, c3), (n4, A4, l4, c4)), ((n5, A5, l5, c5), (n6, A6, l6, c6)), ((n7, A7, l7, c7), (n8, A8, l8, c8))] = true
 ·have hlehq : (l1 ≤ 2 ∧ l2 ≤ 2) ∧ (l3 ≤ 2 ∧ l4 ≤ 2) ∧ (l5 ≤ 2 ∧ l6 ≤ 2) ∧ (l7 ≤ 2 ∧ l8 ≤ 2) := by simpa [shB, shQ] using hq
  have X : bd 2 x := hz1 ▸ bd_sg h1.2.2.2 (by have := h1.1; omega)
  have Y : bd 2 y := hz2 ▸ bd_sg h2.2.2.2 (by have := h2.1; omega)
  have Z : bd 2 z := hz3 ▸ bd_sg h3.2.2.2 (by have := h3.1; omega)
  have U : bd 2 u := hz4 ▸ bd_sg h4.2.2.2 (by have := h4.1; omega)
  have V : bd 2 v := hz5 ▸ bd_sg h5.2.2.2 (by have := h5.1; omega)
  have P : bd 2 p := hz6 ▸ bd_sg h6.2.2.2 (by have := h6.1; omega)
  have Q : bd 2 q := hz7 ▸ bd_sg h7.2.2.2 (by have := h7.1; omega)
  have R : bd 2 r := hz8 ▸ bd_sg h8.2.2.2 (by have := h8.1; omega)
  have hl1 : l1 ≤ 2 := by omega
  have hl2 : l2 ≤ 2 := by omega
  have hl3 : l3 ≤ 2 := by omega
  have hl4 : l4 ≤ 2 := by omega
  have hl5 : l5 ≤ 2 := by omega
  have hl6 : l6 ≤ 2 := by omega
  have hl7 : l7 ≤ 2 := by omega
  have hl8 : l8 ≤ 2 := by omega
  refine SC.region ?_
  refine PW.loadV rfl rfl rfl rfl rfl rfl ?_
  refine PW.loadV rfl rfl rfl rfl rfl rfl ?_
  refine PW.loadV rfl rfl rfl rfl rfl rfl ?_
  refine PW.loadV rfl rfl rfl rfl rfl rfl ?_
  refine PW.short3 2 [((n1, A1, l1, c1), (n2, A2, l2, c2)), ((n3, A3, l3, c3), (n4, A4, l4, c4)), ((n5, A5, l5, c5), (n6, A6, l6, c6)), ((n7, A7, l7, c7), (n8, A8, l8, c8))] _ rfl rfl rfl (fun a W hf => r_bQ4 (hf.vl (s := 23) rfl) (hf.vl (s := 24) rfl) (hf.vl (s := 25) rfl) (hf.vl (s := 26) rfl)) (fun W => qs_lit4 W) (by simp; exact ⟨⟨In.lim h1, In.lim h2⟩, ⟨In.lim h3, In.lim h4⟩, ⟨In.lim h5, In.lim h6⟩, ⟨In.lim h7, In.lim h8⟩⟩) rfl rfl hq rfl rfl rfl rfl rfl rfl ?_
  refine PW.q1 (x := .tmp 28) (.bool false) rfl rfl rfl rfl (fun ρ W h1 => by go_simp) ?_
  refine PW.nil (SX.then (SC.cond (t := false) rfl (SC.skip (SX.then (SC.seq (SC.region ?_))))))
  refine PW.loadV rfl rfl rfl rfl rfl rfl ?_
  refine PW.loadV rfl rfl rfl rfl rfl rfl ?_
  refine PW.loadV rfl rfl rfl rfl rfl rfl ?_
  refine PW.loadV rfl rfl rfl rfl rfl rfl ?_
  refine PW.callS (n := ([ofq x y, ofq z u, ofq v p, ofq q r] : List Rat).length) (R := RsQ [ofq x y, ofq z u, ofq v p, ofq q r]) 165 _ ce_ofl rfl rfl rfl (fun a W hf => r_bQ4 (hf.vl (s := 31) rfl) (hf.vl (s := 32) rfl) (hf.vl (s := 33) rfl) (hf.vl (s := 34) rfl)) rfl rfl rfl rfl rfl rfl rfl rfl (fun a W hf => ofl_l (b := W.heap.size) (zs := [ofq x y, ofq z u, ofq v p, ofq q r]) (by rfl) (qs_lit4 W) (Zqs.cons (in_al h1 hf.be) (in_al h2 hf.be) hz1 hz2 X Y (by omega) (by omega) (Zqs.cons (in_al h3 hf.be) (in_al h4 hf.be) hz3 hz4 Z U (by omega) (by omega) (Zqs.cons (in_al h5 hf.be) (in_al h6 hf.be) hz5 hz6 V P (by omega) (by omega) (Zqs.cons (in_al h7 hf.be) (in_al h8 hf.be) hz7 hz8 Q R (by omega) (by omega) (Zqs.nil _ _))))) (by decide) (by simp)) fun gq cq => ?_
  refine PW.assign rfl rfl rfl rfl rfl (PW.nil (SX.then (SC.seq ?_)))
  refine SC.dx [.val 37 (.vl (.slice (some ⟨gq, 0, none⟩) 4 cq)), .val 38 (.vl (.pointer (some ⟨gq, 0 * 4, none⟩))), .val 39 (.kw (KQ (ofq x y).num (((ofq x y).den : Int) - 1))), .val 40 (.vl (.slice (some ⟨gq, 0, none⟩) 4 cq)), .val 41 (.vl (.pointer (some ⟨gq, 1 * 4, none⟩))), .val 42 (.kw (KQ (ofq z u).num (((ofq z u).den : Int) - 1))), .val 43 (.vl (.slice (some ⟨gq, 0, none⟩) 4 cq)), .val 44 (.vl (.pointer (some ⟨gq, 2 * 4, none⟩))), .val 45 (.kw (KQ (ofq v p).num (((ofq v p).den : Int) - 1))), .new 10 (BQ 38), .new 11 (BQ 38), .new 12 (BQ 38), .put 10 (BQ 38) (.kw (KQ (ofq x y).num (((ofq x y).den : Int) - 1))), .put 11 (BQ 38) (.kw (KQ (ofq z u).num (((ofq z u).den : Int) - 1))), .put 12 (BQ 38) (.kw (KQ (ofq v p).num (((ofq v p).den : Int) - 1)))] [([], [9]), ([0], []), ([1], [165]), ([], [9]), ([3], []), ([4], [165]), ([], [9]), ([6], []), ([7], [165]), ([], []), ([], []), ([], []), ([9, 2], []), ([10, 5], []), ([11, 8], [])] rfl (by kernel_rfl) (by kernel_rfl) (by kernel_rfl) rfl ⟨?_, ?_, ?_, ?_, ?_, ?_, ?_, ?_, ?_, ?_, ?_, ?_, ?_, ?_, ?_, trivial⟩ ?_
  ·exact DX.move rfl rfl rfl rfl rfl rfl
  ·exact DX.q2 (x := .tmp 37) (y := .const (.int .i64 0)) (.pointer (some ⟨gq, 0 * 4, none⟩)) rfl rfl rfl rfl rfl (fun ρ W h1 h2 => r_idxq (i := 0) h1 h2 (by simp))
  ·exact DX.ldq (zs := [ofq x y, ofq z u, ofq v p, ofq q r]) (K := 165) (i := 0) (by simp) rfl rfl rfl rfl
  ·exact DX.move rfl rfl rfl rfl rfl rfl
  ·exact DX.q2 (x := .tmp 40) (y := .const (.int .i64 1)) (.pointer (some ⟨gq, 1 * 4, none⟩)) rfl rfl rfl rfl rfl (fun ρ W h1 h2 => r_idxq (i := 1) h1 h2 (by simp))
  ·exact DX.ldq (zs := [ofq x y, ofq z u, ofq v p, ofq q r]) (K := 165) (i := 1) (by simp) rfl rfl rfl rfl
  ·exact DX.move rfl rfl rfl rfl rfl rfl
  ·exact DX.q2 (x := .tmp 43) (y := .const (.int .i64 2)) (.pointer (some ⟨gq, 2 * 4, none⟩)) rfl rfl rfl rfl rfl (fun ρ W h1 h2 => r_idxq (i := 2) h1 h2 (by simp))
  ·exact DX.ldq (zs := [ofq x y, ofq z u, ofq v p, ofq q r]) (K := 165) (i := 2) (by simp) rfl rfl rfl rfl
  ·exact DX.alloc (BQ 38) rfl rfl rfl rfl bQ rfl
  ·exact DX.alloc (BQ 38) rfl rfl rfl rfl bQ rfl
  ·exact DX.alloc (BQ 38) rfl rfl rfl rfl bQ rfl
  ·exact DX.store (x := .tmp 39) (r := .kw (KQ (ofq x y).num (((ofq x y).den : Int) - 1))) rfl rfl rfl rfl rfl rfl sh_Q
  ·exact DX.store (x := .tmp 42) (r := .kw (KQ (ofq z u).num (((ofq z u).den : Int) - 1))) rfl rfl rfl rfl rfl rfl sh_Q
  ·exact DX.store (x := .tmp 45) (r := .kw (KQ (ofq v p).num (((ofq v p).den : Int) - 1))) rfl rfl rfl rfl rfl rfl sh_Q
  refine SX.then (SC.seq (SC.seq ?_))
  by_cases hxy : ofq x y ≤ ofq z u
  ·have XA : bq 3 (ofq x y) := bq.of X Y
   obtain ⟨s1, Z1, s1a, s1b, s1m, hS1⟩ := simp_ok XA (bq.of Z U) (by decide) (by decide) hxy
   obtain ⟨L, hL⟩ := cf_ex XA
   have hLb : ∀ i, bd (3 + 1) (at0 L i) := cf_bd hL
   have hLT : (3 + 4) * L.length ≤ 40000 := by have := hL.len; omega
   have hLl : L.length ≤ 1000000 := by have := hL.len; omega
   have hw : ofq x y - absq (ofq q r) ≤ ofq z u := Rat.le_trans (sub_abs_le _ _) hxy
   obtain ⟨s2, Z2, s2a, s2b, s2m, hS2⟩ := simp_ok (XA.sub (bq.of Q R).abs) ((bq.of Z U).mono (by omega)) (by decide) (by decide) hw
   have h1d : ofq x y ≤ ofq v p ∧ ofq v p ≤ ofq z u → (s1.den : Int) ≤ ((ofq v p).den : Int) := fun h => Int.ofNat_le.2 (s1m _ h.1 h.2).1
   have h1n : ofq x y ≤ ofq v p ∧ ofq v p ≤ ofq z u → ((ofq v p).den : Int) = (s1.den : Int) → (s1.num.natAbs : Int) ≤ ((ofq v p).num.natAbs : Int) := fun h _ => Int.ofNat_le.2 (s1m _ h.1 h.2).2
   have h2 := s2m s1 (Rat.le_trans (sub_abs_le _ _) s1a) s1b
   have h2d : (s2.den : Int) ≤ (s1.den : Int) := Int.ofNat_le.2 h2.1
   have h2n : (s1.den : Int) = (s2.den : Int) → (s2.num.natAbs : Int) ≤ (s1.num.natAbs : Int) := fun _ => Int.ofNat_le.2 h2.2
   refine SC.region ?_
   refine PW.load rfl rfl rfl rfl rfl rfl ?_
   refine PW.load rfl rfl rfl rfl rfl rfl ?_
   refine PW.call (r := .vl (.int .i64 (cmpq (ofq x y) (ofq z u)))) rfl rfl rfl rfl rfl rfl (KV.st _) rfl (k_rcmp ((bq.of X Y)) ((bq.of Z U)) (by omega) (by omega)) ?_
   refine PW.q2 (x := .tmp 48) (y := .const (.int .i64 0)) (.bool false) rfl rfl rfl rfl rfl (fun ρ W h1 h2 => by exact r_gt h1 h2 (decide_eq_false (fun h => cmpq_gt0.1 h hxy))) ?_
   refine PW.nil (SX.then (SC.cond (t := false) rfl (SC.skip (SX.then (SC.seq (SC.region ?_))))))
   refine PW.load rfl rfl rfl rfl rfl rfl ?_
   refine PW.callE (s := 61) (K := 166) ce_exp rfl rfl rfl rfl rfl rfl rfl hL.s.ne (fun v W hv => exp_c hL XA (by decide) (by decide) hv) fun gE cE => ?_
   refine PW.assign rfl rfl rfl rfl rfl (PW.nil (SX.then (SC.seq (SC.region (PW.move rfl rfl rfl rfl rfl ?_)))))
   refine PW.callG (r := .kw (K2 (KQ (ofq x y).num (((ofq x y).den : Int) - 1)) (KV (.int .i64 0)))) ce_contract rfl rfl rfl rfl rfl (K2.st (KQ.st _ _) (KV.st _)) rfl (fun a W hf => by have h1 := hf.vl (s := 64) rfl; have own : OwS W _ _ 2 (.slice (some ⟨gE, 0, none⟩) L.length cE) (L : List Int).length (RsI L) := hf.ho 166 _ rfl; show Calls Tryz.prog _ #[a.tmps.getD 64 undef] W _; rw [h1]; have := contract_c (c := cE) (own.lin rfl) hLb hLT (by decide) hLl; rw [hL.c] at this; exact this) ?_
   refine PW.move rfl rfl rfl rfl rfl ?_
   refine PW.ext (r := .kw (KQ (ofq x y).num (((ofq x y).den : Int) - 1))) rfl rfl rfl rfl rfl ex20 (KQ.st _ _) rfl ?_
   refine PW.ext (r := .vl (.int .i64 0)) rfl rfl rfl rfl rfl ex21v (KV.st _) rfl ?_
   refine PW.alloc (BQ 38) rfl rfl rfl rfl rfl bQ ?_
   refine PW.store (x := .tmp 66) (r := .kw (KQ (ofq x y).num (((ofq x y).den : Int) - 1))) rfl rfl rfl rfl rfl rfl sh_Q ?_
   refine PW.assign rfl rfl rfl rfl rfl (PW.nil (SX.then (SC.seq (SC.seq (SC.region (PW.move rfl rfl rfl rfl rfl ?_))))))
   refine PW.q2 (x := .tmp 68) (y := .const (.int .i64 0)) (.bool false) rfl rfl rfl rfl rfl (fun ρ W h1 h2 => by go_simp) ?_
   refine PW.move rfl rfl rfl rfl rfl ?_
   refine PW.load rfl rfl rfl rfl rfl rfl ?_
   refine PW.load rfl rfl rfl rfl rfl rfl ?_
   refine PW.call (r := .vl (.bool true)) rfl rfl rfl rfl rfl rfl (KV.st _) rfl (k_sameT XA ((bq.of X Y)) (by omega) (by omega) (rfl)) ?_
   refine PW.q1 (x := .tmp 73) (.bool false) rfl rfl rfl rfl (fun ρ W h1 => by go_simp) ?_
   refine PW.pick (t := false) rfl rfl rfl rfl rfl rfl ?_
   refine PW.nil (SX.then (SC.cond (t := false) rfl (SC.skip (SX.then (SC.seq (SC.seq (SC.region (PW.move rfl rfl rfl rfl rfl ?_))))))))
   refine PW.qn [(.tmp 76, .slice (some ⟨gE, 0, none⟩) L.length cE)] (.int .i64 ((L.length : Int))) rfl rfl rfl ⟨rfl, trivial⟩ (fun ρ W h => by obtain ⟨h1, _⟩ := h; exact r_lenz h1) ?_
   refine PW.move rfl rfl rfl rfl rfl (PW.nil (SX.then (SC.block ?_)))
   refine SC.loop (S := Nat) (fun k => [(8, .vl (.bool false)), (9, .vl (.slice (some ⟨gq, 0, none⟩) 4 cq)), (10, .bx (BQ 38) (KQ (ofq x y).num (((ofq x y).den : Int) - 1))), (11, .bx (BQ 38) (KQ (ofq z u).num (((ofq z u).den : Int) - 1))), (12, .bx (BQ 38) (KQ (ofq v p).num (((ofq v p).den : Int) - 1))), (15, .vl (.slice (some ⟨gE, 0, none⟩) L.length cE)), (76, .vl (.slice (some ⟨gE, 0, none⟩) L.length cE)), (77, .vl (.int .i64 ((L.length : Int)))), (78, .vl (.int .i64 (k : Int))), (165, .rs (.slice (some ⟨gq, 0, none⟩) 4 cq) 38 4 ([ofq x y, ofq z u, ofq v p, ofq q r] : List Rat).length (RsQ ([ofq x y, ofq z u, ofq v p, ofq q r]))), (166, .rs (.slice (some ⟨gE, 0, none⟩) L.length cE) 31 2 L.length (RsI L))]) (fun k => k ≤ L.length) (fun k => L.length - k) 0 (Nat.zero_le _) ⟨rfl, rfl, rfl, rfl, rfl, rfl, rfl, rfl, rfl, rfl, rfl, trivial⟩ ?_
   rintro k hk0
   show SC _ _ _ _ [(8, .vl (.bool false)), (9, .vl (.slice (some ⟨gq, 0, none⟩) 4 cq)), (10, .bx (BQ 38) (KQ (ofq x y).num (((ofq x y).den : Int) - 1))), (11, .bx (BQ 38) (KQ (ofq z u).num (((ofq z u).den : Int) - 1))), (12, .bx (BQ 38) (KQ (ofq v p).num (((ofq v p).den : Int) - 1))), (15, .vl (.slice (some ⟨gE, 0, none⟩) L.length cE)), (76, .vl (.slice (some ⟨gE, 0, none⟩) L.length cE)), (77, .vl (.int .i64 ((L.length : Int)))), (78, .vl (.int .i64 (k : Int))), (165, .rs (.slice (some ⟨gq, 0, none⟩) 4 cq) 38 4 ([ofq x y, ofq z u, ofq v p, ofq q r] : List Rat).length (RsQ ([ofq x y, ofq z u, ofq v p, ofq q r]))), (166, .rs (.slice (some ⟨gE, 0, none⟩) L.length cE) 31 2 L.length (RsI L))] _
   refine SC.seq ?_
   by_cases hk : k < L.length
   ·refine SC.region ?_
    refine PW.q2 (x := .tmp 78) (y := .tmp 77) (.bool true) rfl rfl rfl rfl rfl (fun ρ W h1 h2 => by exact r_lt h1 h2 (decide_eq_true (by omega))) ?_
    refine PW.nil (SX.then (SC.seq (SC.cond (t := true) rfl (SC.skip (SX.then (SC.seq (SC.block (SC.seq (SC.region (PW.move rfl rfl rfl rfl rfl ?_))))))))))
    refine PW.q2 (x := .tmp 76) (y := .tmp 78) (.pointer (some ⟨gE, k * 2, none⟩)) rfl rfl rfl rfl rfl (fun ρ W h1 h2 => by exact r_idx0 h1 h2 hk) ?_
    refine PW.lds (zs := L) (K := 166) (i := k) hk rfl rfl rfl rfl rfl rfl (fun W m A l c h1 h2 => ld_int W m A l c h1 h2) ?_
    refine PW.alloc (BI 31) rfl rfl rfl rfl rfl bI ?_
    refine PW.assign rfl rfl rfl rfl rfl ?_
    refine PW.store (x := .tmp 82) (r := .kw (KI (at0 L k))) rfl rfl rfl rfl rfl rfl sh_I ?_
    refine PW.nil (SX.then (SC.seq ?_))
    by_cases h0 : k = 0
    ·refine SC.dx [.val 83 (.vl (.int .i64 (k : Int))), .val 84 (.vl (.bool false)), .val 85 (.vl (.bool false)), .val 86 (.vl (undef)), .val 87 (.vl (undef)), .val 88 (.vl (undef)), .val 89 (.vl (undef)), .val 90 (.vl (undef)), .val 91 (.vl (undef)), .val 92 (.vl (undef)), .val 93 (.vl (undef)), .val 94 (.vl (undef)), .val 95 (.vl (undef)), .val 96 (.vl (undef)), .val 97 (.vl (undef)), .val 98 (.vl (undef)), .val 99 (.vl (undef)), .val 100 (.vl (undef)), .val 101 (.vl (undef)), .val 102 (.vl (.bool false))] [([], [18]), ([0], []), ([1], []), ([2], []), ([2], []), ([2], []), ([2], []), ([6], []), ([6], []), ([6], []), ([6], []), ([6], []), ([6], []), ([12], []), ([12], []), ([12], []), ([12], []), ([6], []), ([2], []), ([2], [])] rfl (by kernel_rfl) (by kernel_rfl) (by kernel_rfl) rfl ⟨?_, ?_, ?_, ?_, ?_, ?_, ?_, ?_, ?_, ?_, ?_, ?_, ?_, ?_, ?_, ?_, ?_, ?_, ?_, ?_, trivial⟩ ?_
     ·exact DX.move rfl rfl rfl rfl rfl rfl
     ·exact DX.q2 (x := .tmp 83) (y := .const (.int .i64 0)) (.bool false) rfl rfl rfl rfl rfl (fun ρ W h1 h2 => by exact r_gt h1 h2 (decide_eq_false (by omega)))
     ·exact DX.move rfl rfl rfl rfl rfl rfl
     ·exact DX.skip rfl rfl rfl
     ·exact DX.skip rfl rfl rfl
     ·exact DX.skip rfl rfl rfl
     ·exact DX.skip rfl rfl rfl
     ·exact DX.skip rfl rfl rfl
     ·exact DX.skip rfl rfl rfl
     ·exact DX.skip rfl rfl rfl
     ·exact DX.skip rfl rfl rfl
     ·exact DX.skip rfl rfl rfl
     ·exact DX.skip rfl rfl rfl
     ·exact DX.skip rfl rfl rfl
     ·exact DX.skip rfl rfl rfl
     ·exact DX.skip rfl rfl rfl
     ·exact DX.skip rfl rfl rfl
     ·exact DX.skip rfl rfl rfl
     ·exact DX.skip rfl rfl rfl
     ·exact DX.pick (t := false) rfl rfl rfl rfl rfl rfl rfl
     refine SX.then (SC.cond (t := false) rfl (SC.skip ?_))
     refine SX.blockN ?_
     refine SX.then (SC.region ?_)
     refine PW.q2 (x := .tmp 78) (y := .const (.int .i64 1)) (.int .i64 ((k + 1 : Nat))) rfl rfl rfl rfl rfl (fun ρ W h1 h2 => by exact r_add h1 h2 (by omega) (by omega)) ?_
     refine PW.move rfl rfl rfl rfl rfl (PW.nil ?_)
     refine SX.back (k + 1) ?_ ?_ ?_
     ·exact (show k + 1 ≤ L.length by omega)
     ·exact (show L.length - (k + 1) < L.length - k by omega)
     ·exact ⟨rfl, rfl, rfl, rfl, rfl, rfl, rfl, rfl, rfl, rfl, rfl, trivial⟩
    ·have hp := hL.s.law k (by omega) hk
     by_cases hl : k = L.length - 1
     ·refine SC.dx [.val 83 (.vl (.int .i64 (k : Int))), .val 84 (.vl (.bool true)), .val 85 (.vl (.bool true)), .val 86 (.kw (KI (at0 L k))), .val 87 (.vl (.int .i64 (sgn (at0 L k)))), .val 88 (.vl (.bool false)), .val 89 (.vl (.bool false)), .val 90 (.vl (.int .i64 (k : Int))), .val 91 (.vl (.slice (some ⟨gE, 0, none⟩) L.length cE)), .val 92 (.vl (.int .i64 ((L.length : Int)))), .val 93 (.vl (.int .i64 ((L.length : Int) - 1))), .val 94 (.vl (.bool true)), .val 95 (.vl (.bool true)), .val 96 (.kw (KI (at0 L k))), .val 97 (.kw (KI (2))), .val 98 (.vl (.int .i64 (cmp (at0 L k) 2))), .val 99 (.vl (.bool false)), .val 100 (.vl (.bool false)), .val 101 (.vl (.bool false)), .val 102 (.vl (.bool false))] [([], [18]), ([0], []), ([1], []), ([2], [19]), ([3, 2], []), ([4, 2], []), ([5, 2], []), ([6], [18]), ([6], [15]), ([8, 6], []), ([9, 6], []), ([7, 10, 6], []), ([11, 6], []), ([12], [19]), ([12], []), ([13, 14, 12], []), ([15, 12], []), ([12, 16, 6], []), ([6, 17, 2], []), ([2, 18], [])] rfl (by kernel_rfl) (by kernel_rfl) (by kernel_rfl) rfl ⟨?_, ?_, ?_, ?_, ?_, ?_, ?_, ?_, ?_, ?_, ?_, ?_, ?_, ?_, ?_, ?_, ?_, ?_, ?_, ?_, trivial⟩ ?_
      ·exact DX.move rfl rfl rfl rfl rfl rfl
      ·exact DX.q2 (x := .tmp 83) (y := .const (.int .i64 0)) (.bool true) rfl rfl rfl rfl rfl (fun ρ W h1 h2 => by exact r_gt h1 h2 (decide_eq_true (by omega)))
      ·exact DX.move rfl rfl rfl rfl rfl rfl
      ·exact DX.load rfl rfl rfl rfl rfl rfl
      ·exact DX.call (r := .vl (.int .i64 (sgn (at0 L k)))) rfl rfl rfl rfl rfl rfl (KV.st _) rfl (k_sign rfl)
      ·exact DX.q2 (x := .tmp 87) (y := .const (.int .i64 0)) (.bool false) rfl rfl rfl rfl rfl (fun ρ W h1 h2 => by exact r_le h1 h2 (decide_eq_false (sgn_pos1 hp.1)))
      ·exact DX.move rfl rfl rfl rfl rfl rfl
      ·exact DX.move rfl rfl rfl rfl rfl rfl
      ·exact DX.move rfl rfl rfl rfl rfl rfl
      ·exact DX.qn [(.tmp 91, .slice (some ⟨gE, 0, none⟩) L.length cE)] (.int .i64 ((L.length : Int))) rfl rfl rfl ⟨rfl, trivial⟩ (fun ρ W h => by obtain ⟨h1, _⟩ := h; exact r_lenz h1)
      ·exact DX.q2 (x := .tmp 92) (y := .const (.int .i64 1)) (.int .i64 ((L.length : Int) - 1)) rfl rfl rfl rfl rfl (fun ρ W h1 h2 => by exact r_sub h1 h2 (rfl) (by omega))
      ·exact DX.q2 (x := .tmp 90) (y := .tmp 93) (.bool true) rfl rfl rfl rfl rfl (fun ρ W h1 h2 => by exact r_eqT h1 h2 (by omega))
      ·exact DX.move rfl rfl rfl rfl rfl rfl
      ·exact DX.load rfl rfl rfl rfl rfl rfl
      ·exact DX.call (r := .kw (KI (2))) rfl rfl rfl rfl rfl rfl (KI.st _) rfl (k_new (by decide))
      ·exact DX.call (r := .vl (.int .i64 (cmp (at0 L k) 2))) rfl rfl rfl rfl rfl rfl (KV.st _) rfl (k_cmp rfl)
      ·exact DX.q2 (x := .tmp 98) (y := .const (.int .i64 0)) (.bool false) rfl rfl rfl rfl rfl (fun ρ W h1 h2 => by exact r_lt h1 h2 (decide_eq_false (cmp_nlt (hp.2 hl))))
      ·exact DX.pick (t := true) rfl rfl rfl rfl rfl rfl rfl
      ·exact DX.pick (t := false) rfl rfl rfl rfl rfl rfl rfl
      ·exact DX.pick (t := true) rfl rfl rfl rfl rfl rfl rfl
      refine SX.then (SC.cond (t := false) rfl (SC.skip ?_))
      refine SX.blockN ?_
      refine SX.then (SC.region ?_)
      refine PW.q2 (x := .tmp 78) (y := .const (.int .i64 1)) (.int .i64 ((k + 1 : Nat))) rfl rfl rfl rfl rfl (fun ρ W h1 h2 => by exact r_add h1 h2 (by omega) (by omega)) ?_
      refine PW.move rfl rfl rfl rfl rfl (PW.nil ?_)
      refine SX.back (k + 1) ?_ ?_ ?_
      ·exact (show k + 1 ≤ L.length by omega)
      ·exact (show L.length - (k + 1) < L.length - k by omega)
      ·exact ⟨rfl, rfl, rfl, rfl, rfl, rfl, rfl, rfl, rfl, rfl, rfl, trivial⟩
     ·refine SC.dx [.val 83 (.vl (.int .i64 (k : Int))), .val 84 (.vl (.bool true)), .val 85 (.vl (.bool true)), .val 86 (.kw (KI (at0 L k))), .val 87 (.vl (.int .i64 (sgn (at0 L k)))), .val 88 (.vl (.bool false)), .val 89 (.vl (.bool false)), .val 90 (.vl (.int .i64 (k : Int))), .val 91 (.vl (.slice (some ⟨gE, 0, none⟩) L.length cE)), .val 92 (.vl (.int .i64 ((L.length : Int)))), .val 93 (.vl (.int .i64 ((L.length : Int) - 1))), .val 94 (.vl (.bool false)), .val 95 (.vl (.bool false)), .val 96 (.vl (undef)), .val 97 (.vl (undef)), .val 98 (.vl (undef)), .val 99 (.vl (undef)), .val 100 (.vl (.bool false)), .val 101 (.vl (.bool false)), .val 102 (.vl (.bool false))] [([], [18]), ([0], []), ([1], []), ([2], [19]), ([3, 2], []), ([4, 2], []), ([5, 2], []), ([6], [18]), ([6], [15]), ([8, 6], []), ([9, 6], []), ([7, 10, 6], []), ([11, 6], []), ([12], []), ([12], []), ([12], []), ([12], []), ([12, 6], []), ([6, 17, 2], []), ([2, 18], [])] rfl (by kernel_rfl) (by kernel_rfl) (by kernel_rfl) rfl ⟨?_, ?_, ?_, ?_, ?_, ?_, ?_, ?_, ?_, ?_, ?_, ?_, ?_, ?_, ?_, ?_, ?_, ?_, ?_, ?_, trivial⟩ ?_
      ·exact DX.move rfl rfl rfl rfl rfl rfl
      ·exact DX.q2 (x := .tmp 83) (y := .const (.int .i64 0)) (.bool true) rfl rfl rfl rfl rfl (fun ρ W h1 h2 => by exact r_gt h1 h2 (decide_eq_true (by omega)))
      ·exact DX.move rfl rfl rfl rfl rfl rfl
      ·exact DX.load rfl rfl rfl rfl rfl rfl
      ·exact DX.call (r := .vl (.int .i64 (sgn (at0 L k)))) rfl rfl rfl rfl rfl rfl (KV.st _) rfl (k_sign rfl)
      ·exact DX.q2 (x := .tmp 87) (y := .const (.int .i64 0)) (.bool false) rfl rfl rfl rfl rfl (fun ρ W h1 h2 => by exact r_le h1 h2 (decide_eq_false (sgn_pos1 hp.1)))
      ·exact DX.move rfl rfl rfl rfl rfl rfl
      ·exact DX.move rfl rfl rfl rfl rfl rfl
      ·exact DX.move rfl rfl rfl rfl rfl rfl
      ·exact DX.qn [(.tmp 91, .slice (some ⟨gE, 0, none⟩) L.length cE)] (.int .i64 ((L.length : Int))) rfl rfl rfl ⟨rfl, trivial⟩ (fun ρ W h => by obtain ⟨h1, _⟩ := h; exact r_lenz h1)
      ·exact DX.q2 (x := .tmp 92) (y := .const (.int .i64 1)) (.int .i64 ((L.length : Int) - 1)) rfl rfl rfl rfl rfl (fun ρ W h1 h2 => by exact r_sub h1 h2 (rfl) (by omega))
      ·exact DX.q2 (x := .tmp 90) (y := .tmp 93) (.bool false) rfl rfl rfl rfl rfl (fun ρ W h1 h2 => by exact r_eqF h1 h2 (by omega))
      ·exact DX.move rfl rfl rfl rfl rfl rfl
      ·exact DX.skip rfl rfl rfl
      ·exact DX.skip rfl rfl rfl
      ·exact DX.skip rfl rfl rfl
      ·exact DX.skip rfl rfl rfl
      ·exact DX.pick (t := false) rfl rfl rfl rfl rfl rfl rfl
      ·exact DX.pick (t := false) rfl rfl rfl rfl rfl rfl rfl
      ·exact DX.pick (t := true) rfl rfl rfl rfl rfl rfl rfl
      refine SX.then (SC.cond (t := false) rfl (SC.skip ?_))
      refine SX.blockN ?_
      refine SX.then (SC.region ?_)
      refine PW.q2 (x := .tmp 78) (y := .const (.int .i64 1)) (.int .i64 ((k + 1 : Nat))) rfl rfl rfl rfl rfl (fun ρ W h1 h2 => by exact r_add h1 h2 (by omega) (by omega)) ?_
      refine PW.move rfl rfl rfl rfl rfl (PW.nil ?_)
      refine SX.back (k + 1) ?_ ?_ ?_
      ·exact (show k + 1 ≤ L.length by omega)
      ·exact (show L.length - (k + 1) < L.length - k by omega)
      ·exact ⟨rfl, rfl, rfl, rfl, rfl, rfl, rfl, rfl, rfl, rfl, rfl, trivial⟩
   ·refine SC.region ?_
    refine PW.q2 (x := .tmp 78) (y := .tmp 77) (.bool false) rfl rfl rfl rfl rfl (fun ρ W h1 h2 => by exact r_lt h1 h2 (decide_eq_false (by omega))) ?_
    refine PW.nil (SX.then (SC.seq (SC.cond (t := false) rfl (SC.exit (SX.thenE (SX.thenE (SX.blockE (SX.then (SC.seq (SC.region ?_))))))))))
    refine PW.assign (r := .vl (fv 39)) rfl rfl rfl rfl rfl ?_
    refine PW.nil (SX.then (SC.seq (SC.region ?_)))
    refine PW.load rfl rfl rfl rfl rfl rfl ?_
    refine PW.load rfl rfl rfl rfl rfl rfl ?_
    refine PW.call (r := .kw (K2 (KQ (s1).num (((s1).den : Int) - 1)) (KV (.int .i64 0)))) rfl rfl rfl rfl rfl rfl (K2.st (KQ.st _ _) (KV.st _)) rfl (hS1) ?_
    refine PW.move rfl rfl rfl rfl rfl ?_
    refine PW.ext (r := .kw (KQ (s1).num (((s1).den : Int) - 1))) rfl rfl rfl rfl rfl ex20 (KQ.st _ _) rfl ?_
    refine PW.ext (r := .vl (.int .i64 0)) rfl rfl rfl rfl rfl ex21v (KV.st _) rfl ?_
    refine PW.alloc (BQ 38) rfl rfl rfl rfl rfl bQ ?_
    refine PW.store (x := .tmp 108) (r := .kw (KQ (s1).num (((s1).den : Int) - 1))) rfl rfl rfl rfl rfl rfl sh_Q ?_
    refine PW.assign rfl rfl rfl rfl rfl (PW.nil (SX.then (SC.seq (SC.seq ?_))))
    by_cases hc1 : ofq x y ≤ ofq v p
    ·by_cases hcr : ofq x y ≤ ofq v p ∧ ofq v p ≤ ofq z u
     ·refine SC.region ?_
      refine PW.move rfl rfl rfl rfl rfl ?_
      refine PW.q2 (x := .tmp 110) (y := .const (.int .i64 0)) (.bool false) rfl rfl rfl rfl rfl (fun ρ W h1 h2 => by go_simp) ?_
      refine PW.move rfl rfl rfl rfl rfl ?_
      refine PW.load rfl rfl rfl rfl rfl rfl ?_
      refine PW.load rfl rfl rfl rfl rfl rfl ?_
      refine PW.call (r := .vl (.int .i64 (cmpq s1 (ofq x y)))) rfl rfl rfl rfl rfl rfl (KV.st _) rfl (k_rcmp Z1 ((bq.of X Y)) (by omega) (by omega)) ?_
      refine PW.q2 (x := .tmp 115) (y := .const (.int .i64 0)) (.bool false) rfl rfl rfl rfl rfl (fun ρ W h1 h2 => by exact r_lt h1 h2 (decide_eq_false (cmpq_nlt s1a))) ?_
      refine PW.pick (t := false) rfl rfl rfl rfl rfl rfl ?_
      refine PW.move rfl rfl rfl rfl rfl ?_
      refine PW.load rfl rfl rfl rfl rfl rfl ?_
      refine PW.load rfl rfl rfl rfl rfl rfl ?_
      refine PW.call (r := .vl (.int .i64 (cmpq s1 (ofq z u)))) rfl rfl rfl rfl rfl rfl (KV.st _) rfl (k_rcmp Z1 ((bq.of Z U)) (by omega) (by omega)) ?_
      refine PW.q2 (x := .tmp 121) (y := .const (.int .i64 0)) (.bool false) rfl rfl rfl rfl rfl (fun ρ W h1 h2 => by exact r_gt h1 h2 (decide_eq_false (fun h => cmpq_gt0.1 h s1b))) ?_
      refine PW.pick (t := false) rfl rfl rfl rfl rfl rfl ?_
      refine PW.move rfl rfl rfl rfl rfl ?_
      refine PW.load rfl rfl rfl rfl rfl rfl ?_
      refine PW.load rfl rfl rfl rfl rfl rfl ?_
      refine PW.call (r := .vl (.int .i64 (cmpq (ofq v p) (ofq x y)))) rfl rfl rfl rfl rfl rfl (KV.st _) rfl (k_rcmp ((bq.of V P)) ((bq.of X Y)) (by omega) (by omega)) ?_
      refine PW.q2 (x := .tmp 127) (y := .const (.int .i64 0)) (.bool true) rfl rfl rfl rfl rfl (fun ρ W h1 h2 => by exact r_ge h1 h2 (decide_eq_true (cmpq_ge0.2 hc1))) ?_
      refine PW.move rfl rfl rfl rfl rfl ?_
      refine PW.load rfl rfl rfl rfl rfl rfl ?_
      refine PW.load rfl rfl rfl rfl rfl rfl ?_
      refine PW.call (r := .vl (.int .i64 (cmpq (ofq v p) (ofq z u)))) rfl rfl rfl rfl rfl rfl (KV.st _) rfl (k_rcmp ((bq.of V P)) ((bq.of Z U)) (by omega) (by omega)) ?_
      refine PW.q2 (x := .tmp 132) (y := .const (.int .i64 0)) (.bool true) rfl rfl rfl rfl rfl (fun ρ W h1 h2 => by exact r_le h1 h2 (decide_eq_true (cmpq_le.2 hcr.2))) ?_
      refine PW.pick (t := true) rfl rfl rfl rfl rfl rfl ?_
      refine PW.move rfl rfl rfl rfl rfl (PW.move rfl rfl rfl rfl rfl ?_)
      refine PW.load rfl rfl rfl rfl rfl rfl ?_
      refine PW.load rfl rfl rfl rfl rfl rfl ?_
      refine PW.callF (s := 136) (r := .vl (.bool false)) rfl rfl rfl rfl rfl rfl rfl (KV.st _) rfl (k_simpler (bq.of V P) Z1 (by decide) (by decide) (h1d hcr) (h1n hcr)) ?_
      refine PW.pick (t := true) rfl rfl rfl rfl rfl rfl ?_
      refine PW.pick (t := false) rfl rfl rfl rfl rfl rfl ?_
      refine PW.nil (SX.then (SC.cond (t := false) rfl (SC.skip (SX.then (SC.seq ?_)))))
      refine SC.dx [.val 143 (.kw (KQ (ofq x y).num (((ofq x y).den : Int) - 1))), .val 144 (.vl (.slice (some ⟨gq, 0, none⟩) 4 cq)), .val 145 (.vl (.pointer (some ⟨gq, 3 * 4, none⟩))), .val 146 (.kw (KQ (ofq q r).num (((ofq q r).den : Int) - 1))), .val 147 (.kw (KQ (absq (ofq q r)).num (((absq (ofq q r)).den : Int) - 1))), .val 148 (.kw (KQ ((ofq x y) - (absq (ofq q r))).num ((((ofq x y) - (absq (ofq q r))).den : Int) - 1))), .val 149 (.kw (KQ (ofq z u).num (((ofq z u).den : Int) - 1))), .val 150 (.kw (K2 (KQ (s2).num (((s2).den : Int) - 1)) (KV (.int .i64 0)))), .val 142 (.kw (K2 (KQ (s2).num (((s2).den : Int) - 1)) (KV (.int .i64 0)))), .val 151 (.kw (KQ (s2).num (((s2).den : Int) - 1))), .val 152 (.vl (.int .i64 0)), .new 22 (BQ 38), .put 22 (BQ 38) (.kw (KQ (s2).num (((s2).den : Int) - 1))), .val 17 (.vl (.int .i64 0))] [([], [10]), ([], [9]), ([1], []), ([2], [165]), ([3], []), ([0, 4], []), ([], [11]), ([5, 6], []), ([7], []), ([8], []), ([8], []), ([], []), ([11, 9], []), ([10], [])] rfl (by kernel_rfl) (by kernel_rfl) (by kernel_rfl) rfl ⟨?_, ?_, ?_, ?_, ?_, ?_, ?_, ?_, ?_, ?_, ?_, ?_, ?_, ?_, trivial⟩ ?_
      ·exact DX.load rfl rfl rfl rfl rfl rfl
      ·exact DX.move rfl rfl rfl rfl rfl rfl
      ·exact DX.q2 (x := .tmp 144) (y := .const (.int .i64 3)) (.pointer (some ⟨gq, 3 * 4, none⟩)) rfl rfl rfl rfl rfl (fun ρ W h1 h2 => r_idxq (i := 3) h1 h2 (by simp))
      ·exact DX.ldq (zs := [ofq x y, ofq z u, ofq v p, ofq q r]) (K := 165) (i := 3) (by simp) rfl rfl rfl rfl
      ·exact DX.call (r := .kw (KQ (absq (ofq q r)).num (((absq (ofq q r)).den : Int) - 1))) rfl rfl rfl rfl rfl rfl (KQ.st _ _) rfl (k_rabs)
      ·exact DX.call (r := .kw (KQ ((ofq x y) - (absq (ofq q r))).num ((((ofq x y) - (absq (ofq q r))).den : Int) - 1))) rfl rfl rfl rfl rfl rfl (KQ.st _ _) rfl (k_rsub ((bq.of X Y)) (((bq.of Q R)).abs) (by omega) (by omega))
      ·exact DX.load rfl rfl rfl rfl rfl rfl
      ·exact DX.call (r := .kw (K2 (KQ (s2).num (((s2).den : Int) - 1)) (KV (.int .i64 0)))) rfl rfl rfl rfl rfl rfl (K2.st (KQ.st _ _) (KV.st _)) rfl (hS2)
      ·exact DX.move rfl rfl rfl rfl rfl rfl
      ·exact DX.ext (r := .kw (KQ (s2).num (((s2).den : Int) - 1))) rfl rfl rfl rfl rfl ex20 (KQ.st _ _) rfl
      ·exact DX.ext (r := .vl (.int .i64 0)) rfl rfl rfl rfl rfl ex21v (KV.st _) rfl
      ·exact DX.alloc (BQ 38) rfl rfl rfl rfl bQ rfl
      ·exact DX.store (x := .tmp 151) (r := .kw (KQ (s2).num (((s2).den : Int) - 1))) rfl rfl rfl rfl rfl rfl sh_Q
      ·exact DX.assign rfl rfl rfl rfl rfl rfl
      refine SX.then (SC.seq (SC.region (PW.move rfl rfl rfl rfl rfl ?_)))
      refine PW.q2 (x := .tmp 153) (y := .const (.int .i64 0)) (.bool true) rfl rfl rfl rfl rfl (fun ρ W h1 h2 => by go_simp) ?_
      refine PW.move rfl rfl rfl rfl rfl (PW.move rfl rfl rfl rfl rfl ?_)
      refine PW.load rfl rfl rfl rfl rfl rfl ?_
      refine PW.load rfl rfl rfl rfl rfl rfl ?_
      refine PW.callF (s := 156) (r := .vl (.bool false)) rfl rfl rfl rfl rfl rfl rfl (KV.st _) rfl (k_simpler Z1 Z2 (by decide) (by decide) h2d h2n) ?_
      refine PW.q1 (x := .tmp 159) (.bool true) rfl rfl rfl rfl (fun ρ W h1 => by go_simp) ?_
      refine PW.pick (t := true) rfl rfl rfl rfl rfl rfl ?_
      refine PW.move rfl rfl rfl rfl rfl ?_
      refine PW.call (r := .vl (.bool true)) rfl rfl rfl rfl rfl rfl (KV.st _) rfl (k_awake3) ?_
      refine PW.pick (t := true) rfl rfl rfl rfl rfl rfl ?_
      refine PW.assign rfl rfl rfl rfl rfl (PW.nil (SX.then (SC.ret ?_)))
      exact SX.done (r := .vl (.bool true)) rfl rfl rfl
     ·refine SC.region ?_
      refine PW.move rfl rfl rfl rfl rfl ?_
      refine PW.q2 (x := .tmp 110) (y := .const (.int .i64 0)) (.bool false) rfl rfl rfl rfl rfl (fun ρ W h1 h2 => by go_simp) ?_
      refine PW.move rfl rfl rfl rfl rfl ?_
      refine PW.load rfl rfl rfl rfl rfl rfl ?_
      refine PW.load rfl rfl rfl rfl rfl rfl ?_
      refine PW.call (r := .vl (.int .i64 (cmpq s1 (ofq x y)))) rfl rfl rfl rfl rfl rfl (KV.st _) rfl (k_rcmp Z1 ((bq.of X Y)) (by omega) (by omega)) ?_
      refine PW.q2 (x := .tmp 115) (y := .const (.int .i64 0)) (.bool false) rfl rfl rfl rfl rfl (fun ρ W h1 h2 => by exact r_lt h1 h2 (decide_eq_false (cmpq_nlt s1a))) ?_
      refine PW.pick (t := false) rfl rfl rfl rfl rfl rfl ?_
      refine PW.move rfl rfl rfl rfl rfl ?_
      refine PW.load rfl rfl rfl rfl rfl rfl ?_
      refine PW.load rfl rfl rfl rfl rfl rfl ?_
      refine PW.call (r := .vl (.int .i64 (cmpq s1 (ofq z u)))) rfl rfl rfl rfl rfl rfl (KV.st _) rfl (k_rcmp Z1 ((bq.of Z U)) (by omega) (by omega)) ?_
      refine PW.q2 (x := .tmp 121) (y := .const (.int .i64 0)) (.bool false) rfl rfl rfl rfl rfl (fun ρ W h1 h2 => by exact r_gt h1 h2 (decide_eq_false (fun h => cmpq_gt0.1 h s1b))) ?_
      refine PW.pick (t := false) rfl rfl rfl rfl rfl rfl ?_
      refine PW.move rfl rfl rfl rfl rfl ?_
      refine PW.load rfl rfl rfl rfl rfl rfl ?_
      refine PW.load rfl rfl rfl rfl rfl rfl ?_
      refine PW.call (r := .vl (.int .i64 (cmpq (ofq v p) (ofq x y)))) rfl rfl rfl rfl rfl rfl (KV.st _) rfl (k_rcmp ((bq.of V P)) ((bq.of X Y)) (by omega) (by omega)) ?_
      refine PW.q2 (x := .tmp 127) (y := .const (.int .i64 0)) (.bool true) rfl rfl rfl rfl rfl (fun ρ W h1 h2 => by exact r_ge h1 h2 (decide_eq_true (cmpq_ge0.2 hc1))) ?_
      refine PW.move rfl rfl rfl rfl rfl ?_
      refine PW.load rfl rfl rfl rfl rfl rfl ?_
      refine PW.load rfl rfl rfl rfl rfl rfl ?_
      refine PW.call (r := .vl (.int .i64 (cmpq (ofq v p) (ofq z u)))) rfl rfl rfl rfl rfl rfl (KV.st _) rfl (k_rcmp ((bq.of V P)) ((bq.of Z U)) (by omega) (by omega)) ?_
      refine PW.q2 (x := .tmp 132) (y := .const (.int .i64 0)) (.bool false) rfl rfl rfl rfl rfl (fun ρ W h1 h2 => by exact r_le h1 h2 (decide_eq_false (fun h => hcr ⟨hc1, cmpq_le.1 h⟩))) ?_
      refine PW.pick (t := true) rfl rfl rfl rfl rfl rfl ?_
      refine PW.move rfl rfl rfl rfl rfl ?_
      refine PW.skip rfl rfl rfl ?_
      refine PW.skip rfl rfl rfl ?_
      refine PW.skip rfl rfl rfl ?_
      refine PW.skip rfl rfl rfl ?_
      refine PW.pick (t := false) rfl rfl rfl rfl rfl rfl ?_
      refine PW.pick (t := false) rfl rfl rfl rfl rfl rfl ?_
      refine PW.nil (SX.then (SC.cond (t := false) rfl (SC.skip (SX.then (SC.seq ?_)))))
      refine SC.dx [.val 143 (.kw (KQ (ofq x y).num (((ofq x y).den : Int) - 1))), .val 144 (.vl (.slice (some ⟨gq, 0, none⟩) 4 cq)), .val 145 (.vl (.pointer (some ⟨gq, 3 * 4, none⟩))), .val 146 (.kw (KQ (ofq q r).num (((ofq q r).den : Int) - 1))), .val 147 (.kw (KQ (absq (ofq q r)).num (((absq (ofq q r)).den : Int) - 1))), .val 148 (.kw (KQ ((ofq x y) - (absq (ofq q r))).num ((((ofq x y) - (absq (ofq q r))).den : Int) - 1))), .val 149 (.kw (KQ (ofq z u).num (((ofq z u).den : Int) - 1))), .val 150 (.kw (K2 (KQ (s2).num (((s2).den : Int) - 1)) (KV (.int .i64 0)))), .val 142 (.kw (K2 (KQ (s2).num (((s2).den : Int) - 1)) (KV (.int .i64 0)))), .val 151 (.kw (KQ (s2).num (((s2).den : Int) - 1))), .val 152 (.vl (.int .i64 0)), .new 22 (BQ 38), .put 22 (BQ 38) (.kw (KQ (s2).num (((s2).den : Int) - 1))), .val 17 (.vl (.int .i64 0))] [([], [10]), ([], [9]), ([1], []), ([2], [165]), ([3], []), ([0, 4], []), ([], [11]), ([5, 6], []), ([7], []), ([8], []), ([8], []), ([], []), ([11, 9], []), ([10], [])] rfl (by kernel_rfl) (by kernel_rfl) (by kernel_rfl) rfl ⟨?_, ?_, ?_, ?_, ?_, ?_, ?_, ?_, ?_, ?_, ?_, ?_, ?_, ?_, trivial⟩ ?_
      ·exact DX.load rfl rfl rfl rfl rfl rfl
      ·exact DX.move rfl rfl rfl rfl rfl rfl
      ·exact DX.q2 (x := .tmp 144) (y := .const (.int .i64 3)) (.pointer (some ⟨gq, 3 * 4, none⟩)) rfl rfl rfl rfl rfl (fun ρ W h1 h2 => r_idxq (i := 3) h1 h2 (by simp))
      ·exact DX.ldq (zs := [ofq x y, ofq z u, ofq v p, ofq q r]) (K := 165) (i := 3) (by simp) rfl rfl rfl rfl
      ·exact DX.call (r := .kw (KQ (absq (ofq q r)).num (((absq (ofq q r)).den : Int) - 1))) rfl rfl rfl rfl rfl rfl (KQ.st _ _) rfl (k_rabs)
      ·exact DX.call (r := .kw (KQ ((ofq x y) - (absq (ofq q r))).num ((((ofq x y) - (absq (ofq q r))).den : Int) - 1))) rfl rfl rfl rfl rfl rfl (KQ.st _ _) rfl (k_rsub ((bq.of X Y)) (((bq.of Q R)).abs) (by omega) (by omega))
      ·exact DX.load rfl rfl rfl rfl rfl rfl
      ·exact DX.call (r := .kw (K2 (KQ (s2).num (((s2).den : Int) - 1)) (KV (.int .i64 0)))) rfl rfl rfl rfl rfl rfl (K2.st (KQ.st _ _) (KV.st _)) rfl (hS2)
      ·exact DX.move rfl rfl rfl rfl rfl rfl
      ·exact DX.ext (r := .kw (KQ (s2).num (((s2).den : Int) - 1))) rfl rfl rfl rfl rfl ex20 (KQ.st _ _) rfl
      ·exact DX.ext (r := .vl (.int .i64 0)) rfl rfl rfl rfl rfl ex21v (KV.st _) rfl
      ·exact DX.alloc (BQ 38) rfl rfl rfl rfl bQ rfl
      ·exact DX.store (x := .tmp 151) (r := .kw (KQ (s2).num (((s2).den : Int) - 1))) rfl rfl rfl rfl rfl rfl sh_Q
      ·exact DX.assign rfl rfl rfl rfl rfl rfl
      refine SX.then (SC.seq (SC.region (PW.move rfl rfl rfl rfl rfl ?_)))
      refine PW.q2 (x := .tmp 153) (y := .const (.int .i64 0)) (.bool true) rfl rfl rfl rfl rfl (fun ρ W h1 h2 => by go_simp) ?_
      refine PW.move rfl rfl rfl rfl rfl (PW.move rfl rfl rfl rfl rfl ?_)
      refine PW.load rfl rfl rfl rfl rfl rfl ?_
      refine PW.load rfl rfl rfl rfl rfl rfl ?_
      refine PW.callF (s := 156) (r := .vl (.bool false)) rfl rfl rfl rfl rfl rfl rfl (KV.st _) rfl (k_simpler Z1 Z2 (by decide) (by decide) h2d h2n) ?_
      refine PW.q1 (x := .tmp 159) (.bool true) rfl rfl rfl rfl (fun ρ W h1 => by go_simp) ?_
      refine PW.pick (t := true) rfl rfl rfl rfl rfl rfl ?_
      refine PW.move rfl rfl rfl rfl rfl ?_
      refine PW.call (r := .vl (.bool true)) rfl rfl rfl rfl rfl rfl (KV.st _) rfl (k_awake3) ?_
      refine PW.pick (t := true) rfl rfl rfl rfl rfl rfl ?_
      refine PW.assign rfl rfl rfl rfl rfl (PW.nil (SX.then (SC.ret ?_)))
      exact SX.done (r := .vl (.bool true)) rfl rfl rfl
    ·refine SC.region ?_
     refine PW.move rfl rfl rfl rfl rfl ?_
     refine PW.q2 (x := .tmp 110) (y := .const (.int .i64 0)) (.bool false) rfl rfl rfl rfl rfl (fun ρ W h1 h2 => by go_simp) ?_
     refine PW.move rfl rfl rfl rfl rfl ?_
     refine PW.load rfl rfl rfl rfl rfl rfl ?_
     refine PW.load rfl rfl rfl rfl rfl rfl ?_
     refine PW.call (r := .vl (.int .i64 (cmpq s1 (ofq x y)))) rfl rfl rfl rfl rfl rfl (KV.st _) rfl (k_rcmp Z1 ((bq.of X Y)) (by omega) (by omega)) ?_
     refine PW.q2 (x := .tmp 115) (y := .const (.int .i64 0)) (.bool false) rfl rfl rfl rfl rfl (fun ρ W h1 h2 => by exact r_lt h1 h2 (decide_eq_false (cmpq_nlt s1a))) ?_
     refine PW.pick (t := false) rfl rfl rfl rfl rfl rfl ?_
     refine PW.move rfl rfl rfl rfl rfl ?_
     refine PW.load rfl rfl rfl rfl rfl rfl ?_
     refine PW.load rfl rfl rfl rfl rfl rfl ?_
     refine PW.call (r := .vl (.int .i64 (cmpq s1 (ofq z u)))) rfl rfl rfl rfl rfl rfl (KV.st _) rfl (k_rcmp Z1 ((bq.of Z U)) (by omega) (by omega)) ?_
     refine PW.q2 (x := .tmp 121) (y := .const (.int .i64 0)) (.bool false) rfl rfl rfl rfl rfl (fun ρ W h1 h2 => by exact r_gt h1 h2 (decide_eq_false (fun h => cmpq_gt0.1 h s1b))) ?_
     refine PW.pick (t := false) rfl rfl rfl rfl rfl rfl ?_
     refine PW.move rfl rfl rfl rfl rfl ?_
     refine PW.load rfl rfl rfl rfl rfl rfl ?_
     refine PW.load rfl rfl rfl rfl rfl rfl ?_
     refine PW.call (r := .vl (.int .i64 (cmpq (ofq v p) (ofq x y)))) rfl rfl rfl rfl rfl rfl (KV.st _) rfl (k_rcmp ((bq.of V P)) ((bq.of X Y)) (by omega) (by omega)) ?_
     refine PW.q2 (x := .tmp 127) (y := .const (.int .i64 0)) (.bool false) rfl rfl rfl rfl rfl (fun ρ W h1 h2 => by exact r_ge h1 h2 (decide_eq_false (fun h => hc1 (cmpq_ge0.1 h)))) ?_
     refine PW.move rfl rfl rfl rfl rfl ?_
     refine PW.skip rfl rfl rfl ?_
     refine PW.skip rfl rfl rfl ?_
     refine PW.skip rfl rfl rfl ?_
     refine PW.skip rfl rfl rfl ?_
     refine PW.pick (t := false) rfl rfl rfl rfl rfl rfl ?_
     refine PW.move rfl rfl rfl rfl rfl ?_
     refine PW.skip rfl rfl rfl ?_
     refine PW.skip rfl rfl rfl ?_
     refine PW.skip rfl rfl rfl ?_
     refine PW.skip rfl rfl rfl ?_
     refine PW.pick (t := false) rfl rfl rfl rfl rfl rfl ?_
     refine PW.pick (t := false) rfl rfl rfl rfl rfl rfl ?_
     refine PW.nil (SX.then (SC.cond (t := false) rfl (SC.skip (SX.then (SC.seq ?_)))))
     refine SC.dx [.val 143 (.kw (KQ (ofq x y).num (((ofq x y).den : Int) - 1))), .val 144 (.vl (.slice (some ⟨gq, 0, none⟩) 4 cq)), .val 145 (.vl (.pointer (some ⟨gq, 3 * 4, none⟩))), .val 146 (.kw (KQ (ofq q r).num (((ofq q r).den : Int) - 1))), .val 147 (.kw (KQ (absq (ofq q r)).num (((absq (ofq q r)).den : Int) - 1))), .val 148 (.kw (KQ ((ofq x y) - (absq (ofq q r))).num ((((ofq x y) - (absq (ofq q r))).den : Int) - 1))), .val 149 (.kw (KQ (ofq z u).num (((ofq z u).den : Int) - 1))), .val 150 (.kw (K2 (KQ (s2).num (((s2).den : Int) - 1)) (KV (.int .i64 0)))), .val 142 (.kw (K2 (KQ (s2).num (((s2).den : Int) - 1)) (KV (.int .i64 0)))), .val 151 (.kw (KQ (s2).num (((s2).den : Int) - 1))), .val 152 (.vl (.int .i64 0)), .new 22 (BQ 38), .put 22 (BQ 38) (.kw (KQ (s2).num (((s2).den : Int) - 1))), .val 17 (.vl (.int .i64 0))] [([], [10]), ([], [9]), ([1], []), ([2], [165]), ([3], []), ([0, 4], []), ([], [11]), ([5, 6], []), ([7], []), ([8], []), ([8], []), ([], []), ([11, 9], []), ([10], [])] rfl (by kernel_rfl) (by kernel_rfl) (by kernel_rfl) rfl ⟨?_, ?_, ?_, ?_, ?_, ?_, ?_, ?_, ?_, ?_, ?_, ?_, ?_, ?_, trivial⟩ ?_
     ·exact DX.load rfl rfl rfl rfl rfl rfl
     ·exact DX.move rfl rfl rfl rfl rfl rfl
     ·exact DX.q2 (x := .tmp 144) (y := .const (.int .i64 3)) (.pointer (some ⟨gq, 3 * 4, none⟩)) rfl rfl rfl rfl rfl (fun ρ W h1 h2 => r_idxq (i := 3) h1 h2 (by simp))
     ·exact DX.ldq (zs := [ofq x y, ofq z u, ofq v p, ofq q r]) (K := 165) (i := 3) (by simp) rfl rfl rfl rfl
     ·exact DX.call (r := .kw (KQ (absq (ofq q r)).num (((absq (ofq q r)).den : Int) - 1))) rfl rfl rfl rfl rfl rfl (KQ.st _ _) rfl (k_rabs)
     ·exact DX.call (r := .kw (KQ ((ofq x y) - (absq (ofq q r))).num ((((ofq x y) - (absq (ofq q r))).den : Int) - 1))) rfl rfl rfl rfl rfl rfl (KQ.st _ _) rfl (k_rsub ((bq.of X Y)) (((bq.of Q R)).abs) (by omega) (by omega))
     ·exact DX.load rfl rfl rfl rfl rfl rfl
     ·exact DX.call (r := .kw (K2 (KQ (s2).num (((s2).den : Int) - 1)) (KV (.int .i64 0)))) rfl rfl rfl rfl rfl rfl (K2.st (KQ.st _ _) (KV.st _)) rfl (hS2)
     ·exact DX.move rfl rfl rfl rfl rfl rfl
     ·exact DX.ext (r := .kw (KQ (s2).num (((s2).den : Int) - 1))) rfl rfl rfl rfl rfl ex20 (KQ.st _ _) rfl
     ·exact DX.ext (r := .vl (.int .i64 0)) rfl rfl rfl rfl rfl ex21v (KV.st _) rfl
     ·exact DX.alloc (BQ 38) rfl rfl rfl rfl bQ rfl
     ·exact DX.store (x := .tmp 151) (r := .kw (KQ (s2).num (((s2).den : Int) - 1))) rfl rfl rfl rfl rfl rfl sh_Q
     ·exact DX.assign rfl rfl rfl rfl rfl rfl
     refine SX.then (SC.seq (SC.region (PW.move rfl rfl rfl rfl rfl ?_)))
     refine PW.q2 (x := .tmp 153) (y := .const (.int .i64 0)) (.bool true) rfl rfl rfl rfl rfl (fun ρ W h1 h2 => by go_simp) ?_
     refine PW.move rfl rfl rfl rfl rfl (PW.move rfl rfl rfl rfl rfl ?_)
     refine PW.load rfl rfl rfl rfl rfl rfl ?_
     refine PW.load rfl rfl rfl rfl rfl rfl ?_
     refine PW.callF (s := 156) (r := .vl (.bool false)) rfl rfl rfl rfl rfl rfl rfl (KV.st _) rfl (k_simpler Z1 Z2 (by decide) (by decide) h2d h2n) ?_
     refine PW.q1 (x := .tmp 159) (.bool true) rfl rfl rfl rfl (fun ρ W h1 => by go_simp) ?_
     refine PW.pick (t := true) rfl rfl rfl rfl rfl rfl ?_
     refine PW.move rfl rfl rfl rfl rfl ?_
     refine PW.call (r := .vl (.bool true)) rfl rfl rfl rfl rfl rfl (KV.st _) rfl (k_awake3) ?_
     refine PW.pick (t := true) rfl rfl rfl rfl rfl rfl ?_
     refine PW.assign rfl rfl rfl rfl rfl (PW.nil (SX.then (SC.ret ?_)))
     exact SX.done (r := .vl (.bool true)) rfl rfl rfl
  ·have XA : bq 3 (ofq x y) := bq.of X Y
   refine SC.region ?_
   refine PW.load rfl rfl rfl rfl rfl rfl ?_
   refine PW.load rfl rfl rfl rfl rfl rfl ?_
   refine PW.call (r := .vl (.int .i64 (cmpq (ofq x y) (ofq z u)))) rfl rfl rfl rfl rfl rfl (KV.st _) rfl (k_rcmp ((bq.of X Y)) ((bq.of Z U)) (by omega) (by omega)) ?_
   refine PW.q2 (x := .tmp 48) (y := .const (.int .i64 0)) (.bool true) rfl rfl rfl rfl rfl (fun ρ W h1 h2 => by exact r_gt h1 h2 (decide_eq_true (cmpq_gt0.2 hxy))) ?_
   refine PW.nil (SX.then (SC.cond (t := true) rfl (SC.seq (SC.region ?_))))
   refine PW.load rfl rfl rfl rfl rfl rfl ?_
   refine PW.load rfl rfl rfl rfl rfl rfl ?_
   refine PW.call (r := .kw (K2 (KQ (0) (0)) (KV (.int .i64 7)))) rfl rfl rfl rfl rfl rfl (K2.st (KQ.st _ _) (KV.st _)) rfl (k_Simplest_ord XA (bq.of Z U) (by decide) hxy) ?_
   refine PW.move rfl rfl rfl rfl rfl ?_
   refine PW.ext (r := .kw (KQ (0) (0))) rfl rfl rfl rfl rfl ex20 (KQ.st _ _) rfl ?_
   refine PW.ext (r := .vl (.int .i64 7)) rfl rfl rfl rfl rfl ex21v (KV.st _) rfl ?_
   refine PW.alloc (BQ 38) rfl rfl rfl rfl rfl bQ ?_
   refine PW.store (x := .tmp 54) (r := .kw (KQ (0) (0))) rfl rfl rfl rfl rfl rfl sh_Q ?_
   refine PW.assign rfl rfl rfl rfl rfl (PW.nil (SX.then (SC.seq (SC.region (PW.move rfl rfl rfl rfl rfl ?_)))))
   refine PW.q2 (x := .tmp 56) (y := .const (.int .i64 7)) (.bool true) rfl rfl rfl rfl rfl (fun ρ W h1 h2 => by go_simp) ?_
   refine PW.move rfl rfl rfl rfl rfl ?_
   refine PW.call (r := .vl (.bool true)) rfl rfl rfl rfl rfl rfl (KV.st _) rfl (k_awake3) ?_
   refine PW.pick (t := true) rfl rfl rfl rfl rfl rfl ?_
   refine PW.assign rfl rfl rfl rfl rfl (PW.nil (SX.then (SC.ret (SX.thenR ?_))))
   exact SX.done (r := .vl (.bool true)) rfl rfl rfl
 ·have hq : shQ 2 [((n1, A1, l1, c1), (n2, A2, l2, c2)), ((n3, A3, l3, c3), (n4, A4, l4, c4)), ((n5, A5, l5, c5), (n6, A6, l6, c6)), ((n7, A7, l7, c7), (n8, A8, l8, c8))] = false := by simpa using hq
  refine SC.region ?_
  refine PW.loadV rfl rfl rfl rfl rfl rfl ?_
  refine PW.loadV rfl rfl rfl rfl rfl rfl ?_
  refine PW.loadV rfl rfl rfl rfl rfl rfl ?_
  refine PW.loadV rfl rfl rfl rfl rfl rfl ?_
  refine PW.short3 2 [((n1, A1, l1, c1), (n2, A2, l2, c2)), ((n3, A3, l3, c3), (n4, A4, l4, c4)), ((n5, A5, l5, c5), (n6, A6, l6, c6)), ((n7, A7, l7, c7), (n8, A8, l8, c8))] _ rfl rfl rfl (fun a W hf => r_bQ4 (hf.vl (s := 23) rfl) (hf.vl (s := 24) rfl) (hf.vl (s := 25) rfl) (hf.vl (s := 26) rfl)) (fun W => qs_lit4 W) (by simp; exact ⟨⟨In.lim h1, In.lim h2⟩, ⟨In.lim h3, In.lim h4⟩, ⟨In.lim h5, In.lim h6⟩, ⟨In.lim h7, In.lim h8⟩⟩) rfl rfl hq rfl rfl rfl rfl rfl rfl ?_
  refine PW.q1 (x := .tmp 28) (.bool true) rfl rfl rfl rfl (fun ρ W h1 => by go_simp) ?_
  refine PW.nil (SX.then (SC.cond (t := true) rfl (SC.seq (SC.region ?_))))
  refine PW.call (r := .vl (.bool true)) rfl rfl rfl rfl rfl rfl (KV.st _) rfl (k_awake3) ?_
  refine PW.assign rfl rfl rfl rfl rfl (PW.nil (SX.then (SC.ret (SX.thenR ?_))))
  exact SX.done (r := .vl (.bool true)) rfl rfl rfl
end Go.Proofs.YthpjmhhfcechmaaGreat
/- How plain data that came in read. -/
namespace Go.Proofs.YthpjmhhfcechmaaGreat
open Go.RowKit Ma
theorem In.nil (W : World) : In W none 0 0 [] := ⟨rfl, Nat.le_refl _, Rd.nil _ _ _, dg_nil _⟩
theorem In.of {W : World} {x : Addr} {l c : Nat} {zs : List Int} (hl : l ≤ c) (hm : c ≤ maxLen) (hz : zs.length = c) (hcell : ∀ i, i < zs.length → W.cell? (x.add i) = some (.int .u32 (zs.getD i 0))) (hw : ∀ n ∈ zs, (Lit.int .u32 n).wf = true) : In W (some x) l c (zs.take l) := by
 have h1 : (zs.take l).length = l := by rw [List.length_take]; omega
 refine ⟨h1.symm, hl, ⟨by rw [h1]; unfold maxLen at hm; omega, fun i hi => ⟨x, rfl, ?_⟩⟩, fun n hn => ?_⟩
 ·rw [h1] at hi
  rw [hcell i (by omega)]
  simp only [at0, List.getD_eq_getElem?_getD, List.getElem?_take, hi, if_true]
 ·have h2 := hw n (List.mem_of_mem_take hn)
  simp only [Lit.wf, Bool.and_eq_true, decide_eq_true_eq] at h2
  have hm : IntKind.u32.max = 4294967295 := by simp [IntKind.max, IntKind.bits, IntKind.signed]
  have hn : IntKind.u32.min = 0 := by simp [IntKind.min, IntKind.signed]
  rw [hm, hn] at h2
  rw [b32_eq]
  omega
end Go.Proofs.YthpjmhhfcechmaaGreat
/- A fraction as plain data that came in, opened: two signs, two slices. -/
namespace Go.Proofs.YthpjmhhfcechmaaGreat
open Go.ChangeShapes Go.WideShapes Go.ChangeAt Go.RowKit Go.Joins
set_option maxHeartbeats 1600000 in
set_option maxRecDepth 100000 in
theorem open_Q {H : Type} {enc : TypeId × Value → H} {w : World} {base : Nat} {spare : Nat → Bool} {held : Bool} {r : Reach} {b0 : Nat} {v : Value} {d : DataW H} {p : List MemPlace} (hv : Value.okWide Tryz.prog w r b0 26 v) (h : DataW.Trod enc Tryz.prog w base spare held 26 v d p) :
  ∃ (q0 q1 q2 q3 : Value) (y0 y1 y2 y3 : DataW H × List MemPlace) (n m : Nat), v = .agg #[q0, q1, q2, q3] ∧ DataW.trod enc Tryz.prog w base spare held n 4 [q0] = some y0 ∧ DataW.trod enc Tryz.prog w base spare held n 22 [q1] = some y1 ∧ DataW.trod enc Tryz.prog w base spare held m 4 [q2] = some y2 ∧ DataW.trod enc Tryz.prog w base spare held m 22 [q3] = some y3 := by
 obtain ⟨cs, rfl, hsz⟩ := okWide_struct Tryz.underlying26 hv
 have k4 : Tryz.prog.cellsOf 26 = 4 := by kernel_rfl
 have k2 : Tryz.prog.cellsOf 24 = 2 := by kernel_rfl
 have kb : Tryz.prog.cellsOf 4 = 1 := by kernel_rfl
 have ks : Tryz.prog.cellsOf 22 = 1 := by kernel_rfl
 obtain ⟨q0, q1, q2, q3, rfl⟩ := array4 (hsz.trans k4)
 obtain ⟨fuel, hf⟩ := h
 obtain ⟨y0, y1, n, hx, _, h0, h1⟩ := trod_struct2 Tryz.underlying26 hf
 have g0 : DataW.trod enc Tryz.prog w base spare held n 24 [q0, q1] = some y0 := by simpa [Value.cells, k2] using h0
 have g1 : DataW.trod enc Tryz.prog w base spare held n 24 [q2, q3] = some y1 := by simpa [Value.cells, k2] using h1
 obtain ⟨a0, a1, i, _, _, e0, e1⟩ := trod_struct2 Tryz.underlying24 g0
 obtain ⟨b0, b1, j, _, _, f0, f1⟩ := trod_struct2 Tryz.underlying24 g1
 exact ⟨q0, q1, q2, q3, a0, a1, b0, b1, i, j, rfl, by simpa [kb] using e0, by simpa [ks] using e1, by simpa [kb] using f0, by simpa [ks] using f1⟩
end Go.Proofs.YthpjmhhfcechmaaGreat
