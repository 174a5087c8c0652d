/- Parts Jp, Jq, Js, Jt, Ra, Rw, in one file. -/
import Derived.Lib.IndexLaws
import Derived.Test.YthpjmhhfcechmaaGreatLRPowers1
import Derived.Test.YthpjmhhfcechmaaGreatLRPowers4
import Derived.Test.YthpjmhhfcechmaaGreatLRPowers9
/- The program's value, Parse by rules. -/
set_option linter.unusedVariables false
set_option linter.unusedSimpArgs false
namespace Go.Proofs.YthpjmhhfcechmaaGreat.Sy
open Go Go.RowKit Ma
theorem r_b1 {x : Operand} {dst : Option Tmp} {ty : TypeId} {pos : String} {after : Array Edge} {guard : Option (Nat × Bool)} {ρ : Operand → Value} {W : World} {a : Int} (h1 : ρ x = .int .u32 a) : (execOp ρ ⟨dst, .buildSlice 22 1 #[(0, x)], ty, pos, after, guard⟩).run Tryz.prog W = .ok (.value (.slice (some ⟨W.heap.size, 0, none⟩) [a].length [a].length)) (W.alloc (.cells ([a].map (Value.int .u32)).toArray 140)) := by
 go_simp
theorem ce_made : CE 95 := fun args W => by go_simp
theorem info_u32 : (Tryz.prog.info? 140).map (fun i => (i.zero, i.size, i.bytes)) = some (some (.int .u32 0), 1, 4) := by kernel_rfl
theorem made_k {n : Bool} {A : Option Addr} {c : Nat} {xs : List Int} {w : World} (rA : Rd w .u32 A xs) (hc : xs.length ≤ c) (hd : dg b32 xs) : Calls Tryz.prog 95 #[.bool n, .slice A xs.length c] w (Ret w (KI (sg n (lv b32 xs)))) := made_c n A c xs w rA hc hd
theorem mulr {a r : Int} (ha : 0 ≤ a ∧ a < 4294967296) (h : 2 ≤ r ∧ r ≤ 36) : 0 ≤ a * r ∧ a * r < 18446744073709551616 := by
 have h1 := Int.mul_nonneg ha.1 (show 0 ≤ r by omega)
 have h2 := Int.mul_le_mul_of_nonneg_left h.2 ha.1
 omega
theorem addr {a r c : Int} (ha : 0 ≤ a ∧ a < 4294967296) (h : 2 ≤ r ∧ r ≤ 36) (h0 : 0 ≤ c) (h1 : c ≤ 36) : 0 ≤ a * r + c ∧ a * r + c < 18446744073709551616 := by
 have h1 := Int.mul_nonneg ha.1 (show 0 ≤ r by omega)
 have h2 := Int.mul_le_mul_of_nonneg_left h.2 ha.1
 omega
theorem pos_of_at0 {s : ByteArray} {c : Int} (h : at0 (byl s) 0 = c) (hc : c ≠ 0) : 0 < s.size := by
 apply Classical.byContradiction
 intro h2
 rw [at0_ge (by rw [byl_len]; omega)] at h
 exact hc h.symm
theorem ce_k_value : CE 128 := fun args W => by go_simp
set_option maxHeartbeats 3200000 in
set_option maxRecDepth 100000 in
theorem k_value {c : Int} (h0 : 0 ≤ c) (h1 : c < 256) : CallOk 128 [KV (.int .u8 (c))] (KV (.int .i64 (dv c))) := by
 refine CallOk.enter (l := [.vl (.int .u8 (c))]) 17 ce_k_value Tryz.func128 rfl Tryz.ntmps128 (by simp) ⟨(KV.st _), rfl, trivial⟩ fun w => ?_
 refine SC.seq (SC.region (PW.assign rfl rfl rfl rfl rfl (PW.nil (SX.then (SC.seq (SC.seq ?_))))))
 by_cases ha : c ≥ 97
 ·by_cases hb : c ≤ 122
  ·refine SC.region ?_
   refine PW.move rfl rfl rfl rfl rfl ?_
   refine PW.q2 (x := .tmp 4) (y := .const (.int .u8 97)) (.bool true) rfl rfl rfl rfl rfl (fun ρ W h1 h2 => by exact r_ge8 h1 h2 (decide_eq_true ha)) ?_
   refine PW.move rfl rfl rfl rfl rfl (PW.move rfl rfl rfl rfl rfl ?_)
   refine PW.q2 (x := .tmp 7) (y := .const (.int .u8 122)) (.bool true) rfl rfl rfl rfl rfl (fun ρ W h1 h2 => by exact r_le8 h1 h2 (decide_eq_true hb)) ?_
   refine PW.pick (t := true) rfl rfl rfl rfl rfl rfl ?_
   refine PW.nil (SX.then (SC.cond (t := true) rfl (SC.region (PW.move rfl rfl rfl rfl rfl ?_))))
   refine PW.q2 (x := .tmp 10) (y := .const (.int .u8 32)) (.int .u8 (c - 32)) rfl rfl rfl rfl rfl (fun ρ W h1 h2 => by exact r_sub8 h1 h2 rfl (by omega)) ?_
   refine PW.assign rfl rfl rfl rfl rfl (PW.nil (SX.then (SC.seq (SC.seq (SC.region (PW.move rfl rfl rfl rfl rfl ?_))))))
   refine PW.call (r := .vl (.int .i64 (ixd (c - 32)))) rfl rfl rfl rfl rfl rfl (KV.st _) rfl (k_indexByte digs (c - 32) (index_digs (by omega) (by omega))) ?_
   refine PW.assign rfl rfl rfl rfl rfl (PW.nil (SX.then (SC.seq ?_)))
   by_cases hx : ixd (c - 32) ≥ 0
   ·refine SC.region ?_
    refine PW.move rfl rfl rfl rfl rfl ?_
    refine PW.q2 (x := .tmp 14) (y := .const (.int .i64 0)) (.bool true) rfl rfl rfl rfl rfl (fun ρ W h1 h2 => by exact r_ge h1 h2 (decide_eq_true hx)) ?_
    refine PW.nil (SX.then (SC.cond (t := true) rfl (SC.seq (SC.region (PW.move rfl rfl rfl rfl rfl (PW.assign rfl rfl rfl rfl rfl (PW.nil (SX.then (SC.ret (SX.thenR ?_))))))))))
    have hr : dv c = ixd (c - 32) := by unfold dv; unfold ixd at hx ⊢; repeat' split at hx; all_goals (repeat' split); all_goals omega
    rw [hr]
    exact SX.done (s := 2) (r := .vl (.int .i64 (ixd (c - 32)))) rfl rfl rfl
   ·refine SC.region ?_
    refine PW.move rfl rfl rfl rfl rfl ?_
    refine PW.q2 (x := .tmp 14) (y := .const (.int .i64 0)) (.bool false) rfl rfl rfl rfl rfl (fun ρ W h1 h2 => by exact r_ge h1 h2 (decide_eq_false hx)) ?_
    refine PW.nil (SX.then (SC.cond (t := false) rfl (SC.skip (SX.then (SC.seq (SC.region (PW.assign rfl rfl rfl rfl rfl (PW.nil (SX.then (SC.ret ?_))))))))))
    have hr : dv c = 36 := by unfold dv; unfold ixd at hx; repeat' split at hx; all_goals (repeat' split); all_goals omega
    rw [hr]
    exact SX.done (s := 2) (r := .vl (.int .i64 36)) rfl rfl rfl
  ·refine SC.region ?_
   refine PW.move rfl rfl rfl rfl rfl ?_
   refine PW.q2 (x := .tmp 4) (y := .const (.int .u8 97)) (.bool true) rfl rfl rfl rfl rfl (fun ρ W h1 h2 => by exact r_ge8 h1 h2 (decide_eq_true ha)) ?_
   refine PW.move rfl rfl rfl rfl rfl (PW.move rfl rfl rfl rfl rfl ?_)
   refine PW.q2 (x := .tmp 7) (y := .const (.int .u8 122)) (.bool false) rfl rfl rfl rfl rfl (fun ρ W h1 h2 => by exact r_le8 h1 h2 (decide_eq_false hb)) ?_
   refine PW.pick (t := true) rfl rfl rfl rfl rfl rfl ?_
   refine PW.nil (SX.then (SC.cond (t := false) rfl (SC.skip (SX.then (SC.seq (SC.seq (SC.region (PW.move rfl rfl rfl rfl rfl ?_))))))))
   refine PW.call (r := .vl (.int .i64 (ixd (c)))) rfl rfl rfl rfl rfl rfl (KV.st _) rfl (k_indexByte digs (c) (index_digs (by omega) (by omega))) ?_
   refine PW.assign rfl rfl rfl rfl rfl (PW.nil (SX.then (SC.seq ?_)))
   by_cases hx : ixd (c) ≥ 0
   ·refine SC.region ?_
    refine PW.move rfl rfl rfl rfl rfl ?_
    refine PW.q2 (x := .tmp 14) (y := .const (.int .i64 0)) (.bool true) rfl rfl rfl rfl rfl (fun ρ W h1 h2 => by exact r_ge h1 h2 (decide_eq_true hx)) ?_
    refine PW.nil (SX.then (SC.cond (t := true) rfl (SC.seq (SC.region (PW.move rfl rfl rfl rfl rfl (PW.assign rfl rfl rfl rfl rfl (PW.nil (SX.then (SC.ret (SX.thenR ?_))))))))))
    have hr : dv c = ixd (c) := by unfold dv; unfold ixd at hx ⊢; repeat' split at hx; all_goals (repeat' split); all_goals omega
    rw [hr]
    exact SX.done (s := 2) (r := .vl (.int .i64 (ixd (c)))) rfl rfl rfl
   ·refine SC.region ?_
    refine PW.move rfl rfl rfl rfl rfl ?_
    refine PW.q2 (x := .tmp 14) (y := .const (.int .i64 0)) (.bool false) rfl rfl rfl rfl rfl (fun ρ W h1 h2 => by exact r_ge h1 h2 (decide_eq_false hx)) ?_
    refine PW.nil (SX.then (SC.cond (t := false) rfl (SC.skip (SX.then (SC.seq (SC.region (PW.assign rfl rfl rfl rfl rfl (PW.nil (SX.then (SC.ret ?_))))))))))
    have hr : dv c = 36 := by unfold dv; unfold ixd at hx; repeat' split at hx; all_goals (repeat' split); all_goals omega
    rw [hr]
    exact SX.done (s := 2) (r := .vl (.int .i64 36)) rfl rfl rfl
 ·refine SC.region ?_
  refine PW.move rfl rfl rfl rfl rfl ?_
  refine PW.q2 (x := .tmp 4) (y := .const (.int .u8 97)) (.bool false) rfl rfl rfl rfl rfl (fun ρ W h1 h2 => by exact r_ge8 h1 h2 (decide_eq_false ha)) ?_
  refine PW.move rfl rfl rfl rfl rfl ?_
  refine PW.skip rfl rfl rfl ?_
  refine PW.skip rfl rfl rfl ?_
  refine PW.pick (t := false) rfl rfl rfl rfl rfl rfl ?_
  refine PW.nil (SX.then (SC.cond (t := false) rfl (SC.skip (SX.then (SC.seq (SC.seq (SC.region (PW.move rfl rfl rfl rfl rfl ?_))))))))
  refine PW.call (r := .vl (.int .i64 (ixd (c)))) rfl rfl rfl rfl rfl rfl (KV.st _) rfl (k_indexByte digs (c) (index_digs (by omega) (by omega))) ?_
  refine PW.assign rfl rfl rfl rfl rfl (PW.nil (SX.then (SC.seq ?_)))
  by_cases hx : ixd (c) ≥ 0
  ·refine SC.region ?_
   refine PW.move rfl rfl rfl rfl rfl ?_
   refine PW.q2 (x := .tmp 14) (y := .const (.int .i64 0)) (.bool true) rfl rfl rfl rfl rfl (fun ρ W h1 h2 => by exact r_ge h1 h2 (decide_eq_true hx)) ?_
   refine PW.nil (SX.then (SC.cond (t := true) rfl (SC.seq (SC.region (PW.move rfl rfl rfl rfl rfl (PW.assign rfl rfl rfl rfl rfl (PW.nil (SX.then (SC.ret (SX.thenR ?_))))))))))
   have hr : dv c = ixd (c) := by unfold dv; unfold ixd at hx ⊢; repeat' split at hx; all_goals (repeat' split); all_goals omega
   rw [hr]
   exact SX.done (s := 2) (r := .vl (.int .i64 (ixd (c)))) rfl rfl rfl
  ·refine SC.region ?_
   refine PW.move rfl rfl rfl rfl rfl ?_
   refine PW.q2 (x := .tmp 14) (y := .const (.int .i64 0)) (.bool false) rfl rfl rfl rfl rfl (fun ρ W h1 h2 => by exact r_ge h1 h2 (decide_eq_false hx)) ?_
   refine PW.nil (SX.then (SC.cond (t := false) rfl (SC.skip (SX.then (SC.seq (SC.region (PW.assign rfl rfl rfl rfl rfl (PW.nil (SX.then (SC.ret ?_))))))))))
   have hr : dv c = 36 := by unfold dv; unfold ixd at hx; repeat' split at hx; all_goals (repeat' split); all_goals omega
   rw [hr]
   exact SX.done (s := 2) (r := .vl (.int .i64 36)) rfl rfl rfl
theorem ce_parse : CE 88 := fun args W => by go_simp
set_option maxHeartbeats 3200000 in
set_option maxRecDepth 100000 in
theorem k_parse_radix {s : ByteArray} {r : Int} (h : ¬ (2 ≤ r ∧ r ≤ 36)) : CallOk 88 [KV (.string s), KV (.int .i64 (r))] (KPI (parseR r (byl s))) := by
 refine CallOk.enter (l := [.vl (.string s), .vl (.int .i64 (r))]) 87 ce_parse Tryz.func88 rfl Tryz.ntmps88 (by simp) ⟨(KV.st _), rfl, (KV.st _), rfl, trivial⟩ fun w => ?_
 refine SC.seq (SC.region ?_)
 refine PW.alloc (BI 31) rfl rfl rfl rfl rfl bI ?_
 refine PW.assign rfl rfl rfl rfl rfl (PW.nil (SX.then (SC.seq (SC.block (SC.seq ?_)))))
 by_cases hr2 : r < 2
 ·refine SC.region ?_
  refine PW.move rfl rfl rfl rfl rfl ?_
  refine PW.q2 (x := .tmp 15) (y := .const (.int .i64 2)) (.bool true) rfl rfl rfl rfl rfl (fun ρ W h1 h2 => by exact r_lt h1 h2 (decide_eq_true hr2)) ?_
  refine PW.move rfl rfl rfl rfl rfl ?_
  refine PW.skip rfl rfl rfl ?_
  refine PW.skip rfl rfl rfl ?_
  refine PW.pick (t := true) rfl rfl rfl rfl rfl rfl ?_
  refine PW.assign rfl rfl rfl rfl rfl (PW.nil (SX.then (SC.cond (t := true) rfl (SC.seq (SC.region ?_)))))
  refine PW.val (r := .kw (KI (0))) rfl rfl rfl rfl (fun a W hf => ⟨.agg #[.bool false, .slice none 0 0], by go_simp, zeroI _ w W⟩) ?_
  refine PW.store (x := .tmp 21) (r := .kw (KI (0))) rfl rfl rfl rfl rfl rfl sh_I ?_
  refine PW.assign rfl rfl rfl rfl rfl (PW.nil (SX.then (SC.ret (SX.blockR (SX.thenR ?_)))))
  rw [parse_radix h]
  exact SX.done2 (s := 4) (t := 5) (r := .vl (.int .i64 1)) (.inl rfl) rfl rfl rfl rfl
 ·refine SC.region ?_
  refine PW.move rfl rfl rfl rfl rfl ?_
  refine PW.q2 (x := .tmp 15) (y := .const (.int .i64 2)) (.bool false) rfl rfl rfl rfl rfl (fun ρ W h1 h2 => by exact r_lt h1 h2 (decide_eq_false hr2)) ?_
  refine PW.move rfl rfl rfl rfl rfl (PW.move rfl rfl rfl rfl rfl ?_)
  refine PW.q2 (x := .tmp 18) (y := .const (.int .i64 36)) (.bool true) rfl rfl rfl rfl rfl (fun ρ W h1 h2 => by exact r_gt h1 h2 (decide_eq_true (by omega))) ?_
  refine PW.pick (t := false) rfl rfl rfl rfl rfl rfl ?_
  refine PW.assign rfl rfl rfl rfl rfl (PW.nil (SX.then (SC.cond (t := true) rfl (SC.seq (SC.region ?_)))))
  refine PW.val (r := .kw (KI (0))) rfl rfl rfl rfl (fun a W hf => ⟨.agg #[.bool false, .slice none 0 0], by go_simp, zeroI _ w W⟩) ?_
  refine PW.store (x := .tmp 21) (r := .kw (KI (0))) rfl rfl rfl rfl rfl rfl sh_I ?_
  refine PW.assign rfl rfl rfl rfl rfl (PW.nil (SX.then (SC.ret (SX.blockR (SX.thenR ?_)))))
  rw [parse_radix h]
  exact SX.done2 (s := 4) (t := 5) (r := .vl (.int .i64 1)) (.inl rfl) rfl rfl rfl rfl
set_option maxHeartbeats 3200000 in
set_option maxRecDepth 100000 in
theorem k_parse_long {s : ByteArray} {r : Int} (h : 2 ≤ r ∧ r ≤ 36) (hl : 20000 < s.size) : CallOk 88 [KV (.string s), KV (.int .i64 (r))] (KPI (parseR r (byl s))) := by
 refine CallOk.enter (l := [.vl (.string s), .vl (.int .i64 (r))]) 87 ce_parse Tryz.func88 rfl Tryz.ntmps88 (by simp) ⟨(KV.st _), rfl, (KV.st _), rfl, trivial⟩ fun w => ?_
 refine SC.seq (SC.region ?_)
 refine PW.alloc (BI 31) rfl rfl rfl rfl rfl bI ?_
 refine PW.assign rfl rfl rfl rfl rfl (PW.nil (SX.then (SC.seq (SC.block (SC.seq (SC.region (PW.move rfl rfl rfl rfl rfl ?_)))))))
 refine PW.q2 (x := .tmp 15) (y := .const (.int .i64 2)) (.bool false) rfl rfl rfl rfl rfl (fun ρ W h1 h2 => by exact r_lt h1 h2 (decide_eq_false (by omega))) ?_
 refine PW.move rfl rfl rfl rfl rfl (PW.move rfl rfl rfl rfl rfl ?_)
 refine PW.q2 (x := .tmp 18) (y := .const (.int .i64 36)) (.bool false) rfl rfl rfl rfl rfl (fun ρ W h1 h2 => by exact r_gt h1 h2 (decide_eq_false (by omega))) ?_
 refine PW.pick (t := false) rfl rfl rfl rfl rfl rfl ?_
 refine PW.assign rfl rfl rfl rfl rfl (PW.nil (SX.then (SC.cond (t := false) rfl (SC.seq (SC.region (PW.move rfl rfl rfl rfl rfl ?_))))))
 refine PW.qn [(.tmp 23, .string s)] (.int .i64 (s.size : Int)) rfl rfl rfl ⟨rfl, trivial⟩ (fun ρ W h => by obtain ⟨h1, _⟩ := h; exact r_slen h1) ?_
 refine PW.q2 (x := .tmp 24) (y := .const (.int .i64 20000)) (.bool true) rfl rfl rfl rfl rfl (fun ρ W h1 h2 => by exact r_gt h1 h2 (decide_eq_true (by omega))) ?_
 refine PW.assign rfl rfl rfl rfl rfl (PW.nil (SX.then (SC.cond (t := true) rfl (SC.seq (SC.region ?_)))))
 refine PW.val (r := .kw (KI (0))) rfl rfl rfl rfl (fun a W hf => ⟨.agg #[.bool false, .slice none 0 0], by go_simp, zeroI _ w W⟩) ?_
 refine PW.store (x := .tmp 26) (r := .kw (KI (0))) rfl rfl rfl rfl rfl rfl sh_I ?_
 refine PW.assign rfl rfl rfl rfl rfl (PW.nil (SX.then (SC.ret (SX.blockR (SX.thenR ?_)))))
 rw [parse_long h (by rw [byl_len]; exact hl)]
 exact SX.done2 (s := 4) (t := 5) (r := .vl (.int .i64 14)) (.inl rfl) rfl rfl rfl rfl
set_option maxHeartbeats 6400000 in
set_option maxRecDepth 100000 in
theorem k_parse_ok {s : ByteArray} {r : Int} (h : 2 ≤ r ∧ r ≤ 36) (hl : ¬ 20000 < s.size) : CallOk 88 [KV (.string s), KV (.int .i64 (r))] (KPI (parseR r (byl s))) := by
 refine CallOk.enter (l := [.vl (.string s), .vl (.int .i64 (r))]) 87 ce_parse Tryz.func88 rfl Tryz.ntmps88 (by simp) ⟨(KV.st _), rfl, (KV.st _), rfl, trivial⟩ fun w => ?_
 refine SC.seq (SC.region ?_)
 refine PW.alloc (BI 31) rfl rfl rfl rfl rfl bI ?_
 refine PW.assign rfl rfl rfl rfl rfl (PW.nil (SX.then (SC.seq (SC.block (SC.seq (SC.region (PW.move rfl rfl rfl rfl rfl ?_)))))))
 refine PW.q2 (x := .tmp 15) (y := .const (.int .i64 2)) (.bool false) rfl rfl rfl rfl rfl (fun ρ W h1 h2 => by exact r_lt h1 h2 (decide_eq_false (by omega))) ?_
 refine PW.move rfl rfl rfl rfl rfl (PW.move rfl rfl rfl rfl rfl ?_)
 refine PW.q2 (x := .tmp 18) (y := .const (.int .i64 36)) (.bool false) rfl rfl rfl rfl rfl (fun ρ W h1 h2 => by exact r_gt h1 h2 (decide_eq_false (by omega))) ?_
 refine PW.pick (t := false) rfl rfl rfl rfl rfl rfl ?_
 refine PW.assign rfl rfl rfl rfl rfl (PW.nil (SX.then (SC.cond (t := false) rfl (SC.seq (SC.region (PW.move rfl rfl rfl rfl rfl ?_))))))
 refine PW.qn [(.tmp 23, .string s)] (.int .i64 (s.size : Int)) rfl rfl rfl ⟨rfl, trivial⟩ (fun ρ W h => by obtain ⟨h1, _⟩ := h; exact r_slen h1) ?_
 refine PW.q2 (x := .tmp 24) (y := .const (.int .i64 20000)) (.bool false) rfl rfl rfl rfl rfl (fun ρ W h1 h2 => by exact r_gt h1 h2 (decide_eq_false (by omega))) ?_
 refine PW.assign rfl rfl rfl rfl rfl (PW.nil (SX.then (SC.cond (t := false) rfl (SC.skip ?_))))
 refine SX.blockN ?_
 refine SX.then (SC.seq ?_)
 by_cases hm : 0 < s.size ∧ at0 (byl s) 0 = 45
 ·refine SC.region ?_
  refine PW.move rfl rfl rfl rfl rfl ?_
  refine PW.call (r := .vl (.bool true)) rfl rfl rfl rfl rfl rfl (KV.st _) rfl (k_hasPrefix s ⟨#[45]⟩ ((pre_one s 45).trans (decide_eq_true hm))) ?_
  refine PW.assign rfl rfl rfl rfl rfl (PW.nil (SX.then (SC.seq (SC.seq (SC.region (PW.move rfl rfl rfl rfl rfl (PW.move rfl rfl rfl rfl rfl ?_)))))))
  refine PW.skip rfl rfl rfl ?_
  refine PW.skip rfl rfl rfl ?_
  refine PW.pick (t := true) rfl rfl rfl rfl rfl rfl ?_
  refine PW.nil (SX.then (SC.cond (t := true) rfl (SC.region (PW.move rfl rfl rfl rfl rfl ?_))))
  refine PW.qn [(.tmp 34, .string s), (.const (.int .i64 1), .int .i64 1)] (.string (s.extract 1 s.size)) rfl rfl rfl ⟨rfl, rfl, trivial⟩ (fun ρ W h => by obtain ⟨h1, h2, _⟩ := h; exact r_sfrom (p := 1) h1 h2 (by omega)) ?_
  refine PW.assign rfl rfl rfl rfl rfl (PW.nil (SX.then (SC.seq (SC.seq ?_))))
  obtain ⟨t, ht⟩ : ∃ t, t = s.extract 1 s.size := ⟨_, rfl⟩
  rw [← ht]
  have htl : t.size ≤ 20000 := by rw [ht, ← byl_len, byl_drop, List.length_drop, byl_len]; omega
  rw [parse_form (b := byl t) h (by rw [byl_len]; omega) (by rw [if_pos (.inl hm.2), ht, byl_drop])]
  by_cases he : t.size = 0
  ·refine SC.region ?_
   refine PW.move rfl rfl rfl rfl rfl ?_
   refine PW.q2 (x := .tmp 36) (y := .const (.string ⟨#[]⟩)) (.bool true) rfl rfl rfl rfl rfl (fun ρ W h1 h2 => by exact r_seq h1 h2 ((empty_eq t).trans (decide_eq_true he))) ?_
   refine PW.nil (SX.then (SC.cond (t := true) rfl (SC.seq (SC.region ?_))))
   refine PW.val (r := .kw (KI (0))) rfl rfl rfl rfl (fun a W hf => ⟨.agg #[.bool false, .slice none 0 0], by go_simp, zeroI _ w W⟩) ?_
   refine PW.store (x := .tmp 38) (r := .kw (KI (0))) rfl rfl rfl rfl rfl rfl sh_I ?_
   refine PW.assign rfl rfl rfl rfl rfl (PW.nil (SX.then (SC.ret (SX.thenR ?_))))
   rw [form_empty (z := 0) (by rw [byl_len]; exact he)]
   exact SX.done2 (s := 4) (t := 5) (r := .vl (.int .i64 2)) (.inl rfl) rfl rfl rfl rfl
  ·refine SC.region ?_
   refine PW.move rfl rfl rfl rfl rfl ?_
   refine PW.q2 (x := .tmp 36) (y := .const (.string ⟨#[]⟩)) (.bool false) rfl rfl rfl rfl rfl (fun ρ W h1 h2 => by exact r_seq h1 h2 ((empty_eq t).trans (decide_eq_false he))) ?_
   refine PW.nil (SX.then (SC.cond (t := false) rfl (SC.skip (SX.then (SC.seq (SC.region (PW.assign rfl rfl rfl rfl rfl (PW.nil (SX.then (SC.seq (SC.seq (SC.region (PW.move rfl rfl rfl rfl rfl ?_)))))))))))))
   refine PW.qn [(.tmp 39, .string t)] (.int .i64 (t.size : Int)) rfl rfl rfl ⟨rfl, trivial⟩ (fun ρ W h => by obtain ⟨h1, _⟩ := h; exact r_slen h1) ?_
   refine PW.move rfl rfl rfl rfl rfl (PW.nil (SX.then (SC.block ?_)))
   refine SC.weak (fun a W hf => Fr.nilrow 87 140 (.int .u32) hf) ?_
   refine SC.loop (S := Nat × Value × List Int) (fun ⟨i, v, zs⟩ => [(0, .vl (.string t)), (1, .vl (.int .i64 (r))), (4, .nb (BI 31)), (5, .vl (.int .i64 0)), (6, .vl (.bool true)), (7, .vl (v)), (40, .vl (.int .i64 (t.size : Int))), (41, .vl (.int .i64 (i : Int))), (87, .ro (v) 140 (.int .u32) (zs))]) (fun ⟨i, v, zs⟩ => PrI b32 r (byl t) i zs) (fun ⟨i, v, zs⟩ => t.size - i) (0, .slice none 0 0, []) (PrI.start b32 r (byl t)) ⟨rfl, rfl, rfl, rfl, rfl, rfl, rfl, rfl, rfl, trivial⟩ ?_
   rintro ⟨i, v, zs⟩ hP
   show SC _ _ _ _ [(0, .vl (.string t)), (1, .vl (.int .i64 (r))), (4, .nb (BI 31)), (5, .vl (.int .i64 0)), (6, .vl (.bool true)), (7, .vl (v)), (40, .vl (.int .i64 (t.size : Int))), (41, .vl (.int .i64 (i : Int))), (87, .ro (v) 140 (.int .u32) (zs))] _
   refine SC.seq ?_
   by_cases hi : (i : Int) < (t.size : Int)
   ·refine SC.region ?_
    refine PW.q2 (x := .tmp 41) (y := .tmp 40) (.bool true) rfl rfl rfl rfl rfl (fun ρ W h1 h2 => by exact r_lt h1 h2 (decide_eq_true hi)) ?_
    refine PW.nil (SX.then (SC.seq (SC.cond (t := true) rfl (SC.skip (SX.then (SC.seq (SC.block (SC.seq (SC.region (PW.move rfl rfl rfl rfl rfl (PW.assign rfl rfl rfl rfl rfl (PW.nil ?_))))))))))))
    refine SX.then (SC.seq (SC.region (PW.move rfl rfl rfl rfl rfl (PW.move rfl rfl rfl rfl rfl ?_))))
    refine PW.qn [(.tmp 44, .string t), (.tmp 45, .int .i64 (i : Int))] (.int .u8 (at0 (byl t) i)) rfl rfl rfl ⟨rfl, rfl, trivial⟩ (fun ρ W h => by obtain ⟨h1, h2, _⟩ := h; exact r_sidx h1 h2 (by omega)) ?_
    refine PW.call (r := .vl (.int .i64 (dv (at0 (byl t) i)))) rfl rfl rfl rfl rfl rfl (KV.st _) rfl (k_value (byl_byte t i).1 (byl_byte t i).2) ?_
    refine PW.assign rfl rfl rfl rfl rfl (PW.nil (SX.then (SC.seq (SC.seq ?_))))
    by_cases hd : dv (at0 (byl t) i) ≥ r
    ·refine SC.region ?_
     refine PW.move rfl rfl rfl rfl rfl (PW.move rfl rfl rfl rfl rfl ?_)
     refine PW.q2 (x := .tmp 48) (y := .tmp 49) (.bool true) rfl rfl rfl rfl rfl (fun ρ W h1 h2 => by exact r_ge h1 h2 (decide_eq_true hd)) ?_
     refine PW.nil (SX.then (SC.cond (t := true) rfl (SC.seq (SC.region ?_))))
     refine PW.val (r := .kw (KI (0))) rfl rfl rfl rfl (fun a W hf => ⟨.agg #[.bool false, .slice none 0 0], by go_simp, zeroI _ w W⟩) ?_
     refine PW.store (x := .tmp 51) (r := .kw (KI (0))) rfl rfl rfl rfl rfl rfl sh_I ?_
     refine PW.assign rfl rfl rfl rfl rfl (PW.nil (SX.then (SC.ret (SX.thenR (SX.blockR (SX.thenR (SX.thenR (SX.blockR (SX.thenR ?_)))))))))
     rw [form_bad (i := i) (by rw [byl_len]; omega) hd]
     exact SX.done2 (s := 4) (t := 5) (r := .vl (.int .i64 2)) (.inl rfl) rfl rfl rfl rfl
    ·refine SC.region ?_
     refine PW.move rfl rfl rfl rfl rfl (PW.move rfl rfl rfl rfl rfl ?_)
     refine PW.q2 (x := .tmp 48) (y := .tmp 49) (.bool false) rfl rfl rfl rfl rfl (fun ρ W h1 h2 => by exact r_ge h1 h2 (decide_eq_false hd)) ?_
     refine PW.nil (SX.then (SC.cond (t := false) rfl (SC.skip (SX.then (SC.seq (SC.region (PW.move rfl rfl rfl rfl rfl ?_)))))))
     refine PW.q1 (x := .tmp 52) (.int .u64 (dv (at0 (byl t) i))) rfl rfl rfl rfl (fun ρ W h1 => by exact r_i64u h1 (by have := dv_le (at0 (byl t) i); omega)) ?_
     refine PW.assign rfl rfl rfl rfl rfl (PW.nil (SX.then (SC.seq (SC.seq (SC.region (PW.move rfl rfl rfl rfl rfl ?_))))))
     refine PW.rlen (s := 54) 87 rfl rfl rfl rfl rfl (fun ρ W A c h => r_len h) ?_
     refine PW.move rfl rfl rfl rfl rfl (PW.nil (SX.then (SC.block ?_)))
     refine SC.loop (S := Nat × List Int × Int) (fun ⟨k, ys, cc⟩ => [(0, .vl (.string t)), (1, .vl (.int .i64 (r))), (4, .nb (BI 31)), (5, .vl (.int .i64 0)), (6, .vl (.bool true)), (7, .vl (v)), (8, .vl (.int .i64 (i : Int))), (10, .vl (.int .u64 (cc))), (40, .vl (.int .i64 (t.size : Int))), (41, .vl (.int .i64 (i : Int))), (54, .vl (v)), (55, .vl (.int .i64 (zs.length : Int))), (56, .vl (.int .i64 (k : Int))), (87, .ro (v) 140 (.int .u32) (ys))]) (fun ⟨k, ys, cc⟩ => PrJ b32 r (dv (at0 (byl t) i)) zs k ys cc) (fun ⟨k, ys, cc⟩ => zs.length - k) (0, zs, dv (at0 (byl t) i)) (PrJ.start hP.dg (dv_le _).1 (dv_le _).2) ⟨rfl, rfl, rfl, rfl, rfl, rfl, rfl, rfl, rfl, rfl, rfl, rfl, rfl, rfl, trivial⟩ ?_
     rintro ⟨k, ys, cc⟩ hJ
     show SC _ _ _ _ [(0, .vl (.string t)), (1, .vl (.int .i64 (r))), (4, .nb (BI 31)), (5, .vl (.int .i64 0)), (6, .vl (.bool true)), (7, .vl (v)), (8, .vl (.int .i64 (i : Int))), (10, .vl (.int .u64 (cc))), (40, .vl (.int .i64 (t.size : Int))), (41, .vl (.int .i64 (i : Int))), (54, .vl (v)), (55, .vl (.int .i64 (zs.length : Int))), (56, .vl (.int .i64 (k : Int))), (87, .ro (v) 140 (.int .u32) (ys))] _
     refine SC.seq ?_
     by_cases hk : (k : Int) < (zs.length : Int)
     ·refine SC.region ?_
      refine PW.q2 (x := .tmp 56) (y := .tmp 55) (.bool true) rfl rfl rfl rfl rfl (fun ρ W h1 h2 => by exact r_lt h1 h2 (decide_eq_true hk)) ?_
      refine PW.nil (SX.then (SC.seq (SC.cond (t := true) rfl (SC.skip (SX.then (SC.seq (SC.block (SC.seq (SC.region (PW.move rfl rfl rfl rfl rfl ?_))))))))))
      refine PW.ridx (i := k) 87 rfl rfl rfl rfl rfl rfl rfl (by have := hJ.len; omega) (fun ρ W g c h1 h2 => r_idx h1 h2 (by have := hJ.len; omega)) ?_
      refine PW.rget (i := k) 87 rfl rfl rfl rfl rfl rfl (by have := hJ.len; omega) r_l32 ?_
      refine PW.assign rfl rfl rfl rfl rfl (PW.assign rfl rfl rfl rfl rfl (PW.nil (SX.then (SC.seq (SC.region (PW.move rfl rfl rfl rfl rfl ?_))))))
      refine PW.q1 (x := .tmp 61) (.int .u64 (at0 ys k)) rfl rfl rfl rfl (fun ρ W h1 => by exact r_64 h1 (dg32 hJ.dg k)) ?_
      refine PW.move rfl rfl rfl rfl rfl ?_
      refine PW.q1 (x := .tmp 63) (.int .u64 (r)) rfl rfl rfl rfl (fun ρ W h1 => by exact r_i64u h1 (by omega)) ?_
      refine PW.q2 (x := .tmp 62) (y := .tmp 64) (.int .u64 (at0 ys k * r)) rfl rfl rfl rfl rfl (fun ρ W h1 h2 => by exact r_mul6 h1 h2 rfl (mulr (dg32 hJ.dg k) h)) ?_
      refine PW.move rfl rfl rfl rfl rfl ?_
      refine PW.q2 (x := .tmp 65) (y := .tmp 66) (.int .u64 (at0 ys k * r + cc)) rfl rfl rfl rfl rfl (fun ρ W h1 h2 => by exact r_add6 h1 h2 rfl (addr (dg32 hJ.dg k) h hJ.c0 hJ.c1)) ?_
      refine PW.assign rfl rfl rfl rfl rfl (PW.nil (SX.then (SC.region (PW.move rfl rfl rfl rfl rfl (PW.move rfl rfl rfl rfl rfl (PW.move rfl rfl rfl rfl rfl ?_))))))
      refine PW.q1 (x := .tmp 70) (.int .u32 ((at0 ys k * r + cc) % 4294967296)) rfl rfl rfl rfl (fun ρ W h1 => by exact r_32 h1) ?_
      refine PW.move rfl rfl rfl rfl rfl ?_
      refine PW.q2 (x := .tmp 72) (y := .const (.int .u64 32)) (.int .u64 ((at0 ys k * r + cc) / 4294967296)) rfl rfl rfl rfl rfl (fun ρ W h1 h2 => by exact r_dn32 h1 h2) ?_
      refine PW.ridx (i := k) 87 rfl rfl rfl rfl rfl rfl rfl (by have := hJ.len; omega) (fun ρ W g c h1 h2 => r_idx h1 h2 (by have := hJ.len; omega)) ?_
      refine PW.rput (i := k) (x := .tmp 71) (((at0 ys k * r + cc) % 4294967296)) 87 rfl rfl rfl rfl rfl (by have := hJ.len; omega) rfl rfl r_s32 ?_
      refine PW.assign rfl rfl rfl rfl rfl (PW.nil ?_)
      refine SX.blockN ?_
      refine SX.then (SC.region ?_)
      refine PW.q2 (x := .tmp 56) (y := .const (.int .i64 1)) (.int .i64 ((k + 1 : Nat))) rfl rfl rfl rfl rfl (fun ρ W h1 h2 => by exact r_add h1 h2 (by omega) (by have := hP.len; have := byl_len t; omega)) ?_
      refine PW.move rfl rfl rfl rfl rfl (PW.nil ?_)
      refine SX.back (k + 1, ys.set k ((at0 ys k * r + cc) % 4294967296), (at0 ys k * r + cc) / 4294967296) ?_ ?_ ?_
      ·exact (hJ.step (by decide) (by omega) h.1 h.2 rfl hP.dg)
      ·exact (show zs.length - (k + 1) < zs.length - k by omega)
      ·exact ⟨rfl, rfl, rfl, rfl, rfl, rfl, rfl, rfl, rfl, rfl, rfl, rfl, rfl, rfl, trivial⟩
     ·obtain rfl : k = zs.length := by have := hJ.le; omega
      refine SC.region ?_
      refine PW.q2 (x := .tmp 56) (y := .tmp 55) (.bool false) rfl rfl rfl rfl rfl (fun ρ W h1 h2 => by exact r_lt h1 h2 (decide_eq_false hk)) ?_
      refine PW.nil (SX.then (SC.seq (SC.cond (t := false) rfl (SC.exit (SX.thenE (SX.thenE (SX.blockE (SX.then (SC.seq ?_)))))))))
      by_cases hc : 0 < cc
      ·refine SC.region ?_
       refine PW.move rfl rfl rfl rfl rfl ?_
       refine PW.q2 (x := .tmp 76) (y := .const (.int .u64 0)) (.bool true) rfl rfl rfl rfl rfl (fun ρ W h1 h2 => by exact r_gt6 h1 h2 (decide_eq_true hc)) ?_
       refine PW.nil (SX.then (SC.cond (t := true) rfl (SC.region (PW.move rfl rfl rfl rfl rfl (PW.move rfl rfl rfl rfl rfl ?_)))))
       refine PW.q1 (x := .tmp 79) (.int .u32 (cc)) rfl rfl rfl rfl (fun ρ W h1 => by exact r_32z h1 (by have := hJ.c0; have := hJ.c1; omega)) ?_
       refine PW.app (K := 87) (f := .int .u32) [(cc)] rfl rfl rfl (fun a W hf => r_b1 (hf.vl (s := 80) rfl)) rfl rfl rfl rfl rfl rfl rfl rfl Tryz.underlying22 info_u32 rfl (fun _ => rfl) (by have l1 := hJ.len; have l2 := hP.len; have l3 := byl_len t; have l4 := hP.le; unfold maxLen; show _ + 1 ≤ _; omega) (by have l1 := hJ.len; have l2 := hP.len; have l3 := byl_len t; have l4 := hP.le; show (_ + 1) * 4 ≤ _; omega) rfl fun vq1 uq1 => ?_
       refine PW.assign rfl rfl rfl rfl rfl (PW.nil ?_)
       refine SX.blockN ?_
       refine SX.then (SC.region ?_)
       refine PW.q2 (x := .tmp 41) (y := .const (.int .i64 1)) (.int .i64 ((i + 1 : Nat))) rfl rfl rfl rfl rfl (fun ρ W h1 h2 => by exact r_add h1 h2 (by omega) (by omega)) ?_
       refine PW.move rfl rfl rfl rfl rfl (PW.nil ?_)
       refine SX.back (i + 1, vq1, ys ++ [(cc)]) ?_ ?_ ?_
       ·exact (hP.yes (by decide) (by rw [byl_len]; omega) (by omega) hJ)
       ·exact (show t.size - (i + 1) < t.size - i by omega)
       ·exact ⟨rfl, rfl, rfl, rfl, rfl, rfl, rfl, rfl, rfl, trivial⟩
      ·obtain rfl : cc = 0 := by have := hJ.c0; omega
       refine SC.region (PW.move rfl rfl rfl rfl rfl ?_)
       refine PW.q2 (x := .tmp 76) (y := .const (.int .u64 0)) (.bool false) rfl rfl rfl rfl rfl (fun ρ W h1 h2 => by exact r_gt6 h1 h2 (decide_eq_false hc)) ?_
       refine PW.nil (SX.then (SC.cond (t := false) rfl (SC.skip ?_)))
       refine SX.blockN ?_
       refine SX.then (SC.region ?_)
       refine PW.q2 (x := .tmp 41) (y := .const (.int .i64 1)) (.int .i64 ((i + 1 : Nat))) rfl rfl rfl rfl rfl (fun ρ W h1 h2 => by exact r_add h1 h2 (by omega) (by omega)) ?_
       refine PW.move rfl rfl rfl rfl rfl (PW.nil ?_)
       refine SX.back (i + 1, v, ys) ?_ ?_ ?_
       ·exact (hP.no (by rw [byl_len]; omega) (by omega) hJ)
       ·exact (show t.size - (i + 1) < t.size - i by omega)
       ·exact ⟨rfl, rfl, rfl, rfl, rfl, rfl, rfl, rfl, rfl, trivial⟩
   ·obtain rfl : i = t.size := by have := hP.le; have := byl_len t; omega
    refine SC.region ?_
    refine PW.q2 (x := .tmp 41) (y := .tmp 40) (.bool false) rfl rfl rfl rfl rfl (fun ρ W h1 h2 => by exact r_lt h1 h2 (decide_eq_false hi)) ?_
    refine PW.nil (SX.then (SC.seq (SC.cond (t := false) rfl (SC.exit (SX.thenE (SX.thenE (SX.blockE (SX.then (SC.seq (SC.region (PW.move rfl rfl rfl rfl rfl (PW.move rfl rfl rfl rfl rfl ?_))))))))))))
    refine PW.callG (r := .kw (KI (sg true (pv r 0 (byl t))))) ce_made rfl rfl rfl rfl rfl (KI.st _) rfl (fun a W hf => by have h1 := hf.vl (s := 84) rfl; have h2 := hf.vl (s := 85) rfl; have own : OwF W _ _ (.int .u32) v zs := hf.ho 87 _ rfl; obtain ⟨A4, c4, e4, hc4, rd4⟩ := Own.rd own; show Calls Tryz.prog _ #[a.tmps.getD 84 undef, a.tmps.getD 85 undef] W _; rw [h1, h2, e4, show pv r 0 (byl t) = lv b32 zs by rw [hP.lv, List.take_of_length_le (by rw [byl_len]; exact Nat.le_refl _)]]; exact made_k rd4 hc4 hP.dg) ?_
    refine PW.store (x := .tmp 86) (r := .kw (KI (sg true (pv r 0 (byl t))))) rfl rfl rfl rfl rfl rfl sh_I ?_
    refine PW.assign rfl rfl rfl rfl rfl (PW.nil (SX.then (SC.ret ?_)))
    rw [form_ok (by rw [byl_len]; exact he) (fun j hj => hP.ok j (by rw [byl_len] at hj; exact hj))]
    rw [show decide (at0 (byl s) 0 = 45) = true by exact decide_eq_true hm.2]
    exact SX.done2 (s := 4) (t := 5) (r := .vl (.int .i64 0)) (.inl rfl) rfl rfl rfl rfl
 ·refine SC.region ?_
  refine PW.move rfl rfl rfl rfl rfl ?_
  refine PW.call (r := .vl (.bool false)) rfl rfl rfl rfl rfl rfl (KV.st _) rfl (k_hasPrefix s ⟨#[45]⟩ ((pre_one s 45).trans (decide_eq_false hm))) ?_
  refine PW.assign rfl rfl rfl rfl rfl (PW.nil (SX.then (SC.seq (SC.seq ?_))))
  by_cases hp : 0 < s.size ∧ at0 (byl s) 0 = 43
  ·refine SC.region ?_
   refine PW.move rfl rfl rfl rfl rfl (PW.move rfl rfl rfl rfl rfl (PW.move rfl rfl rfl rfl rfl ?_))
   refine PW.call (r := .vl (.bool true)) rfl rfl rfl rfl rfl rfl (KV.st _) rfl (k_hasPrefix s ⟨#[43]⟩ ((pre_one s 43).trans (decide_eq_true hp))) ?_
   refine PW.pick (t := false) rfl rfl rfl rfl rfl rfl ?_
   refine PW.nil (SX.then (SC.cond (t := true) rfl (SC.region (PW.move rfl rfl rfl rfl rfl ?_))))
   refine PW.qn [(.tmp 34, .string s), (.const (.int .i64 1), .int .i64 1)] (.string (s.extract 1 s.size)) rfl rfl rfl ⟨rfl, rfl, trivial⟩ (fun ρ W h => by obtain ⟨h1, h2, _⟩ := h; exact r_sfrom (p := 1) h1 h2 (by omega)) ?_
   refine PW.assign rfl rfl rfl rfl rfl (PW.nil (SX.then (SC.seq (SC.seq ?_))))
   obtain ⟨t, ht⟩ : ∃ t, t = s.extract 1 s.size := ⟨_, rfl⟩
   rw [← ht]
   have htl : t.size ≤ 20000 := by rw [ht, ← byl_len, byl_drop, List.length_drop, byl_len]; omega
   rw [parse_form (b := byl t) h (by rw [byl_len]; omega) (by rw [if_pos (.inr hp.2), ht, byl_drop])]
   by_cases he : t.size = 0
   ·refine SC.region ?_
    refine PW.move rfl rfl rfl rfl rfl ?_
    refine PW.q2 (x := .tmp 36) (y := .const (.string ⟨#[]⟩)) (.bool true) rfl rfl rfl rfl rfl (fun ρ W h1 h2 => by exact r_seq h1 h2 ((empty_eq t).trans (decide_eq_true he))) ?_
    refine PW.nil (SX.then (SC.cond (t := true) rfl (SC.seq (SC.region ?_))))
    refine PW.val (r := .kw (KI (0))) rfl rfl rfl rfl (fun a W hf => ⟨.agg #[.bool false, .slice none 0 0], by go_simp, zeroI _ w W⟩) ?_
    refine PW.store (x := .tmp 38) (r := .kw (KI (0))) rfl rfl rfl rfl rfl rfl sh_I ?_
    refine PW.assign rfl rfl rfl rfl rfl (PW.nil (SX.then (SC.ret (SX.thenR ?_))))
    rw [form_empty (z := 0) (by rw [byl_len]; exact he)]
    exact SX.done2 (s := 4) (t := 5) (r := .vl (.int .i64 2)) (.inl rfl) rfl rfl rfl rfl
   ·refine SC.region ?_
    refine PW.move rfl rfl rfl rfl rfl ?_
    refine PW.q2 (x := .tmp 36) (y := .const (.string ⟨#[]⟩)) (.bool false) rfl rfl rfl rfl rfl (fun ρ W h1 h2 => by exact r_seq h1 h2 ((empty_eq t).trans (decide_eq_false he))) ?_
    refine PW.nil (SX.then (SC.cond (t := false) rfl (SC.skip (SX.then (SC.seq (SC.region (PW.assign rfl rfl rfl rfl rfl (PW.nil (SX.then (SC.seq (SC.seq (SC.region (PW.move rfl rfl rfl rfl rfl ?_)))))))))))))
    refine PW.qn [(.tmp 39, .string t)] (.int .i64 (t.size : Int)) rfl rfl rfl ⟨rfl, trivial⟩ (fun ρ W h => by obtain ⟨h1, _⟩ := h; exact r_slen h1) ?_
    refine PW.move rfl rfl rfl rfl rfl (PW.nil (SX.then (SC.block ?_)))
    refine SC.weak (fun a W hf => Fr.nilrow 87 140 (.int .u32) hf) ?_
    refine SC.loop (S := Nat × Value × List Int) (fun ⟨i, v, zs⟩ => [(0, .vl (.string t)), (1, .vl (.int .i64 (r))), (4, .nb (BI 31)), (5, .vl (.int .i64 0)), (6, .vl (.bool false)), (7, .vl (v)), (40, .vl (.int .i64 (t.size : Int))), (41, .vl (.int .i64 (i : Int))), (87, .ro (v) 140 (.int .u32) (zs))]) (fun ⟨i, v, zs⟩ => PrI b32 r (byl t) i zs) (fun ⟨i, v, zs⟩ => t.size - i) (0, .slice none 0 0, []) (PrI.start b32 r (byl t)) ⟨rfl, rfl, rfl, rfl, rfl, rfl, rfl, rfl, rfl, trivial⟩ ?_
    rintro ⟨i, v, zs⟩ hP
    show SC _ _ _ _ [(0, .vl (.string t)), (1, .vl (.int .i64 (r))), (4, .nb (BI 31)), (5, .vl (.int .i64 0)), (6, .vl (.bool false)), (7, .vl (v)), (40, .vl (.int .i64 (t.size : Int))), (41, .vl (.int .i64 (i : Int))), (87, .ro (v) 140 (.int .u32) (zs))] _
    refine SC.seq ?_
    by_cases hi : (i : Int) < (t.size : Int)
    ·refine SC.region ?_
     refine PW.q2 (x := .tmp 41) (y := .tmp 40) (.bool true) rfl rfl rfl rfl rfl (fun ρ W h1 h2 => by exact r_lt h1 h2 (decide_eq_true hi)) ?_
     refine PW.nil (SX.then (SC.seq (SC.cond (t := true) rfl (SC.skip (SX.then (SC.seq (SC.block (SC.seq (SC.region (PW.move rfl rfl rfl rfl rfl (PW.assign rfl rfl rfl rfl rfl (PW.nil ?_))))))))))))
     refine SX.then (SC.seq (SC.region (PW.move rfl rfl rfl rfl rfl (PW.move rfl rfl rfl rfl rfl ?_))))
     refine PW.qn [(.tmp 44, .string t), (.tmp 45, .int .i64 (i : Int))] (.int .u8 (at0 (byl t) i)) rfl rfl rfl ⟨rfl, rfl, trivial⟩ (fun ρ W h => by obtain ⟨h1, h2, _⟩ := h; exact r_sidx h1 h2 (by omega)) ?_
     refine PW.call (r := .vl (.int .i64 (dv (at0 (byl t) i)))) rfl rfl rfl rfl rfl rfl (KV.st _) rfl (k_value (byl_byte t i).1 (byl_byte t i).2) ?_
     refine PW.assign rfl rfl rfl rfl rfl (PW.nil (SX.then (SC.seq (SC.seq ?_))))
     by_cases hd : dv (at0 (byl t) i) ≥ r
     ·refine SC.region ?_
      refine PW.move rfl rfl rfl rfl rfl (PW.move rfl rfl rfl rfl rfl ?_)
      refine PW.q2 (x := .tmp 48) (y := .tmp 49) (.bool true) rfl rfl rfl rfl rfl (fun ρ W h1 h2 => by exact r_ge h1 h2 (decide_eq_true hd)) ?_
      refine PW.nil (SX.then (SC.cond (t := true) rfl (SC.seq (SC.region ?_))))
      refine PW.val (r := .kw (KI (0))) rfl rfl rfl rfl (fun a W hf => ⟨.agg #[.bool false, .slice none 0 0], by go_simp, zeroI _ w W⟩) ?_
      refine PW.store (x := .tmp 51) (r := .kw (KI (0))) rfl rfl rfl rfl rfl rfl sh_I ?_
      refine PW.assign rfl rfl rfl rfl rfl (PW.nil (SX.then (SC.ret (SX.thenR (SX.blockR (SX.thenR (SX.thenR (SX.blockR (SX.thenR ?_)))))))))
      rw [form_bad (i := i) (by rw [byl_len]; omega) hd]
      exact SX.done2 (s := 4) (t := 5) (r := .vl (.int .i64 2)) (.inl rfl) rfl rfl rfl rfl
     ·refine SC.region ?_
      refine PW.move rfl rfl rfl rfl rfl (PW.move rfl rfl rfl rfl rfl ?_)
      refine PW.q2 (x := .tmp 48) (y := .tmp 49) (.bool false) rfl rfl rfl rfl rfl (fun ρ W h1 h2 => by exact r_ge h1 h2 (decide_eq_false hd)) ?_
      refine PW.nil (SX.then (SC.cond (t := false) rfl (SC.skip (SX.then (SC.seq (SC.region (PW.move rfl rfl rfl rfl rfl ?_)))))))
      refine PW.q1 (x := .tmp 52) (.int .u64 (dv (at0 (byl t) i))) rfl rfl rfl rfl (fun ρ W h1 => by exact r_i64u h1 (by have := dv_le (at0 (byl t) i); omega)) ?_
      refine PW.assign rfl rfl rfl rfl rfl (PW.nil (SX.then (SC.seq (SC.seq (SC.region (PW.move rfl rfl rfl rfl rfl ?_))))))
      refine PW.rlen (s := 54) 87 rfl rfl rfl rfl rfl (fun ρ W A c h => r_len h) ?_
      refine PW.move rfl rfl rfl rfl rfl (PW.nil (SX.then (SC.block ?_)))
      refine SC.loop (S := Nat × List Int × Int) (fun ⟨k, ys, cc⟩ => [(0, .vl (.string t)), (1, .vl (.int .i64 (r))), (4, .nb (BI 31)), (5, .vl (.int .i64 0)), (6, .vl (.bool false)), (7, .vl (v)), (8, .vl (.int .i64 (i : Int))), (10, .vl (.int .u64 (cc))), (40, .vl (.int .i64 (t.size : Int))), (41, .vl (.int .i64 (i : Int))), (54, .vl (v)), (55, .vl (.int .i64 (zs.length : Int))), (56, .vl (.int .i64 (k : Int))), (87, .ro (v) 140 (.int .u32) (ys))]) (fun ⟨k, ys, cc⟩ => PrJ b32 r (dv (at0 (byl t) i)) zs k ys cc) (fun ⟨k, ys, cc⟩ => zs.length - k) (0, zs, dv (at0 (byl t) i)) (PrJ.start hP.dg (dv_le _).1 (dv_le _).2) ⟨rfl, rfl, rfl, rfl, rfl, rfl, rfl, rfl, rfl, rfl, rfl, rfl, rfl, rfl, trivial⟩ ?_
      rintro ⟨k, ys, cc⟩ hJ
      show SC _ _ _ _ [(0, .vl (.string t)), (1, .vl (.int .i64 (r))), (4, .nb (BI 31)), (5, .vl (.int .i64 0)), (6, .vl (.bool false)), (7, .vl (v)), (8, .vl (.int .i64 (i : Int))), (10, .vl (.int .u64 (cc))), (40, .vl (.int .i64 (t.size : Int))), (41, .vl (.int .i64 (i : Int))), (54, .vl (v)), (55, .vl (.int .i64 (zs.length : Int))), (56, .vl (.int .i64 (k : Int))), (87, .ro (v) 140 (.int .u32) (ys))] _
      refine SC.seq ?_
      by_cases hk : (k : Int) < (zs.length : Int)
      ·refine SC.region ?_
       refine PW.q2 (x := .tmp 56) (y := .tmp 55) (.bool true) rfl rfl rfl rfl rfl (fun ρ W h1 h2 => by exact r_lt h1 h2 (decide_eq_true hk)) ?_
       refine PW.nil (SX.then (SC.seq (SC.cond (t := true) rfl (SC.skip (SX.then (SC.seq (SC.block (SC.seq (SC.region (PW.move rfl rfl rfl rfl rfl ?_))))))))))
       refine PW.ridx (i := k) 87 rfl rfl rfl rfl rfl rfl rfl (by have := hJ.len; omega) (fun ρ W g c h1 h2 => r_idx h1 h2 (by have := hJ.len; omega)) ?_
       refine PW.rget (i := k) 87 rfl rfl rfl rfl rfl rfl (by have := hJ.len; omega) r_l32 ?_
       refine PW.assign rfl rfl rfl rfl rfl (PW.assign rfl rfl rfl rfl rfl (PW.nil (SX.then (SC.seq (SC.region (PW.move rfl rfl rfl rfl rfl ?_))))))
       refine PW.q1 (x := .tmp 61) (.int .u64 (at0 ys k)) rfl rfl rfl rfl (fun ρ W h1 => by exact r_64 h1 (dg32 hJ.dg k)) ?_
       refine PW.move rfl rfl rfl rfl rfl ?_
       refine PW.q1 (x := .tmp 63) (.int .u64 (r)) rfl rfl rfl rfl (fun ρ W h1 => by exact r_i64u h1 (by omega)) ?_
       refine PW.q2 (x := .tmp 62) (y := .tmp 64) (.int .u64 (at0 ys k * r)) rfl rfl rfl rfl rfl (fun ρ W h1 h2 => by exact r_mul6 h1 h2 rfl (mulr (dg32 hJ.dg k) h)) ?_
       refine PW.move rfl rfl rfl rfl rfl ?_
       refine PW.q2 (x := .tmp 65) (y := .tmp 66) (.int .u64 (at0 ys k * r + cc)) rfl rfl rfl rfl rfl (fun ρ W h1 h2 => by exact r_add6 h1 h2 rfl (addr (dg32 hJ.dg k) h hJ.c0 hJ.c1)) ?_
       refine PW.assign rfl rfl rfl rfl rfl (PW.nil (SX.then (SC.region (PW.move rfl rfl rfl rfl rfl (PW.move rfl rfl rfl rfl rfl (PW.move rfl rfl rfl rfl rfl ?_))))))
       refine PW.q1 (x := .tmp 70) (.int .u32 ((at0 ys k * r + cc) % 4294967296)) rfl rfl rfl rfl (fun ρ W h1 => by exact r_32 h1) ?_
       refine PW.move rfl rfl rfl rfl rfl ?_
       refine PW.q2 (x := .tmp 72) (y := .const (.int .u64 32)) (.int .u64 ((at0 ys k * r + cc) / 4294967296)) rfl rfl rfl rfl rfl (fun ρ W h1 h2 => by exact r_dn32 h1 h2) ?_
       refine PW.ridx (i := k) 87 rfl rfl rfl rfl rfl rfl rfl (by have := hJ.len; omega) (fun ρ W g c h1 h2 => r_idx h1 h2 (by have := hJ.len; omega)) ?_
       refine PW.rput (i := k) (x := .tmp 71) (((at0 ys k * r + cc) % 4294967296)) 87 rfl rfl rfl rfl rfl (by have := hJ.len; omega) rfl rfl r_s32 ?_
       refine PW.assign rfl rfl rfl rfl rfl (PW.nil ?_)
       refine SX.blockN ?_
       refine SX.then (SC.region ?_)
       refine PW.q2 (x := .tmp 56) (y := .const (.int .i64 1)) (.int .i64 ((k + 1 : Nat))) rfl rfl rfl rfl rfl (fun ρ W h1 h2 => by exact r_add h1 h2 (by omega) (by have := hP.len; have := byl_len t; omega)) ?_
       refine PW.move rfl rfl rfl rfl rfl (PW.nil ?_)
       refine SX.back (k + 1, ys.set k ((at0 ys k * r + cc) % 4294967296), (at0 ys k * r + cc) / 4294967296) ?_ ?_ ?_
       ·exact (hJ.step (by decide) (by omega) h.1 h.2 rfl hP.dg)
       ·exact (show zs.length - (k + 1) < zs.length - k by omega)
       ·exact ⟨rfl, rfl, rfl, rfl, rfl, rfl, rfl, rfl, rfl, rfl, rfl, rfl, rfl, rfl, trivial⟩
      ·obtain rfl : k = zs.length := by have := hJ.le; omega
       refine SC.region ?_
       refine PW.q2 (x := .tmp 56) (y := .tmp 55) (.bool false) rfl rfl rfl rfl rfl (fun ρ W h1 h2 => by exact r_lt h1 h2 (decide_eq_false hk)) ?_
       refine PW.nil (SX.then (SC.seq (SC.cond (t := false) rfl (SC.exit (SX.thenE (SX.thenE (SX.blockE (SX.then (SC.seq ?_)))))))))
       by_cases hc : 0 < cc
       ·refine SC.region ?_
        refine PW.move rfl rfl rfl rfl rfl ?_
        refine PW.q2 (x := .tmp 76) (y := .const (.int .u64 0)) (.bool true) rfl rfl rfl rfl rfl (fun ρ W h1 h2 => by exact r_gt6 h1 h2 (decide_eq_true hc)) ?_
        refine PW.nil (SX.then (SC.cond (t := true) rfl (SC.region (PW.move rfl rfl rfl rfl rfl (PW.move rfl rfl rfl rfl rfl ?_)))))
        refine PW.q1 (x := .tmp 79) (.int .u32 (cc)) rfl rfl rfl rfl (fun ρ W h1 => by exact r_32z h1 (by have := hJ.c0; have := hJ.c1; omega)) ?_
        refine PW.app (K := 87) (f := .int .u32) [(cc)] rfl rfl rfl (fun a W hf => r_b1 (hf.vl (s := 80) rfl)) rfl rfl rfl rfl rfl rfl rfl rfl Tryz.underlying22 info_u32 rfl (fun _ => rfl) (by have l1 := hJ.len; have l2 := hP.len; have l3 := byl_len t; have l4 := hP.le; unfold maxLen; show _ + 1 ≤ _; omega) (by have l1 := hJ.len; have l2 := hP.len; have l3 := byl_len t; have l4 := hP.le; show (_ + 1) * 4 ≤ _; omega) rfl fun vq2 uq2 => ?_
        refine PW.assign rfl rfl rfl rfl rfl (PW.nil ?_)
        refine SX.blockN ?_
        refine SX.then (SC.region ?_)
        refine PW.q2 (x := .tmp 41) (y := .const (.int .i64 1)) (.int .i64 ((i + 1 : Nat))) rfl rfl rfl rfl rfl (fun ρ W h1 h2 => by exact r_add h1 h2 (by omega) (by omega)) ?_
        refine PW.move rfl rfl rfl rfl rfl (PW.nil ?_)
        refine SX.back (i + 1, vq2, ys ++ [(cc)]) ?_ ?_ ?_
        ·exact (hP.yes (by decide) (by rw [byl_len]; omega) (by omega) hJ)
        ·exact (show t.size - (i + 1) < t.size - i by omega)
        ·exact ⟨rfl, rfl, rfl, rfl, rfl, rfl, rfl, rfl, rfl, trivial⟩
       ·obtain rfl : cc = 0 := by have := hJ.c0; omega
        refine SC.region (PW.move rfl rfl rfl rfl rfl ?_)
        refine PW.q2 (x := .tmp 76) (y := .const (.int .u64 0)) (.bool false) rfl rfl rfl rfl rfl (fun ρ W h1 h2 => by exact r_gt6 h1 h2 (decide_eq_false hc)) ?_
        refine PW.nil (SX.then (SC.cond (t := false) rfl (SC.skip ?_)))
        refine SX.blockN ?_
        refine SX.then (SC.region ?_)
        refine PW.q2 (x := .tmp 41) (y := .const (.int .i64 1)) (.int .i64 ((i + 1 : Nat))) rfl rfl rfl rfl rfl (fun ρ W h1 h2 => by exact r_add h1 h2 (by omega) (by omega)) ?_
        refine PW.move rfl rfl rfl rfl rfl (PW.nil ?_)
        refine SX.back (i + 1, v, ys) ?_ ?_ ?_
        ·exact (hP.no (by rw [byl_len]; omega) (by omega) hJ)
        ·exact (show t.size - (i + 1) < t.size - i by omega)
        ·exact ⟨rfl, rfl, rfl, rfl, rfl, rfl, rfl, rfl, rfl, trivial⟩
    ·obtain rfl : i = t.size := by have := hP.le; have := byl_len t; omega
     refine SC.region ?_
     refine PW.q2 (x := .tmp 41) (y := .tmp 40) (.bool false) rfl rfl rfl rfl rfl (fun ρ W h1 h2 => by exact r_lt h1 h2 (decide_eq_false hi)) ?_
     refine PW.nil (SX.then (SC.seq (SC.cond (t := false) rfl (SC.exit (SX.thenE (SX.thenE (SX.blockE (SX.then (SC.seq (SC.region (PW.move rfl rfl rfl rfl rfl (PW.move rfl rfl rfl rfl rfl ?_))))))))))))
     refine PW.callG (r := .kw (KI (sg false (pv r 0 (byl t))))) ce_made rfl rfl rfl rfl rfl (KI.st _) rfl (fun a W hf => by have h1 := hf.vl (s := 84) rfl; have h2 := hf.vl (s := 85) rfl; have own : OwF W _ _ (.int .u32) v zs := hf.ho 87 _ rfl; obtain ⟨A4, c4, e4, hc4, rd4⟩ := Own.rd own; show Calls Tryz.prog _ #[a.tmps.getD 84 undef, a.tmps.getD 85 undef] W _; rw [h1, h2, e4, show pv r 0 (byl t) = lv b32 zs by rw [hP.lv, List.take_of_length_le (by rw [byl_len]; exact Nat.le_refl _)]]; exact made_k rd4 hc4 hP.dg) ?_
     refine PW.store (x := .tmp 86) (r := .kw (KI (sg false (pv r 0 (byl t))))) rfl rfl rfl rfl rfl rfl sh_I ?_
     refine PW.assign rfl rfl rfl rfl rfl (PW.nil (SX.then (SC.ret ?_)))
     rw [form_ok (by rw [byl_len]; exact he) (fun j hj => hP.ok j (by rw [byl_len] at hj; exact hj))]
     rw [show decide (at0 (byl s) 0 = 45) = false by exact decide_eq_false (fun h9 => hm ⟨pos_of_at0 h9 (by decide), h9⟩)]
     exact SX.done2 (s := 4) (t := 5) (r := .vl (.int .i64 0)) (.inl rfl) rfl rfl rfl rfl
  ·refine SC.region ?_
   refine PW.move rfl rfl rfl rfl rfl (PW.move rfl rfl rfl rfl rfl (PW.move rfl rfl rfl rfl rfl ?_))
   refine PW.call (r := .vl (.bool false)) rfl rfl rfl rfl rfl rfl (KV.st _) rfl (k_hasPrefix s ⟨#[43]⟩ ((pre_one s 43).trans (decide_eq_false hp))) ?_
   refine PW.pick (t := false) rfl rfl rfl rfl rfl rfl ?_
   refine PW.nil (SX.then (SC.cond (t := false) rfl (SC.skip (SX.then (SC.seq (SC.seq ?_))))))
   obtain ⟨t, ht⟩ : ∃ t, t = s := ⟨_, rfl⟩
   subst ht
   have htl : t.size ≤ 20000 := by omega
   rw [parse_form (b := byl t) h (by rw [byl_len]; omega) ((if_neg (fun h9 => h9.elim (fun h9 => hm ⟨pos_of_at0 h9 (by decide), h9⟩) (fun h9 => hp ⟨pos_of_at0 h9 (by decide), h9⟩))).symm)]
   by_cases he : t.size = 0
   ·refine SC.region ?_
    refine PW.move rfl rfl rfl rfl rfl ?_
    refine PW.q2 (x := .tmp 36) (y := .const (.string ⟨#[]⟩)) (.bool true) rfl rfl rfl rfl rfl (fun ρ W h1 h2 => by exact r_seq h1 h2 ((empty_eq t).trans (decide_eq_true he))) ?_
    refine PW.nil (SX.then (SC.cond (t := true) rfl (SC.seq (SC.region ?_))))
    refine PW.val (r := .kw (KI (0))) rfl rfl rfl rfl (fun a W hf => ⟨.agg #[.bool false, .slice none 0 0], by go_simp, zeroI _ w W⟩) ?_
    refine PW.store (x := .tmp 38) (r := .kw (KI (0))) rfl rfl rfl rfl rfl rfl sh_I ?_
    refine PW.assign rfl rfl rfl rfl rfl (PW.nil (SX.then (SC.ret (SX.thenR ?_))))
    rw [form_empty (z := 0) (by rw [byl_len]; exact he)]
    exact SX.done2 (s := 4) (t := 5) (r := .vl (.int .i64 2)) (.inl rfl) rfl rfl rfl rfl
   ·refine SC.region ?_
    refine PW.move rfl rfl rfl rfl rfl ?_
    refine PW.q2 (x := .tmp 36) (y := .const (.string ⟨#[]⟩)) (.bool false) rfl rfl rfl rfl rfl (fun ρ W h1 h2 => by exact r_seq h1 h2 ((empty_eq t).trans (decide_eq_false he))) ?_
    refine PW.nil (SX.then (SC.cond (t := false) rfl (SC.skip (SX.then (SC.seq (SC.region (PW.assign rfl rfl rfl rfl rfl (PW.nil (SX.then (SC.seq (SC.seq (SC.region (PW.move rfl rfl rfl rfl rfl ?_)))))))))))))
    refine PW.qn [(.tmp 39, .string t)] (.int .i64 (t.size : Int)) rfl rfl rfl ⟨rfl, trivial⟩ (fun ρ W h => by obtain ⟨h1, _⟩ := h; exact r_slen h1) ?_
    refine PW.move rfl rfl rfl rfl rfl (PW.nil (SX.then (SC.block ?_)))
    refine SC.weak (fun a W hf => Fr.nilrow 87 140 (.int .u32) hf) ?_
    refine SC.loop (S := Nat × Value × List Int) (fun ⟨i, v, zs⟩ => [(0, .vl (.string t)), (1, .vl (.int .i64 (r))), (4, .nb (BI 31)), (5, .vl (.int .i64 0)), (6, .vl (.bool false)), (7, .vl (v)), (40, .vl (.int .i64 (t.size : Int))), (41, .vl (.int .i64 (i : Int))), (87, .ro (v) 140 (.int .u32) (zs))]) (fun ⟨i, v, zs⟩ => PrI b32 r (byl t) i zs) (fun ⟨i, v, zs⟩ => t.size - i) (0, .slice none 0 0, []) (PrI.start b32 r (byl t)) ⟨rfl, rfl, rfl, rfl, rfl, rfl, rfl, rfl, rfl, trivial⟩ ?_
    rintro ⟨i, v, zs⟩ hP
    show SC _ _ _ _ [(0, .vl (.string t)), (1, .vl (.int .i64 (r))), (4, .nb (BI 31)), (5, .vl (.int .i64 0)), (6, .vl (.bool false)), (7, .vl (v)), (40, .vl (.int .i64 (t.size : Int))), (41, .vl (.int .i64 (i : Int))), (87, .ro (v) 140 (.int .u32) (zs))] _
    refine SC.seq ?_
    by_cases hi : (i : Int) < (t.size : Int)
    ·refine SC.region ?_
     refine PW.q2 (x := .tmp 41) (y := .tmp 40) (.bool true) rfl rfl rfl rfl rfl (fun ρ W h1 h2 => by exact r_lt h1 h2 (decide_eq_true hi)) ?_
     refine PW.nil (SX.then (SC.seq (SC.cond (t := true) rfl (SC.skip (SX.then (SC.seq (SC.block (SC.seq (SC.region (PW.move rfl rfl rfl rfl rfl (PW.assign rfl rfl rfl rfl rfl (PW.nil ?_))))))))))))
     refine SX.then (SC.seq (SC.region (PW.move rfl rfl rfl rfl rfl (PW.move rfl rfl rfl rfl rfl ?_))))
     refine PW.qn [(.tmp 44, .string t), (.tmp 45, .int .i64 (i : Int))] (.int .u8 (at0 (byl t) i)) rfl rfl rfl ⟨rfl, rfl, trivial⟩ (fun ρ W h => by obtain ⟨h1, h2, _⟩ := h; exact r_sidx h1 h2 (by omega)) ?_
     refine PW.call (r := .vl (.int .i64 (dv (at0 (byl t) i)))) rfl rfl rfl rfl rfl rfl (KV.st _) rfl (k_value (byl_byte t i).1 (byl_byte t i).2) ?_
     refine PW.assign rfl rfl rfl rfl rfl (PW.nil (SX.then (SC.seq (SC.seq ?_))))
     by_cases hd : dv (at0 (byl t) i) ≥ r
     ·refine SC.region ?_
      refine PW.move rfl rfl rfl rfl rfl (PW.move rfl rfl rfl rfl rfl ?_)
      refine PW.q2 (x := .tmp 48) (y := .tmp 49) (.bool true) rfl rfl rfl rfl rfl (fun ρ W h1 h2 => by exact r_ge h1 h2 (decide_eq_true hd)) ?_
      refine PW.nil (SX.then (SC.cond (t := true) rfl (SC.seq (SC.region ?_))))
      refine PW.val (r := .kw (KI (0))) rfl rfl rfl rfl (fun a W hf => ⟨.agg #[.bool false, .slice none 0 0], by go_simp, zeroI _ w W⟩) ?_
      refine PW.store (x := .tmp 51) (r := .kw (KI (0))) rfl rfl rfl rfl rfl rfl sh_I ?_
      refine PW.assign rfl rfl rfl rfl rfl (PW.nil (SX.then (SC.ret (SX.thenR (SX.blockR (SX.thenR (SX.thenR (SX.blockR (SX.thenR ?_)))))))))
      rw [form_bad (i := i) (by rw [byl_len]; omega) hd]
      exact SX.done2 (s := 4) (t := 5) (r := .vl (.int .i64 2)) (.inl rfl) rfl rfl rfl rfl
     ·refine SC.region ?_
      refine PW.move rfl rfl rfl rfl rfl (PW.move rfl rfl rfl rfl rfl ?_)
      refine PW.q2 (x := .tmp 48) (y := .tmp 49) (.bool false) rfl rfl rfl rfl rfl (fun ρ W h1 h2 => by exact r_ge h1 h2 (decide_eq_false hd)) ?_
      refine PW.nil (SX.then (SC.cond (t := false) rfl (SC.skip (SX.then (SC.seq (SC.region (PW.move rfl rfl rfl rfl rfl ?_)))))))
      refine PW.q1 (x := .tmp 52) (.int .u64 (dv (at0 (byl t) i))) rfl rfl rfl rfl (fun ρ W h1 => by exact r_i64u h1 (by have := dv_le (at0 (byl t) i); omega)) ?_
      refine PW.assign rfl rfl rfl rfl rfl (PW.nil (SX.then (SC.seq (SC.seq (SC.region (PW.move rfl rfl rfl rfl rfl ?_))))))
      refine PW.rlen (s := 54) 87 rfl rfl rfl rfl rfl (fun ρ W A c h => r_len h) ?_
      refine PW.move rfl rfl rfl rfl rfl (PW.nil (SX.then (SC.block ?_)))
      refine SC.loop (S := Nat × List Int × Int) (fun ⟨k, ys, cc⟩ => [(0, .vl (.string t)), (1, .vl (.int .i64 (r))), (4, .nb (BI 31)), (5, .vl (.int .i64 0)), (6, .vl (.bool false)), (7, .vl (v)), (8, .vl (.int .i64 (i : Int))), (10, .vl (.int .u64 (cc))), (40, .vl (.int .i64 (t.size : Int))), (41, .vl (.int .i64 (i : Int))), (54, .vl (v)), (55, .vl (.int .i64 (zs.length : Int))), (56, .vl (.int .i64 (k : Int))), (87, .ro (v) 140 (.int .u32) (ys))]) (fun ⟨k, ys, cc⟩ => PrJ b32 r (dv (at0 (byl t) i)) zs k ys cc) (fun ⟨k, ys, cc⟩ => zs.length - k) (0, zs, dv (at0 (byl t) i)) (PrJ.start hP.dg (dv_le _).1 (dv_le _).2) ⟨rfl, rfl, rfl, rfl, rfl, rfl, rfl, rfl, rfl, rfl, rfl, rfl, rfl, rfl, trivial⟩ ?_
      rintro ⟨k, ys, cc⟩ hJ
      show SC _ _ _ _ [(0, .vl (.string t)), (1, .vl (.int .i64 (r))), (4, .nb (BI 31)), (5, .vl (.int .i64 0)), (6, .vl (.bool false)), (7, .vl (v)), (8, .vl (.int .i64 (i : Int))), (10, .vl (.int .u64 (cc))), (40, .vl (.int .i64 (t.size : Int))), (41, .vl (.int .i64 (i : Int))), (54, .vl (v)), (55, .vl (.int .i64 (zs.length : Int))), (56, .vl (.int .i64 (k : Int))), (87, .ro (v) 140 (.int .u32) (ys))] _
      refine SC.seq ?_
      by_cases hk : (k : Int) < (zs.length : Int)
      ·refine SC.region ?_
       refine PW.q2 (x := .tmp 56) (y := .tmp 55) (.bool true) rfl rfl rfl rfl rfl (fun ρ W h1 h2 => by exact r_lt h1 h2 (decide_eq_true hk)) ?_
       refine PW.nil (SX.then (SC.seq (SC.cond (t := true) rfl (SC.skip (SX.then (SC.seq (SC.block (SC.seq (SC.region (PW.move rfl rfl rfl rfl rfl ?_))))))))))
       refine PW.ridx (i := k) 87 rfl rfl rfl rfl rfl rfl rfl (by have := hJ.len; omega) (fun ρ W g c h1 h2 => r_idx h1 h2 (by have := hJ.len; omega)) ?_
       refine PW.rget (i := k) 87 rfl rfl rfl rfl rfl rfl (by have := hJ.len; omega) r_l32 ?_
       refine PW.assign rfl rfl rfl rfl rfl (PW.assign rfl rfl rfl rfl rfl (PW.nil (SX.then (SC.seq (SC.region (PW.move rfl rfl rfl rfl rfl ?_))))))
       refine PW.q1 (x := .tmp 61) (.int .u64 (at0 ys k)) rfl rfl rfl rfl (fun ρ W h1 => by exact r_64 h1 (dg32 hJ.dg k)) ?_
       refine PW.move rfl rfl rfl rfl rfl ?_
       refine PW.q1 (x := .tmp 63) (.int .u64 (r)) rfl rfl rfl rfl (fun ρ W h1 => by exact r_i64u h1 (by omega)) ?_
       refine PW.q2 (x := .tmp 62) (y := .tmp 64) (.int .u64 (at0 ys k * r)) rfl rfl rfl rfl rfl (fun ρ W h1 h2 => by exact r_mul6 h1 h2 rfl (mulr (dg32 hJ.dg k) h)) ?_
       refine PW.move rfl rfl rfl rfl rfl ?_
       refine PW.q2 (x := .tmp 65) (y := .tmp 66) (.int .u64 (at0 ys k * r + cc)) rfl rfl rfl rfl rfl (fun ρ W h1 h2 => by exact r_add6 h1 h2 rfl (addr (dg32 hJ.dg k) h hJ.c0 hJ.c1)) ?_
       refine PW.assign rfl rfl rfl rfl rfl (PW.nil (SX.then (SC.region (PW.move rfl rfl rfl rfl rfl (PW.move rfl rfl rfl rfl rfl (PW.move rfl rfl rfl rfl rfl ?_))))))
       refine PW.q1 (x := .tmp 70) (.int .u32 ((at0 ys k * r + cc) % 4294967296)) rfl rfl rfl rfl (fun ρ W h1 => by exact r_32 h1) ?_
       refine PW.move rfl rfl rfl rfl rfl ?_
       refine PW.q2 (x := .tmp 72) (y := .const (.int .u64 32)) (.int .u64 ((at0 ys k * r + cc) / 4294967296)) rfl rfl rfl rfl rfl (fun ρ W h1 h2 => by exact r_dn32 h1 h2) ?_
       refine PW.ridx (i := k) 87 rfl rfl rfl rfl rfl rfl rfl (by have := hJ.len; omega) (fun ρ W g c h1 h2 => r_idx h1 h2 (by have := hJ.len; omega)) ?_
       refine PW.rput (i := k) (x := .tmp 71) (((at0 ys k * r + cc) % 4294967296)) 87 rfl rfl rfl rfl rfl (by have := hJ.len; omega) rfl rfl r_s32 ?_
       refine PW.assign rfl rfl rfl rfl rfl (PW.nil ?_)
       refine SX.blockN ?_
       refine SX.then (SC.region ?_)
       refine PW.q2 (x := .tmp 56) (y := .const (.int .i64 1)) (.int .i64 ((k + 1 : Nat))) rfl rfl rfl rfl rfl (fun ρ W h1 h2 => by exact r_add h1 h2 (by omega) (by have := hP.len; have := byl_len t; omega)) ?_
       refine PW.move rfl rfl rfl rfl rfl (PW.nil ?_)
       refine SX.back (k + 1, ys.set k ((at0 ys k * r + cc) % 4294967296), (at0 ys k * r + cc) / 4294967296) ?_ ?_ ?_
       ·exact (hJ.step (by decide) (by omega) h.1 h.2 rfl hP.dg)
       ·exact (show zs.length - (k + 1) < zs.length - k by omega)
       ·exact ⟨rfl, rfl, rfl, rfl, rfl, rfl, rfl, rfl, rfl, rfl, rfl, rfl, rfl, rfl, trivial⟩
      ·obtain rfl : k = zs.length := by have := hJ.le; omega
       refine SC.region ?_
       refine PW.q2 (x := .tmp 56) (y := .tmp 55) (.bool false) rfl rfl rfl rfl rfl (fun ρ W h1 h2 => by exact r_lt h1 h2 (decide_eq_false hk)) ?_
       refine PW.nil (SX.then (SC.seq (SC.cond (t := false) rfl (SC.exit (SX.thenE (SX.thenE (SX.blockE (SX.then (SC.seq ?_)))))))))
       by_cases hc : 0 < cc
       ·refine SC.region ?_
        refine PW.move rfl rfl rfl rfl rfl ?_
        refine PW.q2 (x := .tmp 76) (y := .const (.int .u64 0)) (.bool true) rfl rfl rfl rfl rfl (fun ρ W h1 h2 => by exact r_gt6 h1 h2 (decide_eq_true hc)) ?_
        refine PW.nil (SX.then (SC.cond (t := true) rfl (SC.region (PW.move rfl rfl rfl rfl rfl (PW.move rfl rfl rfl rfl rfl ?_)))))
        refine PW.q1 (x := .tmp 79) (.int .u32 (cc)) rfl rfl rfl rfl (fun ρ W h1 => by exact r_32z h1 (by have := hJ.c0; have := hJ.c1; omega)) ?_
        refine PW.app (K := 87) (f := .int .u32) [(cc)] rfl rfl rfl (fun a W hf => r_b1 (hf.vl (s := 80) rfl)) rfl rfl rfl rfl rfl rfl rfl rfl Tryz.underlying22 info_u32 rfl (fun _ => rfl) (by have l1 := hJ.len; have l2 := hP.len; have l3 := byl_len t; have l4 := hP.le; unfold maxLen; show _ + 1 ≤ _; omega) (by have l1 := hJ.len; have l2 := hP.len; have l3 := byl_len t; have l4 := hP.le; show (_ + 1) * 4 ≤ _; omega) rfl fun vq3 uq3 => ?_
        refine PW.assign rfl rfl rfl rfl rfl (PW.nil ?_)
        refine SX.blockN ?_
        refine SX.then (SC.region ?_)
        refine PW.q2 (x := .tmp 41) (y := .const (.int .i64 1)) (.int .i64 ((i + 1 : Nat))) rfl rfl rfl rfl rfl (fun ρ W h1 h2 => by exact r_add h1 h2 (by omega) (by omega)) ?_
        refine PW.move rfl rfl rfl rfl rfl (PW.nil ?_)
        refine SX.back (i + 1, vq3, ys ++ [(cc)]) ?_ ?_ ?_
        ·exact (hP.yes (by decide) (by rw [byl_len]; omega) (by omega) hJ)
        ·exact (show t.size - (i + 1) < t.size - i by omega)
        ·exact ⟨rfl, rfl, rfl, rfl, rfl, rfl, rfl, rfl, rfl, trivial⟩
       ·obtain rfl : cc = 0 := by have := hJ.c0; omega
        refine SC.region (PW.move rfl rfl rfl rfl rfl ?_)
        refine PW.q2 (x := .tmp 76) (y := .const (.int .u64 0)) (.bool false) rfl rfl rfl rfl rfl (fun ρ W h1 h2 => by exact r_gt6 h1 h2 (decide_eq_false hc)) ?_
        refine PW.nil (SX.then (SC.cond (t := false) rfl (SC.skip ?_)))
        refine SX.blockN ?_
        refine SX.then (SC.region ?_)
        refine PW.q2 (x := .tmp 41) (y := .const (.int .i64 1)) (.int .i64 ((i + 1 : Nat))) rfl rfl rfl rfl rfl (fun ρ W h1 h2 => by exact r_add h1 h2 (by omega) (by omega)) ?_
        refine PW.move rfl rfl rfl rfl rfl (PW.nil ?_)
        refine SX.back (i + 1, v, ys) ?_ ?_ ?_
        ·exact (hP.no (by rw [byl_len]; omega) (by omega) hJ)
        ·exact (show t.size - (i + 1) < t.size - i by omega)
        ·exact ⟨rfl, rfl, rfl, rfl, rfl, rfl, rfl, rfl, rfl, trivial⟩
    ·obtain rfl : i = t.size := by have := hP.le; have := byl_len t; omega
     refine SC.region ?_
     refine PW.q2 (x := .tmp 41) (y := .tmp 40) (.bool false) rfl rfl rfl rfl rfl (fun ρ W h1 h2 => by exact r_lt h1 h2 (decide_eq_false hi)) ?_
     refine PW.nil (SX.then (SC.seq (SC.cond (t := false) rfl (SC.exit (SX.thenE (SX.thenE (SX.blockE (SX.then (SC.seq (SC.region (PW.move rfl rfl rfl rfl rfl (PW.move rfl rfl rfl rfl rfl ?_))))))))))))
     refine PW.callG (r := .kw (KI (sg false (pv r 0 (byl t))))) ce_made rfl rfl rfl rfl rfl (KI.st _) rfl (fun a W hf => by have h1 := hf.vl (s := 84) rfl; have h2 := hf.vl (s := 85) rfl; have own : OwF W _ _ (.int .u32) v zs := hf.ho 87 _ rfl; obtain ⟨A4, c4, e4, hc4, rd4⟩ := Own.rd own; show Calls Tryz.prog _ #[a.tmps.getD 84 undef, a.tmps.getD 85 undef] W _; rw [h1, h2, e4, show pv r 0 (byl t) = lv b32 zs by rw [hP.lv, List.take_of_length_le (by rw [byl_len]; exact Nat.le_refl _)]]; exact made_k rd4 hc4 hP.dg) ?_
     refine PW.store (x := .tmp 86) (r := .kw (KI (sg false (pv r 0 (byl t))))) rfl rfl rfl rfl rfl rfl sh_I ?_
     refine PW.assign rfl rfl rfl rfl rfl (PW.nil (SX.then (SC.ret ?_)))
     rw [form_ok (by rw [byl_len]; exact he) (fun j hj => hP.ok j (by rw [byl_len] at hj; exact hj))]
     rw [show decide (at0 (byl t) 0 = 45) = false by exact decide_eq_false (fun h9 => hm ⟨pos_of_at0 h9 (by decide), h9⟩)]
     exact SX.done2 (s := 4) (t := 5) (r := .vl (.int .i64 0)) (.inl rfl) rfl rfl rfl rfl
theorem k_parse {s : ByteArray} {r : Int} : CallOk 88 [KV (.string s), KV (.int .i64 (r))] (KPI (parseR r (byl s))) := by
 by_cases h : 2 ≤ r ∧ r ≤ 36
 ·by_cases hl : 20000 < s.size
  ·exact k_parse_long h hl
  ·exact k_parse_ok h hl
 ·exact k_parse_radix h
end Go.Proofs.YthpjmhhfcechmaaGreat.Sy
/- The reference's Digit, Parse by rules. -/
namespace Go.Proofs.YthpjmhhfcechmaaGreat.Sy
open Go Go.RowKit Ma
end Go.Proofs.YthpjmhhfcechmaaGreat.Sy
/- The reference's Floor, Shift by rules. -/
namespace Go.Proofs.YthpjmhhfcechmaaGreat.Sy
open Go Go.RowKit Ma
end Go.Proofs.YthpjmhhfcechmaaGreat.Sy
/- The reference's Text by rules. -/
namespace Go.Proofs.YthpjmhhfcechmaaGreat.Sy
open Go Go.RowKit Ma
end Go.Proofs.YthpjmhhfcechmaaGreat.Sy
/- Simplest, Cut, Parse, Text of fractions by rules. -/
namespace Go.Proofs.YthpjmhhfcechmaaGreat.Sy
open Go Go.RowKit Ma
theorem k_text {x r : Int} {a : Nat} (X : bd a x) (ha : a ≤ 300000) (h : 2 ≤ r ∧ r ≤ 36) : CallOk 85 [KI x, KV (.int .i64 r)] (K2 (KV (.string (tstr r x))) (KV (.int .i64 0))) :=
 call2 (fun args W => by go_simp) fun W u v ⟨n, A, l, c, e1, h1⟩ e2 => by
  subst e1
  obtain rfl : v = _ := e2
  refine (text_ok r h.1 h.2 h1 (by have := h1.le X ha; omega)).mono fun e W' ⟨v, q1, q2, q3⟩ => ⟨v, q1, ?_, q3⟩
  obtain ⟨a, b, rfl, ⟨s, rfl, hs⟩, hb⟩ := q2
  exact ⟨_, _, rfl, congrArg Value.string (tstr_eq h.1 hs), hb⟩
theorem pv_lt {r : Int} (hr : 2 ≤ r) (hr2 : r ≤ 36) : ∀ (l : List Int) (v : Int), 0 ≤ v → (∀ c ∈ l, dv c < r) → 0 ≤ pv r v l ∧ pv r v l < (v + 1) * 64 ^ l.length
 | [], v, h, _ => by simp [pv]; omega
 | c :: l, v, h, hd => by
  have a1 := dv_le c
  have a2 := hd c List.mem_cons_self
  have a3 : v * r ≤ v * 63 := Int.mul_le_mul_of_nonneg_left (by omega) h
  have a4 : 0 ≤ v * r := Int.mul_nonneg h (by omega)
  have ⟨b1, b2⟩ := pv_lt hr hr2 l (v * r + dv c) (by omega) fun x hx => hd x (List.mem_cons_of_mem _ hx)
  refine ⟨b1, Int.lt_of_lt_of_le b2 ?_⟩
  rw [List.length_cons, Int.pow_succ, Int.mul_comm _ (64 : Int), ← Int.mul_assoc]
  exact Int.mul_le_mul_of_nonneg_right (by omega) (Int.le_of_lt (Int.pow_pos (by decide)))
theorem parse_err {r : Int} {s : List Int} (h : ¬ ∃ z, parseR r s = .ok z) : ∃ e, parseR r s = .error e := by
 cases e0 : parseR r s with
 | ok z => exact absurd ⟨z, e0⟩ h
 | error e => exact ⟨e, rfl⟩
theorem ex31v {v : Value} {k1 k3 : Know} : Ex (K3 k1 (KV v) k3) 1 (.vl v) := fun u W ⟨v1, v2, v3, e, h1, h2, h3⟩ => ⟨_, v2, e, rfl, h2⟩
theorem bsz1 : (⟨#[47]⟩ : ByteArray).size = 1 := rfl
def cutI (s : ByteArray) : Int := Lib.indexByte s.data.toList 47
theorem cut_cases (s : ByteArray) : cutI s = -1 ∨ ∃ i : Nat, cutI s = (i : Int) ∧ i < s.size := by
 have h := Lib.indexByte_ge s.data.toList 47
 by_cases e : cutI s = -1
 ·exact .inl e
 ·right
  have h0 : 0 ≤ cutI s := by unfold cutI at *; omega
  refine ⟨(cutI s).toNat, (Int.toNat_of_nonneg h0).symm, ?_⟩
  have h1 : Lib.indexByte s.data.toList 47 = ((cutI s).toNat : Int) := (Int.toNat_of_nonneg h0).symm
  have := (List.getElem?_eq_some_iff.1 (Lib.indexByte_some h1).1).1
  simpa using this
theorem ext_size (s : ByteArray) (a b : Nat) : (s.extract a b).size = min b s.size - a := by simp
theorem k_index1 {s : ByteArray} {r : Int} (e : cutI s = r) : CallOk 151 [KV (.string s), KV (.string ⟨#[47]⟩)] (KV (.int .i64 r)) :=
 call2 (fun args W => by go_simp) fun W u v e1 e2 => by
  obtain rfl : u = _ := e1
  obtain rfl : v = _ := e2
  subst e
  exact (Tryz.stringslite_Index_one s 47 W).mono fun e W' ⟨e1, e2⟩ => ⟨_, e1, rfl, e2 ▸ Nw.refl _⟩
theorem r_sto {x y : Operand} {dst : Option Tmp} {ty : TypeId} {pos : String} {after : Array Edge} {guard : Option (Nat × Bool)} {ρ : Operand → Value} {W : World} {s : ByteArray} {p : Nat} (h1 : ρ x = .string s) (h2 : ρ y = .int .i64 (p : Int)) (hp : p ≤ s.size) : (execOp ρ ⟨dst, .slice 9 x none (some y) none, ty, pos, after, guard⟩).run Tryz.prog W = .ok (.value (.string (s.extract 0 p))) W := by
 go_simp
section
variable {x y : Operand} {dst : Option Tmp} {ty : TypeId} {pos : String} {after : Array Edge} {guard : Option (Nat × Bool)} {ρ : Operand → Value} {W : World} {a b : Int}
theorem r_neE (h1 : ρ x = .int .i64 a) (h2 : ρ y = .int .i64 b) (e : a ≠ b) : (execOp ρ ⟨dst, .binOp .neq 39 x y 39, ty, pos, after, guard⟩).run Tryz.prog W = .ok (.value (.bool true)) W := by
 go_simp
end
theorem SX.done3v {fn : Func} {B N : Nat} {w0 : World} {fr : List (Nat × AV)} {e : Exit} {s t u : Nat} {v1 v2 v3 : Value} (he : e = .ret ∨ e = .normal) (hr : fn.results = #[.tmp s, .tmp t, .tmp u]) (hs : look fr s = some (.vl v1)) (ht : look fr t = some (.vl v2)) (hu : look fr u = some (.vl v3)) (hB : B = w0.heap.size) : SX B N w0 e fr (bodyPost Tryz.prog fn (Ret w0 (K3 (KV v1) (KV v2) (KV v3)))) := fun a W hf => by
 have h1 : a.tmps.getD s undef = v1 := hf.ho s _ hs
 have h2 : a.tmps.getD t undef = v2 := hf.ho t _ ht
 have h3 : a.tmps.getD u undef = v3 := hf.ho u _ hu
 have hrun : (results fn a.tmps).run Tryz.prog W = .ok (.tuple #[v1, v2, v3]) W := by
  have e1 : a.tmps[s]?.getD undef = v1 := by simpa [Array.getD_eq_getD_getElem?] using h1
  have e2 : a.tmps[t]?.getD undef = v2 := by simpa [Array.getD_eq_getD_getElem?] using h2
  have e3 : a.tmps[u]?.getD undef = v3 := by simpa [Array.getD_eq_getD_getElem?] using h3
  unfold results
  simp [hr, go_sem, e1, e2, e3]
 have key : a.defers = [] ∧ ∃ v, (results fn a.tmps).run Tryz.prog W = .ok v W ∧ Ret w0 (K3 (KV v1) (KV v2) (KV v3)) (.returned v) W :=
  ⟨hf.df, _, hrun, ⟨_, rfl, ⟨v1, v2, v3, rfl, rfl, rfl, rfl⟩, by have := hf.be; rw [hB] at this; exact this⟩⟩
 rcases he with rfl | rfl <;> exact key
theorem SX.done2v {fn : Func} {B N : Nat} {w0 : World} {fr : List (Nat × AV)} {e : Exit} {s t : Nat} {v1 v2 : Value} (he : e = .ret ∨ e = .normal) (hr : fn.results = #[.tmp s, .tmp t]) (hs : look fr s = some (.vl v1)) (ht : look fr t = some (.vl v2)) (hB : B = w0.heap.size) : SX B N w0 e fr (bodyPost Tryz.prog fn (Ret w0 (K2 (KV v1) (KV v2)))) := SX.done2t he hr hs ht hB
theorem parse_ne {r e : Int} {s : List Int} (h : parseR r s = .error e) : e ≠ 0 := by
 unfold parseR at h
 split at h
 ·injection h with h; omega
 split at h
 ·injection h with h; omega
 dsimp only at h
 generalize (if at0 s 0 = 45 ∨ at0 s 0 = 43 then s.drop 1 else s) = b at h
 split at h
 ·injection h with h; omega
 split at h
 ·cases h
 ·injection h with h; omega
theorem pow_le_base {r : Int} (h : 2 ≤ r) : ∀ n : Nat, (2 : Int) ^ n ≤ r ^ n
 | 0 => by simp
 | n + 1 => by
  rw [Int.pow_succ, Int.pow_succ]
  exact Int.mul_le_mul (pow_le_base h n) h (by decide) (Int.pow_nonneg (by omega))
theorem parse_bd9 {r z : Int} {s : ByteArray} (h : parseR r (byl s) = .ok z) {n m : Nat} (hs : s.size ≤ n) (h6 : 6 * n < 32 * m) (hn2 : n ≤ 20000) : bd m z := by
 unfold parseR at h
 have h1 : 2 ≤ r ∧ r ≤ 36 := by
  apply Classical.byContradiction
  intro hn
  rw [if_pos hn] at h
  cases h
 rw [if_neg (fun x => x h1), if_neg (by rw [byl_len]; omega)] at h
 dsimp only at h
 generalize hb : (if at0 (byl s) 0 = 45 ∨ at0 (byl s) 0 = 43 then (byl s).drop 1 else byl s) = b at h
 have hbl : b.length ≤ n := by
  have := byl_len s
  rw [← hb]
  split
  ·rw [List.length_drop]; omega
  ·omega
 split at h
 ·cases h
 split at h
 ·rename_i h3
  injection h with h
  have ⟨b1, b2⟩ := pv_lt h1.1 h1.2 b 0 (by omega) (fun c hc => by have := List.all_eq_true.1 h3 c hc; simpa using this)
  have b3 := pow_le (b := 64) (by decide) hbl
  rw [bd2]
  have b4 : (64 : Int) ^ n < 2 ^ (32 * m) := by
   rw [show (64 : Int) = 2 ^ 6 by decide, ← Int.pow_mul]
   exact Int.pow_lt_pow_of_lt (by decide) h6
  rw [← h]
  unfold sg
  generalize (2 : Int) ^ (32 * m) = P at *
  generalize (64 : Int) ^ n = P2 at *
  split <;> omega
 ·cases h
def parseQ (r : Int) (s : ByteArray) : Except Int Rat :=
 if ¬ (2 ≤ r ∧ r ≤ 36) then .error 1
 else if 20000 < s.size then .error 14
 else if cutI s = -1 then match parseR r (byl s) with
  | .ok n => .ok (n : Rat)
  | .error e => .error e
 else match parseR r (byl (s.extract 0 (cutI s).toNat)) with
  | .error e => .error e
  | .ok n => if (0 < (s.extract ((cutI s).toNat + 1) s.size).size ∧ at0 (byl (s.extract ((cutI s).toNat + 1) s.size)) 0 = 43) ∨ (0 < (s.extract ((cutI s).toNat + 1) s.size).size ∧ at0 (byl (s.extract ((cutI s).toNat + 1) s.size)) 0 = 45) then .error 2
   else match parseR r (byl (s.extract ((cutI s).toNat + 1) s.size)) with
    | .error e => .error e
    | .ok d => if d = 0 then .error 6 else .ok (Rat.divInt n d)
theorem parseQ_radix {r : Int} {s : ByteArray} (h : ¬ (2 ≤ r ∧ r ≤ 36)) : parseQ r s = .error 1 := if_pos h
theorem parseQ_long {r : Int} {s : ByteArray} (h : 2 ≤ r ∧ r ≤ 36) (hl : 20000 < s.size) : parseQ r s = .error 14 := by unfold parseQ; rw [if_neg (fun x => x h), if_pos hl]
theorem parseQ_no {r : Int} {s : ByteArray} (h : 2 ≤ r ∧ r ≤ 36) (hl : ¬ 20000 < s.size) (hi : cutI s = -1) : parseQ r s = match parseR r (byl s) with
  | .ok n => .ok (n : Rat)
  | .error e => .error e := by unfold parseQ; rw [if_neg (fun x => x h), if_neg hl, if_pos hi]
theorem parseQ_yes {r : Int} {s : ByteArray} {i : Nat} (h : 2 ≤ r ∧ r ≤ 36) (hl : ¬ 20000 < s.size) (hi : cutI s = (i : Int)) : parseQ r s = match parseR r (byl (s.extract 0 i)) with
  | .error e => .error e
  | .ok n => if (0 < (s.extract (i + 1) s.size).size ∧ at0 (byl (s.extract (i + 1) s.size)) 0 = 43) ∨ (0 < (s.extract (i + 1) s.size).size ∧ at0 (byl (s.extract (i + 1) s.size)) 0 = 45) then .error 2
   else match parseR r (byl (s.extract (i + 1) s.size)) with
    | .error e => .error e
    | .ok d => if d = 0 then .error 6 else .ok (Rat.divInt n d) := by
 unfold parseQ
 rw [if_neg (fun x => x h), if_neg hl, if_neg (by omega), hi]
 rfl
theorem parseQ_n1 {r : Int} {s : ByteArray} {n : Int} (h : 2 ≤ r ∧ r ≤ 36) (hl : ¬ 20000 < s.size) (hi : cutI s = -1) (hn : parseR r (byl s) = .ok n) : parseQ r s = .ok (n : Rat) := (parseQ_no h hl hi).trans (by rw [hn])
theorem parseQ_n2 {r : Int} {s : ByteArray} {e : Int} (h : 2 ≤ r ∧ r ≤ 36) (hl : ¬ 20000 < s.size) (hi : cutI s = -1) (hn : parseR r (byl s) = .error e) : parseQ r s = .error e := (parseQ_no h hl hi).trans (by rw [hn])
theorem parseQ_y1 {r : Int} {s : ByteArray} {i : Nat} {e : Int} (h : 2 ≤ r ∧ r ≤ 36) (hl : ¬ 20000 < s.size) (hi : cutI s = (i : Int)) (hn : parseR r (byl (s.extract 0 i)) = .error e) : parseQ r s = .error e := (parseQ_yes h hl hi).trans (by rw [hn])
theorem parseQ_y2 {r : Int} {s : ByteArray} {i : Nat} {n : Int} (h : 2 ≤ r ∧ r ≤ 36) (hl : ¬ 20000 < s.size) (hi : cutI s = (i : Int)) (hn : parseR r (byl (s.extract 0 i)) = .ok n) (hs : (0 < (s.extract (i + 1) s.size).size ∧ at0 (byl (s.extract (i + 1) s.size)) 0 = 43) ∨ (0 < (s.extract (i + 1) s.size).size ∧ at0 (byl (s.extract (i + 1) s.size)) 0 = 45)) : parseQ r s = .error 2 := (parseQ_yes h hl hi).trans (by rw [hn]; exact if_pos hs)
theorem parseQ_y3 {r : Int} {s : ByteArray} {i : Nat} {n e : Int} (h : 2 ≤ r ∧ r ≤ 36) (hl : ¬ 20000 < s.size) (hi : cutI s = (i : Int)) (hn : parseR r (byl (s.extract 0 i)) = .ok n) (hs : ¬ ((0 < (s.extract (i + 1) s.size).size ∧ at0 (byl (s.extract (i + 1) s.size)) 0 = 43) ∨ (0 < (s.extract (i + 1) s.size).size ∧ at0 (byl (s.extract (i + 1) s.size)) 0 = 45))) (hd : parseR r (byl (s.extract (i + 1) s.size)) = .error e) : parseQ r s = .error e := (parseQ_yes h hl hi).trans (by rw [hn]; refine (if_neg hs).trans ?_; rw [hd])
theorem parseQ_y4 {r : Int} {s : ByteArray} {i : Nat} {n d : Int} (h : 2 ≤ r ∧ r ≤ 36) (hl : ¬ 20000 < s.size) (hi : cutI s = (i : Int)) (hn : parseR r (byl (s.extract 0 i)) = .ok n) (hs : ¬ ((0 < (s.extract (i + 1) s.size).size ∧ at0 (byl (s.extract (i + 1) s.size)) 0 = 43) ∨ (0 < (s.extract (i + 1) s.size).size ∧ at0 (byl (s.extract (i + 1) s.size)) 0 = 45))) (hd : parseR r (byl (s.extract (i + 1) s.size)) = .ok d) (h0 : d = 0) : parseQ r s = .error 6 := (parseQ_yes h hl hi).trans (by rw [hn]; refine (if_neg hs).trans ?_; rw [hd]; exact if_pos h0)
theorem parseQ_y5 {r : Int} {s : ByteArray} {i : Nat} {n d : Int} (h : 2 ≤ r ∧ r ≤ 36) (hl : ¬ 20000 < s.size) (hi : cutI s = (i : Int)) (hn : parseR r (byl (s.extract 0 i)) = .ok n) (hs : ¬ ((0 < (s.extract (i + 1) s.size).size ∧ at0 (byl (s.extract (i + 1) s.size)) 0 = 43) ∨ (0 < (s.extract (i + 1) s.size).size ∧ at0 (byl (s.extract (i + 1) s.size)) 0 = 45))) (hd : parseR r (byl (s.extract (i + 1) s.size)) = .ok d) (h0 : ¬ d = 0) : parseQ r s = .ok (Rat.divInt n d) := (parseQ_yes h hl hi).trans (by rw [hn]; refine (if_neg hs).trans ?_; rw [hd]; exact if_neg h0)
noncomputable def txq (r : Int) (x : Rat) : ByteArray := if x.den = 1 then tstr r x.num else tstr r x.num ++ ⟨#[47]⟩ ++ tstr r (x.den : Int)
theorem txq_whole {r : Int} {x : Rat} (h : x.den = 1) : txq r x = tstr r x.num := if_pos h
theorem txq_frac {r : Int} {x : Rat} (h : ¬ x.den = 1) : txq r x = tstr r x.num ++ ⟨#[47]⟩ ++ tstr r (x.den : Int) := if_neg h
theorem tstr_size {r z : Int} {a : Nat} (hr : 2 ≤ r) (h : bd a z) : (tstr r z).size ≤ 32 * a + 2 := by
 unfold tstr
 split
 ·rename_i hex
  obtain ⟨ds, d1, d2, d3, d4⟩ := Classical.choose_spec hex
  generalize Classical.choose hex = t at *
  have hl : t.size = (byl t).length := (byl_len t).symm
  have d4 : byl t = _ := d4
  have hd : ds.length ≤ 32 * a := by
   apply Classical.byContradiction
   intro hn
   have hne : ds ≠ [] := fun e => by rw [e] at hn; simp at hn
   have h1 := top_le (by omega) d1 d2 hne
   have h2 := pow_le_base (show (2 : Int) ≤ r by omega) (ds.length - 1)
   have h3 := pow_le (b := 2) (by decide) (show 32 * a ≤ ds.length - 1 by omega)
   have h4 := bd2.1 h
   omega
  rw [hl, d4]
  by_cases hz : z = 0
  ·rw [if_pos hz]; show 1 ≤ _; omega
  ·rw [if_neg hz]
   by_cases hn : z < 0
   ·rw [if_pos hn]; simp; omega
   ·rw [if_neg hn]; simp; omega
 ·exact Nat.zero_le _
theorem ce_Simplest : CE 32 := fun args W => by go_simp
set_option maxHeartbeats 3200000 in
set_option maxRecDepth 100000 in
theorem k_Simplest_pos {x y : Rat} {m : Nat} (X : bq m x) (Y : bq m y) (hm : m ≤ 1000) (h : x ≤ y) (hx : 0 < sgq x) {z : Rat} {L : List Int} (hb : ∀ i, bd (m + 1) (at0 L i)) (hT : (m + 4) * L.length ≤ 40000) (hl : L.length ≤ 1000000) (hc0 : ctrR L = .ok z) (hS : Smp x y L) : CallOk 32 [KQ (x).num (((x).den : Int) - 1), KQ (y).num (((y).den : Int) - 1)] (K2 (KQ (z).num (((z).den : Int) - 1)) (KV (.int .i64 0))) := by
 refine CallOk.enter (l := [.kw (KQ (x).num (((x).den : Int) - 1)), .kw (KQ (y).num (((y).den : Int) - 1))]) 35 ce_Simplest Tryz.func32 rfl Tryz.ntmps32 (by simp) ⟨(KQ.st _ _), rfl, (KQ.st _ _), rfl, trivial⟩ fun w => ?_
 refine SC.seq (SC.region ?_)
 refine PW.box (x := .tmp 0) (r := .kw (KQ (x).num (((x).den : Int) - 1))) (BQ 38) rfl rfl rfl rfl rfl bQ rfl sh_Q ?_
 refine PW.box (x := .tmp 1) (r := .kw (KQ (y).num (((y).den : Int) - 1))) (BQ 38) rfl rfl rfl rfl rfl bQ rfl sh_Q ?_
 refine PW.alloc (BQ 38) rfl rfl rfl rfl rfl bQ ?_
 refine PW.assign rfl rfl rfl rfl rfl (PW.nil (SX.then (SC.seq (SC.block (SC.seq (SC.region ?_))))))
 refine PW.load rfl rfl rfl rfl rfl rfl ?_
 refine PW.load rfl rfl rfl rfl rfl rfl ?_
 refine PW.call (r := .vl (.int .i64 (cmpq x y))) rfl rfl rfl rfl rfl rfl (KV.st _) rfl (k_rcmp X Y (by omega) (by omega)) ?_
 refine PW.q2 (x := .tmp 9) (y := .const (.int .i64 0)) (.bool false) rfl rfl rfl rfl rfl (fun ρ W h1 h2 => by exact r_gt h1 h2 (decide_eq_false (by have := cmpq_le.2 h; omega))) ?_
 refine PW.assign rfl rfl rfl rfl rfl (PW.nil (SX.then (SC.cond (t := false) rfl (SC.seq (SC.region ?_)))))
 refine PW.load rfl rfl rfl rfl rfl rfl ?_
 refine PW.call (r := .vl (.int .i64 (sgq x))) rfl rfl rfl rfl rfl rfl (KV.st _) rfl (k_rsign) ?_
 refine PW.q2 (x := .tmp 14) (y := .const (.int .i64 0)) (.bool false) rfl rfl rfl rfl rfl (fun ρ W h1 h2 => by exact r_le h1 h2 (decide_eq_false (by omega))) ?_
 refine PW.move rfl rfl rfl rfl rfl ?_
 refine PW.skip rfl rfl rfl ?_
 refine PW.skip rfl rfl rfl ?_
 refine PW.skip rfl rfl rfl ?_
 refine PW.pick (t := false) rfl rfl rfl rfl rfl rfl ?_
 refine PW.assign rfl rfl rfl rfl rfl (PW.nil (SX.then (SC.cond (t := false) rfl (SC.seq (SC.region ?_)))))
 refine PW.load rfl rfl rfl rfl rfl rfl ?_
 refine PW.call (r := .vl (.int .i64 (sgq x))) rfl rfl rfl rfl rfl rfl (KV.st _) rfl (k_rsign) ?_
 refine PW.q2 (x := .tmp 24) (y := .const (.int .i64 0)) (.bool false) rfl rfl rfl rfl rfl (fun ρ W h1 h2 => by exact r_lt h1 h2 (decide_eq_false (by omega))) ?_
 refine PW.assign rfl rfl rfl rfl rfl (PW.nil (SX.then (SC.cond (t := false) rfl (SC.skip ?_))))
 refine SX.blockN ?_
 refine SX.then (SC.seq (SC.region ?_))
 refine PW.load rfl rfl rfl rfl rfl rfl ?_
 refine PW.load rfl rfl rfl rfl rfl rfl ?_
 refine PW.call (r := .kw (KQ (z).num (((z).den : Int) - 1))) rfl rfl rfl rfl rfl rfl (KQ.st _ _) rfl (k_simplest X Y h hS hb hT hm hl hc0) ?_
 refine PW.store (x := .tmp 34) (r := .kw (KQ (z).num (((z).den : Int) - 1))) rfl rfl rfl rfl rfl rfl sh_Q ?_
 refine PW.assign rfl rfl rfl rfl rfl (PW.nil (SX.then (SC.ret ?_)))
 exact SX.done2 (s := 4) (t := 5) (r := .vl (.int .i64 0)) (.inl rfl) rfl rfl rfl rfl
theorem ce_slcut : CE 127 := fun args W => by go_simp
theorem ce_cut : CE 87 := fun args W => by go_simp
set_option maxHeartbeats 3200000 in
set_option maxRecDepth 100000 in
theorem k_slcut_yes {s : ByteArray} {i : Nat} (hi : cutI s = (i : Int)) (hs : i < s.size) (hz : s.size ≤ 20000) : CallOk 127 [KV (.string s), KV (.string ⟨#[47]⟩)] (K3 (KV (.string (s.extract 0 i))) (KV (.string (s.extract (i + 1) s.size))) (KV (.bool true))) := by
 refine CallOk.enter (l := [.vl (.string s), .vl (.string ⟨#[47]⟩)]) 23 ce_slcut Tryz.func127 rfl Tryz.ntmps127 (by simp) ⟨(KV.st _), rfl, (KV.st _), rfl, trivial⟩ fun w => ?_
 refine SC.seq (SC.region (PW.assign rfl rfl rfl rfl rfl (PW.assign rfl rfl rfl rfl rfl (PW.assign rfl rfl rfl rfl rfl (PW.nil (SX.then (SC.seq (SC.seq (SC.region (PW.move rfl rfl rfl rfl rfl ?_))))))))))
 refine PW.move rfl rfl rfl rfl rfl ?_
 refine PW.call (r := .vl (.int .i64 ((i : Int)))) rfl rfl rfl rfl rfl rfl (KV.st _) rfl (k_index1 hi) ?_
 refine PW.assign rfl rfl rfl rfl rfl (PW.nil (SX.then (SC.seq (SC.region (PW.move rfl rfl rfl rfl rfl ?_)))))
 refine PW.q2 (x := .tmp 11) (y := .const (.int .i64 0)) (.bool true) rfl rfl rfl rfl rfl (fun ρ W h1 h2 => by exact r_ge h1 h2 (decide_eq_true (by omega))) ?_
 refine PW.nil (SX.then (SC.cond (t := true) rfl (SC.seq ?_)))
 refine SC.dx [.val 13 (.vl (.string s)), .val 14 (.vl (.int .i64 ((i : Int)))), .val 15 (.vl (.string (s.extract 0 i))), .val 16 (.vl (.string s)), .val 17 (.vl (.int .i64 ((i : Int)))), .val 18 (.vl (.string ⟨#[47]⟩)), .val 19 (.vl (.int .i64 (1))), .val 20 (.vl (.int .i64 (((i + 1 : Nat) : Int)))), .val 21 (.vl (.string (s.extract (i + 1) s.size))), .val 4 (.vl (.string (s.extract 0 i))), .val 5 (.vl (.string (s.extract (i + 1) s.size))), .val 6 (.vl (.bool true))] [([], [0]), ([], [7]), ([0, 1], []), ([], [0]), ([], [7]), ([], [1]), ([5], []), ([4, 6], []), ([3, 7], []), ([2], []), ([8], []), ([], [])] rfl (by kernel_rfl) (by kernel_rfl) (by kernel_rfl) rfl ⟨?_, ?_, ?_, ?_, ?_, ?_, ?_, ?_, ?_, ?_, ?_, ?_, trivial⟩ ?_
 ·exact DX.move rfl rfl rfl rfl rfl rfl
 ·exact DX.move rfl rfl rfl rfl rfl rfl
 ·exact DX.qn [(.tmp 13, .string s), (.tmp 14, .int .i64 ((i : Int)))] (.string (s.extract 0 i)) rfl rfl rfl ⟨rfl, rfl, trivial⟩ (fun ρ W h => by obtain ⟨h1, h2, _⟩ := h; exact r_sto h1 h2 (by omega))
 ·exact DX.move rfl rfl rfl rfl rfl rfl
 ·exact DX.move rfl rfl rfl rfl rfl rfl
 ·exact DX.move rfl rfl rfl rfl rfl rfl
 ·exact DX.qn [(.tmp 18, .string ⟨#[47]⟩)] (.int .i64 (1)) rfl rfl rfl ⟨rfl, trivial⟩ (fun ρ W h => by obtain ⟨h1, _⟩ := h; first | (exact r_slen h1) | (go_simp; done) | (go_simp; rfl))
 ·exact DX.q2 (x := .tmp 17) (y := .tmp 19) (.int .i64 (((i + 1 : Nat) : Int))) rfl rfl rfl rfl rfl (fun ρ W h1 h2 => by exact r_add h1 h2 (by omega) (by omega))
 ·exact DX.qn [(.tmp 16, .string s), (.tmp 20, .int .i64 (((i + 1 : Nat) : Int)))] (.string (s.extract (i + 1) s.size)) rfl rfl rfl ⟨rfl, rfl, trivial⟩ (fun ρ W h => by obtain ⟨h1, h2, _⟩ := h; exact r_sfrom h1 h2 (by omega))
 ·exact DX.assign rfl rfl rfl rfl rfl rfl
 ·exact DX.assign rfl rfl rfl rfl rfl rfl
 ·exact DX.assign rfl rfl rfl rfl rfl rfl
 refine SX.then (SC.ret (SX.thenR ?_))
 exact SX.done3v (s := 4) (t := 5) (u := 6) (.inl rfl) rfl rfl rfl rfl rfl
set_option maxHeartbeats 3200000 in
set_option maxRecDepth 100000 in
theorem k_slcut_no {s : ByteArray} (hi : cutI s = -1) : CallOk 127 [KV (.string s), KV (.string ⟨#[47]⟩)] (K3 (KV (.string s)) (KV (.string ⟨#[]⟩)) (KV (.bool false))) := by
 refine CallOk.enter (l := [.vl (.string s), .vl (.string ⟨#[47]⟩)]) 23 ce_slcut Tryz.func127 rfl Tryz.ntmps127 (by simp) ⟨(KV.st _), rfl, (KV.st _), rfl, trivial⟩ fun w => ?_
 refine SC.seq (SC.region (PW.assign rfl rfl rfl rfl rfl (PW.assign rfl rfl rfl rfl rfl (PW.assign rfl rfl rfl rfl rfl (PW.nil (SX.then (SC.seq (SC.seq (SC.region (PW.move rfl rfl rfl rfl rfl ?_))))))))))
 refine PW.move rfl rfl rfl rfl rfl ?_
 refine PW.call (r := .vl (.int .i64 (-1))) rfl rfl rfl rfl rfl rfl (KV.st _) rfl (k_index1 hi) ?_
 refine PW.assign rfl rfl rfl rfl rfl (PW.nil (SX.then (SC.seq (SC.region (PW.move rfl rfl rfl rfl rfl ?_)))))
 refine PW.q2 (x := .tmp 11) (y := .const (.int .i64 0)) (.bool false) rfl rfl rfl rfl rfl (fun ρ W h1 h2 => by exact r_ge h1 h2 (decide_eq_false (by omega))) ?_
 refine PW.nil (SX.then (SC.cond (t := false) rfl (SC.skip (SX.then (SC.seq (SC.region (PW.move rfl rfl rfl rfl rfl (PW.assign rfl rfl rfl rfl rfl (PW.assign rfl rfl rfl rfl rfl (PW.assign rfl rfl rfl rfl rfl ?_))))))))))
 refine PW.nil (SX.then (SC.ret ?_))
 exact SX.done3v (s := 4) (t := 5) (u := 6) (.inl rfl) rfl rfl rfl rfl rfl
set_option maxHeartbeats 3200000 in
set_option maxRecDepth 100000 in
theorem k_cut_yes {s : ByteArray} {i : Nat} (hi : cutI s = (i : Int)) (hs : i < s.size) (hz : s.size ≤ 20000) : CallOk 87 [KV (.string s), KV (.string ⟨#[47]⟩)] (K3 (KV (.string (s.extract 0 i))) (KV (.string (s.extract (i + 1) s.size))) (KV (.bool true))) := by
 refine CallOk.enter (l := [.vl (.string s), .vl (.string ⟨#[47]⟩)]) 13 ce_cut Tryz.func87 rfl Tryz.ntmps87 (by simp) ⟨(KV.st _), rfl, (KV.st _), rfl, trivial⟩ fun w => ?_
 refine SC.seq (SC.region (PW.assign rfl rfl rfl rfl rfl (PW.assign rfl rfl rfl rfl rfl (PW.assign rfl rfl rfl rfl rfl (PW.nil (SX.then (SC.seq (SC.region (PW.move rfl rfl rfl rfl rfl (PW.move rfl rfl rfl rfl rfl ?_))))))))))
 refine PW.call (r := .kw (K3 (KV (.string (s.extract 0 i))) (KV (.string (s.extract (i + 1) s.size))) (KV (.bool true)))) rfl rfl rfl rfl rfl rfl (K3.st (KV.st _) (KV.st _) (KV.st _)) rfl (k_slcut_yes hi hs hz) ?_
 refine PW.ext (r := .vl (.string (s.extract 0 i))) rfl rfl rfl rfl rfl ex30v (KV.st _) rfl ?_
 refine PW.ext (r := .vl (.string (s.extract (i + 1) s.size))) rfl rfl rfl rfl rfl ex31v (KV.st _) rfl ?_
 refine PW.ext (r := .vl (.bool true)) rfl rfl rfl rfl rfl ex32v (KV.st _) rfl ?_
 refine PW.assign rfl rfl rfl rfl rfl (PW.assign rfl rfl rfl rfl rfl (PW.assign rfl rfl rfl rfl rfl (PW.nil (SX.then (SC.ret ?_)))))
 exact SX.done3v (s := 4) (t := 5) (u := 6) (.inl rfl) rfl rfl rfl rfl rfl
set_option maxHeartbeats 3200000 in
set_option maxRecDepth 100000 in
theorem k_cut_no {s : ByteArray} (hi : cutI s = -1) : CallOk 87 [KV (.string s), KV (.string ⟨#[47]⟩)] (K3 (KV (.string s)) (KV (.string ⟨#[]⟩)) (KV (.bool false))) := by
 refine CallOk.enter (l := [.vl (.string s), .vl (.string ⟨#[47]⟩)]) 13 ce_cut Tryz.func87 rfl Tryz.ntmps87 (by simp) ⟨(KV.st _), rfl, (KV.st _), rfl, trivial⟩ fun w => ?_
 refine SC.seq (SC.region (PW.assign rfl rfl rfl rfl rfl (PW.assign rfl rfl rfl rfl rfl (PW.assign rfl rfl rfl rfl rfl (PW.nil (SX.then (SC.seq (SC.region (PW.move rfl rfl rfl rfl rfl (PW.move rfl rfl rfl rfl rfl ?_))))))))))
 refine PW.call (r := .kw (K3 (KV (.string s)) (KV (.string ⟨#[]⟩)) (KV (.bool false)))) rfl rfl rfl rfl rfl rfl (K3.st (KV.st _) (KV.st _) (KV.st _)) rfl (k_slcut_no hi) ?_
 refine PW.ext (r := .vl (.string s)) rfl rfl rfl rfl rfl ex30v (KV.st _) rfl ?_
 refine PW.ext (r := .vl (.string ⟨#[]⟩)) rfl rfl rfl rfl rfl ex31v (KV.st _) rfl ?_
 refine PW.ext (r := .vl (.bool false)) rfl rfl rfl rfl rfl ex32v (KV.st _) rfl ?_
 refine PW.assign rfl rfl rfl rfl rfl (PW.assign rfl rfl rfl rfl rfl (PW.assign rfl rfl rfl rfl rfl (PW.nil (SX.then (SC.ret ?_)))))
 exact SX.done3v (s := 4) (t := 5) (u := 6) (.inl rfl) rfl rfl rfl rfl rfl
theorem ce_qparse : CE 29 := fun args W => by go_simp
set_option maxHeartbeats 6400000 in
set_option maxRecDepth 100000 in
theorem k_qparse_radix {s : ByteArray} {r : Int} (h : ¬ (2 ≤ r ∧ r ≤ 36)) : CallOk 29 [KV (.string s), KV (.int .i64 (r))] (KPR (parseQ r s)) := by
 refine CallOk.enter (l := [.vl (.string s), .vl (.int .i64 (r))]) 68 ce_qparse Tryz.func29 rfl Tryz.ntmps29 (by simp) ⟨(KV.st _), rfl, (KV.st _), rfl, trivial⟩ fun w => ?_
 refine SC.seq (SC.region ?_)
 refine PW.alloc (BQ 38) rfl rfl rfl rfl rfl bQ ?_
 refine PW.assign rfl rfl rfl rfl rfl (PW.nil (SX.then (SC.seq (SC.block (SC.seq ?_)))))
 by_cases hr2 : r < 2
 ·refine SC.region ?_
  refine PW.move rfl rfl rfl rfl rfl ?_
  refine PW.q2 (x := .tmp 13) (y := .const (.int .i64 2)) (.bool true) rfl rfl rfl rfl rfl (fun ρ W h1 h2 => by exact r_lt h1 h2 (decide_eq_true hr2)) ?_
  refine PW.move rfl rfl rfl rfl rfl ?_
  refine PW.skip rfl rfl rfl ?_
  refine PW.skip rfl rfl rfl ?_
  refine PW.pick (t := true) rfl rfl rfl rfl rfl rfl ?_
  refine PW.assign rfl rfl rfl rfl rfl (PW.nil (SX.then (SC.cond (t := true) rfl (SC.seq (SC.region ?_)))))
  refine PW.val (r := .kw (KQ (0) (0))) rfl rfl rfl rfl (fun a W hf => ⟨_, r_bldQ0, zeroQ W, KQ.st _ _⟩) ?_
  refine PW.store (x := .tmp 19) (r := .kw (KQ (0) (0))) rfl rfl rfl rfl rfl rfl sh_Q ?_
  refine PW.assign rfl rfl rfl rfl rfl (PW.nil (SX.then (SC.ret (SX.blockR (SX.thenR ?_)))))
  rw [parseQ_radix h]
  exact SX.done2 (s := 4) (t := 5) (r := .vl (.int .i64 1)) (.inl rfl) rfl rfl rfl rfl
 ·refine SC.region ?_
  refine PW.move rfl rfl rfl rfl rfl ?_
  refine PW.q2 (x := .tmp 13) (y := .const (.int .i64 2)) (.bool false) rfl rfl rfl rfl rfl (fun ρ W h1 h2 => by exact r_lt h1 h2 (decide_eq_false hr2)) ?_
  refine PW.move rfl rfl rfl rfl rfl (PW.move rfl rfl rfl rfl rfl ?_)
  refine PW.q2 (x := .tmp 16) (y := .const (.int .i64 36)) (.bool true) rfl rfl rfl rfl rfl (fun ρ W h1 h2 => by exact r_gt h1 h2 (decide_eq_true (by omega))) ?_
  refine PW.pick (t := false) rfl rfl rfl rfl rfl rfl ?_
  refine PW.assign rfl rfl rfl rfl rfl (PW.nil (SX.then (SC.cond (t := true) rfl (SC.seq (SC.region ?_)))))
  refine PW.val (r := .kw (KQ (0) (0))) rfl rfl rfl rfl (fun a W hf => ⟨_, r_bldQ0, zeroQ W, KQ.st _ _⟩) ?_
  refine PW.store (x := .tmp 19) (r := .kw (KQ (0) (0))) rfl rfl rfl rfl rfl rfl sh_Q ?_
  refine PW.assign rfl rfl rfl rfl rfl (PW.nil (SX.then (SC.ret (SX.blockR (SX.thenR ?_)))))
  rw [parseQ_radix h]
  exact SX.done2 (s := 4) (t := 5) (r := .vl (.int .i64 1)) (.inl rfl) rfl rfl rfl rfl
set_option maxHeartbeats 6400000 in
set_option maxRecDepth 100000 in
theorem k_qparse_long {s : ByteArray} {r : Int} (h : 2 ≤ r ∧ r ≤ 36) (hl : 20000 < s.size) : CallOk 29 [KV (.string s), KV (.int .i64 (r))] (KPR (parseQ r s)) := by
 refine CallOk.enter (l := [.vl (.string s), .vl (.int .i64 (r))]) 68 ce_qparse Tryz.func29 rfl Tryz.ntmps29 (by simp) ⟨(KV.st _), rfl, (KV.st _), rfl, trivial⟩ fun w => ?_
 refine SC.seq (SC.region ?_)
 refine PW.alloc (BQ 38) rfl rfl rfl rfl rfl bQ ?_
 refine PW.assign rfl rfl rfl rfl rfl (PW.nil (SX.then (SC.seq (SC.block (SC.seq (SC.region (PW.move rfl rfl rfl rfl rfl ?_)))))))
 refine PW.q2 (x := .tmp 13) (y := .const (.int .i64 2)) (.bool false) rfl rfl rfl rfl rfl (fun ρ W h1 h2 => by exact r_lt h1 h2 (decide_eq_false (by omega))) ?_
 refine PW.move rfl rfl rfl rfl rfl (PW.move rfl rfl rfl rfl rfl ?_)
 refine PW.q2 (x := .tmp 16) (y := .const (.int .i64 36)) (.bool false) rfl rfl rfl rfl rfl (fun ρ W h1 h2 => by exact r_gt h1 h2 (decide_eq_false (by omega))) ?_
 refine PW.pick (t := false) rfl rfl rfl rfl rfl rfl ?_
 refine PW.assign rfl rfl rfl rfl rfl (PW.nil (SX.then (SC.cond (t := false) rfl (SC.seq (SC.region (PW.move rfl rfl rfl rfl rfl ?_))))))
 refine PW.qn [(.tmp 21, .string s)] (.int .i64 (s.size : Int)) rfl rfl rfl ⟨rfl, trivial⟩ (fun ρ W h => by obtain ⟨h1, _⟩ := h; exact r_slen h1) ?_
 refine PW.q2 (x := .tmp 22) (y := .const (.int .i64 20000)) (.bool true) rfl rfl rfl rfl rfl (fun ρ W h1 h2 => by exact r_gt h1 h2 (decide_eq_true (by omega))) ?_
 refine PW.assign rfl rfl rfl rfl rfl (PW.nil (SX.then (SC.cond (t := true) rfl (SC.seq (SC.region ?_)))))
 refine PW.val (r := .kw (KQ (0) (0))) rfl rfl rfl rfl (fun a W hf => ⟨_, r_bldQ0, zeroQ W, KQ.st _ _⟩) ?_
 refine PW.store (x := .tmp 24) (r := .kw (KQ (0) (0))) rfl rfl rfl rfl rfl rfl sh_Q ?_
 refine PW.assign rfl rfl rfl rfl rfl (PW.nil (SX.then (SC.ret (SX.blockR (SX.thenR ?_)))))
 rw [parseQ_long h hl]
 exact SX.done2 (s := 4) (t := 5) (r := .vl (.int .i64 14)) (.inl rfl) rfl rfl rfl rfl
set_option maxHeartbeats 6400000 in
set_option maxRecDepth 100000 in
theorem k_qparse_no {s : ByteArray} {r : Int} (h : 2 ≤ r ∧ r ≤ 36) (hl : ¬ 20000 < s.size) (hi : cutI s = -1) : CallOk 29 [KV (.string s), KV (.int .i64 (r))] (KPR (parseQ r s)) := by
 refine CallOk.enter (l := [.vl (.string s), .vl (.int .i64 (r))]) 68 ce_qparse Tryz.func29 rfl Tryz.ntmps29 (by simp) ⟨(KV.st _), rfl, (KV.st _), rfl, trivial⟩ fun w => ?_
 refine SC.seq (SC.region ?_)
 refine PW.alloc (BQ 38) rfl rfl rfl rfl rfl bQ ?_
 refine PW.assign rfl rfl rfl rfl rfl (PW.nil (SX.then (SC.seq (SC.block (SC.seq (SC.region (PW.move rfl rfl rfl rfl rfl ?_)))))))
 refine PW.q2 (x := .tmp 13) (y := .const (.int .i64 2)) (.bool false) rfl rfl rfl rfl rfl (fun ρ W h1 h2 => by exact r_lt h1 h2 (decide_eq_false (by omega))) ?_
 refine PW.move rfl rfl rfl rfl rfl (PW.move rfl rfl rfl rfl rfl ?_)
 refine PW.q2 (x := .tmp 16) (y := .const (.int .i64 36)) (.bool false) rfl rfl rfl rfl rfl (fun ρ W h1 h2 => by exact r_gt h1 h2 (decide_eq_false (by omega))) ?_
 refine PW.pick (t := false) rfl rfl rfl rfl rfl rfl ?_
 refine PW.assign rfl rfl rfl rfl rfl (PW.nil (SX.then (SC.cond (t := false) rfl (SC.seq (SC.region (PW.move rfl rfl rfl rfl rfl ?_))))))
 refine PW.qn [(.tmp 21, .string s)] (.int .i64 (s.size : Int)) rfl rfl rfl ⟨rfl, trivial⟩ (fun ρ W h => by obtain ⟨h1, _⟩ := h; exact r_slen h1) ?_
 refine PW.q2 (x := .tmp 22) (y := .const (.int .i64 20000)) (.bool false) rfl rfl rfl rfl rfl (fun ρ W h1 h2 => by exact r_gt h1 h2 (decide_eq_false (by omega))) ?_
 refine PW.assign rfl rfl rfl rfl rfl (PW.nil (SX.then (SC.cond (t := false) rfl (SC.skip ?_))))
 refine SX.blockN ?_
 refine SX.then (SC.seq (SC.region (PW.move rfl rfl rfl rfl rfl ?_)))
 refine PW.call (r := .kw (K3 (KV (.string s)) (KV (.string ⟨#[]⟩)) (KV (.bool false)))) rfl rfl rfl rfl rfl rfl (K3.st (KV.st _) (KV.st _) (KV.st _)) rfl (k_cut_no hi) ?_
 refine PW.move rfl rfl rfl rfl rfl ?_
 refine PW.ext (r := .vl (.string s)) rfl rfl rfl rfl rfl ex30v (KV.st _) rfl ?_
 refine PW.ext (r := .vl (.string ⟨#[]⟩)) rfl rfl rfl rfl rfl ex31v (KV.st _) rfl ?_
 refine PW.ext (r := .vl (.bool false)) rfl rfl rfl rfl rfl ex32v (KV.st _) rfl ?_
 refine PW.assign rfl rfl rfl rfl rfl (PW.assign rfl rfl rfl rfl rfl (PW.assign rfl rfl rfl rfl rfl (PW.nil (SX.then (SC.seq ?_)))))
 by_cases hn : ∃ n, parseR r (byl (s)) = .ok n
 ·obtain ⟨n, hn⟩ := hn
  have NB := parse_bd9 (n := 20000) (m := 4000) hn (by omega) (by decide) (by decide)
  refine SC.region (PW.move rfl rfl rfl rfl rfl (PW.move rfl rfl rfl rfl rfl ?_))
  refine PW.call (r := .kw (K2 (KI (n)) (KV (.int .i64 0)))) rfl rfl rfl rfl rfl rfl (K2.st (KI.st _) (KV.st _)) rfl (callK k_parse (by rw [hn]; rfl)) ?_
  refine PW.move rfl rfl rfl rfl rfl ?_
  refine PW.ext (r := .kw (KI (n))) rfl rfl rfl rfl rfl ex20 (KI.st _) rfl ?_
  refine PW.ext (r := .vl (.int .i64 0)) rfl rfl rfl rfl rfl ex21v (KV.st _) rfl ?_
  refine PW.alloc (BI 31) rfl rfl rfl rfl rfl bI ?_
  refine PW.store (x := .tmp 35) (r := .kw (KI (n))) rfl rfl rfl rfl rfl rfl sh_I ?_
  refine PW.assign rfl rfl rfl rfl rfl (PW.nil (SX.then (SC.seq (SC.seq (SC.region (PW.move rfl rfl rfl rfl rfl ?_))))))
  refine PW.q2 (x := .tmp 37) (y := .const (.int .i64 0)) (.bool false) rfl rfl rfl rfl rfl (fun ρ W h1 h2 => by go_simp) ?_
  refine PW.move rfl rfl rfl rfl rfl (PW.move rfl rfl rfl rfl rfl ?_)
  refine PW.q1 (x := .tmp 40) (.bool true) rfl rfl rfl rfl (fun ρ W h1 => by go_simp) ?_
  refine PW.pick (t := false) rfl rfl rfl rfl rfl rfl ?_
  refine PW.nil (SX.then (SC.cond (t := true) rfl (SC.seq (SC.region ?_))))
  refine PW.load rfl rfl rfl rfl rfl rfl ?_
  refine PW.call (r := .kw (KQ (((n : Int) : Rat)).num (((((n : Int) : Rat)).den : Int) - 1))) rfl rfl rfl rfl rfl rfl (KQ.st _ _) rfl (k_rof) ?_
  refine PW.move rfl rfl rfl rfl rfl ?_
  refine PW.store (x := .tmp 44) (r := .kw (KQ (((n : Int) : Rat)).num (((((n : Int) : Rat)).den : Int) - 1))) rfl rfl rfl rfl rfl rfl sh_Q ?_
  refine PW.assign rfl rfl rfl rfl rfl (PW.nil (SX.then (SC.ret (SX.thenR ?_))))
  rw [parseQ_n1 h hl hi hn]
  exact SX.done2 (s := 4) (t := 5) (r := .vl (.int .i64 0)) (.inl rfl) rfl rfl rfl rfl
 ·obtain ⟨en, en0⟩ := parse_err hn
  refine SC.region (PW.move rfl rfl rfl rfl rfl (PW.move rfl rfl rfl rfl rfl ?_))
  refine PW.call (r := .kw (K2 (KI (0)) (KV (.int .i64 en)))) rfl rfl rfl rfl rfl rfl (K2.st (KI.st _) (KV.st _)) rfl (callK k_parse (by rw [en0]; rfl)) ?_
  refine PW.move rfl rfl rfl rfl rfl ?_
  refine PW.ext (r := .kw (KI (0))) rfl rfl rfl rfl rfl ex20 (KI.st _) rfl ?_
  refine PW.ext (r := .vl (.int .i64 en)) rfl rfl rfl rfl rfl ex21v (KV.st _) rfl ?_
  refine PW.alloc (BI 31) rfl rfl rfl rfl rfl bI ?_
  refine PW.store (x := .tmp 35) (r := .kw (KI (0))) rfl rfl rfl rfl rfl rfl sh_I ?_
  refine PW.assign rfl rfl rfl rfl rfl (PW.nil (SX.then (SC.seq (SC.seq (SC.region (PW.move rfl rfl rfl rfl rfl ?_))))))
  refine PW.q2 (x := .tmp 37) (y := .const (.int .i64 0)) (.bool true) rfl rfl rfl rfl rfl (fun ρ W h1 h2 => by exact r_neE h1 h2 (parse_ne en0)) ?_
  refine PW.move rfl rfl rfl rfl rfl ?_
  refine PW.skip rfl rfl rfl ?_
  refine PW.skip rfl rfl rfl ?_
  refine PW.pick (t := true) rfl rfl rfl rfl rfl rfl ?_
  refine PW.nil (SX.then (SC.cond (t := true) rfl (SC.seq (SC.region ?_))))
  refine PW.load rfl rfl rfl rfl rfl rfl ?_
  refine PW.call (r := .kw (KQ (((0 : Int) : Rat)).num (((((0 : Int) : Rat)).den : Int) - 1))) rfl rfl rfl rfl rfl rfl (KQ.st _ _) rfl (k_rof) ?_
  refine PW.move rfl rfl rfl rfl rfl ?_
  refine PW.store (x := .tmp 44) (r := .kw (KQ (((0 : Int) : Rat)).num (((((0 : Int) : Rat)).den : Int) - 1))) rfl rfl rfl rfl rfl rfl sh_Q ?_
  refine PW.assign rfl rfl rfl rfl rfl (PW.nil (SX.then (SC.ret (SX.thenR ?_))))
  rw [parseQ_n2 h hl hi en0]
  exact SX.done2 (s := 4) (t := 5) (r := .vl (.int .i64 en)) (.inl rfl) rfl rfl rfl rfl
set_option maxHeartbeats 6400000 in
set_option maxRecDepth 100000 in
theorem k_qparse_yes {s : ByteArray} {r : Int} (h : 2 ≤ r ∧ r ≤ 36) (hl : ¬ 20000 < s.size) {i : Nat} (hi : cutI s = (i : Int)) (hs : i < s.size) : CallOk 29 [KV (.string s), KV (.int .i64 (r))] (KPR (parseQ r s)) := by
 refine CallOk.enter (l := [.vl (.string s), .vl (.int .i64 (r))]) 68 ce_qparse Tryz.func29 rfl Tryz.ntmps29 (by simp) ⟨(KV.st _), rfl, (KV.st _), rfl, trivial⟩ fun w => ?_
 refine SC.seq (SC.region ?_)
 refine PW.alloc (BQ 38) rfl rfl rfl rfl rfl bQ ?_
 refine PW.assign rfl rfl rfl rfl rfl (PW.nil (SX.then (SC.seq (SC.block (SC.seq (SC.region (PW.move rfl rfl rfl rfl rfl ?_)))))))
 refine PW.q2 (x := .tmp 13) (y := .const (.int .i64 2)) (.bool false) rfl rfl rfl rfl rfl (fun ρ W h1 h2 => by exact r_lt h1 h2 (decide_eq_false (by omega))) ?_
 refine PW.move rfl rfl rfl rfl rfl (PW.move rfl rfl rfl rfl rfl ?_)
 refine PW.q2 (x := .tmp 16) (y := .const (.int .i64 36)) (.bool false) rfl rfl rfl rfl rfl (fun ρ W h1 h2 => by exact r_gt h1 h2 (decide_eq_false (by omega))) ?_
 refine PW.pick (t := false) rfl rfl rfl rfl rfl rfl ?_
 refine PW.assign rfl rfl rfl rfl rfl (PW.nil (SX.then (SC.cond (t := false) rfl (SC.seq (SC.region (PW.move rfl rfl rfl rfl rfl ?_))))))
 refine PW.qn [(.tmp 21, .string s)] (.int .i64 (s.size : Int)) rfl rfl rfl ⟨rfl, trivial⟩ (fun ρ W h => by obtain ⟨h1, _⟩ := h; exact r_slen h1) ?_
 refine PW.q2 (x := .tmp 22) (y := .const (.int .i64 20000)) (.bool false) rfl rfl rfl rfl rfl (fun ρ W h1 h2 => by exact r_gt h1 h2 (decide_eq_false (by omega))) ?_
 refine PW.assign rfl rfl rfl rfl rfl (PW.nil (SX.then (SC.cond (t := false) rfl (SC.skip ?_))))
 refine SX.blockN ?_
 refine SX.then (SC.seq (SC.region (PW.move rfl rfl rfl rfl rfl ?_)))
 refine PW.call (r := .kw (K3 (KV (.string (s.extract 0 i))) (KV (.string (s.extract (i + 1) s.size))) (KV (.bool true)))) rfl rfl rfl rfl rfl rfl (K3.st (KV.st _) (KV.st _) (KV.st _)) rfl (k_cut_yes hi hs (by omega)) ?_
 refine PW.move rfl rfl rfl rfl rfl ?_
 refine PW.ext (r := .vl (.string (s.extract 0 i))) rfl rfl rfl rfl rfl ex30v (KV.st _) rfl ?_
 refine PW.ext (r := .vl (.string (s.extract (i + 1) s.size))) rfl rfl rfl rfl rfl ex31v (KV.st _) rfl ?_
 refine PW.ext (r := .vl (.bool true)) rfl rfl rfl rfl rfl ex32v (KV.st _) rfl ?_
 refine PW.assign rfl rfl rfl rfl rfl (PW.assign rfl rfl rfl rfl rfl (PW.assign rfl rfl rfl rfl rfl (PW.nil (SX.then (SC.seq ?_)))))
 by_cases hn : ∃ n, parseR r (byl (s.extract 0 i)) = .ok n
 ·obtain ⟨n, hn⟩ := hn
  have NB := parse_bd9 (n := 20000) (m := 4000) hn (by rw [ext_size]; omega) (by decide) (by decide)
  refine SC.region (PW.move rfl rfl rfl rfl rfl (PW.move rfl rfl rfl rfl rfl ?_))
  refine PW.call (r := .kw (K2 (KI (n)) (KV (.int .i64 0)))) rfl rfl rfl rfl rfl rfl (K2.st (KI.st _) (KV.st _)) rfl (callK k_parse (by rw [hn]; rfl)) ?_
  refine PW.move rfl rfl rfl rfl rfl ?_
  refine PW.ext (r := .kw (KI (n))) rfl rfl rfl rfl rfl ex20 (KI.st _) rfl ?_
  refine PW.ext (r := .vl (.int .i64 0)) rfl rfl rfl rfl rfl ex21v (KV.st _) rfl ?_
  refine PW.alloc (BI 31) rfl rfl rfl rfl rfl bI ?_
  refine PW.store (x := .tmp 35) (r := .kw (KI (n))) rfl rfl rfl rfl rfl rfl sh_I ?_
  refine PW.assign rfl rfl rfl rfl rfl (PW.nil (SX.then (SC.seq (SC.seq (SC.region (PW.move rfl rfl rfl rfl rfl ?_))))))
  refine PW.q2 (x := .tmp 37) (y := .const (.int .i64 0)) (.bool false) rfl rfl rfl rfl rfl (fun ρ W h1 h2 => by go_simp) ?_
  refine PW.move rfl rfl rfl rfl rfl (PW.move rfl rfl rfl rfl rfl ?_)
  refine PW.q1 (x := .tmp 40) (.bool false) rfl rfl rfl rfl (fun ρ W h1 => by go_simp) ?_
  refine PW.pick (t := false) rfl rfl rfl rfl rfl rfl ?_
  refine PW.nil (SX.then (SC.cond (t := false) rfl (SC.skip (SX.then (SC.seq (SC.seq ?_))))))
  by_cases hp : 0 < (s.extract (i + 1) s.size).size ∧ at0 (byl (s.extract (i + 1) s.size)) 0 = 43
  ·refine SC.region ?_
   refine PW.move rfl rfl rfl rfl rfl ?_
   refine PW.call (r := .vl (.bool true)) rfl rfl rfl rfl rfl rfl (KV.st _) rfl (k_hasPrefix (s.extract (i + 1) s.size) ⟨#[43]⟩ ((pre_one _ 43).trans (decide_eq_true hp))) ?_
   refine PW.move rfl rfl rfl rfl rfl ?_
   refine PW.skip rfl rfl rfl ?_
   refine PW.skip rfl rfl rfl ?_
   refine PW.pick (t := true) rfl rfl rfl rfl rfl rfl ?_
   refine PW.nil (SX.then (SC.cond (t := true) rfl (SC.seq (SC.region ?_))))
   refine PW.val (r := .kw (KQ (0) (0))) rfl rfl rfl rfl (fun a W hf => ⟨_, r_bldQ0, zeroQ W, KQ.st _ _⟩) ?_
   refine PW.store (x := .tmp 52) (r := .kw (KQ (0) (0))) rfl rfl rfl rfl rfl rfl sh_Q ?_
   refine PW.assign rfl rfl rfl rfl rfl (PW.nil (SX.then (SC.ret (SX.thenR ?_))))
   rw [parseQ_y2 h hl hi hn (.inl hp)]
   exact SX.done2 (s := 4) (t := 5) (r := .vl (.int .i64 2)) (.inl rfl) rfl rfl rfl rfl
  ·by_cases hq : 0 < (s.extract (i + 1) s.size).size ∧ at0 (byl (s.extract (i + 1) s.size)) 0 = 45
   ·refine SC.region ?_
    refine PW.move rfl rfl rfl rfl rfl ?_
    refine PW.call (r := .vl (.bool false)) rfl rfl rfl rfl rfl rfl (KV.st _) rfl (k_hasPrefix (s.extract (i + 1) s.size) ⟨#[43]⟩ ((pre_one _ 43).trans (decide_eq_false hp))) ?_
    refine PW.move rfl rfl rfl rfl rfl (PW.move rfl rfl rfl rfl rfl ?_)
    refine PW.call (r := .vl (.bool true)) rfl rfl rfl rfl rfl rfl (KV.st _) rfl (k_hasPrefix (s.extract (i + 1) s.size) ⟨#[45]⟩ ((pre_one _ 45).trans (decide_eq_true hq))) ?_
    refine PW.pick (t := false) rfl rfl rfl rfl rfl rfl ?_
    refine PW.nil (SX.then (SC.cond (t := true) rfl (SC.seq (SC.region ?_))))
    refine PW.val (r := .kw (KQ (0) (0))) rfl rfl rfl rfl (fun a W hf => ⟨_, r_bldQ0, zeroQ W, KQ.st _ _⟩) ?_
    refine PW.store (x := .tmp 52) (r := .kw (KQ (0) (0))) rfl rfl rfl rfl rfl rfl sh_Q ?_
    refine PW.assign rfl rfl rfl rfl rfl (PW.nil (SX.then (SC.ret (SX.thenR ?_))))
    rw [parseQ_y2 h hl hi hn (.inr hq)]
    exact SX.done2 (s := 4) (t := 5) (r := .vl (.int .i64 2)) (.inl rfl) rfl rfl rfl rfl
   ·refine SC.region ?_
    refine PW.move rfl rfl rfl rfl rfl ?_
    refine PW.call (r := .vl (.bool false)) rfl rfl rfl rfl rfl rfl (KV.st _) rfl (k_hasPrefix (s.extract (i + 1) s.size) ⟨#[43]⟩ ((pre_one _ 43).trans (decide_eq_false hp))) ?_
    refine PW.move rfl rfl rfl rfl rfl (PW.move rfl rfl rfl rfl rfl ?_)
    refine PW.call (r := .vl (.bool false)) rfl rfl rfl rfl rfl rfl (KV.st _) rfl (k_hasPrefix (s.extract (i + 1) s.size) ⟨#[45]⟩ ((pre_one _ 45).trans (decide_eq_false hq))) ?_
    refine PW.pick (t := false) rfl rfl rfl rfl rfl rfl ?_
    refine PW.nil (SX.then (SC.cond (t := false) rfl (SC.skip (SX.then (SC.seq ?_)))))
    by_cases hd : ∃ d, parseR r (byl (s.extract (i + 1) s.size)) = .ok d
    ·obtain ⟨d, hd⟩ := hd
     have DB := parse_bd9 (n := 20000) (m := 4000) hd (by rw [ext_size]; omega) (by decide) (by decide)
     refine SC.region (PW.move rfl rfl rfl rfl rfl (PW.move rfl rfl rfl rfl rfl ?_))
     refine PW.call (r := .kw (K2 (KI (d)) (KV (.int .i64 0)))) rfl rfl rfl rfl rfl rfl (K2.st (KI.st _) (KV.st _)) rfl (callK k_parse (by rw [hd]; rfl)) ?_
     refine PW.move rfl rfl rfl rfl rfl ?_
     refine PW.ext (r := .kw (KI (d))) rfl rfl rfl rfl rfl ex20 (KI.st _) rfl ?_
     refine PW.ext (r := .vl (.int .i64 0)) rfl rfl rfl rfl rfl ex21v (KV.st _) rfl ?_
     refine PW.alloc (BI 31) rfl rfl rfl rfl rfl bI ?_
     refine PW.store (x := .tmp 57) (r := .kw (KI (d))) rfl rfl rfl rfl rfl rfl sh_I ?_
     refine PW.assign rfl rfl rfl rfl rfl (PW.nil (SX.then (SC.seq (SC.seq (SC.region (PW.move rfl rfl rfl rfl rfl ?_))))))
     refine PW.q2 (x := .tmp 59) (y := .const (.int .i64 0)) (.bool false) rfl rfl rfl rfl rfl (fun ρ W h1 h2 => by go_simp) ?_
     refine PW.nil (SX.then (SC.cond (t := false) rfl (SC.skip (SX.then (SC.seq ?_)))))
     by_cases h0 : d = 0
     ·refine SC.region ?_
      refine PW.load rfl rfl rfl rfl rfl rfl ?_
      refine PW.load rfl rfl rfl rfl rfl rfl ?_
      refine PW.call (r := .kw (K2 (KQ (0) (0)) (KV (.int .i64 6)))) rfl rfl rfl rfl rfl rfl (K2.st (KQ.st _ _) (KV.st _)) rfl (k_rnew0 h0) ?_
      refine PW.ext (r := .kw (KQ (0) (0))) rfl rfl rfl rfl rfl ex20 (KQ.st _ _) rfl ?_
      refine PW.ext (r := .vl (.int .i64 6)) rfl rfl rfl rfl rfl ex21v (KV.st _) rfl ?_
      refine PW.store (x := .tmp 66) (r := .kw (KQ (0) (0))) rfl rfl rfl rfl rfl rfl sh_Q ?_
      refine PW.assign rfl rfl rfl rfl rfl (PW.nil (SX.then (SC.ret ?_)))
      rw [parseQ_y4 h hl hi hn (fun h9 => h9.elim hp hq) hd h0]
      exact SX.done2 (s := 4) (t := 5) (r := .vl (.int .i64 6)) (.inl rfl) rfl rfl rfl rfl
     ·refine SC.region ?_
      refine PW.load rfl rfl rfl rfl rfl rfl ?_
      refine PW.load rfl rfl rfl rfl rfl rfl ?_
      refine PW.call (r := .kw (K2 (KQ (Rat.divInt (n) (d)).num (((Rat.divInt (n) (d)).den : Int) - 1)) (KV (.int .i64 0)))) rfl rfl rfl rfl rfl rfl (K2.st (KQ.st _ _) (KV.st _)) rfl (k_rnew NB DB h0 (by omega) (by omega)) ?_
      refine PW.ext (r := .kw (KQ (Rat.divInt (n) (d)).num (((Rat.divInt (n) (d)).den : Int) - 1))) rfl rfl rfl rfl rfl ex20 (KQ.st _ _) rfl ?_
      refine PW.ext (r := .vl (.int .i64 0)) rfl rfl rfl rfl rfl ex21v (KV.st _) rfl ?_
      refine PW.store (x := .tmp 66) (r := .kw (KQ (Rat.divInt (n) (d)).num (((Rat.divInt (n) (d)).den : Int) - 1))) rfl rfl rfl rfl rfl rfl sh_Q ?_
      refine PW.assign rfl rfl rfl rfl rfl (PW.nil (SX.then (SC.ret ?_)))
      rw [parseQ_y5 h hl hi hn (fun h9 => h9.elim hp hq) hd h0]
      exact SX.done2 (s := 4) (t := 5) (r := .vl (.int .i64 0)) (.inl rfl) rfl rfl rfl rfl
    ·obtain ⟨ed, ed0⟩ := parse_err hd
     refine SC.region (PW.move rfl rfl rfl rfl rfl (PW.move rfl rfl rfl rfl rfl ?_))
     refine PW.call (r := .kw (K2 (KI (0)) (KV (.int .i64 ed)))) rfl rfl rfl rfl rfl rfl (K2.st (KI.st _) (KV.st _)) rfl (callK k_parse (by rw [ed0]; rfl)) ?_
     refine PW.move rfl rfl rfl rfl rfl ?_
     refine PW.ext (r := .kw (KI (0))) rfl rfl rfl rfl rfl ex20 (KI.st _) rfl ?_
     refine PW.ext (r := .vl (.int .i64 ed)) rfl rfl rfl rfl rfl ex21v (KV.st _) rfl ?_
     refine PW.alloc (BI 31) rfl rfl rfl rfl rfl bI ?_
     refine PW.store (x := .tmp 57) (r := .kw (KI (0))) rfl rfl rfl rfl rfl rfl sh_I ?_
     refine PW.assign rfl rfl rfl rfl rfl (PW.nil (SX.then (SC.seq (SC.seq (SC.region (PW.move rfl rfl rfl rfl rfl ?_))))))
     refine PW.q2 (x := .tmp 59) (y := .const (.int .i64 0)) (.bool true) rfl rfl rfl rfl rfl (fun ρ W h1 h2 => by exact r_neE h1 h2 (parse_ne ed0)) ?_
     refine PW.nil (SX.then (SC.cond (t := true) rfl (SC.seq (SC.region ?_))))
     refine PW.val (r := .kw (KQ (0) (0))) rfl rfl rfl rfl (fun a W hf => ⟨_, r_bldQ0, zeroQ W, KQ.st _ _⟩) ?_
     refine PW.move rfl rfl rfl rfl rfl ?_
     refine PW.store (x := .tmp 61) (r := .kw (KQ (0) (0))) rfl rfl rfl rfl rfl rfl sh_Q ?_
     refine PW.assign rfl rfl rfl rfl rfl (PW.nil (SX.then (SC.ret (SX.thenR ?_))))
     rw [parseQ_y3 h hl hi hn (fun h9 => h9.elim hp hq) ed0]
     exact SX.done2 (s := 4) (t := 5) (r := .vl (.int .i64 ed)) (.inl rfl) rfl rfl rfl rfl
 ·obtain ⟨en, en0⟩ := parse_err hn
  refine SC.region (PW.move rfl rfl rfl rfl rfl (PW.move rfl rfl rfl rfl rfl ?_))
  refine PW.call (r := .kw (K2 (KI (0)) (KV (.int .i64 en)))) rfl rfl rfl rfl rfl rfl (K2.st (KI.st _) (KV.st _)) rfl (callK k_parse (by rw [en0]; rfl)) ?_
  refine PW.move rfl rfl rfl rfl rfl ?_
  refine PW.ext (r := .kw (KI (0))) rfl rfl rfl rfl rfl ex20 (KI.st _) rfl ?_
  refine PW.ext (r := .vl (.int .i64 en)) rfl rfl rfl rfl rfl ex21v (KV.st _) rfl ?_
  refine PW.alloc (BI 31) rfl rfl rfl rfl rfl bI ?_
  refine PW.store (x := .tmp 35) (r := .kw (KI (0))) rfl rfl rfl rfl rfl rfl sh_I ?_
  refine PW.assign rfl rfl rfl rfl rfl (PW.nil (SX.then (SC.seq (SC.seq (SC.region (PW.move rfl rfl rfl rfl rfl ?_))))))
  refine PW.q2 (x := .tmp 37) (y := .const (.int .i64 0)) (.bool true) rfl rfl rfl rfl rfl (fun ρ W h1 h2 => by exact r_neE h1 h2 (parse_ne en0)) ?_
  refine PW.move rfl rfl rfl rfl rfl ?_
  refine PW.skip rfl rfl rfl ?_
  refine PW.skip rfl rfl rfl ?_
  refine PW.pick (t := true) rfl rfl rfl rfl rfl rfl ?_
  refine PW.nil (SX.then (SC.cond (t := true) rfl (SC.seq (SC.region ?_))))
  refine PW.load rfl rfl rfl rfl rfl rfl ?_
  refine PW.call (r := .kw (KQ (((0 : Int) : Rat)).num (((((0 : Int) : Rat)).den : Int) - 1))) rfl rfl rfl rfl rfl rfl (KQ.st _ _) rfl (k_rof) ?_
  refine PW.move rfl rfl rfl rfl rfl ?_
  refine PW.store (x := .tmp 44) (r := .kw (KQ (((0 : Int) : Rat)).num (((((0 : Int) : Rat)).den : Int) - 1))) rfl rfl rfl rfl rfl rfl sh_Q ?_
  refine PW.assign rfl rfl rfl rfl rfl (PW.nil (SX.then (SC.ret (SX.thenR ?_))))
  rw [parseQ_y1 h hl hi en0]
  exact SX.done2 (s := 4) (t := 5) (r := .vl (.int .i64 en)) (.inl rfl) rfl rfl rfl rfl
theorem k_qparse {s : ByteArray} {r : Int} : CallOk 29 [KV (.string s), KV (.int .i64 (r))] (KPR (parseQ r s)) := by
 by_cases h : 2 ≤ r ∧ r ≤ 36
 ·by_cases hl : 20000 < s.size
  ·exact k_qparse_long h hl
  ·rcases cut_cases s with hi | ⟨i, hi, hs⟩
   ·exact k_qparse_no h hl hi
   ·exact k_qparse_yes h hl hi hs
 ·exact k_qparse_radix h
theorem ce_qtext : CE 27 := fun args W => by go_simp
set_option maxHeartbeats 3200000 in
set_option maxRecDepth 100000 in
theorem k_qtext_w {x : Rat} {r : Int} {m : Nat} (X : bq m x) (hm : m ≤ 50000) (h : 2 ≤ r ∧ r ≤ 36) (hd : x.den = 1) : CallOk 27 [KQ (x).num (((x).den : Int) - 1), KV (.int .i64 (r))] (K2 (KV (.string (txq r x))) (KV (.int .i64 0))) := by
 refine CallOk.enter (l := [.kw (KQ (x).num (((x).den : Int) - 1)), .vl (.int .i64 (r))]) 36 ce_qtext Tryz.func27 rfl Tryz.ntmps27 (by simp) ⟨(KQ.st _ _), rfl, (KV.st _), rfl, trivial⟩ fun w => ?_
 refine SC.seq (SC.region ?_)
 refine PW.box (x := .tmp 0) (r := .kw (KQ (x).num (((x).den : Int) - 1))) (BQ 38) rfl rfl rfl rfl rfl bQ rfl sh_Q ?_
 refine PW.assign rfl rfl rfl rfl rfl (PW.assign rfl rfl rfl rfl rfl (PW.nil (SX.then (SC.seq (SC.region ?_)))))
 refine PW.fld (r := .kw (KI ((x).num))) rfl rfl rfl rfl rfl rfl rfl rfl rfl rfl rfl fldQ0 (KI.st _) ?_
 refine PW.move rfl rfl rfl rfl rfl ?_
 refine PW.call (r := .kw (K2 (KV (.string (tstr r ((x).num)))) (KV (.int .i64 0)))) rfl rfl rfl rfl rfl rfl (K2.st (KV.st _) (KV.st _)) rfl (k_text ((X).1) (by omega) h) ?_
 refine PW.move rfl rfl rfl rfl rfl ?_
 refine PW.ext (r := .vl (.string (tstr r ((x).num)))) rfl rfl rfl rfl rfl ex20v (KV.st _) rfl ?_
 refine PW.ext (r := .vl (.int .i64 0)) rfl rfl rfl rfl rfl ex21v (KV.st _) rfl ?_
 refine PW.assign rfl rfl rfl rfl rfl (PW.assign rfl rfl rfl rfl rfl (PW.nil (SX.then (SC.seq (SC.seq (SC.region (PW.move rfl rfl rfl rfl rfl ?_)))))))
 refine PW.q2 (x := .tmp 16) (y := .const (.int .i64 0)) (.bool false) rfl rfl rfl rfl rfl (fun ρ W h1 h2 => by go_simp) ?_
 refine PW.move rfl rfl rfl rfl rfl ?_
 refine PW.load rfl rfl rfl rfl rfl rfl ?_
 refine PW.call (r := .vl (.bool true)) rfl rfl rfl rfl rfl rfl (KV.st _) rfl (callK k_rwhole (by rw [decide_eq_true hd]; rfl)) ?_
 refine PW.pick (t := false) rfl rfl rfl rfl rfl rfl ?_
 refine PW.nil (SX.then (SC.cond (t := true) rfl (SC.seq (SC.region (PW.move rfl rfl rfl rfl rfl (PW.move rfl rfl rfl rfl rfl (PW.assign rfl rfl rfl rfl rfl (PW.assign rfl rfl rfl rfl rfl (PW.nil ?_)))))))))
 refine SX.then (SC.ret (SX.thenR ?_))
 rw [txq_whole hd]
 exact SX.done2v (s := 4) (t := 5) (.inl rfl) rfl rfl rfl rfl
set_option maxHeartbeats 3200000 in
set_option maxRecDepth 100000 in
theorem k_qtext_f {x : Rat} {r : Int} {m : Nat} (X : bq m x) (hm : m ≤ 50000) (h : 2 ≤ r ∧ r ≤ 36) (hd : ¬ x.den = 1) : CallOk 27 [KQ (x).num (((x).den : Int) - 1), KV (.int .i64 (r))] (K2 (KV (.string (txq r x))) (KV (.int .i64 0))) := by
 refine CallOk.enter (l := [.kw (KQ (x).num (((x).den : Int) - 1)), .vl (.int .i64 (r))]) 36 ce_qtext Tryz.func27 rfl Tryz.ntmps27 (by simp) ⟨(KQ.st _ _), rfl, (KV.st _), rfl, trivial⟩ fun w => ?_
 refine SC.seq (SC.region ?_)
 refine PW.box (x := .tmp 0) (r := .kw (KQ (x).num (((x).den : Int) - 1))) (BQ 38) rfl rfl rfl rfl rfl bQ rfl sh_Q ?_
 refine PW.assign rfl rfl rfl rfl rfl (PW.assign rfl rfl rfl rfl rfl (PW.nil (SX.then (SC.seq (SC.region ?_)))))
 refine PW.fld (r := .kw (KI ((x).num))) rfl rfl rfl rfl rfl rfl rfl rfl rfl rfl rfl fldQ0 (KI.st _) ?_
 refine PW.move rfl rfl rfl rfl rfl ?_
 refine PW.call (r := .kw (K2 (KV (.string (tstr r ((x).num)))) (KV (.int .i64 0)))) rfl rfl rfl rfl rfl rfl (K2.st (KV.st _) (KV.st _)) rfl (k_text ((X).1) (by omega) h) ?_
 refine PW.move rfl rfl rfl rfl rfl ?_
 refine PW.ext (r := .vl (.string (tstr r ((x).num)))) rfl rfl rfl rfl rfl ex20v (KV.st _) rfl ?_
 refine PW.ext (r := .vl (.int .i64 0)) rfl rfl rfl rfl rfl ex21v (KV.st _) rfl ?_
 refine PW.assign rfl rfl rfl rfl rfl (PW.assign rfl rfl rfl rfl rfl (PW.nil (SX.then (SC.seq (SC.seq (SC.region (PW.move rfl rfl rfl rfl rfl ?_)))))))
 refine PW.q2 (x := .tmp 16) (y := .const (.int .i64 0)) (.bool false) rfl rfl rfl rfl rfl (fun ρ W h1 h2 => by go_simp) ?_
 refine PW.move rfl rfl rfl rfl rfl ?_
 refine PW.load rfl rfl rfl rfl rfl rfl ?_
 refine PW.call (r := .vl (.bool false)) rfl rfl rfl rfl rfl rfl (KV.st _) rfl (callK k_rwhole (by rw [decide_eq_false hd]; rfl)) ?_
 refine PW.pick (t := false) rfl rfl rfl rfl rfl rfl ?_
 refine PW.nil (SX.then (SC.cond (t := false) rfl (SC.skip (SX.then (SC.seq (SC.region ?_))))))
 refine PW.load rfl rfl rfl rfl rfl rfl ?_
 refine PW.call (r := .kw (KI ((x.den : Int)))) rfl rfl rfl rfl rfl rfl (KI.st _) rfl (k_rden X (by omega)) ?_
 refine PW.move rfl rfl rfl rfl rfl ?_
 refine PW.call (r := .kw (K2 (KV (.string (tstr r ((x.den : Int))))) (KV (.int .i64 0)))) rfl rfl rfl rfl rfl rfl (K2.st (KV.st _) (KV.st _)) rfl (k_text X.2 (by omega) h) ?_
 refine PW.move rfl rfl rfl rfl rfl ?_
 refine PW.ext (r := .vl (.string (tstr r ((x.den : Int))))) rfl rfl rfl rfl rfl ex20v (KV.st _) rfl ?_
 refine PW.ext (r := .vl (.int .i64 0)) rfl rfl rfl rfl rfl ex21v (KV.st _) rfl ?_
 refine PW.assign rfl rfl rfl rfl rfl (PW.assign rfl rfl rfl rfl rfl (PW.nil (SX.then (SC.seq (SC.region (PW.move rfl rfl rfl rfl rfl ?_))))))
 refine PW.q2 (x := .tmp 31) (y := .const (.string ⟨#[47]⟩)) (.string (tstr r x.num ++ ⟨#[47]⟩)) rfl rfl rfl rfl rfl (fun ρ W h1 h2 => by exact r_sadd h1 h2 (by have q1 := tstr_size (r := r) h.1 X.1; have q2 := tstr_size (r := r) h.1 X.2; simp only [ByteArray.size_append, bsz1]; omega)) ?_
 refine PW.move rfl rfl rfl rfl rfl ?_
 refine PW.q2 (x := .tmp 32) (y := .tmp 33) (.string (tstr r x.num ++ ⟨#[47]⟩ ++ tstr r (x.den : Int))) rfl rfl rfl rfl rfl (fun ρ W h1 h2 => by exact r_sadd h1 h2 (by have q1 := tstr_size (r := r) h.1 X.1; have q2 := tstr_size (r := r) h.1 X.2; simp only [ByteArray.size_append, bsz1]; omega)) ?_
 refine PW.move rfl rfl rfl rfl rfl (PW.assign rfl rfl rfl rfl rfl (PW.assign rfl rfl rfl rfl rfl (PW.nil (SX.then (SC.ret ?_)))))
 rw [txq_frac hd]
 exact SX.done2v (s := 4) (t := 5) (.inl rfl) rfl rfl rfl rfl
theorem k_qtext {x : Rat} {r : Int} {m : Nat} (X : bq m x) (hm : m ≤ 50000) (h : 2 ≤ r ∧ r ≤ 36) : CallOk 27 [KQ (x).num (((x).den : Int) - 1), KV (.int .i64 (r))] (K2 (KV (.string (txq r x))) (KV (.int .i64 0))) := by
 by_cases hd : x.den = 1
 ·exact k_qtext_w X hm h hd
 ·exact k_qtext_f X hm h hd
end Go.Proofs.YthpjmhhfcechmaaGreat.Sy
/- The awake of chapter 03, by rules. -/
namespace Go.Proofs.YthpjmhhfcechmaaGreat.Sy
open Go Go.RowKit Ma
theorem aw_b14 : bq 1 (Rat.divInt 6 4) := ⟨bd.lit (by decide +kernel), bd.lit (by decide +kernel)⟩
theorem aw_b23 : bq 1 (Rat.divInt 31 100) := ⟨bd.lit (by decide +kernel), bd.lit (by decide +kernel)⟩
theorem aw_b27 : bq 1 (Rat.divInt 32 100) := ⟨bd.lit (by decide +kernel), bd.lit (by decide +kernel)⟩
theorem aw_b33 : bq 1 (Rat.divInt 5 16) := ⟨bd.lit (by decide +kernel), bd.lit (by decide +kernel)⟩
theorem aw_p14 : parseQ 10 ⟨#[43, 48, 54, 47, 52]⟩ = .ok (Rat.divInt 6 4) := by kernel_rfl
theorem aw_p23 : parseQ 10 ⟨#[51, 49, 47, 49, 48, 48]⟩ = .ok (Rat.divInt 31 100) := by kernel_rfl
theorem aw_p27 : parseQ 10 ⟨#[51, 50, 47, 49, 48, 48]⟩ = .ok (Rat.divInt 32 100) := by kernel_rfl
theorem tstr_of {r x : Int} {s : ByteArray} (hr : 2 ≤ r) (h : Txt r x s) : tstr r x = s := (tstr_eq hr h).symm
theorem aw_t19 : txq 10 (Rat.divInt 6 4) = ⟨#[51, 47, 50]⟩ := by
 rw [txq_frac (by decide +kernel), show (Rat.divInt 6 4).num = 3 by decide +kernel, show (((Rat.divInt 6 4).den : Nat) : Int) = 2 by decide +kernel]
 rw [tstr_of (s := ⟨#[51]⟩) (by decide) ⟨[3], fun x hx => by simp at hx; omega, by rw [top_at (by decide)]; decide, by decide, by decide⟩, tstr_of (s := ⟨#[50]⟩) (by decide) ⟨[2], fun x hx => by simp at hx; omega, by rw [top_at (by decide)]; decide, by decide, by decide⟩]
 rfl
theorem aw_t38 : txq 10 (Rat.divInt 5 16) = ⟨#[53, 47, 49, 54]⟩ := by
 rw [txq_frac (by decide +kernel), show (Rat.divInt 5 16).num = 5 by decide +kernel, show (((Rat.divInt 5 16).den : Nat) : Int) = 16 by decide +kernel]
 rw [tstr_of (s := ⟨#[53]⟩) (by decide) ⟨[5], fun x hx => by simp at hx; omega, by rw [top_at (by decide)]; decide, by decide, by decide⟩, tstr_of (s := ⟨#[49, 54]⟩) (by decide) ⟨[6, 1], fun x hx => by simp at hx; omega, by rw [top_at (by decide)]; decide, by decide, by decide⟩]
 rfl
theorem aw_le : Rat.divInt 31 100 ≤ Rat.divInt 32 100 := by decide +kernel
theorem aw_pos : 0 < sgq (Rat.divInt 31 100) := by decide +kernel
theorem aw_hb : ∀ i, bd (1 + 1) (at0 [0, 3, 5] i) := fun i => bd.mono (k := 1) (bd.lit (by
 match i with
 | 0 => decide
 | 1 => decide
 | 2 => decide
 | n + 3 => exact (by decide : -4294967296 < (0 : Int) ∧ (0 : Int) < 4294967296))) (by decide)
theorem aw_c : ctrR [0, 3, 5] = .ok (Rat.divInt 5 16) := by kernel_rfl
theorem Smp.cast {x y : Rat} {l l' : List Int} (h : Smp x y l) (e : l = l') : Smp x y l' := e ▸ h
theorem aw_s : Smp (Rat.divInt 31 100) (Rat.divInt 32 100) [0, 3, 5] := by
 refine Smp.cast (Smp.step (by decide +kernel) (by decide +kernel) (Smp.step (by decide +kernel) (by decide +kernel) (Smp.next (by decide +kernel) (by decide +kernel)))) ?_
 decide +kernel
set_option maxHeartbeats 3200000 in
theorem k_awake3 : CallOk 13 [] (KV (.bool true)) := by
 refine CallOk.enter (l := []) 57 (fun args W => by go_simp) Tryz.func13 rfl Tryz.ntmps13 (by simp) trivial fun w => ?_
 refine SC.seq (SC.region (PW.assign rfl rfl rfl rfl rfl (PW.nil (SX.then (SC.seq (SC.region ?_))))))
 refine PW.call (r := .kw (K2 (KQ (Rat.divInt 6 4).num (((Rat.divInt 6 4).den : Int) - 1)) (KV (.int .i64 0)))) rfl rfl rfl rfl rfl rfl (K2.st (KQ.st _ _) (KV.st _)) rfl (callK k_qparse (by rw [aw_p14]; rfl)) ?_
 refine PW.move rfl rfl rfl rfl rfl ?_
 refine PW.ext (r := .kw (KQ (Rat.divInt 6 4).num (((Rat.divInt 6 4).den : Int) - 1))) rfl rfl rfl rfl rfl ex20 (KQ.st _ _) rfl ?_
 refine PW.ext (r := .vl (.int .i64 0)) rfl rfl rfl rfl rfl ex21v (KV.st _) rfl ?_
 refine PW.alloc (BQ 38) rfl rfl rfl rfl rfl bQ ?_
 refine PW.store (x := .tmp 15) (r := .kw (KQ (Rat.divInt 6 4).num (((Rat.divInt 6 4).den : Int) - 1))) rfl rfl rfl rfl rfl rfl sh_Q ?_
 refine PW.assign rfl rfl rfl rfl rfl (PW.nil (SX.then (SC.seq (SC.region ?_))))
 refine PW.load rfl rfl rfl rfl rfl rfl ?_
 refine PW.call (r := .kw (K2 (KV (.string ⟨#[51, 47, 50]⟩)) (KV (.int .i64 0)))) rfl rfl rfl rfl rfl rfl (K2.st (KV.st _) (KV.st _)) rfl (callK (k_qtext aw_b14 (by decide) (by decide)) (by rw [aw_t19]; rfl)) ?_
 refine PW.move rfl rfl rfl rfl rfl ?_
 refine PW.ext (r := .vl (.string ⟨#[51, 47, 50]⟩)) rfl rfl rfl rfl rfl ex20v (KV.st _) rfl ?_
 refine PW.ext (r := .vl (.int .i64 0)) rfl rfl rfl rfl rfl ex21v (KV.st _) rfl ?_
 refine PW.assign rfl rfl rfl rfl rfl (PW.assign rfl rfl rfl rfl rfl (PW.nil (SX.then (SC.seq (SC.region ?_)))))
 refine PW.call (r := .kw (K2 (KQ (Rat.divInt 31 100).num (((Rat.divInt 31 100).den : Int) - 1)) (KV (.int .i64 0)))) rfl rfl rfl rfl rfl rfl (K2.st (KQ.st _ _) (KV.st _)) rfl (callK k_qparse (by rw [aw_p23]; rfl)) ?_
 refine PW.move rfl rfl rfl rfl rfl ?_
 refine PW.ext (r := .kw (KQ (Rat.divInt 31 100).num (((Rat.divInt 31 100).den : Int) - 1))) rfl rfl rfl rfl rfl ex20 (KQ.st _ _) rfl ?_
 refine PW.ext (r := .vl (.int .i64 0)) rfl rfl rfl rfl rfl ex21v (KV.st _) rfl ?_
 refine PW.alloc (BQ 38) rfl rfl rfl rfl rfl bQ ?_
 refine PW.store (x := .tmp 24) (r := .kw (KQ (Rat.divInt 31 100).num (((Rat.divInt 31 100).den : Int) - 1))) rfl rfl rfl rfl rfl rfl sh_Q ?_
 refine PW.assign rfl rfl rfl rfl rfl (PW.nil (SX.then (SC.seq (SC.region ?_))))
 refine PW.call (r := .kw (K2 (KQ (Rat.divInt 32 100).num (((Rat.divInt 32 100).den : Int) - 1)) (KV (.int .i64 0)))) rfl rfl rfl rfl rfl rfl (K2.st (KQ.st _ _) (KV.st _)) rfl (callK k_qparse (by rw [aw_p27]; rfl)) ?_
 refine PW.move rfl rfl rfl rfl rfl ?_
 refine PW.ext (r := .kw (KQ (Rat.divInt 32 100).num (((Rat.divInt 32 100).den : Int) - 1))) rfl rfl rfl rfl rfl ex20 (KQ.st _ _) rfl ?_
 refine PW.ext (r := .vl (.int .i64 0)) rfl rfl rfl rfl rfl ex21v (KV.st _) rfl ?_
 refine PW.alloc (BQ 38) rfl rfl rfl rfl rfl bQ ?_
 refine PW.store (x := .tmp 28) (r := .kw (KQ (Rat.divInt 32 100).num (((Rat.divInt 32 100).den : Int) - 1))) rfl rfl rfl rfl rfl rfl sh_Q ?_
 refine PW.assign rfl rfl rfl rfl rfl (PW.nil (SX.then (SC.seq (SC.region ?_))))
 refine PW.load rfl rfl rfl rfl rfl rfl ?_
 refine PW.load rfl rfl rfl rfl rfl rfl ?_
 refine PW.call (r := .kw (K2 (KQ (Rat.divInt 5 16).num (((Rat.divInt 5 16).den : Int) - 1)) (KV (.int .i64 0)))) rfl rfl rfl rfl rfl rfl (K2.st (KQ.st _ _) (KV.st _)) rfl (k_Simplest_pos aw_b23 aw_b27 (by decide) aw_le aw_pos aw_hb (by decide) (by decide) aw_c aw_s) ?_
 refine PW.move rfl rfl rfl rfl rfl ?_
 refine PW.ext (r := .kw (KQ (Rat.divInt 5 16).num (((Rat.divInt 5 16).den : Int) - 1))) rfl rfl rfl rfl rfl ex20 (KQ.st _ _) rfl ?_
 refine PW.ext (r := .vl (.int .i64 0)) rfl rfl rfl rfl rfl ex21v (KV.st _) rfl ?_
 refine PW.alloc (BQ 38) rfl rfl rfl rfl rfl bQ ?_
 refine PW.store (x := .tmp 34) (r := .kw (KQ (Rat.divInt 5 16).num (((Rat.divInt 5 16).den : Int) - 1))) rfl rfl rfl rfl rfl rfl sh_Q ?_
 refine PW.assign rfl rfl rfl rfl rfl (PW.nil (SX.then (SC.seq (SC.region ?_))))
 refine PW.load rfl rfl rfl rfl rfl rfl ?_
 refine PW.call (r := .kw (K2 (KV (.string ⟨#[53, 47, 49, 54]⟩)) (KV (.int .i64 0)))) rfl rfl rfl rfl rfl rfl (K2.st (KV.st _) (KV.st _)) rfl (callK (k_qtext aw_b33 (by decide) (by decide)) (by rw [aw_t38]; rfl)) ?_
 refine PW.move rfl rfl rfl rfl rfl ?_
 refine PW.ext (r := .vl (.string ⟨#[53, 47, 49, 54]⟩)) rfl rfl rfl rfl rfl ex20v (KV.st _) rfl ?_
 refine PW.ext (r := .vl (.int .i64 0)) rfl rfl rfl rfl rfl ex21v (KV.st _) rfl ?_
 refine PW.assign rfl rfl rfl rfl rfl (PW.assign rfl rfl rfl rfl rfl (PW.nil (SX.then (SC.seq (SC.region (PW.move rfl rfl rfl rfl rfl (PW.move rfl rfl rfl rfl rfl (PW.move rfl rfl rfl rfl rfl ?_))))))))
 refine PW.move rfl rfl rfl rfl rfl (PW.move rfl rfl rfl rfl rfl (PW.move rfl rfl rfl rfl rfl ?_))
 refine PW.qn [(.tmp 41, .int .i64 0), (.tmp 42, .int .i64 0), (.tmp 43, .int .i64 0), (.tmp 44, .int .i64 0), (.tmp 45, .int .i64 0), (.tmp 46, .int .i64 0)] (.int .i64 0) rfl rfl rfl ⟨rfl, rfl, rfl, rfl, rfl, rfl, trivial⟩ (fun ρ W h => by obtain ⟨h1, h2, h3, h4, h5, h6, _⟩ := h; go_simp; kernel_rfl) ?_
 refine PW.q2 (x := .tmp 47) (y := .const (.int .i64 0)) (.bool true) rfl rfl rfl rfl rfl (fun ρ W h1 h2 => by go_simp) ?_
 refine PW.move rfl rfl rfl rfl rfl (PW.move rfl rfl rfl rfl rfl ?_)
 refine PW.q2 (x := .tmp 50) (y := .const (.string ⟨#[51, 47, 50]⟩)) (.bool true) rfl rfl rfl rfl rfl (fun ρ W h1 h2 => by exact r_seq h1 h2 (by simp)) ?_
 refine PW.pick (t := true) rfl rfl rfl rfl rfl rfl ?_
 refine PW.move rfl rfl rfl rfl rfl (PW.move rfl rfl rfl rfl rfl ?_)
 refine PW.q2 (x := .tmp 54) (y := .const (.string ⟨#[53, 47, 49, 54]⟩)) (.bool true) rfl rfl rfl rfl rfl (fun ρ W h1 h2 => by exact r_seq h1 h2 (by simp)) ?_
 refine PW.pick (t := true) rfl rfl rfl rfl rfl rfl ?_
 refine PW.assign rfl rfl rfl rfl rfl (PW.nil (SX.then (SC.ret ?_)))
 exact SX.done (s := 0) (r := .vl (.bool true)) rfl rfl rfl
end Go.Proofs.YthpjmhhfcechmaaGreat.Sy
