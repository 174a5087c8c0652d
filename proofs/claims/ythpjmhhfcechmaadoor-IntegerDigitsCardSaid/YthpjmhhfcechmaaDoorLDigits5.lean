/- Parts Jp, Kt, Dgb, Dgw, D2, in one file. -/
import Derived.Deep.CutRange
import Derived.Deep.DeepCutAuto
import Derived.RowKit
import Derived.Test.YthpjmhhfcechmaaDoorLDigits1
import Derived.Test.YthpjmhhfcechmaaDoorLDigits2
import Derived.Test.YthpjmhhfcechmaaDoorLDigits4
/- The program's value, Parse by rules. -/
set_option linter.unusedVariables false
set_option linter.unusedSimpArgs false
namespace Go.Proofs.YthpjmhhfcechmaaDoor.Sy
open Go Go.RowKit Ma
theorem r_b1 {x : Operand} {dst : Option Tmp} {ty : TypeId} {pos : String} {after : Array Edge} {guard : Option (Nat × Bool)} {ρ : Operand → Value} {W : World} {a : Int} (h1 : ρ x = .int .u32 a) : (execOp ρ ⟨dst, .buildSlice 22 1 #[(0, x)], ty, pos, after, guard⟩).run Tryd.prog W = .ok (.value (.slice (some ⟨W.heap.size, 0, none⟩) [a].length [a].length)) (W.alloc (.cells ([a].map (Value.int .u32)).toArray 56)) := by
 go_simp
theorem ce_made : CE 27 := fun args W => by go_simp
theorem info_u32 : (Tryd.prog.info? 56).map (fun i => (i.zero, i.size, i.bytes)) = some (some (.int .u32 0), 1, 4) := by kernel_rfl
theorem made_k {n : Bool} {A : Option Addr} {c : Nat} {xs : List Int} {w : World} (rA : Rd w .u32 A xs) (hc : xs.length ≤ c) (hd : dg b32 xs) : Calls Tryd.prog 27 #[.bool n, .slice A xs.length c] w (Ret w (KI (sg n (lv b32 xs)))) := made_c n A c xs w rA hc hd
theorem mulr {a r : Int} (ha : 0 ≤ a ∧ a < 4294967296) (h : 2 ≤ r ∧ r ≤ 36) : 0 ≤ a * r ∧ a * r < 18446744073709551616 := by
 have h1 := Int.mul_nonneg ha.1 (show 0 ≤ r by omega)
 have h2 := Int.mul_le_mul_of_nonneg_left h.2 ha.1
 omega
theorem addr {a r c : Int} (ha : 0 ≤ a ∧ a < 4294967296) (h : 2 ≤ r ∧ r ≤ 36) (h0 : 0 ≤ c) (h1 : c ≤ 36) : 0 ≤ a * r + c ∧ a * r + c < 18446744073709551616 := by
 have h1 := Int.mul_nonneg ha.1 (show 0 ≤ r by omega)
 have h2 := Int.mul_le_mul_of_nonneg_left h.2 ha.1
 omega
theorem pos_of_at0 {s : ByteArray} {c : Int} (h : at0 (byl s) 0 = c) (hc : c ≠ 0) : 0 < s.size := by
 apply Classical.byContradiction
 intro h2
 rw [at0_ge (by rw [byl_len]; omega)] at h
 exact hc h.symm
theorem ce_k_value : CE 26 := fun args W => by go_simp
set_option maxHeartbeats 3200000 in
set_option maxRecDepth 100000 in
theorem k_value {c : Int} (h0 : 0 ≤ c) (h1 : c < 256) : CallOk 26 [KV (.int .u8 (c))] (KV (.int .i64 (dv c))) := by
 refine CallOk.enter (l := [.vl (.int .u8 (c))]) 17 ce_k_value Tryd.func26 rfl Tryd.ntmps26 (by simp) ⟨(KV.st _), rfl, trivial⟩ fun w => ?_
 refine SC.seq (SC.region (PW.assign rfl rfl rfl rfl rfl (PW.nil (SX.then (SC.seq (SC.seq ?_))))))
 by_cases ha : c ≥ 97
 ·by_cases hb : c ≤ 122
  ·refine SC.region ?_
   refine PW.move rfl rfl rfl rfl rfl ?_
   refine PW.q2 (x := .tmp 4) (y := .const (.int .u8 97)) (.bool true) rfl rfl rfl rfl rfl (fun ρ W h1 h2 => by exact r_ge8 h1 h2 (decide_eq_true ha)) ?_
   refine PW.move rfl rfl rfl rfl rfl (PW.move rfl rfl rfl rfl rfl ?_)
   refine PW.q2 (x := .tmp 7) (y := .const (.int .u8 122)) (.bool true) rfl rfl rfl rfl rfl (fun ρ W h1 h2 => by exact r_le8 h1 h2 (decide_eq_true hb)) ?_
   refine PW.pick (t := true) rfl rfl rfl rfl rfl rfl ?_
   refine PW.nil (SX.then (SC.cond (t := true) rfl (SC.region (PW.move rfl rfl rfl rfl rfl ?_))))
   refine PW.q2 (x := .tmp 10) (y := .const (.int .u8 32)) (.int .u8 (c - 32)) rfl rfl rfl rfl rfl (fun ρ W h1 h2 => by exact r_sub8 h1 h2 rfl (by omega)) ?_
   refine PW.assign rfl rfl rfl rfl rfl (PW.nil (SX.then (SC.seq (SC.seq (SC.region (PW.move rfl rfl rfl rfl rfl ?_))))))
   refine PW.call (r := .vl (.int .i64 (ixd (c - 32)))) rfl rfl rfl rfl rfl rfl (KV.st _) rfl (k_indexByte digs (c - 32) (index_digs (by omega) (by omega))) ?_
   refine PW.assign rfl rfl rfl rfl rfl (PW.nil (SX.then (SC.seq ?_)))
   by_cases hx : ixd (c - 32) ≥ 0
   ·refine SC.region ?_
    refine PW.move rfl rfl rfl rfl rfl ?_
    refine PW.q2 (x := .tmp 14) (y := .const (.int .i64 0)) (.bool true) rfl rfl rfl rfl rfl (fun ρ W h1 h2 => by exact r_ge h1 h2 (decide_eq_true hx)) ?_
    refine PW.nil (SX.then (SC.cond (t := true) rfl (SC.seq (SC.region (PW.move rfl rfl rfl rfl rfl (PW.assign rfl rfl rfl rfl rfl (PW.nil (SX.then (SC.ret (SX.thenR ?_))))))))))
    have hr : dv c = ixd (c - 32) := by unfold dv; unfold ixd at hx ⊢; repeat' split at hx; all_goals (repeat' split); all_goals omega
    rw [hr]
    exact SX.done (s := 2) (r := .vl (.int .i64 (ixd (c - 32)))) rfl rfl rfl
   ·refine SC.region ?_
    refine PW.move rfl rfl rfl rfl rfl ?_
    refine PW.q2 (x := .tmp 14) (y := .const (.int .i64 0)) (.bool false) rfl rfl rfl rfl rfl (fun ρ W h1 h2 => by exact r_ge h1 h2 (decide_eq_false hx)) ?_
    refine PW.nil (SX.then (SC.cond (t := false) rfl (SC.skip (SX.then (SC.seq (SC.region (PW.assign rfl rfl rfl rfl rfl (PW.nil (SX.then (SC.ret ?_))))))))))
    have hr : dv c = 36 := by unfold dv; unfold ixd at hx; repeat' split at hx; all_goals (repeat' split); all_goals omega
    rw [hr]
    exact SX.done (s := 2) (r := .vl (.int .i64 36)) rfl rfl rfl
  ·refine SC.region ?_
   refine PW.move rfl rfl rfl rfl rfl ?_
   refine PW.q2 (x := .tmp 4) (y := .const (.int .u8 97)) (.bool true) rfl rfl rfl rfl rfl (fun ρ W h1 h2 => by exact r_ge8 h1 h2 (decide_eq_true ha)) ?_
   refine PW.move rfl rfl rfl rfl rfl (PW.move rfl rfl rfl rfl rfl ?_)
   refine PW.q2 (x := .tmp 7) (y := .const (.int .u8 122)) (.bool false) rfl rfl rfl rfl rfl (fun ρ W h1 h2 => by exact r_le8 h1 h2 (decide_eq_false hb)) ?_
   refine PW.pick (t := true) rfl rfl rfl rfl rfl rfl ?_
   refine PW.nil (SX.then (SC.cond (t := false) rfl (SC.skip (SX.then (SC.seq (SC.seq (SC.region (PW.move rfl rfl rfl rfl rfl ?_))))))))
   refine PW.call (r := .vl (.int .i64 (ixd (c)))) rfl rfl rfl rfl rfl rfl (KV.st _) rfl (k_indexByte digs (c) (index_digs (by omega) (by omega))) ?_
   refine PW.assign rfl rfl rfl rfl rfl (PW.nil (SX.then (SC.seq ?_)))
   by_cases hx : ixd (c) ≥ 0
   ·refine SC.region ?_
    refine PW.move rfl rfl rfl rfl rfl ?_
    refine PW.q2 (x := .tmp 14) (y := .const (.int .i64 0)) (.bool true) rfl rfl rfl rfl rfl (fun ρ W h1 h2 => by exact r_ge h1 h2 (decide_eq_true hx)) ?_
    refine PW.nil (SX.then (SC.cond (t := true) rfl (SC.seq (SC.region (PW.move rfl rfl rfl rfl rfl (PW.assign rfl rfl rfl rfl rfl (PW.nil (SX.then (SC.ret (SX.thenR ?_))))))))))
    have hr : dv c = ixd (c) := by unfold dv; unfold ixd at hx ⊢; repeat' split at hx; all_goals (repeat' split); all_goals omega
    rw [hr]
    exact SX.done (s := 2) (r := .vl (.int .i64 (ixd (c)))) rfl rfl rfl
   ·refine SC.region ?_
    refine PW.move rfl rfl rfl rfl rfl ?_
    refine PW.q2 (x := .tmp 14) (y := .const (.int .i64 0)) (.bool false) rfl rfl rfl rfl rfl (fun ρ W h1 h2 => by exact r_ge h1 h2 (decide_eq_false hx)) ?_
    refine PW.nil (SX.then (SC.cond (t := false) rfl (SC.skip (SX.then (SC.seq (SC.region (PW.assign rfl rfl rfl rfl rfl (PW.nil (SX.then (SC.ret ?_))))))))))
    have hr : dv c = 36 := by unfold dv; unfold ixd at hx; repeat' split at hx; all_goals (repeat' split); all_goals omega
    rw [hr]
    exact SX.done (s := 2) (r := .vl (.int .i64 36)) rfl rfl rfl
 ·refine SC.region ?_
  refine PW.move rfl rfl rfl rfl rfl ?_
  refine PW.q2 (x := .tmp 4) (y := .const (.int .u8 97)) (.bool false) rfl rfl rfl rfl rfl (fun ρ W h1 h2 => by exact r_ge8 h1 h2 (decide_eq_false ha)) ?_
  refine PW.move rfl rfl rfl rfl rfl ?_
  refine PW.skip rfl rfl rfl ?_
  refine PW.skip rfl rfl rfl ?_
  refine PW.pick (t := false) rfl rfl rfl rfl rfl rfl ?_
  refine PW.nil (SX.then (SC.cond (t := false) rfl (SC.skip (SX.then (SC.seq (SC.seq (SC.region (PW.move rfl rfl rfl rfl rfl ?_))))))))
  refine PW.call (r := .vl (.int .i64 (ixd (c)))) rfl rfl rfl rfl rfl rfl (KV.st _) rfl (k_indexByte digs (c) (index_digs (by omega) (by omega))) ?_
  refine PW.assign rfl rfl rfl rfl rfl (PW.nil (SX.then (SC.seq ?_)))
  by_cases hx : ixd (c) ≥ 0
  ·refine SC.region ?_
   refine PW.move rfl rfl rfl rfl rfl ?_
   refine PW.q2 (x := .tmp 14) (y := .const (.int .i64 0)) (.bool true) rfl rfl rfl rfl rfl (fun ρ W h1 h2 => by exact r_ge h1 h2 (decide_eq_true hx)) ?_
   refine PW.nil (SX.then (SC.cond (t := true) rfl (SC.seq (SC.region (PW.move rfl rfl rfl rfl rfl (PW.assign rfl rfl rfl rfl rfl (PW.nil (SX.then (SC.ret (SX.thenR ?_))))))))))
   have hr : dv c = ixd (c) := by unfold dv; unfold ixd at hx ⊢; repeat' split at hx; all_goals (repeat' split); all_goals omega
   rw [hr]
   exact SX.done (s := 2) (r := .vl (.int .i64 (ixd (c)))) rfl rfl rfl
  ·refine SC.region ?_
   refine PW.move rfl rfl rfl rfl rfl ?_
   refine PW.q2 (x := .tmp 14) (y := .const (.int .i64 0)) (.bool false) rfl rfl rfl rfl rfl (fun ρ W h1 h2 => by exact r_ge h1 h2 (decide_eq_false hx)) ?_
   refine PW.nil (SX.then (SC.cond (t := false) rfl (SC.skip (SX.then (SC.seq (SC.region (PW.assign rfl rfl rfl rfl rfl (PW.nil (SX.then (SC.ret ?_))))))))))
   have hr : dv c = 36 := by unfold dv; unfold ixd at hx; repeat' split at hx; all_goals (repeat' split); all_goals omega
   rw [hr]
   exact SX.done (s := 2) (r := .vl (.int .i64 36)) rfl rfl rfl
theorem ce_parse : CE 8 := fun args W => by go_simp
set_option maxHeartbeats 3200000 in
set_option maxRecDepth 100000 in
theorem k_parse_radix {s : ByteArray} {r : Int} (h : ¬ (2 ≤ r ∧ r ≤ 36)) : CallOk 8 [KV (.string s), KV (.int .i64 (r))] (KPI (parseR r (byl s))) := by
 refine CallOk.enter (l := [.vl (.string s), .vl (.int .i64 (r))]) 87 ce_parse Tryd.func8 rfl Tryd.ntmps8 (by simp) ⟨(KV.st _), rfl, (KV.st _), rfl, trivial⟩ fun w => ?_
 refine SC.seq (SC.region ?_)
 refine PW.alloc (BI 28) rfl rfl rfl rfl rfl bI ?_
 refine PW.assign rfl rfl rfl rfl rfl (PW.nil (SX.then (SC.seq (SC.block (SC.seq ?_)))))
 by_cases hr2 : r < 2
 ·refine SC.region ?_
  refine PW.move rfl rfl rfl rfl rfl ?_
  refine PW.q2 (x := .tmp 15) (y := .const (.int .i64 2)) (.bool true) rfl rfl rfl rfl rfl (fun ρ W h1 h2 => by exact r_lt h1 h2 (decide_eq_true hr2)) ?_
  refine PW.move rfl rfl rfl rfl rfl ?_
  refine PW.skip rfl rfl rfl ?_
  refine PW.skip rfl rfl rfl ?_
  refine PW.pick (t := true) rfl rfl rfl rfl rfl rfl ?_
  refine PW.assign rfl rfl rfl rfl rfl (PW.nil (SX.then (SC.cond (t := true) rfl (SC.seq (SC.region ?_)))))
  refine PW.val (r := .kw (KI (0))) rfl rfl rfl rfl (fun a W hf => ⟨.agg #[.bool false, .slice none 0 0], by go_simp, zeroI _ w W⟩) ?_
  refine PW.store (x := .tmp 21) (r := .kw (KI (0))) rfl rfl rfl rfl rfl rfl sh_I ?_
  refine PW.assign rfl rfl rfl rfl rfl (PW.nil (SX.then (SC.ret (SX.blockR (SX.thenR ?_)))))
  rw [parse_radix h]
  exact SX.done2 (s := 4) (t := 5) (r := .vl (.int .i64 1)) (.inl rfl) rfl rfl rfl rfl
 ·refine SC.region ?_
  refine PW.move rfl rfl rfl rfl rfl ?_
  refine PW.q2 (x := .tmp 15) (y := .const (.int .i64 2)) (.bool false) rfl rfl rfl rfl rfl (fun ρ W h1 h2 => by exact r_lt h1 h2 (decide_eq_false hr2)) ?_
  refine PW.move rfl rfl rfl rfl rfl (PW.move rfl rfl rfl rfl rfl ?_)
  refine PW.q2 (x := .tmp 18) (y := .const (.int .i64 36)) (.bool true) rfl rfl rfl rfl rfl (fun ρ W h1 h2 => by exact r_gt h1 h2 (decide_eq_true (by omega))) ?_
  refine PW.pick (t := false) rfl rfl rfl rfl rfl rfl ?_
  refine PW.assign rfl rfl rfl rfl rfl (PW.nil (SX.then (SC.cond (t := true) rfl (SC.seq (SC.region ?_)))))
  refine PW.val (r := .kw (KI (0))) rfl rfl rfl rfl (fun a W hf => ⟨.agg #[.bool false, .slice none 0 0], by go_simp, zeroI _ w W⟩) ?_
  refine PW.store (x := .tmp 21) (r := .kw (KI (0))) rfl rfl rfl rfl rfl rfl sh_I ?_
  refine PW.assign rfl rfl rfl rfl rfl (PW.nil (SX.then (SC.ret (SX.blockR (SX.thenR ?_)))))
  rw [parse_radix h]
  exact SX.done2 (s := 4) (t := 5) (r := .vl (.int .i64 1)) (.inl rfl) rfl rfl rfl rfl
set_option maxHeartbeats 3200000 in
set_option maxRecDepth 100000 in
theorem k_parse_long {s : ByteArray} {r : Int} (h : 2 ≤ r ∧ r ≤ 36) (hl : 20000 < s.size) : CallOk 8 [KV (.string s), KV (.int .i64 (r))] (KPI (parseR r (byl s))) := by
 refine CallOk.enter (l := [.vl (.string s), .vl (.int .i64 (r))]) 87 ce_parse Tryd.func8 rfl Tryd.ntmps8 (by simp) ⟨(KV.st _), rfl, (KV.st _), rfl, trivial⟩ fun w => ?_
 refine SC.seq (SC.region ?_)
 refine PW.alloc (BI 28) rfl rfl rfl rfl rfl bI ?_
 refine PW.assign rfl rfl rfl rfl rfl (PW.nil (SX.then (SC.seq (SC.block (SC.seq (SC.region (PW.move rfl rfl rfl rfl rfl ?_)))))))
 refine PW.q2 (x := .tmp 15) (y := .const (.int .i64 2)) (.bool false) rfl rfl rfl rfl rfl (fun ρ W h1 h2 => by exact r_lt h1 h2 (decide_eq_false (by omega))) ?_
 refine PW.move rfl rfl rfl rfl rfl (PW.move rfl rfl rfl rfl rfl ?_)
 refine PW.q2 (x := .tmp 18) (y := .const (.int .i64 36)) (.bool false) rfl rfl rfl rfl rfl (fun ρ W h1 h2 => by exact r_gt h1 h2 (decide_eq_false (by omega))) ?_
 refine PW.pick (t := false) rfl rfl rfl rfl rfl rfl ?_
 refine PW.assign rfl rfl rfl rfl rfl (PW.nil (SX.then (SC.cond (t := false) rfl (SC.seq (SC.region (PW.move rfl rfl rfl rfl rfl ?_))))))
 refine PW.qn [(.tmp 23, .string s)] (.int .i64 (s.size : Int)) rfl rfl rfl ⟨rfl, trivial⟩ (fun ρ W h => by obtain ⟨h1, _⟩ := h; exact r_slen h1) ?_
 refine PW.q2 (x := .tmp 24) (y := .const (.int .i64 20000)) (.bool true) rfl rfl rfl rfl rfl (fun ρ W h1 h2 => by exact r_gt h1 h2 (decide_eq_true (by omega))) ?_
 refine PW.assign rfl rfl rfl rfl rfl (PW.nil (SX.then (SC.cond (t := true) rfl (SC.seq (SC.region ?_)))))
 refine PW.val (r := .kw (KI (0))) rfl rfl rfl rfl (fun a W hf => ⟨.agg #[.bool false, .slice none 0 0], by go_simp, zeroI _ w W⟩) ?_
 refine PW.store (x := .tmp 26) (r := .kw (KI (0))) rfl rfl rfl rfl rfl rfl sh_I ?_
 refine PW.assign rfl rfl rfl rfl rfl (PW.nil (SX.then (SC.ret (SX.blockR (SX.thenR ?_)))))
 rw [parse_long h (by rw [byl_len]; exact hl)]
 exact SX.done2 (s := 4) (t := 5) (r := .vl (.int .i64 14)) (.inl rfl) rfl rfl rfl rfl
set_option maxHeartbeats 6400000 in
set_option maxRecDepth 100000 in
theorem k_parse_ok {s : ByteArray} {r : Int} (h : 2 ≤ r ∧ r ≤ 36) (hl : ¬ 20000 < s.size) : CallOk 8 [KV (.string s), KV (.int .i64 (r))] (KPI (parseR r (byl s))) := by
 refine CallOk.enter (l := [.vl (.string s), .vl (.int .i64 (r))]) 87 ce_parse Tryd.func8 rfl Tryd.ntmps8 (by simp) ⟨(KV.st _), rfl, (KV.st _), rfl, trivial⟩ fun w => ?_
 refine SC.seq (SC.region ?_)
 refine PW.alloc (BI 28) rfl rfl rfl rfl rfl bI ?_
 refine PW.assign rfl rfl rfl rfl rfl (PW.nil (SX.then (SC.seq (SC.block (SC.seq (SC.region (PW.move rfl rfl rfl rfl rfl ?_)))))))
 refine PW.q2 (x := .tmp 15) (y := .const (.int .i64 2)) (.bool false) rfl rfl rfl rfl rfl (fun ρ W h1 h2 => by exact r_lt h1 h2 (decide_eq_false (by omega))) ?_
 refine PW.move rfl rfl rfl rfl rfl (PW.move rfl rfl rfl rfl rfl ?_)
 refine PW.q2 (x := .tmp 18) (y := .const (.int .i64 36)) (.bool false) rfl rfl rfl rfl rfl (fun ρ W h1 h2 => by exact r_gt h1 h2 (decide_eq_false (by omega))) ?_
 refine PW.pick (t := false) rfl rfl rfl rfl rfl rfl ?_
 refine PW.assign rfl rfl rfl rfl rfl (PW.nil (SX.then (SC.cond (t := false) rfl (SC.seq (SC.region (PW.move rfl rfl rfl rfl rfl ?_))))))
 refine PW.qn [(.tmp 23, .string s)] (.int .i64 (s.size : Int)) rfl rfl rfl ⟨rfl, trivial⟩ (fun ρ W h => by obtain ⟨h1, _⟩ := h; exact r_slen h1) ?_
 refine PW.q2 (x := .tmp 24) (y := .const (.int .i64 20000)) (.bool false) rfl rfl rfl rfl rfl (fun ρ W h1 h2 => by exact r_gt h1 h2 (decide_eq_false (by omega))) ?_
 refine PW.assign rfl rfl rfl rfl rfl (PW.nil (SX.then (SC.cond (t := false) rfl (SC.skip ?_))))
 refine SX.blockN ?_
 refine SX.then (SC.seq ?_)
 by_cases hm : 0 < s.size ∧ at0 (byl s) 0 = 45
 ·refine SC.region ?_
  refine PW.move rfl rfl rfl rfl rfl ?_
  refine PW.call (r := .vl (.bool true)) rfl rfl rfl rfl rfl rfl (KV.st _) rfl (k_hasPrefix s ⟨#[45]⟩ ((pre_one s 45).trans (decide_eq_true hm))) ?_
  refine PW.assign rfl rfl rfl rfl rfl (PW.nil (SX.then (SC.seq (SC.seq (SC.region (PW.move rfl rfl rfl rfl rfl (PW.move rfl rfl rfl rfl rfl ?_)))))))
  refine PW.skip rfl rfl rfl ?_
  refine PW.skip rfl rfl rfl ?_
  refine PW.pick (t := true) rfl rfl rfl rfl rfl rfl ?_
  refine PW.nil (SX.then (SC.cond (t := true) rfl (SC.region (PW.move rfl rfl rfl rfl rfl ?_))))
  refine PW.qn [(.tmp 34, .string s), (.const (.int .i64 1), .int .i64 1)] (.string (s.extract 1 s.size)) rfl rfl rfl ⟨rfl, rfl, trivial⟩ (fun ρ W h => by obtain ⟨h1, h2, _⟩ := h; exact r_sfrom (p := 1) h1 h2 (by omega)) ?_
  refine PW.assign rfl rfl rfl rfl rfl (PW.nil (SX.then (SC.seq (SC.seq ?_))))
  obtain ⟨t, ht⟩ : ∃ t, t = s.extract 1 s.size := ⟨_, rfl⟩
  rw [← ht]
  have htl : t.size ≤ 20000 := by rw [ht, ← byl_len, byl_drop, List.length_drop, byl_len]; omega
  rw [parse_form (b := byl t) h (by rw [byl_len]; omega) (by rw [if_pos (.inl hm.2), ht, byl_drop])]
  by_cases he : t.size = 0
  ·refine SC.region ?_
   refine PW.move rfl rfl rfl rfl rfl ?_
   refine PW.q2 (x := .tmp 36) (y := .const (.string ⟨#[]⟩)) (.bool true) rfl rfl rfl rfl rfl (fun ρ W h1 h2 => by exact r_seq h1 h2 ((empty_eq t).trans (decide_eq_true he))) ?_
   refine PW.nil (SX.then (SC.cond (t := true) rfl (SC.seq (SC.region ?_))))
   refine PW.val (r := .kw (KI (0))) rfl rfl rfl rfl (fun a W hf => ⟨.agg #[.bool false, .slice none 0 0], by go_simp, zeroI _ w W⟩) ?_
   refine PW.store (x := .tmp 38) (r := .kw (KI (0))) rfl rfl rfl rfl rfl rfl sh_I ?_
   refine PW.assign rfl rfl rfl rfl rfl (PW.nil (SX.then (SC.ret (SX.thenR ?_))))
   rw [form_empty (z := 0) (by rw [byl_len]; exact he)]
   exact SX.done2 (s := 4) (t := 5) (r := .vl (.int .i64 2)) (.inl rfl) rfl rfl rfl rfl
  ·refine SC.region ?_
   refine PW.move rfl rfl rfl rfl rfl ?_
   refine PW.q2 (x := .tmp 36) (y := .const (.string ⟨#[]⟩)) (.bool false) rfl rfl rfl rfl rfl (fun ρ W h1 h2 => by exact r_seq h1 h2 ((empty_eq t).trans (decide_eq_false he))) ?_
   refine PW.nil (SX.then (SC.cond (t := false) rfl (SC.skip (SX.then (SC.seq (SC.region (PW.assign rfl rfl rfl rfl rfl (PW.nil (SX.then (SC.seq (SC.seq (SC.region (PW.move rfl rfl rfl rfl rfl ?_)))))))))))))
   refine PW.qn [(.tmp 39, .string t)] (.int .i64 (t.size : Int)) rfl rfl rfl ⟨rfl, trivial⟩ (fun ρ W h => by obtain ⟨h1, _⟩ := h; exact r_slen h1) ?_
   refine PW.move rfl rfl rfl rfl rfl (PW.nil (SX.then (SC.block ?_)))
   refine SC.weak (fun a W hf => Fr.nilrow 87 56 (.int .u32) hf) ?_
   refine SC.loop (S := Nat × Value × List Int) (fun ⟨i, v, zs⟩ => [(0, .vl (.string t)), (1, .vl (.int .i64 (r))), (4, .nb (BI 28)), (5, .vl (.int .i64 0)), (6, .vl (.bool true)), (7, .vl (v)), (40, .vl (.int .i64 (t.size : Int))), (41, .vl (.int .i64 (i : Int))), (87, .ro (v) 56 (.int .u32) (zs))]) (fun ⟨i, v, zs⟩ => PrI b32 r (byl t) i zs) (fun ⟨i, v, zs⟩ => t.size - i) (0, .slice none 0 0, []) (PrI.start b32 r (byl t)) ⟨rfl, rfl, rfl, rfl, rfl, rfl, rfl, rfl, rfl, trivial⟩ ?_
   rintro ⟨i, v, zs⟩ hP
   show SC _ _ _ _ [(0, .vl (.string t)), (1, .vl (.int .i64 (r))), (4, .nb (BI 28)), (5, .vl (.int .i64 0)), (6, .vl (.bool true)), (7, .vl (v)), (40, .vl (.int .i64 (t.size : Int))), (41, .vl (.int .i64 (i : Int))), (87, .ro (v) 56 (.int .u32) (zs))] _
   refine SC.seq ?_
   by_cases hi : (i : Int) < (t.size : Int)
   ·refine SC.region ?_
    refine PW.q2 (x := .tmp 41) (y := .tmp 40) (.bool true) rfl rfl rfl rfl rfl (fun ρ W h1 h2 => by exact r_lt h1 h2 (decide_eq_true hi)) ?_
    refine PW.nil (SX.then (SC.seq (SC.cond (t := true) rfl (SC.skip (SX.then (SC.seq (SC.block (SC.seq (SC.region (PW.move rfl rfl rfl rfl rfl (PW.assign rfl rfl rfl rfl rfl (PW.nil ?_))))))))))))
    refine SX.then (SC.seq (SC.region (PW.move rfl rfl rfl rfl rfl (PW.move rfl rfl rfl rfl rfl ?_))))
    refine PW.qn [(.tmp 44, .string t), (.tmp 45, .int .i64 (i : Int))] (.int .u8 (at0 (byl t) i)) rfl rfl rfl ⟨rfl, rfl, trivial⟩ (fun ρ W h => by obtain ⟨h1, h2, _⟩ := h; exact r_sidx h1 h2 (by omega)) ?_
    refine PW.call (r := .vl (.int .i64 (dv (at0 (byl t) i)))) rfl rfl rfl rfl rfl rfl (KV.st _) rfl (k_value (byl_byte t i).1 (byl_byte t i).2) ?_
    refine PW.assign rfl rfl rfl rfl rfl (PW.nil (SX.then (SC.seq (SC.seq ?_))))
    by_cases hd : dv (at0 (byl t) i) ≥ r
    ·refine SC.region ?_
     refine PW.move rfl rfl rfl rfl rfl (PW.move rfl rfl rfl rfl rfl ?_)
     refine PW.q2 (x := .tmp 48) (y := .tmp 49) (.bool true) rfl rfl rfl rfl rfl (fun ρ W h1 h2 => by exact r_ge h1 h2 (decide_eq_true hd)) ?_
     refine PW.nil (SX.then (SC.cond (t := true) rfl (SC.seq (SC.region ?_))))
     refine PW.val (r := .kw (KI (0))) rfl rfl rfl rfl (fun a W hf => ⟨.agg #[.bool false, .slice none 0 0], by go_simp, zeroI _ w W⟩) ?_
     refine PW.store (x := .tmp 51) (r := .kw (KI (0))) rfl rfl rfl rfl rfl rfl sh_I ?_
     refine PW.assign rfl rfl rfl rfl rfl (PW.nil (SX.then (SC.ret (SX.thenR (SX.blockR (SX.thenR (SX.thenR (SX.blockR (SX.thenR ?_)))))))))
     rw [form_bad (i := i) (by rw [byl_len]; omega) hd]
     exact SX.done2 (s := 4) (t := 5) (r := .vl (.int .i64 2)) (.inl rfl) rfl rfl rfl rfl
    ·refine SC.region ?_
     refine PW.move rfl rfl rfl rfl rfl (PW.move rfl rfl rfl rfl rfl ?_)
     refine PW.q2 (x := .tmp 48) (y := .tmp 49) (.bool false) rfl rfl rfl rfl rfl (fun ρ W h1 h2 => by exact r_ge h1 h2 (decide_eq_false hd)) ?_
     refine PW.nil (SX.then (SC.cond (t := false) rfl (SC.skip (SX.then (SC.seq (SC.region (PW.move rfl rfl rfl rfl rfl ?_)))))))
     refine PW.q1 (x := .tmp 52) (.int .u64 (dv (at0 (byl t) i))) rfl rfl rfl rfl (fun ρ W h1 => by exact r_i64u h1 (by have := dv_le (at0 (byl t) i); omega)) ?_
     refine PW.assign rfl rfl rfl rfl rfl (PW.nil (SX.then (SC.seq (SC.seq (SC.region (PW.move rfl rfl rfl rfl rfl ?_))))))
     refine PW.rlen (s := 54) 87 rfl rfl rfl rfl rfl (fun ρ W A c h => r_len h) ?_
     refine PW.move rfl rfl rfl rfl rfl (PW.nil (SX.then (SC.block ?_)))
     refine SC.loop (S := Nat × List Int × Int) (fun ⟨k, ys, cc⟩ => [(0, .vl (.string t)), (1, .vl (.int .i64 (r))), (4, .nb (BI 28)), (5, .vl (.int .i64 0)), (6, .vl (.bool true)), (7, .vl (v)), (8, .vl (.int .i64 (i : Int))), (10, .vl (.int .u64 (cc))), (40, .vl (.int .i64 (t.size : Int))), (41, .vl (.int .i64 (i : Int))), (54, .vl (v)), (55, .vl (.int .i64 (zs.length : Int))), (56, .vl (.int .i64 (k : Int))), (87, .ro (v) 56 (.int .u32) (ys))]) (fun ⟨k, ys, cc⟩ => PrJ b32 r (dv (at0 (byl t) i)) zs k ys cc) (fun ⟨k, ys, cc⟩ => zs.length - k) (0, zs, dv (at0 (byl t) i)) (PrJ.start hP.dg (dv_le _).1 (dv_le _).2) ⟨rfl, rfl, rfl, rfl, rfl, rfl, rfl, rfl, rfl, rfl, rfl, rfl, rfl, rfl, trivial⟩ ?_
     rintro ⟨k, ys, cc⟩ hJ
     show SC _ _ _ _ [(0, .vl (.string t)), (1, .vl (.int .i64 (r))), (4, .nb (BI 28)), (5, .vl (.int .i64 0)), (6, .vl (.bool true)), (7, .vl (v)), (8, .vl (.int .i64 (i : Int))), (10, .vl (.int .u64 (cc))), (40, .vl (.int .i64 (t.size : Int))), (41, .vl (.int .i64 (i : Int))), (54, .vl (v)), (55, .vl (.int .i64 (zs.length : Int))), (56, .vl (.int .i64 (k : Int))), (87, .ro (v) 56 (.int .u32) (ys))] _
     refine SC.seq ?_
     by_cases hk : (k : Int) < (zs.length : Int)
     ·refine SC.region ?_
      refine PW.q2 (x := .tmp 56) (y := .tmp 55) (.bool true) rfl rfl rfl rfl rfl (fun ρ W h1 h2 => by exact r_lt h1 h2 (decide_eq_true hk)) ?_
      refine PW.nil (SX.then (SC.seq (SC.cond (t := true) rfl (SC.skip (SX.then (SC.seq (SC.block (SC.seq (SC.region (PW.move rfl rfl rfl rfl rfl ?_))))))))))
      refine PW.ridx (i := k) 87 rfl rfl rfl rfl rfl rfl rfl (by have := hJ.len; omega) (fun ρ W g c h1 h2 => r_idx h1 h2 (by have := hJ.len; omega)) ?_
      refine PW.rget (i := k) 87 rfl rfl rfl rfl rfl rfl (by have := hJ.len; omega) r_l32 ?_
      refine PW.assign rfl rfl rfl rfl rfl (PW.assign rfl rfl rfl rfl rfl (PW.nil (SX.then (SC.seq (SC.region (PW.move rfl rfl rfl rfl rfl ?_))))))
      refine PW.q1 (x := .tmp 61) (.int .u64 (at0 ys k)) rfl rfl rfl rfl (fun ρ W h1 => by exact r_64 h1 (dg32 hJ.dg k)) ?_
      refine PW.move rfl rfl rfl rfl rfl ?_
      refine PW.q1 (x := .tmp 63) (.int .u64 (r)) rfl rfl rfl rfl (fun ρ W h1 => by exact r_i64u h1 (by omega)) ?_
      refine PW.q2 (x := .tmp 62) (y := .tmp 64) (.int .u64 (at0 ys k * r)) rfl rfl rfl rfl rfl (fun ρ W h1 h2 => by exact r_mul6 h1 h2 rfl (mulr (dg32 hJ.dg k) h)) ?_
      refine PW.move rfl rfl rfl rfl rfl ?_
      refine PW.q2 (x := .tmp 65) (y := .tmp 66) (.int .u64 (at0 ys k * r + cc)) rfl rfl rfl rfl rfl (fun ρ W h1 h2 => by exact r_add6 h1 h2 rfl (addr (dg32 hJ.dg k) h hJ.c0 hJ.c1)) ?_
      refine PW.assign rfl rfl rfl rfl rfl (PW.nil (SX.then (SC.region (PW.move rfl rfl rfl rfl rfl (PW.move rfl rfl rfl rfl rfl (PW.move rfl rfl rfl rfl rfl ?_))))))
      refine PW.q1 (x := .tmp 70) (.int .u32 ((at0 ys k * r + cc) % 4294967296)) rfl rfl rfl rfl (fun ρ W h1 => by exact r_32 h1) ?_
      refine PW.move rfl rfl rfl rfl rfl ?_
      refine PW.q2 (x := .tmp 72) (y := .const (.int .u64 32)) (.int .u64 ((at0 ys k * r + cc) / 4294967296)) rfl rfl rfl rfl rfl (fun ρ W h1 h2 => by exact r_dn32 h1 h2) ?_
      refine PW.ridx (i := k) 87 rfl rfl rfl rfl rfl rfl rfl (by have := hJ.len; omega) (fun ρ W g c h1 h2 => r_idx h1 h2 (by have := hJ.len; omega)) ?_
      refine PW.rput (i := k) (x := .tmp 71) (((at0 ys k * r + cc) % 4294967296)) 87 rfl rfl rfl rfl rfl (by have := hJ.len; omega) rfl rfl r_s32 ?_
      refine PW.assign rfl rfl rfl rfl rfl (PW.nil ?_)
      refine SX.blockN ?_
      refine SX.then (SC.region ?_)
      refine PW.q2 (x := .tmp 56) (y := .const (.int .i64 1)) (.int .i64 ((k + 1 : Nat))) rfl rfl rfl rfl rfl (fun ρ W h1 h2 => by exact r_add h1 h2 (by omega) (by have := hP.len; have := byl_len t; omega)) ?_
      refine PW.move rfl rfl rfl rfl rfl (PW.nil ?_)
      refine SX.back (k + 1, ys.set k ((at0 ys k * r + cc) % 4294967296), (at0 ys k * r + cc) / 4294967296) ?_ ?_ ?_
      ·exact (hJ.step (by decide) (by omega) h.1 h.2 rfl hP.dg)
      ·exact (show zs.length - (k + 1) < zs.length - k by omega)
      ·exact ⟨rfl, rfl, rfl, rfl, rfl, rfl, rfl, rfl, rfl, rfl, rfl, rfl, rfl, rfl, trivial⟩
     ·obtain rfl : k = zs.length := by have := hJ.le; omega
      refine SC.region ?_
      refine PW.q2 (x := .tmp 56) (y := .tmp 55) (.bool false) rfl rfl rfl rfl rfl (fun ρ W h1 h2 => by exact r_lt h1 h2 (decide_eq_false hk)) ?_
      refine PW.nil (SX.then (SC.seq (SC.cond (t := false) rfl (SC.exit (SX.thenE (SX.thenE (SX.blockE (SX.then (SC.seq ?_)))))))))
      by_cases hc : 0 < cc
      ·refine SC.region ?_
       refine PW.move rfl rfl rfl rfl rfl ?_
       refine PW.q2 (x := .tmp 76) (y := .const (.int .u64 0)) (.bool true) rfl rfl rfl rfl rfl (fun ρ W h1 h2 => by exact r_gt6 h1 h2 (decide_eq_true hc)) ?_
       refine PW.nil (SX.then (SC.cond (t := true) rfl (SC.region (PW.move rfl rfl rfl rfl rfl (PW.move rfl rfl rfl rfl rfl ?_)))))
       refine PW.q1 (x := .tmp 79) (.int .u32 (cc)) rfl rfl rfl rfl (fun ρ W h1 => by exact r_32z h1 (by have := hJ.c0; have := hJ.c1; omega)) ?_
       refine PW.app (K := 87) (f := .int .u32) [(cc)] rfl rfl rfl (fun a W hf => r_b1 (hf.vl (s := 80) rfl)) rfl rfl rfl rfl rfl rfl rfl rfl Tryd.underlying22 info_u32 rfl (fun _ => rfl) (by have l1 := hJ.len; have l2 := hP.len; have l3 := byl_len t; have l4 := hP.le; unfold maxLen; show _ + 1 ≤ _; omega) (by have l1 := hJ.len; have l2 := hP.len; have l3 := byl_len t; have l4 := hP.le; show (_ + 1) * 4 ≤ _; omega) rfl fun vq1 uq1 => ?_
       refine PW.assign rfl rfl rfl rfl rfl (PW.nil ?_)
       refine SX.blockN ?_
       refine SX.then (SC.region ?_)
       refine PW.q2 (x := .tmp 41) (y := .const (.int .i64 1)) (.int .i64 ((i + 1 : Nat))) rfl rfl rfl rfl rfl (fun ρ W h1 h2 => by exact r_add h1 h2 (by omega) (by omega)) ?_
       refine PW.move rfl rfl rfl rfl rfl (PW.nil ?_)
       refine SX.back (i + 1, vq1, ys ++ [(cc)]) ?_ ?_ ?_
       ·exact (hP.yes (by decide) (by rw [byl_len]; omega) (by omega) hJ)
       ·exact (show t.size - (i + 1) < t.size - i by omega)
       ·exact ⟨rfl, rfl, rfl, rfl, rfl, rfl, rfl, rfl, rfl, trivial⟩
      ·obtain rfl : cc = 0 := by have := hJ.c0; omega
       refine SC.region (PW.move rfl rfl rfl rfl rfl ?_)
       refine PW.q2 (x := .tmp 76) (y := .const (.int .u64 0)) (.bool false) rfl rfl rfl rfl rfl (fun ρ W h1 h2 => by exact r_gt6 h1 h2 (decide_eq_false hc)) ?_
       refine PW.nil (SX.then (SC.cond (t := false) rfl (SC.skip ?_)))
       refine SX.blockN ?_
       refine SX.then (SC.region ?_)
       refine PW.q2 (x := .tmp 41) (y := .const (.int .i64 1)) (.int .i64 ((i + 1 : Nat))) rfl rfl rfl rfl rfl (fun ρ W h1 h2 => by exact r_add h1 h2 (by omega) (by omega)) ?_
       refine PW.move rfl rfl rfl rfl rfl (PW.nil ?_)
       refine SX.back (i + 1, v, ys) ?_ ?_ ?_
       ·exact (hP.no (by rw [byl_len]; omega) (by omega) hJ)
       ·exact (show t.size - (i + 1) < t.size - i by omega)
       ·exact ⟨rfl, rfl, rfl, rfl, rfl, rfl, rfl, rfl, rfl, trivial⟩
   ·obtain rfl : i = t.size := by have := hP.le; have := byl_len t; omega
    refine SC.region ?_
    refine PW.q2 (x := .tmp 41) (y := .tmp 40) (.bool false) rfl rfl rfl rfl rfl (fun ρ W h1 h2 => by exact r_lt h1 h2 (decide_eq_false hi)) ?_
    refine PW.nil (SX.then (SC.seq (SC.cond (t := false) rfl (SC.exit (SX.thenE (SX.thenE (SX.blockE (SX.then (SC.seq (SC.region (PW.move rfl rfl rfl rfl rfl (PW.move rfl rfl rfl rfl rfl ?_))))))))))))
    refine PW.callG (r := .kw (KI (sg true (pv r 0 (byl t))))) ce_made rfl rfl rfl rfl rfl (KI.st _) rfl (fun a W hf => by have h1 := hf.vl (s := 84) rfl; have h2 := hf.vl (s := 85) rfl; have own : OwF W _ _ (.int .u32) v zs := hf.ho 87 _ rfl; obtain ⟨A4, c4, e4, hc4, rd4⟩ := Own.rd own; show Calls Tryd.prog _ #[a.tmps.getD 84 undef, a.tmps.getD 85 undef] W _; rw [h1, h2, e4, show pv r 0 (byl t) = lv b32 zs by rw [hP.lv, List.take_of_length_le (by rw [byl_len]; exact Nat.le_refl _)]]; exact made_k rd4 hc4 hP.dg) ?_
    refine PW.store (x := .tmp 86) (r := .kw (KI (sg true (pv r 0 (byl t))))) rfl rfl rfl rfl rfl rfl sh_I ?_
    refine PW.assign rfl rfl rfl rfl rfl (PW.nil (SX.then (SC.ret ?_)))
    rw [form_ok (by rw [byl_len]; exact he) (fun j hj => hP.ok j (by rw [byl_len] at hj; exact hj))]
    rw [show decide (at0 (byl s) 0 = 45) = true by exact decide_eq_true hm.2]
    exact SX.done2 (s := 4) (t := 5) (r := .vl (.int .i64 0)) (.inl rfl) rfl rfl rfl rfl
 ·refine SC.region ?_
  refine PW.move rfl rfl rfl rfl rfl ?_
  refine PW.call (r := .vl (.bool false)) rfl rfl rfl rfl rfl rfl (KV.st _) rfl (k_hasPrefix s ⟨#[45]⟩ ((pre_one s 45).trans (decide_eq_false hm))) ?_
  refine PW.assign rfl rfl rfl rfl rfl (PW.nil (SX.then (SC.seq (SC.seq ?_))))
  by_cases hp : 0 < s.size ∧ at0 (byl s) 0 = 43
  ·refine SC.region ?_
   refine PW.move rfl rfl rfl rfl rfl (PW.move rfl rfl rfl rfl rfl (PW.move rfl rfl rfl rfl rfl ?_))
   refine PW.call (r := .vl (.bool true)) rfl rfl rfl rfl rfl rfl (KV.st _) rfl (k_hasPrefix s ⟨#[43]⟩ ((pre_one s 43).trans (decide_eq_true hp))) ?_
   refine PW.pick (t := false) rfl rfl rfl rfl rfl rfl ?_
   refine PW.nil (SX.then (SC.cond (t := true) rfl (SC.region (PW.move rfl rfl rfl rfl rfl ?_))))
   refine PW.qn [(.tmp 34, .string s), (.const (.int .i64 1), .int .i64 1)] (.string (s.extract 1 s.size)) rfl rfl rfl ⟨rfl, rfl, trivial⟩ (fun ρ W h => by obtain ⟨h1, h2, _⟩ := h; exact r_sfrom (p := 1) h1 h2 (by omega)) ?_
   refine PW.assign rfl rfl rfl rfl rfl (PW.nil (SX.then (SC.seq (SC.seq ?_))))
   obtain ⟨t, ht⟩ : ∃ t, t = s.extract 1 s.size := ⟨_, rfl⟩
   rw [← ht]
   have htl : t.size ≤ 20000 := by rw [ht, ← byl_len, byl_drop, List.length_drop, byl_len]; omega
   rw [parse_form (b := byl t) h (by rw [byl_len]; omega) (by rw [if_pos (.inr hp.2), ht, byl_drop])]
   by_cases he : t.size = 0
   ·refine SC.region ?_
    refine PW.move rfl rfl rfl rfl rfl ?_
    refine PW.q2 (x := .tmp 36) (y := .const (.string ⟨#[]⟩)) (.bool true) rfl rfl rfl rfl rfl (fun ρ W h1 h2 => by exact r_seq h1 h2 ((empty_eq t).trans (decide_eq_true he))) ?_
    refine PW.nil (SX.then (SC.cond (t := true) rfl (SC.seq (SC.region ?_))))
    refine PW.val (r := .kw (KI (0))) rfl rfl rfl rfl (fun a W hf => ⟨.agg #[.bool false, .slice none 0 0], by go_simp, zeroI _ w W⟩) ?_
    refine PW.store (x := .tmp 38) (r := .kw (KI (0))) rfl rfl rfl rfl rfl rfl sh_I ?_
    refine PW.assign rfl rfl rfl rfl rfl (PW.nil (SX.then (SC.ret (SX.thenR ?_))))
    rw [form_empty (z := 0) (by rw [byl_len]; exact he)]
    exact SX.done2 (s := 4) (t := 5) (r := .vl (.int .i64 2)) (.inl rfl) rfl rfl rfl rfl
   ·refine SC.region ?_
    refine PW.move rfl rfl rfl rfl rfl ?_
    refine PW.q2 (x := .tmp 36) (y := .const (.string ⟨#[]⟩)) (.bool false) rfl rfl rfl rfl rfl (fun ρ W h1 h2 => by exact r_seq h1 h2 ((empty_eq t).trans (decide_eq_false he))) ?_
    refine PW.nil (SX.then (SC.cond (t := false) rfl (SC.skip (SX.then (SC.seq (SC.region (PW.assign rfl rfl rfl rfl rfl (PW.nil (SX.then (SC.seq (SC.seq (SC.region (PW.move rfl rfl rfl rfl rfl ?_)))))))))))))
    refine PW.qn [(.tmp 39, .string t)] (.int .i64 (t.size : Int)) rfl rfl rfl ⟨rfl, trivial⟩ (fun ρ W h => by obtain ⟨h1, _⟩ := h; exact r_slen h1) ?_
    refine PW.move rfl rfl rfl rfl rfl (PW.nil (SX.then (SC.block ?_)))
    refine SC.weak (fun a W hf => Fr.nilrow 87 56 (.int .u32) hf) ?_
    refine SC.loop (S := Nat × Value × List Int) (fun ⟨i, v, zs⟩ => [(0, .vl (.string t)), (1, .vl (.int .i64 (r))), (4, .nb (BI 28)), (5, .vl (.int .i64 0)), (6, .vl (.bool false)), (7, .vl (v)), (40, .vl (.int .i64 (t.size : Int))), (41, .vl (.int .i64 (i : Int))), (87, .ro (v) 56 (.int .u32) (zs))]) (fun ⟨i, v, zs⟩ => PrI b32 r (byl t) i zs) (fun ⟨i, v, zs⟩ => t.size - i) (0, .slice none 0 0, []) (PrI.start b32 r (byl t)) ⟨rfl, rfl, rfl, rfl, rfl, rfl, rfl, rfl, rfl, trivial⟩ ?_
    rintro ⟨i, v, zs⟩ hP
    show SC _ _ _ _ [(0, .vl (.string t)), (1, .vl (.int .i64 (r))), (4, .nb (BI 28)), (5, .vl (.int .i64 0)), (6, .vl (.bool false)), (7, .vl (v)), (40, .vl (.int .i64 (t.size : Int))), (41, .vl (.int .i64 (i : Int))), (87, .ro (v) 56 (.int .u32) (zs))] _
    refine SC.seq ?_
    by_cases hi : (i : Int) < (t.size : Int)
    ·refine SC.region ?_
     refine PW.q2 (x := .tmp 41) (y := .tmp 40) (.bool true) rfl rfl rfl rfl rfl (fun ρ W h1 h2 => by exact r_lt h1 h2 (decide_eq_true hi)) ?_
     refine PW.nil (SX.then (SC.seq (SC.cond (t := true) rfl (SC.skip (SX.then (SC.seq (SC.block (SC.seq (SC.region (PW.move rfl rfl rfl rfl rfl (PW.assign rfl rfl rfl rfl rfl (PW.nil ?_))))))))))))
     refine SX.then (SC.seq (SC.region (PW.move rfl rfl rfl rfl rfl (PW.move rfl rfl rfl rfl rfl ?_))))
     refine PW.qn [(.tmp 44, .string t), (.tmp 45, .int .i64 (i : Int))] (.int .u8 (at0 (byl t) i)) rfl rfl rfl ⟨rfl, rfl, trivial⟩ (fun ρ W h => by obtain ⟨h1, h2, _⟩ := h; exact r_sidx h1 h2 (by omega)) ?_
     refine PW.call (r := .vl (.int .i64 (dv (at0 (byl t) i)))) rfl rfl rfl rfl rfl rfl (KV.st _) rfl (k_value (byl_byte t i).1 (byl_byte t i).2) ?_
     refine PW.assign rfl rfl rfl rfl rfl (PW.nil (SX.then (SC.seq (SC.seq ?_))))
     by_cases hd : dv (at0 (byl t) i) ≥ r
     ·refine SC.region ?_
      refine PW.move rfl rfl rfl rfl rfl (PW.move rfl rfl rfl rfl rfl ?_)
      refine PW.q2 (x := .tmp 48) (y := .tmp 49) (.bool true) rfl rfl rfl rfl rfl (fun ρ W h1 h2 => by exact r_ge h1 h2 (decide_eq_true hd)) ?_
      refine PW.nil (SX.then (SC.cond (t := true) rfl (SC.seq (SC.region ?_))))
      refine PW.val (r := .kw (KI (0))) rfl rfl rfl rfl (fun a W hf => ⟨.agg #[.bool false, .slice none 0 0], by go_simp, zeroI _ w W⟩) ?_
      refine PW.store (x := .tmp 51) (r := .kw (KI (0))) rfl rfl rfl rfl rfl rfl sh_I ?_
      refine PW.assign rfl rfl rfl rfl rfl (PW.nil (SX.then (SC.ret (SX.thenR (SX.blockR (SX.thenR (SX.thenR (SX.blockR (SX.thenR ?_)))))))))
      rw [form_bad (i := i) (by rw [byl_len]; omega) hd]
      exact SX.done2 (s := 4) (t := 5) (r := .vl (.int .i64 2)) (.inl rfl) rfl rfl rfl rfl
     ·refine SC.region ?_
      refine PW.move rfl rfl rfl rfl rfl (PW.move rfl rfl rfl rfl rfl ?_)
      refine PW.q2 (x := .tmp 48) (y := .tmp 49) (.bool false) rfl rfl rfl rfl rfl (fun ρ W h1 h2 => by exact r_ge h1 h2 (decide_eq_false hd)) ?_
      refine PW.nil (SX.then (SC.cond (t := false) rfl (SC.skip (SX.then (SC.seq (SC.region (PW.move rfl rfl rfl rfl rfl ?_)))))))
      refine PW.q1 (x := .tmp 52) (.int .u64 (dv (at0 (byl t) i))) rfl rfl rfl rfl (fun ρ W h1 => by exact r_i64u h1 (by have := dv_le (at0 (byl t) i); omega)) ?_
      refine PW.assign rfl rfl rfl rfl rfl (PW.nil (SX.then (SC.seq (SC.seq (SC.region (PW.move rfl rfl rfl rfl rfl ?_))))))
      refine PW.rlen (s := 54) 87 rfl rfl rfl rfl rfl (fun ρ W A c h => r_len h) ?_
      refine PW.move rfl rfl rfl rfl rfl (PW.nil (SX.then (SC.block ?_)))
      refine SC.loop (S := Nat × List Int × Int) (fun ⟨k, ys, cc⟩ => [(0, .vl (.string t)), (1, .vl (.int .i64 (r))), (4, .nb (BI 28)), (5, .vl (.int .i64 0)), (6, .vl (.bool false)), (7, .vl (v)), (8, .vl (.int .i64 (i : Int))), (10, .vl (.int .u64 (cc))), (40, .vl (.int .i64 (t.size : Int))), (41, .vl (.int .i64 (i : Int))), (54, .vl (v)), (55, .vl (.int .i64 (zs.length : Int))), (56, .vl (.int .i64 (k : Int))), (87, .ro (v) 56 (.int .u32) (ys))]) (fun ⟨k, ys, cc⟩ => PrJ b32 r (dv (at0 (byl t) i)) zs k ys cc) (fun ⟨k, ys, cc⟩ => zs.length - k) (0, zs, dv (at0 (byl t) i)) (PrJ.start hP.dg (dv_le _).1 (dv_le _).2) ⟨rfl, rfl, rfl, rfl, rfl, rfl, rfl, rfl, rfl, rfl, rfl, rfl, rfl, rfl, trivial⟩ ?_
      rintro ⟨k, ys, cc⟩ hJ
      show SC _ _ _ _ [(0, .vl (.string t)), (1, .vl (.int .i64 (r))), (4, .nb (BI 28)), (5, .vl (.int .i64 0)), (6, .vl (.bool false)), (7, .vl (v)), (8, .vl (.int .i64 (i : Int))), (10, .vl (.int .u64 (cc))), (40, .vl (.int .i64 (t.size : Int))), (41, .vl (.int .i64 (i : Int))), (54, .vl (v)), (55, .vl (.int .i64 (zs.length : Int))), (56, .vl (.int .i64 (k : Int))), (87, .ro (v) 56 (.int .u32) (ys))] _
      refine SC.seq ?_
      by_cases hk : (k : Int) < (zs.length : Int)
      ·refine SC.region ?_
       refine PW.q2 (x := .tmp 56) (y := .tmp 55) (.bool true) rfl rfl rfl rfl rfl (fun ρ W h1 h2 => by exact r_lt h1 h2 (decide_eq_true hk)) ?_
       refine PW.nil (SX.then (SC.seq (SC.cond (t := true) rfl (SC.skip (SX.then (SC.seq (SC.block (SC.seq (SC.region (PW.move rfl rfl rfl rfl rfl ?_))))))))))
       refine PW.ridx (i := k) 87 rfl rfl rfl rfl rfl rfl rfl (by have := hJ.len; omega) (fun ρ W g c h1 h2 => r_idx h1 h2 (by have := hJ.len; omega)) ?_
       refine PW.rget (i := k) 87 rfl rfl rfl rfl rfl rfl (by have := hJ.len; omega) r_l32 ?_
       refine PW.assign rfl rfl rfl rfl rfl (PW.assign rfl rfl rfl rfl rfl (PW.nil (SX.then (SC.seq (SC.region (PW.move rfl rfl rfl rfl rfl ?_))))))
       refine PW.q1 (x := .tmp 61) (.int .u64 (at0 ys k)) rfl rfl rfl rfl (fun ρ W h1 => by exact r_64 h1 (dg32 hJ.dg k)) ?_
       refine PW.move rfl rfl rfl rfl rfl ?_
       refine PW.q1 (x := .tmp 63) (.int .u64 (r)) rfl rfl rfl rfl (fun ρ W h1 => by exact r_i64u h1 (by omega)) ?_
       refine PW.q2 (x := .tmp 62) (y := .tmp 64) (.int .u64 (at0 ys k * r)) rfl rfl rfl rfl rfl (fun ρ W h1 h2 => by exact r_mul6 h1 h2 rfl (mulr (dg32 hJ.dg k) h)) ?_
       refine PW.move rfl rfl rfl rfl rfl ?_
       refine PW.q2 (x := .tmp 65) (y := .tmp 66) (.int .u64 (at0 ys k * r + cc)) rfl rfl rfl rfl rfl (fun ρ W h1 h2 => by exact r_add6 h1 h2 rfl (addr (dg32 hJ.dg k) h hJ.c0 hJ.c1)) ?_
       refine PW.assign rfl rfl rfl rfl rfl (PW.nil (SX.then (SC.region (PW.move rfl rfl rfl rfl rfl (PW.move rfl rfl rfl rfl rfl (PW.move rfl rfl rfl rfl rfl ?_))))))
       refine PW.q1 (x := .tmp 70) (.int .u32 ((at0 ys k * r + cc) % 4294967296)) rfl rfl rfl rfl (fun ρ W h1 => by exact r_32 h1) ?_
       refine PW.move rfl rfl rfl rfl rfl ?_
       refine PW.q2 (x := .tmp 72) (y := .const (.int .u64 32)) (.int .u64 ((at0 ys k * r + cc) / 4294967296)) rfl rfl rfl rfl rfl (fun ρ W h1 h2 => by exact r_dn32 h1 h2) ?_
       refine PW.ridx (i := k) 87 rfl rfl rfl rfl rfl rfl rfl (by have := hJ.len; omega) (fun ρ W g c h1 h2 => r_idx h1 h2 (by have := hJ.len; omega)) ?_
       refine PW.rput (i := k) (x := .tmp 71) (((at0 ys k * r + cc) % 4294967296)) 87 rfl rfl rfl rfl rfl (by have := hJ.len; omega) rfl rfl r_s32 ?_
       refine PW.assign rfl rfl rfl rfl rfl (PW.nil ?_)
       refine SX.blockN ?_
       refine SX.then (SC.region ?_)
       refine PW.q2 (x := .tmp 56) (y := .const (.int .i64 1)) (.int .i64 ((k + 1 : Nat))) rfl rfl rfl rfl rfl (fun ρ W h1 h2 => by exact r_add h1 h2 (by omega) (by have := hP.len; have := byl_len t; omega)) ?_
       refine PW.move rfl rfl rfl rfl rfl (PW.nil ?_)
       refine SX.back (k + 1, ys.set k ((at0 ys k * r + cc) % 4294967296), (at0 ys k * r + cc) / 4294967296) ?_ ?_ ?_
       ·exact (hJ.step (by decide) (by omega) h.1 h.2 rfl hP.dg)
       ·exact (show zs.length - (k + 1) < zs.length - k by omega)
       ·exact ⟨rfl, rfl, rfl, rfl, rfl, rfl, rfl, rfl, rfl, rfl, rfl, rfl, rfl, rfl, trivial⟩
      ·obtain rfl : k = zs.length := by have := hJ.le; omega
       refine SC.region ?_
       refine PW.q2 (x := .tmp 56) (y := .tmp 55) (.bool false) rfl rfl rfl rfl rfl (fun ρ W h1 h2 => by exact r_lt h1 h2 (decide_eq_false hk)) ?_
       refine PW.nil (SX.then (SC.seq (SC.cond (t := false) rfl (SC.exit (SX.thenE (SX.thenE (SX.blockE (SX.then (SC.seq ?_)))))))))
       by_cases hc : 0 < cc
       ·refine SC.region ?_
        refine PW.move rfl rfl rfl rfl rfl ?_
        refine PW.q2 (x := .tmp 76) (y := .const (.int .u64 0)) (.bool true) rfl rfl rfl rfl rfl (fun ρ W h1 h2 => by exact r_gt6 h1 h2 (decide_eq_true hc)) ?_
        refine PW.nil (SX.then (SC.cond (t := true) rfl (SC.region (PW.move rfl rfl rfl rfl rfl (PW.move rfl rfl rfl rfl rfl ?_)))))
        refine PW.q1 (x := .tmp 79) (.int .u32 (cc)) rfl rfl rfl rfl (fun ρ W h1 => by exact r_32z h1 (by have := hJ.c0; have := hJ.c1; omega)) ?_
        refine PW.app (K := 87) (f := .int .u32) [(cc)] rfl rfl rfl (fun a W hf => r_b1 (hf.vl (s := 80) rfl)) rfl rfl rfl rfl rfl rfl rfl rfl Tryd.underlying22 info_u32 rfl (fun _ => rfl) (by have l1 := hJ.len; have l2 := hP.len; have l3 := byl_len t; have l4 := hP.le; unfold maxLen; show _ + 1 ≤ _; omega) (by have l1 := hJ.len; have l2 := hP.len; have l3 := byl_len t; have l4 := hP.le; show (_ + 1) * 4 ≤ _; omega) rfl fun vq2 uq2 => ?_
        refine PW.assign rfl rfl rfl rfl rfl (PW.nil ?_)
        refine SX.blockN ?_
        refine SX.then (SC.region ?_)
        refine PW.q2 (x := .tmp 41) (y := .const (.int .i64 1)) (.int .i64 ((i + 1 : Nat))) rfl rfl rfl rfl rfl (fun ρ W h1 h2 => by exact r_add h1 h2 (by omega) (by omega)) ?_
        refine PW.move rfl rfl rfl rfl rfl (PW.nil ?_)
        refine SX.back (i + 1, vq2, ys ++ [(cc)]) ?_ ?_ ?_
        ·exact (hP.yes (by decide) (by rw [byl_len]; omega) (by omega) hJ)
        ·exact (show t.size - (i + 1) < t.size - i by omega)
        ·exact ⟨rfl, rfl, rfl, rfl, rfl, rfl, rfl, rfl, rfl, trivial⟩
       ·obtain rfl : cc = 0 := by have := hJ.c0; omega
        refine SC.region (PW.move rfl rfl rfl rfl rfl ?_)
        refine PW.q2 (x := .tmp 76) (y := .const (.int .u64 0)) (.bool false) rfl rfl rfl rfl rfl (fun ρ W h1 h2 => by exact r_gt6 h1 h2 (decide_eq_false hc)) ?_
        refine PW.nil (SX.then (SC.cond (t := false) rfl (SC.skip ?_)))
        refine SX.blockN ?_
        refine SX.then (SC.region ?_)
        refine PW.q2 (x := .tmp 41) (y := .const (.int .i64 1)) (.int .i64 ((i + 1 : Nat))) rfl rfl rfl rfl rfl (fun ρ W h1 h2 => by exact r_add h1 h2 (by omega) (by omega)) ?_
        refine PW.move rfl rfl rfl rfl rfl (PW.nil ?_)
        refine SX.back (i + 1, v, ys) ?_ ?_ ?_
        ·exact (hP.no (by rw [byl_len]; omega) (by omega) hJ)
        ·exact (show t.size - (i + 1) < t.size - i by omega)
        ·exact ⟨rfl, rfl, rfl, rfl, rfl, rfl, rfl, rfl, rfl, trivial⟩
    ·obtain rfl : i = t.size := by have := hP.le; have := byl_len t; omega
     refine SC.region ?_
     refine PW.q2 (x := .tmp 41) (y := .tmp 40) (.bool false) rfl rfl rfl rfl rfl (fun ρ W h1 h2 => by exact r_lt h1 h2 (decide_eq_false hi)) ?_
     refine PW.nil (SX.then (SC.seq (SC.cond (t := false) rfl (SC.exit (SX.thenE (SX.thenE (SX.blockE (SX.then (SC.seq (SC.region (PW.move rfl rfl rfl rfl rfl (PW.move rfl rfl rfl rfl rfl ?_))))))))))))
     refine PW.callG (r := .kw (KI (sg false (pv r 0 (byl t))))) ce_made rfl rfl rfl rfl rfl (KI.st _) rfl (fun a W hf => by have h1 := hf.vl (s := 84) rfl; have h2 := hf.vl (s := 85) rfl; have own : OwF W _ _ (.int .u32) v zs := hf.ho 87 _ rfl; obtain ⟨A4, c4, e4, hc4, rd4⟩ := Own.rd own; show Calls Tryd.prog _ #[a.tmps.getD 84 undef, a.tmps.getD 85 undef] W _; rw [h1, h2, e4, show pv r 0 (byl t) = lv b32 zs by rw [hP.lv, List.take_of_length_le (by rw [byl_len]; exact Nat.le_refl _)]]; exact made_k rd4 hc4 hP.dg) ?_
     refine PW.store (x := .tmp 86) (r := .kw (KI (sg false (pv r 0 (byl t))))) rfl rfl rfl rfl rfl rfl sh_I ?_
     refine PW.assign rfl rfl rfl rfl rfl (PW.nil (SX.then (SC.ret ?_)))
     rw [form_ok (by rw [byl_len]; exact he) (fun j hj => hP.ok j (by rw [byl_len] at hj; exact hj))]
     rw [show decide (at0 (byl s) 0 = 45) = false by exact decide_eq_false (fun h9 => hm ⟨pos_of_at0 h9 (by decide), h9⟩)]
     exact SX.done2 (s := 4) (t := 5) (r := .vl (.int .i64 0)) (.inl rfl) rfl rfl rfl rfl
  ·refine SC.region ?_
   refine PW.move rfl rfl rfl rfl rfl (PW.move rfl rfl rfl rfl rfl (PW.move rfl rfl rfl rfl rfl ?_))
   refine PW.call (r := .vl (.bool false)) rfl rfl rfl rfl rfl rfl (KV.st _) rfl (k_hasPrefix s ⟨#[43]⟩ ((pre_one s 43).trans (decide_eq_false hp))) ?_
   refine PW.pick (t := false) rfl rfl rfl rfl rfl rfl ?_
   refine PW.nil (SX.then (SC.cond (t := false) rfl (SC.skip (SX.then (SC.seq (SC.seq ?_))))))
   obtain ⟨t, ht⟩ : ∃ t, t = s := ⟨_, rfl⟩
   subst ht
   have htl : t.size ≤ 20000 := by omega
   rw [parse_form (b := byl t) h (by rw [byl_len]; omega) ((if_neg (fun h9 => h9.elim (fun h9 => hm ⟨pos_of_at0 h9 (by decide), h9⟩) (fun h9 => hp ⟨pos_of_at0 h9 (by decide), h9⟩))).symm)]
   by_cases he : t.size = 0
   ·refine SC.region ?_
    refine PW.move rfl rfl rfl rfl rfl ?_
    refine PW.q2 (x := .tmp 36) (y := .const (.string ⟨#[]⟩)) (.bool true) rfl rfl rfl rfl rfl (fun ρ W h1 h2 => by exact r_seq h1 h2 ((empty_eq t).trans (decide_eq_true he))) ?_
    refine PW.nil (SX.then (SC.cond (t := true) rfl (SC.seq (SC.region ?_))))
    refine PW.val (r := .kw (KI (0))) rfl rfl rfl rfl (fun a W hf => ⟨.agg #[.bool false, .slice none 0 0], by go_simp, zeroI _ w W⟩) ?_
    refine PW.store (x := .tmp 38) (r := .kw (KI (0))) rfl rfl rfl rfl rfl rfl sh_I ?_
    refine PW.assign rfl rfl rfl rfl rfl (PW.nil (SX.then (SC.ret (SX.thenR ?_))))
    rw [form_empty (z := 0) (by rw [byl_len]; exact he)]
    exact SX.done2 (s := 4) (t := 5) (r := .vl (.int .i64 2)) (.inl rfl) rfl rfl rfl rfl
   ·refine SC.region ?_
    refine PW.move rfl rfl rfl rfl rfl ?_
    refine PW.q2 (x := .tmp 36) (y := .const (.string ⟨#[]⟩)) (.bool false) rfl rfl rfl rfl rfl (fun ρ W h1 h2 => by exact r_seq h1 h2 ((empty_eq t).trans (decide_eq_false he))) ?_
    refine PW.nil (SX.then (SC.cond (t := false) rfl (SC.skip (SX.then (SC.seq (SC.region (PW.assign rfl rfl rfl rfl rfl (PW.nil (SX.then (SC.seq (SC.seq (SC.region (PW.move rfl rfl rfl rfl rfl ?_)))))))))))))
    refine PW.qn [(.tmp 39, .string t)] (.int .i64 (t.size : Int)) rfl rfl rfl ⟨rfl, trivial⟩ (fun ρ W h => by obtain ⟨h1, _⟩ := h; exact r_slen h1) ?_
    refine PW.move rfl rfl rfl rfl rfl (PW.nil (SX.then (SC.block ?_)))
    refine SC.weak (fun a W hf => Fr.nilrow 87 56 (.int .u32) hf) ?_
    refine SC.loop (S := Nat × Value × List Int) (fun ⟨i, v, zs⟩ => [(0, .vl (.string t)), (1, .vl (.int .i64 (r))), (4, .nb (BI 28)), (5, .vl (.int .i64 0)), (6, .vl (.bool false)), (7, .vl (v)), (40, .vl (.int .i64 (t.size : Int))), (41, .vl (.int .i64 (i : Int))), (87, .ro (v) 56 (.int .u32) (zs))]) (fun ⟨i, v, zs⟩ => PrI b32 r (byl t) i zs) (fun ⟨i, v, zs⟩ => t.size - i) (0, .slice none 0 0, []) (PrI.start b32 r (byl t)) ⟨rfl, rfl, rfl, rfl, rfl, rfl, rfl, rfl, rfl, trivial⟩ ?_
    rintro ⟨i, v, zs⟩ hP
    show SC _ _ _ _ [(0, .vl (.string t)), (1, .vl (.int .i64 (r))), (4, .nb (BI 28)), (5, .vl (.int .i64 0)), (6, .vl (.bool false)), (7, .vl (v)), (40, .vl (.int .i64 (t.size : Int))), (41, .vl (.int .i64 (i : Int))), (87, .ro (v) 56 (.int .u32) (zs))] _
    refine SC.seq ?_
    by_cases hi : (i : Int) < (t.size : Int)
    ·refine SC.region ?_
     refine PW.q2 (x := .tmp 41) (y := .tmp 40) (.bool true) rfl rfl rfl rfl rfl (fun ρ W h1 h2 => by exact r_lt h1 h2 (decide_eq_true hi)) ?_
     refine PW.nil (SX.then (SC.seq (SC.cond (t := true) rfl (SC.skip (SX.then (SC.seq (SC.block (SC.seq (SC.region (PW.move rfl rfl rfl rfl rfl (PW.assign rfl rfl rfl rfl rfl (PW.nil ?_))))))))))))
     refine SX.then (SC.seq (SC.region (PW.move rfl rfl rfl rfl rfl (PW.move rfl rfl rfl rfl rfl ?_))))
     refine PW.qn [(.tmp 44, .string t), (.tmp 45, .int .i64 (i : Int))] (.int .u8 (at0 (byl t) i)) rfl rfl rfl ⟨rfl, rfl, trivial⟩ (fun ρ W h => by obtain ⟨h1, h2, _⟩ := h; exact r_sidx h1 h2 (by omega)) ?_
     refine PW.call (r := .vl (.int .i64 (dv (at0 (byl t) i)))) rfl rfl rfl rfl rfl rfl (KV.st _) rfl (k_value (byl_byte t i).1 (byl_byte t i).2) ?_
     refine PW.assign rfl rfl rfl rfl rfl (PW.nil (SX.then (SC.seq (SC.seq ?_))))
     by_cases hd : dv (at0 (byl t) i) ≥ r
     ·refine SC.region ?_
      refine PW.move rfl rfl rfl rfl rfl (PW.move rfl rfl rfl rfl rfl ?_)
      refine PW.q2 (x := .tmp 48) (y := .tmp 49) (.bool true) rfl rfl rfl rfl rfl (fun ρ W h1 h2 => by exact r_ge h1 h2 (decide_eq_true hd)) ?_
      refine PW.nil (SX.then (SC.cond (t := true) rfl (SC.seq (SC.region ?_))))
      refine PW.val (r := .kw (KI (0))) rfl rfl rfl rfl (fun a W hf => ⟨.agg #[.bool false, .slice none 0 0], by go_simp, zeroI _ w W⟩) ?_
      refine PW.store (x := .tmp 51) (r := .kw (KI (0))) rfl rfl rfl rfl rfl rfl sh_I ?_
      refine PW.assign rfl rfl rfl rfl rfl (PW.nil (SX.then (SC.ret (SX.thenR (SX.blockR (SX.thenR (SX.thenR (SX.blockR (SX.thenR ?_)))))))))
      rw [form_bad (i := i) (by rw [byl_len]; omega) hd]
      exact SX.done2 (s := 4) (t := 5) (r := .vl (.int .i64 2)) (.inl rfl) rfl rfl rfl rfl
     ·refine SC.region ?_
      refine PW.move rfl rfl rfl rfl rfl (PW.move rfl rfl rfl rfl rfl ?_)
      refine PW.q2 (x := .tmp 48) (y := .tmp 49) (.bool false) rfl rfl rfl rfl rfl (fun ρ W h1 h2 => by exact r_ge h1 h2 (decide_eq_false hd)) ?_
      refine PW.nil (SX.then (SC.cond (t := false) rfl (SC.skip (SX.then (SC.seq (SC.region (PW.move rfl rfl rfl rfl rfl ?_)))))))
      refine PW.q1 (x := .tmp 52) (.int .u64 (dv (at0 (byl t) i))) rfl rfl rfl rfl (fun ρ W h1 => by exact r_i64u h1 (by have := dv_le (at0 (byl t) i); omega)) ?_
      refine PW.assign rfl rfl rfl rfl rfl (PW.nil (SX.then (SC.seq (SC.seq (SC.region (PW.move rfl rfl rfl rfl rfl ?_))))))
      refine PW.rlen (s := 54) 87 rfl rfl rfl rfl rfl (fun ρ W A c h => r_len h) ?_
      refine PW.move rfl rfl rfl rfl rfl (PW.nil (SX.then (SC.block ?_)))
      refine SC.loop (S := Nat × List Int × Int) (fun ⟨k, ys, cc⟩ => [(0, .vl (.string t)), (1, .vl (.int .i64 (r))), (4, .nb (BI 28)), (5, .vl (.int .i64 0)), (6, .vl (.bool false)), (7, .vl (v)), (8, .vl (.int .i64 (i : Int))), (10, .vl (.int .u64 (cc))), (40, .vl (.int .i64 (t.size : Int))), (41, .vl (.int .i64 (i : Int))), (54, .vl (v)), (55, .vl (.int .i64 (zs.length : Int))), (56, .vl (.int .i64 (k : Int))), (87, .ro (v) 56 (.int .u32) (ys))]) (fun ⟨k, ys, cc⟩ => PrJ b32 r (dv (at0 (byl t) i)) zs k ys cc) (fun ⟨k, ys, cc⟩ => zs.length - k) (0, zs, dv (at0 (byl t) i)) (PrJ.start hP.dg (dv_le _).1 (dv_le _).2) ⟨rfl, rfl, rfl, rfl, rfl, rfl, rfl, rfl, rfl, rfl, rfl, rfl, rfl, rfl, trivial⟩ ?_
      rintro ⟨k, ys, cc⟩ hJ
      show SC _ _ _ _ [(0, .vl (.string t)), (1, .vl (.int .i64 (r))), (4, .nb (BI 28)), (5, .vl (.int .i64 0)), (6, .vl (.bool false)), (7, .vl (v)), (8, .vl (.int .i64 (i : Int))), (10, .vl (.int .u64 (cc))), (40, .vl (.int .i64 (t.size : Int))), (41, .vl (.int .i64 (i : Int))), (54, .vl (v)), (55, .vl (.int .i64 (zs.length : Int))), (56, .vl (.int .i64 (k : Int))), (87, .ro (v) 56 (.int .u32) (ys))] _
      refine SC.seq ?_
      by_cases hk : (k : Int) < (zs.length : Int)
      ·refine SC.region ?_
       refine PW.q2 (x := .tmp 56) (y := .tmp 55) (.bool true) rfl rfl rfl rfl rfl (fun ρ W h1 h2 => by exact r_lt h1 h2 (decide_eq_true hk)) ?_
       refine PW.nil (SX.then (SC.seq (SC.cond (t := true) rfl (SC.skip (SX.then (SC.seq (SC.block (SC.seq (SC.region (PW.move rfl rfl rfl rfl rfl ?_))))))))))
       refine PW.ridx (i := k) 87 rfl rfl rfl rfl rfl rfl rfl (by have := hJ.len; omega) (fun ρ W g c h1 h2 => r_idx h1 h2 (by have := hJ.len; omega)) ?_
       refine PW.rget (i := k) 87 rfl rfl rfl rfl rfl rfl (by have := hJ.len; omega) r_l32 ?_
       refine PW.assign rfl rfl rfl rfl rfl (PW.assign rfl rfl rfl rfl rfl (PW.nil (SX.then (SC.seq (SC.region (PW.move rfl rfl rfl rfl rfl ?_))))))
       refine PW.q1 (x := .tmp 61) (.int .u64 (at0 ys k)) rfl rfl rfl rfl (fun ρ W h1 => by exact r_64 h1 (dg32 hJ.dg k)) ?_
       refine PW.move rfl rfl rfl rfl rfl ?_
       refine PW.q1 (x := .tmp 63) (.int .u64 (r)) rfl rfl rfl rfl (fun ρ W h1 => by exact r_i64u h1 (by omega)) ?_
       refine PW.q2 (x := .tmp 62) (y := .tmp 64) (.int .u64 (at0 ys k * r)) rfl rfl rfl rfl rfl (fun ρ W h1 h2 => by exact r_mul6 h1 h2 rfl (mulr (dg32 hJ.dg k) h)) ?_
       refine PW.move rfl rfl rfl rfl rfl ?_
       refine PW.q2 (x := .tmp 65) (y := .tmp 66) (.int .u64 (at0 ys k * r + cc)) rfl rfl rfl rfl rfl (fun ρ W h1 h2 => by exact r_add6 h1 h2 rfl (addr (dg32 hJ.dg k) h hJ.c0 hJ.c1)) ?_
       refine PW.assign rfl rfl rfl rfl rfl (PW.nil (SX.then (SC.region (PW.move rfl rfl rfl rfl rfl (PW.move rfl rfl rfl rfl rfl (PW.move rfl rfl rfl rfl rfl ?_))))))
       refine PW.q1 (x := .tmp 70) (.int .u32 ((at0 ys k * r + cc) % 4294967296)) rfl rfl rfl rfl (fun ρ W h1 => by exact r_32 h1) ?_
       refine PW.move rfl rfl rfl rfl rfl ?_
       refine PW.q2 (x := .tmp 72) (y := .const (.int .u64 32)) (.int .u64 ((at0 ys k * r + cc) / 4294967296)) rfl rfl rfl rfl rfl (fun ρ W h1 h2 => by exact r_dn32 h1 h2) ?_
       refine PW.ridx (i := k) 87 rfl rfl rfl rfl rfl rfl rfl (by have := hJ.len; omega) (fun ρ W g c h1 h2 => r_idx h1 h2 (by have := hJ.len; omega)) ?_
       refine PW.rput (i := k) (x := .tmp 71) (((at0 ys k * r + cc) % 4294967296)) 87 rfl rfl rfl rfl rfl (by have := hJ.len; omega) rfl rfl r_s32 ?_
       refine PW.assign rfl rfl rfl rfl rfl (PW.nil ?_)
       refine SX.blockN ?_
       refine SX.then (SC.region ?_)
       refine PW.q2 (x := .tmp 56) (y := .const (.int .i64 1)) (.int .i64 ((k + 1 : Nat))) rfl rfl rfl rfl rfl (fun ρ W h1 h2 => by exact r_add h1 h2 (by omega) (by have := hP.len; have := byl_len t; omega)) ?_
       refine PW.move rfl rfl rfl rfl rfl (PW.nil ?_)
       refine SX.back (k + 1, ys.set k ((at0 ys k * r + cc) % 4294967296), (at0 ys k * r + cc) / 4294967296) ?_ ?_ ?_
       ·exact (hJ.step (by decide) (by omega) h.1 h.2 rfl hP.dg)
       ·exact (show zs.length - (k + 1) < zs.length - k by omega)
       ·exact ⟨rfl, rfl, rfl, rfl, rfl, rfl, rfl, rfl, rfl, rfl, rfl, rfl, rfl, rfl, trivial⟩
      ·obtain rfl : k = zs.length := by have := hJ.le; omega
       refine SC.region ?_
       refine PW.q2 (x := .tmp 56) (y := .tmp 55) (.bool false) rfl rfl rfl rfl rfl (fun ρ W h1 h2 => by exact r_lt h1 h2 (decide_eq_false hk)) ?_
       refine PW.nil (SX.then (SC.seq (SC.cond (t := false) rfl (SC.exit (SX.thenE (SX.thenE (SX.blockE (SX.then (SC.seq ?_)))))))))
       by_cases hc : 0 < cc
       ·refine SC.region ?_
        refine PW.move rfl rfl rfl rfl rfl ?_
        refine PW.q2 (x := .tmp 76) (y := .const (.int .u64 0)) (.bool true) rfl rfl rfl rfl rfl (fun ρ W h1 h2 => by exact r_gt6 h1 h2 (decide_eq_true hc)) ?_
        refine PW.nil (SX.then (SC.cond (t := true) rfl (SC.region (PW.move rfl rfl rfl rfl rfl (PW.move rfl rfl rfl rfl rfl ?_)))))
        refine PW.q1 (x := .tmp 79) (.int .u32 (cc)) rfl rfl rfl rfl (fun ρ W h1 => by exact r_32z h1 (by have := hJ.c0; have := hJ.c1; omega)) ?_
        refine PW.app (K := 87) (f := .int .u32) [(cc)] rfl rfl rfl (fun a W hf => r_b1 (hf.vl (s := 80) rfl)) rfl rfl rfl rfl rfl rfl rfl rfl Tryd.underlying22 info_u32 rfl (fun _ => rfl) (by have l1 := hJ.len; have l2 := hP.len; have l3 := byl_len t; have l4 := hP.le; unfold maxLen; show _ + 1 ≤ _; omega) (by have l1 := hJ.len; have l2 := hP.len; have l3 := byl_len t; have l4 := hP.le; show (_ + 1) * 4 ≤ _; omega) rfl fun vq3 uq3 => ?_
        refine PW.assign rfl rfl rfl rfl rfl (PW.nil ?_)
        refine SX.blockN ?_
        refine SX.then (SC.region ?_)
        refine PW.q2 (x := .tmp 41) (y := .const (.int .i64 1)) (.int .i64 ((i + 1 : Nat))) rfl rfl rfl rfl rfl (fun ρ W h1 h2 => by exact r_add h1 h2 (by omega) (by omega)) ?_
        refine PW.move rfl rfl rfl rfl rfl (PW.nil ?_)
        refine SX.back (i + 1, vq3, ys ++ [(cc)]) ?_ ?_ ?_
        ·exact (hP.yes (by decide) (by rw [byl_len]; omega) (by omega) hJ)
        ·exact (show t.size - (i + 1) < t.size - i by omega)
        ·exact ⟨rfl, rfl, rfl, rfl, rfl, rfl, rfl, rfl, rfl, trivial⟩
       ·obtain rfl : cc = 0 := by have := hJ.c0; omega
        refine SC.region (PW.move rfl rfl rfl rfl rfl ?_)
        refine PW.q2 (x := .tmp 76) (y := .const (.int .u64 0)) (.bool false) rfl rfl rfl rfl rfl (fun ρ W h1 h2 => by exact r_gt6 h1 h2 (decide_eq_false hc)) ?_
        refine PW.nil (SX.then (SC.cond (t := false) rfl (SC.skip ?_)))
        refine SX.blockN ?_
        refine SX.then (SC.region ?_)
        refine PW.q2 (x := .tmp 41) (y := .const (.int .i64 1)) (.int .i64 ((i + 1 : Nat))) rfl rfl rfl rfl rfl (fun ρ W h1 h2 => by exact r_add h1 h2 (by omega) (by omega)) ?_
        refine PW.move rfl rfl rfl rfl rfl (PW.nil ?_)
        refine SX.back (i + 1, v, ys) ?_ ?_ ?_
        ·exact (hP.no (by rw [byl_len]; omega) (by omega) hJ)
        ·exact (show t.size - (i + 1) < t.size - i by omega)
        ·exact ⟨rfl, rfl, rfl, rfl, rfl, rfl, rfl, rfl, rfl, trivial⟩
    ·obtain rfl : i = t.size := by have := hP.le; have := byl_len t; omega
     refine SC.region ?_
     refine PW.q2 (x := .tmp 41) (y := .tmp 40) (.bool false) rfl rfl rfl rfl rfl (fun ρ W h1 h2 => by exact r_lt h1 h2 (decide_eq_false hi)) ?_
     refine PW.nil (SX.then (SC.seq (SC.cond (t := false) rfl (SC.exit (SX.thenE (SX.thenE (SX.blockE (SX.then (SC.seq (SC.region (PW.move rfl rfl rfl rfl rfl (PW.move rfl rfl rfl rfl rfl ?_))))))))))))
     refine PW.callG (r := .kw (KI (sg false (pv r 0 (byl t))))) ce_made rfl rfl rfl rfl rfl (KI.st _) rfl (fun a W hf => by have h1 := hf.vl (s := 84) rfl; have h2 := hf.vl (s := 85) rfl; have own : OwF W _ _ (.int .u32) v zs := hf.ho 87 _ rfl; obtain ⟨A4, c4, e4, hc4, rd4⟩ := Own.rd own; show Calls Tryd.prog _ #[a.tmps.getD 84 undef, a.tmps.getD 85 undef] W _; rw [h1, h2, e4, show pv r 0 (byl t) = lv b32 zs by rw [hP.lv, List.take_of_length_le (by rw [byl_len]; exact Nat.le_refl _)]]; exact made_k rd4 hc4 hP.dg) ?_
     refine PW.store (x := .tmp 86) (r := .kw (KI (sg false (pv r 0 (byl t))))) rfl rfl rfl rfl rfl rfl sh_I ?_
     refine PW.assign rfl rfl rfl rfl rfl (PW.nil (SX.then (SC.ret ?_)))
     rw [form_ok (by rw [byl_len]; exact he) (fun j hj => hP.ok j (by rw [byl_len] at hj; exact hj))]
     rw [show decide (at0 (byl t) 0 = 45) = false by exact decide_eq_false (fun h9 => hm ⟨pos_of_at0 h9 (by decide), h9⟩)]
     exact SX.done2 (s := 4) (t := 5) (r := .vl (.int .i64 0)) (.inl rfl) rfl rfl rfl rfl
theorem k_parse {s : ByteArray} {r : Int} : CallOk 8 [KV (.string s), KV (.int .i64 (r))] (KPI (parseR r (byl s))) := by
 by_cases h : 2 ≤ r ∧ r ≤ 36
 ·by_cases hl : 20000 < s.size
  ·exact k_parse_long h hl
  ·exact k_parse_ok h hl
 ·exact k_parse_radix h
end Go.Proofs.YthpjmhhfcechmaaDoor.Sy
/- Text of the program's integers; TrimPrefix, Repeat, ToLower, as the statement of the digits calls them. -/
namespace Go.Proofs.YthpjmhhfcechmaaDoor.Sy
open Go Go.RowKit Ma
theorem k_text {x r : Int} {a : Nat} (X : bd a x) (ha : a ≤ 300000) (h : 2 ≤ r ∧ r ≤ 36) : CallOk 7 [KI x, KV (.int .i64 r)] (K2 (KV (.string (tstr r x))) (KV (.int .i64 0))) :=
 call2 (fun args W => by go_simp) fun W u v ⟨n, A, l, c, e1, h1⟩ e2 => by
  subst e1
  obtain rfl : v = _ := e2
  refine (text_ok r h.1 h.2 h1 (by have := h1.le X ha; omega)).mono fun e W' ⟨v, q1, q2, q3⟩ => ⟨v, q1, ?_, q3⟩
  obtain ⟨a, b, rfl, ⟨s, rfl, hs⟩, hb⟩ := q2
  exact ⟨_, _, rfl, congrArg Value.string (tstr_eq h.1 hs), hb⟩
theorem pow_le_base {r : Int} (h : 2 ≤ r) : ∀ n : Nat, (2 : Int) ^ n ≤ r ^ n
 | 0 => by simp
 | n + 1 => by
  rw [Int.pow_succ, Int.pow_succ]
  exact Int.mul_le_mul (pow_le_base h n) h (by decide) (Int.pow_nonneg (by omega))
theorem tstr_size {r z : Int} {a : Nat} (hr : 2 ≤ r) (h : bd a z) : (tstr r z).size ≤ 32 * a + 2 := by
 unfold tstr
 split
 ·rename_i hex
  obtain ⟨ds, d1, d2, d3, d4⟩ := Classical.choose_spec hex
  generalize Classical.choose hex = t at *
  have hl : t.size = (byl t).length := (byl_len t).symm
  have d4 : byl t = _ := d4
  have hd : ds.length ≤ 32 * a := by
   apply Classical.byContradiction
   intro hn
   have hne : ds ≠ [] := fun e => by rw [e] at hn; simp at hn
   have h1 := top_le (by omega) d1 d2 hne
   have h2 := pow_le_base (show (2 : Int) ≤ r by omega) (ds.length - 1)
   have h3 := pow_le (b := 2) (by decide) (show 32 * a ≤ ds.length - 1 by omega)
   have h4 := bd2.1 h
   omega
  rw [hl, d4]
  by_cases hz : z = 0
  ·rw [if_pos hz]; show 1 ≤ _; omega
  ·rw [if_neg hz]
   by_cases hn : z < 0
   ·rw [if_pos hn]; simp; omega
   ·rw [if_neg hn]; simp; omega
 ·exact Nat.zero_le _
def trimS (s : ByteArray) : ByteArray := ⟨(Lib.trimPrefix s.data.toList [45]).toArray⟩
def repS (n : Nat) : ByteArray := ⟨(Lib.repeatL [48] n).toArray⟩
def lowS (s : ByteArray) : ByteArray := ⟨(Lib.toLowerA s.data.toList).toArray⟩
theorem k_trim {s : ByteArray} : CallOk 9 [KV (.string s), KV (.string ⟨#[45]⟩)] (KV (.string (trimS s))) :=
 call2 (fun args W => by go_simp) fun W u v e1 e2 => by
  obtain rfl : u = _ := e1
  obtain rfl : v = _ := e2
  refine (Tryd.strings_TrimPrefix s ⟨#[45]⟩ W).mono fun e W' ⟨he, hw⟩ => ⟨_, he, rfl, hw ▸ Nw.refl W⟩
theorem k_repeat {n : Nat} (hn : n ≤ 1000) : CallOk 11 [KV (.string ⟨#[48]⟩), KV (.int .i64 (n : Int))] (KV (.string (repS n))) :=
 call2 (fun args W => by go_simp) fun W u v e1 e2 => by
  obtain rfl : u = _ := e1
  obtain rfl : v = _ := e2
  refine (Tryd.strings_Repeat ⟨#[48]⟩ n W (by omega) (by show 1 * n ≤ _; omega)).mono fun e W' ⟨he, hw⟩ => ⟨_, he, rfl, hw⟩
theorem k_lower {s : ByteArray} (hs : s.size ≤ 1000) (h : ∀ c ∈ byl s, c < 128) : CallOk 12 [KV (.string s)] (KV (.string (lowS s))) :=
 call1 (fun args W => by go_simp) fun W u e1 => by
  obtain rfl : u = _ := e1
  refine (Tryd.strings_ToLower_ascii s W (by omega) (fun j b hb => ?_)).mono fun e W' ⟨he, hw⟩ => ⟨_, he, rfl, hw⟩
  have := h (b.toNat : Int) (by unfold byl; exact List.mem_map.2 ⟨b, List.mem_of_getElem? hb, rfl⟩)
  omega
structure Dig (k x : Int) : Prop where
 hk : 2 ≤ k ∧ k ≤ 36
 sz : (tstr k x).size ≤ 300
 dg : dgs k x (byl (trimS (tstr k x)))
theorem Dig.of {k x : Int} (hk : 2 ≤ k ∧ k ≤ 36) (X : bd 8 x) : Dig k x := ⟨hk, by have := tstr_size hk.1 X; omega, trim_dgs hk (tstr_txt hk)⟩
theorem size_of_byl {s : ByteArray} {n : Nat} (h : (byl s).length = n) : s.size = n := by rw [← byl_len]; exact h
theorem Dig.tsz {k x : Int} (h : Dig k x) : (trimS (tstr k x)).size ≤ 300 := by
 have hs := h.sz
 show (Lib.trimPrefix (tstr k x).data.toList [45]).toArray.size ≤ 300
 have h2 : (tstr k x).data.toList.length ≤ 300 := hs
 unfold Lib.trimPrefix
 split
 ·simp; omega
 ·simpa using h2
theorem Dig.parse {k x : Int} (h : Dig k x) : parseR k (byl (tstr k x)) = .ok x := parse_txt h.hk (tstr_txt h.hk) (by have := h.sz; omega)
theorem Dig.ascii {k x : Int} (h : Dig k x) : ∀ c ∈ byl (trimS (tstr k x)), c < 128 := fun c hc => ((dgs_pv h.hk h.dg).2.2 c hc).2
theorem rep_size (n : Nat) : (repS n).size = n := by
 have : (byl (repS n)).length = n := by
  show (bytesOf (Lib.repeatL [48] n)).length = n
  rw [repeat_bytes, List.length_replicate]
 exact size_of_byl this
theorem low_size (s : ByteArray) : (lowS s).size = s.size := by
 show (Lib.toLowerA s.data.toList).toArray.size = _
 simp [Lib.toLowerA]
def sgS (x : Int) : ByteArray := if x < 0 then ⟨#[45]⟩ else ⟨#[43]⟩
theorem Dig.long {k x : Int} {n : Nat} (h : Dig k x) (hn : n ≤ 20) : parseR k (byl (sgS x ++ repS n ++ lowS (trimS (tstr k x)))) = .ok x := by
 have e : byl (sgS x ++ repS n ++ lowS (trimS (tstr k x))) = (if x < 0 then 45 else 43) :: (List.replicate n 48 ++ (byl (trimS (tstr k x))).map lowI) := by
  rw [byl_append, byl_append]
  have e1 : byl (repS n) = List.replicate n 48 := repeat_bytes n
  have e2 : byl (lowS (trimS (tstr k x))) = (byl (trimS (tstr k x))).map lowI := low_bytes _
  rw [e1, e2]
  unfold sgS
  by_cases hx : x < 0
  ·rw [if_pos hx, if_pos hx]; rfl
  ·rw [if_neg hx, if_neg hx]; rfl
 rw [e]
 exact parse_long0 h.hk h.dg (by have := h.tsz; rw [byl_len]; omega)
theorem Dig.long1 {k x : Int} {n : Nat} (h : Dig k x) (hx : x < 0) (hn : n ≤ 20) : parseR k (byl (⟨#[45]⟩ ++ repS n ++ lowS (trimS (tstr k x)))) = .ok x := by
 have := h.long hn
 unfold sgS at this
 rwa [if_pos hx] at this
theorem Dig.long2 {k x : Int} {n : Nat} (h : Dig k x) (hx : ¬ x < 0) (hn : n ≤ 20) : parseR k (byl (⟨#[43]⟩ ++ repS n ++ lowS (trimS (tstr k x)))) = .ok x := by
 have := h.long hn
 unfold sgS at this
 rwa [if_neg hx] at this
theorem callKd {f : FuncId} {ks : List Know} {r r' : Know} (h : CallOk f ks r) (e : r = r') : CallOk f ks r' := e ▸ h
theorem sgn_ltd {z : Int} : sgn z < 0 ↔ z < 0 := by unfold sgn; split <;> (try split) <;> omega
section
variable {x y : Operand} {dst : Option Tmp} {ty : TypeId} {pos : String} {after : Array Edge} {guard : Option (Nat × Bool)} {ρ : Operand → Value} {W : World} {a : Int}
theorem r_u8 (h1 : ρ x = .int .u8 a) (h : 0 ≤ a ∧ a ≤ 255) : (execOp ρ ⟨dst, .convert 5 3 x, ty, pos, after, guard⟩).run Tryd.prog W = .ok (.value (.int .i64 a)) W := by
 have e : IntKind.i64.wrap a = a := IntWalk.i64_in _ (by omega)
 go_simp
end
theorem Dig.minus {k x : Int} (h : Dig k x) : Lib.hasPrefix (tstr k x).data.toList [45] = decide (x < 0) := neg_prefix h.hk (tstr_txt h.hk)
theorem str_eq (s t : ByteArray) : (s.toList == t.toList) = decide (s = t) := by
 by_cases h : s = t
 ·subst h; simp
 ·rw [decide_eq_false h]
  exact beq_eq_false_iff_ne.2 (fun e => h (by rw [ByteArray.toList_eq, ByteArray.toList_eq] at e; exact ByteArray.ext (Array.ext' e)))
theorem Dig.zero {k x : Int} (h : Dig k x) (hx : x = 0) : trimS (tstr k x) = ⟨#[48]⟩ := by
 obtain ⟨ds, d1, d2, d3, e⟩ := h.dg
 rw [if_pos hx] at e
 exact byl_inj e
theorem Dig.ne {k x : Int} (h : Dig k x) (hx : x ≠ 0) : trimS (tstr k x) ≠ ⟨#[48]⟩ := fun e => by
 obtain ⟨y, m, e1, _, e2⟩ := dgs_head h.hk h.dg
 rw [e] at e1
 have e3 : byl ⟨#[48]⟩ = [48] := rfl
 rw [e3] at e1
 injection e1 with e1
 exact hx (e2.1 e1.symm)
theorem Dig.top {k x : Int} (h : Dig k x) (hx : x ≠ 0) : Lib.hasPrefix (trimS (tstr k x)).data.toList [48] = false := by
 obtain ⟨y, m, e1, _, e2⟩ := dgs_head h.hk h.dg
 rw [prefix_iff]
 refine decide_eq_false fun h => ?_
 have := (head_bytes (c := 48) e1).1 h
 exact hx (e2.1 this)
end Go.Proofs.YthpjmhhfcechmaaDoor.Sy
/- IntegerDigits: the law behind its first statements, by rules. -/
namespace Go.Proofs.YthpjmhhfcechmaaDoor.Sy
open Go Go.RowKit Ma
set_option maxHeartbeats 6400000 in
set_option maxRecDepth 100000 in
theorem digits_body {x r q k : Int} {n : Nat} {w0 : World} (X : bd 8 x) (hr : 0 ≤ r ∧ r ≤ 255) (hq : 0 ≤ q ∧ q ≤ 255) (hk0 : 2 + r % 35 = k) (hn0 : q % 20 = (n : Int)) :
  SC w0.heap.size 111 w0 (restOf 3 Tryd.f3) [(1, .vl (.int .u8 (r))), (2, .vl (.int .u8 (q))), (6, .vl (.bool false)), (7, .bx (BI 28) (KI (x)))] (bodyPost Tryd.prog Tryd.f3 (Ret w0 (KV (.bool true)))) := by
 have D : Dig k x := Dig.of (by omega) X
 have hn : n ≤ 20 := by omega
 conv => arg 4; whnf
 refine SC.seq (SC.region (PW.move rfl rfl rfl rfl rfl ?_))
 refine PW.q1 (x := .tmp 29) (.int .i64 (r)) rfl rfl rfl rfl (fun ρ W h1 => by exact r_u8 h1 hr) ?_
 refine PW.q2 (x := .tmp 30) (y := .const (.int .i64 35)) (.int .i64 (r % 35)) rfl rfl rfl rfl rfl (fun ρ W h1 h2 => by exact r_rem h1 h2 (rfl) (by omega) (by decide)) ?_
 refine PW.q2 (x := .const (.int .i64 2)) (y := .tmp 31) (.int .i64 (k)) rfl rfl rfl rfl rfl (fun ρ W h1 h2 => by exact r_add h1 h2 (hk0) (by omega)) ?_
 refine PW.assign rfl rfl rfl rfl rfl (PW.nil (SX.then (SC.seq (SC.region ?_))))
 refine PW.load rfl rfl rfl rfl rfl rfl (PW.move rfl rfl rfl rfl rfl ?_)
 refine PW.call (r := .kw (K2 (KV (.string (tstr k x))) (KV (.int .i64 0)))) rfl rfl rfl rfl rfl rfl (K2.st (KV.st _) (KV.st _)) rfl (k_text X (by decide) D.hk) ?_
 refine PW.move rfl rfl rfl rfl rfl ?_
 refine PW.ext (r := .vl (.string (tstr k x))) rfl rfl rfl rfl rfl ex20v (KV.st _) rfl ?_
 refine PW.ext (r := .vl (.int .i64 0)) rfl rfl rfl rfl rfl ex21v (KV.st _) rfl ?_
 refine PW.assign rfl rfl rfl rfl rfl (PW.assign rfl rfl rfl rfl rfl (PW.nil (SX.then (SC.seq (SC.region (PW.move rfl rfl rfl rfl rfl (PW.move rfl rfl rfl rfl rfl ?_)))))))
 refine PW.call (r := .kw (K2 (KI (x)) (KV (.int .i64 0)))) rfl rfl rfl rfl rfl rfl (K2.st (KI.st _) (KV.st _)) rfl (callKd k_parse (by rw [D.parse]; rfl)) ?_
 refine PW.move rfl rfl rfl rfl rfl ?_
 refine PW.ext (r := .kw (KI (x))) rfl rfl rfl rfl rfl ex20 (KI.st _) rfl ?_
 refine PW.ext (r := .vl (.int .i64 0)) rfl rfl rfl rfl rfl ex21v (KV.st _) rfl ?_
 refine PW.alloc (BI 28) rfl rfl rfl rfl rfl bI ?_
 refine PW.store (x := .tmp 43) (r := .kw (KI (x))) rfl rfl rfl rfl rfl rfl sh_I ?_
 refine PW.assign rfl rfl rfl rfl rfl (PW.nil (SX.then (SC.seq (SC.region (PW.move rfl rfl rfl rfl rfl ?_)))))
 refine PW.call (r := .vl (.string (trimS (tstr k x)))) rfl rfl rfl rfl rfl rfl (KV.st _) rfl (k_trim) ?_
 refine PW.assign rfl rfl rfl rfl rfl (PW.nil (SX.then (SC.seq (SC.region (PW.assign rfl rfl rfl rfl rfl (PW.nil (SX.then (SC.seq (SC.seq ?_)))))))))
 by_cases hx : x < 0
 ·refine SC.region ?_
  refine PW.load rfl rfl rfl rfl rfl rfl ?_
  refine PW.call (r := .vl (.int .i64 (sgn x))) rfl rfl rfl rfl rfl rfl (KV.st _) rfl (k_sign (rfl)) ?_
  refine PW.q2 (x := .tmp 48) (y := .const (.int .i64 0)) (.bool true) rfl rfl rfl rfl rfl (fun ρ W h1 h2 => by exact r_lt h1 h2 (decide_eq_true (sgn_ltd.2 hx))) ?_
  refine PW.nil (SX.then (SC.cond (t := true) rfl (SC.region (PW.assign rfl rfl rfl rfl rfl (PW.nil (SX.then (SC.seq (SC.region (PW.move rfl rfl rfl rfl rfl (PW.move rfl rfl rfl rfl rfl ?_))))))))))
  refine PW.q2 (x := .tmp 52) (y := .const (.int .u8 20)) (.int .u8 (n : Int)) rfl rfl rfl rfl rfl (fun ρ W h1 h2 => by have ht : Int.tmod (q : Int) 20 = (n : Int) := (by (rw [Int.tmod_eq_emod_of_nonneg (by omega)]; omega)); go_simp; first | done | exact IntWalk.u8_in _ (by omega)) ?_
  refine PW.q1 (x := .tmp 53) (.int .i64 (n : Int)) rfl rfl rfl rfl (fun ρ W h1 => by exact r_u8 h1 (by omega)) ?_
  refine PW.call (r := .vl (.string (repS n))) rfl rfl rfl rfl rfl rfl (KV.st _) rfl (k_repeat (by omega)) ?_
  refine PW.q2 (x := .tmp 51) (y := .tmp 55) (.string (⟨#[45]⟩ ++ repS n)) rfl rfl rfl rfl rfl (fun ρ W h1 h2 => by exact r_sadd h1 h2 (by rw [rep_size]; show 1 + n ≤ _; omega)) ?_
  refine PW.move rfl rfl rfl rfl rfl ?_
  refine PW.call (r := .vl (.string (lowS (trimS (tstr k x))))) rfl rfl rfl rfl rfl rfl (KV.st _) rfl (k_lower (by have := D.tsz; omega) D.ascii) ?_
  refine PW.q2 (x := .tmp 56) (y := .tmp 58) (.string (⟨#[45]⟩ ++ repS n ++ lowS (trimS (tstr k x)))) rfl rfl rfl rfl rfl (fun ρ W h1 h2 => by exact r_sadd h1 h2 (by rw [ByteArray.size_append, rep_size, low_size]; have := D.tsz; show 1 + n + _ ≤ _; omega)) ?_
  refine PW.move rfl rfl rfl rfl rfl ?_
  refine PW.call (r := .kw (K2 (KI (x)) (KV (.int .i64 0)))) rfl rfl rfl rfl rfl rfl (K2.st (KI.st _) (KV.st _)) rfl (callKd k_parse (by rw [D.long1 hx hn]; rfl)) ?_
  refine PW.move rfl rfl rfl rfl rfl ?_
  refine PW.ext (r := .kw (KI (x))) rfl rfl rfl rfl rfl ex20 (KI.st _) rfl ?_
  refine PW.ext (r := .vl (.int .i64 0)) rfl rfl rfl rfl rfl ex21v (KV.st _) rfl ?_
  refine PW.alloc (BI 28) rfl rfl rfl rfl rfl bI ?_
  refine PW.store (x := .tmp 62) (r := .kw (KI (x))) rfl rfl rfl rfl rfl rfl sh_I ?_
  refine PW.assign rfl rfl rfl rfl rfl (PW.nil (SX.then (SC.seq (SC.region ?_))))
  refine PW.load rfl rfl rfl rfl rfl rfl (PW.move rfl rfl rfl rfl rfl ?_)
  refine PW.call (r := .kw (K2 (KV (.string (tstr k x))) (KV (.int .i64 0)))) rfl rfl rfl rfl rfl rfl (K2.st (KV.st _) (KV.st _)) rfl (k_text X (by decide) D.hk) ?_
  refine PW.move rfl rfl rfl rfl rfl ?_
  refine PW.ext (r := .vl (.string (tstr k x))) rfl rfl rfl rfl rfl ex20v (KV.st _) rfl ?_
  refine PW.ext (r := .vl (.int .i64 0)) rfl rfl rfl rfl rfl ex21v (KV.st _) rfl ?_
  refine PW.assign rfl rfl rfl rfl rfl (PW.assign rfl rfl rfl rfl rfl (PW.nil (SX.then (SC.seq ?_))))
  by_cases h0 : x = 0
  ·refine SC.region ?_
   refine PW.move rfl rfl rfl rfl rfl (PW.move rfl rfl rfl rfl rfl (PW.move rfl rfl rfl rfl rfl (PW.move rfl rfl rfl rfl rfl ?_)))
   refine PW.qn [(.tmp 70, .int .i64 0), (.tmp 71, .int .i64 0), (.tmp 72, .int .i64 0), (.tmp 73, .int .i64 0)] (.int .i64 (0)) rfl rfl rfl ⟨rfl, rfl, rfl, rfl, trivial⟩ (fun ρ W h => by obtain ⟨h1, h2, h3, h4, _⟩ := h; go_simp; simp [Builtin.max_, Builtin.max2]) ?_
   refine PW.q2 (x := .tmp 74) (y := .const (.int .i64 0)) (.bool true) rfl rfl rfl rfl rfl (fun ρ W h1 h2 => by go_simp) ?_
   refine PW.move rfl rfl rfl rfl rfl ?_
   refine PW.load rfl rfl rfl rfl rfl rfl ?_
   refine PW.load rfl rfl rfl rfl rfl rfl ?_
   refine PW.call (r := .vl (.bool true)) rfl rfl rfl rfl rfl rfl (KV.st _) rfl (k_same rfl) ?_
   refine PW.pick (t := true) rfl rfl rfl rfl rfl rfl ?_
   refine PW.move rfl rfl rfl rfl rfl ?_
   refine PW.load rfl rfl rfl rfl rfl rfl ?_
   refine PW.load rfl rfl rfl rfl rfl rfl ?_
   refine PW.call (r := .vl (.bool true)) rfl rfl rfl rfl rfl rfl (KV.st _) rfl (k_same rfl) ?_
   refine PW.pick (t := true) rfl rfl rfl rfl rfl rfl ?_
   refine PW.move rfl rfl rfl rfl rfl (PW.move rfl rfl rfl rfl rfl (PW.move rfl rfl rfl rfl rfl ?_))
   refine PW.q2 (x := .tmp 87) (y := .tmp 88) (.bool true) rfl rfl rfl rfl rfl (fun ρ W h1 h2 => by exact r_seq h1 h2 (by simp)) ?_
   refine PW.pick (t := true) rfl rfl rfl rfl rfl rfl ?_
   refine PW.move rfl rfl rfl rfl rfl ?_
   refine PW.load rfl rfl rfl rfl rfl rfl ?_
   refine PW.call (r := .vl (.int .i64 (sgn x))) rfl rfl rfl rfl rfl rfl (KV.st _) rfl (k_sign (rfl)) ?_
   refine PW.q2 (x := .tmp 93) (y := .const (.int .i64 0)) (.bool true) rfl rfl rfl rfl rfl (fun ρ W h1 h2 => by exact r_lt h1 h2 (decide_eq_true (sgn_ltd.2 hx))) ?_
   refine PW.move rfl rfl rfl rfl rfl ?_
   refine PW.call (r := .vl (.bool true)) rfl rfl rfl rfl rfl rfl (KV.st _) rfl (k_hasPrefix _ _ (D.minus.trans (decide_eq_true hx))) ?_
   refine PW.q2 (x := .tmp 94) (y := .tmp 96) (.bool true) rfl rfl rfl rfl rfl (fun ρ W h1 h2 => by go_simp) ?_
   refine PW.pick (t := true) rfl rfl rfl rfl rfl rfl ?_
   refine PW.move rfl rfl rfl rfl rfl (PW.move rfl rfl rfl rfl rfl ?_)
   refine PW.q2 (x := .tmp 100) (y := .const (.string ⟨#[48]⟩)) (.bool true) rfl rfl rfl rfl rfl (fun ρ W h1 h2 => by exact r_seq h1 h2 ((str_eq _ _).trans (decide_eq_true (D.zero h0)))) ?_
   refine PW.move rfl rfl rfl rfl rfl ?_
   refine PW.skip rfl rfl rfl ?_
   refine PW.skip rfl rfl rfl ?_
   refine PW.skip rfl rfl rfl ?_
   refine PW.pick (t := true) rfl rfl rfl rfl rfl rfl ?_
   refine PW.pick (t := true) rfl rfl rfl rfl rfl rfl ?_
   refine PW.move rfl rfl rfl rfl rfl ?_
   refine PW.call (r := .vl (.bool true)) rfl rfl rfl rfl rfl rfl (KV.st _) rfl (k_awake) ?_
   refine PW.pick (t := true) rfl rfl rfl rfl rfl rfl ?_
   refine PW.assign rfl rfl rfl rfl rfl (PW.nil (SX.then (SC.ret ?_)))
   exact SX.done (r := .vl (.bool true)) rfl rfl rfl
  ·refine SC.region ?_
   refine PW.move rfl rfl rfl rfl rfl (PW.move rfl rfl rfl rfl rfl (PW.move rfl rfl rfl rfl rfl (PW.move rfl rfl rfl rfl rfl ?_)))
   refine PW.qn [(.tmp 70, .int .i64 0), (.tmp 71, .int .i64 0), (.tmp 72, .int .i64 0), (.tmp 73, .int .i64 0)] (.int .i64 (0)) rfl rfl rfl ⟨rfl, rfl, rfl, rfl, trivial⟩ (fun ρ W h => by obtain ⟨h1, h2, h3, h4, _⟩ := h; go_simp; simp [Builtin.max_, Builtin.max2]) ?_
   refine PW.q2 (x := .tmp 74) (y := .const (.int .i64 0)) (.bool true) rfl rfl rfl rfl rfl (fun ρ W h1 h2 => by go_simp) ?_
   refine PW.move rfl rfl rfl rfl rfl ?_
   refine PW.load rfl rfl rfl rfl rfl rfl ?_
   refine PW.load rfl rfl rfl rfl rfl rfl ?_
   refine PW.call (r := .vl (.bool true)) rfl rfl rfl rfl rfl rfl (KV.st _) rfl (k_same rfl) ?_
   refine PW.pick (t := true) rfl rfl rfl rfl rfl rfl ?_
   refine PW.move rfl rfl rfl rfl rfl ?_
   refine PW.load rfl rfl rfl rfl rfl rfl ?_
   refine PW.load rfl rfl rfl rfl rfl rfl ?_
   refine PW.call (r := .vl (.bool true)) rfl rfl rfl rfl rfl rfl (KV.st _) rfl (k_same rfl) ?_
   refine PW.pick (t := true) rfl rfl rfl rfl rfl rfl ?_
   refine PW.move rfl rfl rfl rfl rfl (PW.move rfl rfl rfl rfl rfl (PW.move rfl rfl rfl rfl rfl ?_))
   refine PW.q2 (x := .tmp 87) (y := .tmp 88) (.bool true) rfl rfl rfl rfl rfl (fun ρ W h1 h2 => by exact r_seq h1 h2 (by simp)) ?_
   refine PW.pick (t := true) rfl rfl rfl rfl rfl rfl ?_
   refine PW.move rfl rfl rfl rfl rfl ?_
   refine PW.load rfl rfl rfl rfl rfl rfl ?_
   refine PW.call (r := .vl (.int .i64 (sgn x))) rfl rfl rfl rfl rfl rfl (KV.st _) rfl (k_sign (rfl)) ?_
   refine PW.q2 (x := .tmp 93) (y := .const (.int .i64 0)) (.bool true) rfl rfl rfl rfl rfl (fun ρ W h1 h2 => by exact r_lt h1 h2 (decide_eq_true (sgn_ltd.2 hx))) ?_
   refine PW.move rfl rfl rfl rfl rfl ?_
   refine PW.call (r := .vl (.bool true)) rfl rfl rfl rfl rfl rfl (KV.st _) rfl (k_hasPrefix _ _ (D.minus.trans (decide_eq_true hx))) ?_
   refine PW.q2 (x := .tmp 94) (y := .tmp 96) (.bool true) rfl rfl rfl rfl rfl (fun ρ W h1 h2 => by go_simp) ?_
   refine PW.pick (t := true) rfl rfl rfl rfl rfl rfl ?_
   refine PW.move rfl rfl rfl rfl rfl (PW.move rfl rfl rfl rfl rfl ?_)
   refine PW.q2 (x := .tmp 100) (y := .const (.string ⟨#[48]⟩)) (.bool false) rfl rfl rfl rfl rfl (fun ρ W h1 h2 => by exact r_seq h1 h2 ((str_eq _ _).trans (decide_eq_false (D.ne h0)))) ?_
   refine PW.move rfl rfl rfl rfl rfl (PW.move rfl rfl rfl rfl rfl ?_)
   refine PW.call (r := .vl (.bool false)) rfl rfl rfl rfl rfl rfl (KV.st _) rfl (k_hasPrefix _ _ (D.top h0)) ?_
   refine PW.q1 (x := .tmp 104) (.bool true) rfl rfl rfl rfl (fun ρ W h1 => by go_simp) ?_
   refine PW.pick (t := false) rfl rfl rfl rfl rfl rfl ?_
   refine PW.pick (t := true) rfl rfl rfl rfl rfl rfl ?_
   refine PW.move rfl rfl rfl rfl rfl ?_
   refine PW.call (r := .vl (.bool true)) rfl rfl rfl rfl rfl rfl (KV.st _) rfl (k_awake) ?_
   refine PW.pick (t := true) rfl rfl rfl rfl rfl rfl ?_
   refine PW.assign rfl rfl rfl rfl rfl (PW.nil (SX.then (SC.ret ?_)))
   exact SX.done (r := .vl (.bool true)) rfl rfl rfl
 ·refine SC.region ?_
  refine PW.load rfl rfl rfl rfl rfl rfl ?_
  refine PW.call (r := .vl (.int .i64 (sgn x))) rfl rfl rfl rfl rfl rfl (KV.st _) rfl (k_sign (rfl)) ?_
  refine PW.q2 (x := .tmp 48) (y := .const (.int .i64 0)) (.bool false) rfl rfl rfl rfl rfl (fun ρ W h1 h2 => by exact r_lt h1 h2 (decide_eq_false (fun h => hx (sgn_ltd.1 h)))) ?_
  refine PW.nil (SX.then (SC.cond (t := false) rfl (SC.skip (SX.then (SC.seq (SC.region (PW.move rfl rfl rfl rfl rfl (PW.move rfl rfl rfl rfl rfl ?_))))))))
  refine PW.q2 (x := .tmp 52) (y := .const (.int .u8 20)) (.int .u8 (n : Int)) rfl rfl rfl rfl rfl (fun ρ W h1 h2 => by have ht : Int.tmod (q : Int) 20 = (n : Int) := (by (rw [Int.tmod_eq_emod_of_nonneg (by omega)]; omega)); go_simp; first | done | exact IntWalk.u8_in _ (by omega)) ?_
  refine PW.q1 (x := .tmp 53) (.int .i64 (n : Int)) rfl rfl rfl rfl (fun ρ W h1 => by exact r_u8 h1 (by omega)) ?_
  refine PW.call (r := .vl (.string (repS n))) rfl rfl rfl rfl rfl rfl (KV.st _) rfl (k_repeat (by omega)) ?_
  refine PW.q2 (x := .tmp 51) (y := .tmp 55) (.string (⟨#[43]⟩ ++ repS n)) rfl rfl rfl rfl rfl (fun ρ W h1 h2 => by exact r_sadd h1 h2 (by rw [rep_size]; show 1 + n ≤ _; omega)) ?_
  refine PW.move rfl rfl rfl rfl rfl ?_
  refine PW.call (r := .vl (.string (lowS (trimS (tstr k x))))) rfl rfl rfl rfl rfl rfl (KV.st _) rfl (k_lower (by have := D.tsz; omega) D.ascii) ?_
  refine PW.q2 (x := .tmp 56) (y := .tmp 58) (.string (⟨#[43]⟩ ++ repS n ++ lowS (trimS (tstr k x)))) rfl rfl rfl rfl rfl (fun ρ W h1 h2 => by exact r_sadd h1 h2 (by rw [ByteArray.size_append, rep_size, low_size]; have := D.tsz; show 1 + n + _ ≤ _; omega)) ?_
  refine PW.move rfl rfl rfl rfl rfl ?_
  refine PW.call (r := .kw (K2 (KI (x)) (KV (.int .i64 0)))) rfl rfl rfl rfl rfl rfl (K2.st (KI.st _) (KV.st _)) rfl (callKd k_parse (by rw [D.long2 hx hn]; rfl)) ?_
  refine PW.move rfl rfl rfl rfl rfl ?_
  refine PW.ext (r := .kw (KI (x))) rfl rfl rfl rfl rfl ex20 (KI.st _) rfl ?_
  refine PW.ext (r := .vl (.int .i64 0)) rfl rfl rfl rfl rfl ex21v (KV.st _) rfl ?_
  refine PW.alloc (BI 28) rfl rfl rfl rfl rfl bI ?_
  refine PW.store (x := .tmp 62) (r := .kw (KI (x))) rfl rfl rfl rfl rfl rfl sh_I ?_
  refine PW.assign rfl rfl rfl rfl rfl (PW.nil (SX.then (SC.seq (SC.region ?_))))
  refine PW.load rfl rfl rfl rfl rfl rfl (PW.move rfl rfl rfl rfl rfl ?_)
  refine PW.call (r := .kw (K2 (KV (.string (tstr k x))) (KV (.int .i64 0)))) rfl rfl rfl rfl rfl rfl (K2.st (KV.st _) (KV.st _)) rfl (k_text X (by decide) D.hk) ?_
  refine PW.move rfl rfl rfl rfl rfl ?_
  refine PW.ext (r := .vl (.string (tstr k x))) rfl rfl rfl rfl rfl ex20v (KV.st _) rfl ?_
  refine PW.ext (r := .vl (.int .i64 0)) rfl rfl rfl rfl rfl ex21v (KV.st _) rfl ?_
  refine PW.assign rfl rfl rfl rfl rfl (PW.assign rfl rfl rfl rfl rfl (PW.nil (SX.then (SC.seq ?_))))
  by_cases h0 : x = 0
  ·refine SC.region ?_
   refine PW.move rfl rfl rfl rfl rfl (PW.move rfl rfl rfl rfl rfl (PW.move rfl rfl rfl rfl rfl (PW.move rfl rfl rfl rfl rfl ?_)))
   refine PW.qn [(.tmp 70, .int .i64 0), (.tmp 71, .int .i64 0), (.tmp 72, .int .i64 0), (.tmp 73, .int .i64 0)] (.int .i64 (0)) rfl rfl rfl ⟨rfl, rfl, rfl, rfl, trivial⟩ (fun ρ W h => by obtain ⟨h1, h2, h3, h4, _⟩ := h; go_simp; simp [Builtin.max_, Builtin.max2]) ?_
   refine PW.q2 (x := .tmp 74) (y := .const (.int .i64 0)) (.bool true) rfl rfl rfl rfl rfl (fun ρ W h1 h2 => by go_simp) ?_
   refine PW.move rfl rfl rfl rfl rfl ?_
   refine PW.load rfl rfl rfl rfl rfl rfl ?_
   refine PW.load rfl rfl rfl rfl rfl rfl ?_
   refine PW.call (r := .vl (.bool true)) rfl rfl rfl rfl rfl rfl (KV.st _) rfl (k_same rfl) ?_
   refine PW.pick (t := true) rfl rfl rfl rfl rfl rfl ?_
   refine PW.move rfl rfl rfl rfl rfl ?_
   refine PW.load rfl rfl rfl rfl rfl rfl ?_
   refine PW.load rfl rfl rfl rfl rfl rfl ?_
   refine PW.call (r := .vl (.bool true)) rfl rfl rfl rfl rfl rfl (KV.st _) rfl (k_same rfl) ?_
   refine PW.pick (t := true) rfl rfl rfl rfl rfl rfl ?_
   refine PW.move rfl rfl rfl rfl rfl (PW.move rfl rfl rfl rfl rfl (PW.move rfl rfl rfl rfl rfl ?_))
   refine PW.q2 (x := .tmp 87) (y := .tmp 88) (.bool true) rfl rfl rfl rfl rfl (fun ρ W h1 h2 => by exact r_seq h1 h2 (by simp)) ?_
   refine PW.pick (t := true) rfl rfl rfl rfl rfl rfl ?_
   refine PW.move rfl rfl rfl rfl rfl ?_
   refine PW.load rfl rfl rfl rfl rfl rfl ?_
   refine PW.call (r := .vl (.int .i64 (sgn x))) rfl rfl rfl rfl rfl rfl (KV.st _) rfl (k_sign (rfl)) ?_
   refine PW.q2 (x := .tmp 93) (y := .const (.int .i64 0)) (.bool false) rfl rfl rfl rfl rfl (fun ρ W h1 h2 => by exact r_lt h1 h2 (decide_eq_false (fun h => hx (sgn_ltd.1 h)))) ?_
   refine PW.move rfl rfl rfl rfl rfl ?_
   refine PW.call (r := .vl (.bool false)) rfl rfl rfl rfl rfl rfl (KV.st _) rfl (k_hasPrefix _ _ (D.minus.trans (decide_eq_false hx))) ?_
   refine PW.q2 (x := .tmp 94) (y := .tmp 96) (.bool true) rfl rfl rfl rfl rfl (fun ρ W h1 h2 => by go_simp) ?_
   refine PW.pick (t := true) rfl rfl rfl rfl rfl rfl ?_
   refine PW.move rfl rfl rfl rfl rfl (PW.move rfl rfl rfl rfl rfl ?_)
   refine PW.q2 (x := .tmp 100) (y := .const (.string ⟨#[48]⟩)) (.bool true) rfl rfl rfl rfl rfl (fun ρ W h1 h2 => by exact r_seq h1 h2 ((str_eq _ _).trans (decide_eq_true (D.zero h0)))) ?_
   refine PW.move rfl rfl rfl rfl rfl ?_
   refine PW.skip rfl rfl rfl ?_
   refine PW.skip rfl rfl rfl ?_
   refine PW.skip rfl rfl rfl ?_
   refine PW.pick (t := true) rfl rfl rfl rfl rfl rfl ?_
   refine PW.pick (t := true) rfl rfl rfl rfl rfl rfl ?_
   refine PW.move rfl rfl rfl rfl rfl ?_
   refine PW.call (r := .vl (.bool true)) rfl rfl rfl rfl rfl rfl (KV.st _) rfl (k_awake) ?_
   refine PW.pick (t := true) rfl rfl rfl rfl rfl rfl ?_
   refine PW.assign rfl rfl rfl rfl rfl (PW.nil (SX.then (SC.ret ?_)))
   exact SX.done (r := .vl (.bool true)) rfl rfl rfl
  ·refine SC.region ?_
   refine PW.move rfl rfl rfl rfl rfl (PW.move rfl rfl rfl rfl rfl (PW.move rfl rfl rfl rfl rfl (PW.move rfl rfl rfl rfl rfl ?_)))
   refine PW.qn [(.tmp 70, .int .i64 0), (.tmp 71, .int .i64 0), (.tmp 72, .int .i64 0), (.tmp 73, .int .i64 0)] (.int .i64 (0)) rfl rfl rfl ⟨rfl, rfl, rfl, rfl, trivial⟩ (fun ρ W h => by obtain ⟨h1, h2, h3, h4, _⟩ := h; go_simp; simp [Builtin.max_, Builtin.max2]) ?_
   refine PW.q2 (x := .tmp 74) (y := .const (.int .i64 0)) (.bool true) rfl rfl rfl rfl rfl (fun ρ W h1 h2 => by go_simp) ?_
   refine PW.move rfl rfl rfl rfl rfl ?_
   refine PW.load rfl rfl rfl rfl rfl rfl ?_
   refine PW.load rfl rfl rfl rfl rfl rfl ?_
   refine PW.call (r := .vl (.bool true)) rfl rfl rfl rfl rfl rfl (KV.st _) rfl (k_same rfl) ?_
   refine PW.pick (t := true) rfl rfl rfl rfl rfl rfl ?_
   refine PW.move rfl rfl rfl rfl rfl ?_
   refine PW.load rfl rfl rfl rfl rfl rfl ?_
   refine PW.load rfl rfl rfl rfl rfl rfl ?_
   refine PW.call (r := .vl (.bool true)) rfl rfl rfl rfl rfl rfl (KV.st _) rfl (k_same rfl) ?_
   refine PW.pick (t := true) rfl rfl rfl rfl rfl rfl ?_
   refine PW.move rfl rfl rfl rfl rfl (PW.move rfl rfl rfl rfl rfl (PW.move rfl rfl rfl rfl rfl ?_))
   refine PW.q2 (x := .tmp 87) (y := .tmp 88) (.bool true) rfl rfl rfl rfl rfl (fun ρ W h1 h2 => by exact r_seq h1 h2 (by simp)) ?_
   refine PW.pick (t := true) rfl rfl rfl rfl rfl rfl ?_
   refine PW.move rfl rfl rfl rfl rfl ?_
   refine PW.load rfl rfl rfl rfl rfl rfl ?_
   refine PW.call (r := .vl (.int .i64 (sgn x))) rfl rfl rfl rfl rfl rfl (KV.st _) rfl (k_sign (rfl)) ?_
   refine PW.q2 (x := .tmp 93) (y := .const (.int .i64 0)) (.bool false) rfl rfl rfl rfl rfl (fun ρ W h1 h2 => by exact r_lt h1 h2 (decide_eq_false (fun h => hx (sgn_ltd.1 h)))) ?_
   refine PW.move rfl rfl rfl rfl rfl ?_
   refine PW.call (r := .vl (.bool false)) rfl rfl rfl rfl rfl rfl (KV.st _) rfl (k_hasPrefix _ _ (D.minus.trans (decide_eq_false hx))) ?_
   refine PW.q2 (x := .tmp 94) (y := .tmp 96) (.bool true) rfl rfl rfl rfl rfl (fun ρ W h1 h2 => by go_simp) ?_
   refine PW.pick (t := true) rfl rfl rfl rfl rfl rfl ?_
   refine PW.move rfl rfl rfl rfl rfl (PW.move rfl rfl rfl rfl rfl ?_)
   refine PW.q2 (x := .tmp 100) (y := .const (.string ⟨#[48]⟩)) (.bool false) rfl rfl rfl rfl rfl (fun ρ W h1 h2 => by exact r_seq h1 h2 ((str_eq _ _).trans (decide_eq_false (D.ne h0)))) ?_
   refine PW.move rfl rfl rfl rfl rfl (PW.move rfl rfl rfl rfl rfl ?_)
   refine PW.call (r := .vl (.bool false)) rfl rfl rfl rfl rfl rfl (KV.st _) rfl (k_hasPrefix _ _ (D.top h0)) ?_
   refine PW.q1 (x := .tmp 104) (.bool true) rfl rfl rfl rfl (fun ρ W h1 => by go_simp) ?_
   refine PW.pick (t := false) rfl rfl rfl rfl rfl rfl ?_
   refine PW.pick (t := true) rfl rfl rfl rfl rfl rfl ?_
   refine PW.move rfl rfl rfl rfl rfl ?_
   refine PW.call (r := .vl (.bool true)) rfl rfl rfl rfl rfl rfl (KV.st _) rfl (k_awake) ?_
   refine PW.pick (t := true) rfl rfl rfl rfl rfl rfl ?_
   refine PW.assign rfl rfl rfl rfl rfl (PW.nil (SX.then (SC.ret ?_)))
   exact SX.done (r := .vl (.bool true)) rfl rfl rfl
end Go.Proofs.YthpjmhhfcechmaaDoor.Sy
/- IntegerDigits: the walk. -/
namespace Go.Proofs.YthpjmhhfcechmaaDoor
open Go.RowKit Ma Sy

theorem wf_u8 {n : Int} (h : (Lit.int .u8 n).wf = true) : 0 ≤ n ∧ n ≤ 255 := by
 simp only [Lit.wf, Bool.and_eq_true, decide_eq_true_eq] at h
 have hm : IntKind.u8.max = 255 := by simp [IntKind.max, IntKind.bits, IntKind.signed]
 have hn : IntKind.u8.min = 0 := by simp [IntKind.min, IntKind.signed]
 rw [hm, hn] at h
 exact h
set_option maxHeartbeats 25600000 in
set_option maxRecDepth 100000 in
theorem digits_w {n1 : Bool} {A1 : Option Addr} {l1 c1 : Nat} {xs1 : List Int} {r : Int} {q : Int} {w : World} (h1 : In w A1 l1 c1 xs1) (hr : 0 ≤ r ∧ r ≤ 255) (hq : 0 ≤ q ∧ q ≤ 255) :
  Calls Tryd.prog 3 #[.agg #[.bool n1, .slice A1 l1 c1], .int .u8 (r), .int .u8 (q)] w (Ret w (KV (.bool true))) := by
 have H1 := Lib.hid h1
 have b1 : l1 ≤ 9223372036854775807 := h1.1 ▸ h1.2.2.1.1
 clear h1
 obtain ⟨ns, hns⟩ : ∃ ns : List Nn, ns = [(n1, A1, l1, c1)] := ⟨_, rfl⟩
 have hL : ∀ x ∈ ns, x.2.2.1 ≤ 9223372036854775807 := by
  intro x hx
  rw [hns] at hx
  simp at hx
  subst hx; assumption
 have hlen : ns.length = 1 := by rw [hns]; rfl
 have HNS := Lib.hid hns
 have HL := Lib.hid hL
 have HLEN := Lib.hid hlen
 clear hns hL hlen
 go_enter Tryd.func3, Tryd.ntmps3
 go_wp2_with fail
 obtain ⟨W0, hW0⟩ : ∃ W0, W0 = (w.alloc (.cells #[.bool n1, .slice A1 l1 c1] 24)) := ⟨_, rfl⟩
 have nw0 : Nw w W0 := by rw [hW0]; exact (Nw.refl w).alloc _
 have cw0 : Has [(w.heap.size, 0, Value.bool n1), (w.heap.size, 1, Value.slice A1 l1 c1)] W0 := by
  rw [hW0]; exact ⟨by go_simp, by go_simp, trivial⟩
 have sz0 : W0.heap.size = w.heap.size + 1 := by rw [hW0]; go_simp
 rw [← hW0, ← sz0]
 clear hW0 sz0
 obtain ⟨q1, q2, _⟩ := cw0
 have lit : ∀ (W : World), Ns (W.alloc (.cells #[.bool n1, .slice A1 l1 c1] 24)) W.heap.size ns := by
  intro W i n A l c e
  rw [HNS.out] at e
  match i, e with
  | 0, e => simp at e; obtain ⟨rfl, rfl, rfl, rfl⟩ := e; exact ⟨by go_simp, by go_simp⟩
  | i + 1, e => simp at e
 have LIT := Lib.hid lit
 clear lit
 refine (short_l 8 ns rfl HLEN.out.symm (LIT.out W0) (by decide) (by have := HLEN.out; omega) HL.out).mono ?_
 rintro e w1 ⟨_, rfl, hsv, hb1⟩
 have na : Nw W0 w1 := ((Nw.refl W0).alloc _).trans hb1
 by_cases hs : shB 8 ns = true
 ·rw [hs] at hsv
  obtain rfl := hsv
  have q1 := na.c q1
  have q2 := na.c q2
  go_upto_region 3 with (fail)
  obtain ⟨z1, hz1⟩ : ∃ z, z = sg n1 (lv b32 xs1) := ⟨_, rfl⟩
  have hle : l1 ≤ 8 := by
   have h9 := hs
   rw [HNS.out] at h9
   simpa [shB] using h9
  have Z1 : bd 8 z1 := hz1 ▸ bd_sg H1.out.2.2.2 (by have := H1.out.1; omega)
  go_cut [7] (fun v7 wx => ∃ (P1 : Nat) (m1 : Bool) (D1 : Option Addr) (k1 e1 : Nat), v7 = .pointer (some ⟨P1, 0, none⟩) ∧ w1.heap.size ≤ P1 ∧ Nw w1 wx ∧ wx.cell? ⟨P1, 0, none⟩ = some (.bool m1) ∧ wx.cell? ⟨P1, 1, none⟩ = some (.slice D1 k1 e1) ∧ wx.frozen? ⟨P1, 0, none⟩ = false ∧ wx.frozen? ⟨P1, 1, none⟩ = false ∧ RI wx m1 D1 k1 e1 z1)
  case first =>
   have nal : Nw w (w1.alloc (.cells #[.bool n1, .slice A1 l1 c1] 24)) := (nw0.trans na).alloc _
   have hin : Ins (w1.alloc (.cells #[.bool n1, .slice A1 l1 c1] 24)) ns [z1] := by
    refine ⟨HLEN.out, fun i n A l c e => ?_⟩
    rw [HNS.out] at e
    have J1 := H1.out.nw nal
    match i, e with
    | 0, e => simp at e; obtain ⟨rfl, rfl, rfl, rfl⟩ := e; exact ⟨xs1, J1.1, J1.2.1, by have := J1.1; omega, J1.2.2.1, J1.2.2.2, hz1⟩
    | i + 1, e => simp at e
   clear hz1 hle
   go_wp2_with fail
   refine (mades_l ns [z1] HLEN.out.symm (LIT.out w1) hin (by have := HLEN.out; omega) (by have := HLEN.out; omega)).mono ?_
   rintro e w2 ⟨_, rfl, hk, hb2⟩
   obtain ⟨g, c, rs, rfl, hc3, hcn, hcl, hcr⟩ := hk
   obtain ⟨m1, D1, k1, e1, rfl⟩ : ∃ m1 D1 k1 e1, rs = [(m1, D1, k1, e1)] := by
    match rs, hcl with
    | [⟨m1, D1, k1, e1⟩], _ => exact ⟨m1, D1, k1, e1, rfl⟩
   have ⟨p1, p2⟩ := hcn 0 _ _ _ _ rfl
   have i1 := hcr 0 _ _ _ _ rfl
   have nX : Nw w1 w2 := ((Nw.refl w1).alloc _).trans hb2
   have hsz : w1.heap.size ≤ w2.heap.size := nX.size
   clear hcn hcr hcl hin nal q1 q2
   have I1 := Lib.hid i1
   clear i1
   have hgs : g < w2.heap.size := World.block_lt_of_cell? w2 ⟨g, 0, none⟩ p1
   go_wp2_with fail
   go_meet
   exact ⟨_, _, _, _, _, rfl, (by first | exact Nat.le_refl _ | (simp; done) | (simp; omega) | omega), (by repeat (first | exact Nw.refl _ | exact nX | apply Nw.drew | apply Nw.alloc | refine Nw.set ?_ (by first | exact Nat.le_refl _ | (simp; done) | (simp; omega) | omega) _)), by go_simp, by go_simp, by go_simp, by go_simp, I1.out.kept (Nw.kept (by repeat (first | exact Nw.refl _ | exact nX | apply Nw.drew | apply Nw.alloc | refine Nw.set ?_ (by first | exact Nat.le_refl _ | (simp; done) | (simp; omega) | omega) _)))⟩
  case rest =>
   obtain ⟨P1, m1, D1, k1, e1, rfl, g1, nc, p1, p2, f1, f2, X1⟩ := hcut
   have ne := (nw0.trans na).trans nc
   have hwz : w.heap.size ≤ w1.heap.size := (nw0.trans na).size
   clear LIT na hb1 nw0
   apply_assumption
   refine SC.run (digits_body (n := (q % 20).toNat) Z1 hr hq rfl (by omega)) ?_
   refine Fr.know ?_ rfl rfl
   refine Fr.know ?_ rfl rfl
   refine Fr.know ?_ rfl rfl
   refine Fr.bxs ?_ (Ho.two bI (by omega) p1 p2 f1 f2 X1) ?_
   rotate_left
   ·intro j v' hj hv
    cases hj
   exact Fr.base rfl rfl ne ne.size
 ·have hs : shB 8 ns = false := by simpa using hs
  rw [hs] at hsv
  obtain rfl := hsv
  go_wp2_with (go_at_call 5; refine (awake_c).mono ?_; rintro e w2 ⟨_, rfl, rfl, hb2⟩)
  go_ret
  exact Ret.V ((nw0.trans na).trans hb2)
theorem digits_walk {n1 : Bool} {A1 : Option Addr} {l1 c1 : Nat} {xs1 : List Int} {a b : Int} {w : World} (h1 : In w A1 l1 c1 xs1) (ha : (Lit.int .u8 a).wf = true) (hb : (Lit.int .u8 b).wf = true) :
  Calls Tryd.prog 3 #[.agg #[.bool n1, .slice A1 l1 c1], .int .u8 a, .int .u8 b] w (Ret w (KV (.bool true))) := digits_w h1 (wf_u8 ha) (wf_u8 hb)
end Go.Proofs.YthpjmhhfcechmaaDoor
/- How plain data that came in read. -/
namespace Go.Proofs.YthpjmhhfcechmaaDoor
open Go.RowKit Ma
theorem In.nil (W : World) : In W none 0 0 [] := ⟨rfl, Nat.le_refl _, Rd.nil _ _ _, dg_nil _⟩
theorem In.of {W : World} {x : Addr} {l c : Nat} {zs : List Int} (hl : l ≤ c) (hm : c ≤ maxLen) (hz : zs.length = c) (hcell : ∀ i, i < zs.length → W.cell? (x.add i) = some (.int .u32 (zs.getD i 0))) (hw : ∀ n ∈ zs, (Lit.int .u32 n).wf = true) : In W (some x) l c (zs.take l) := by
 have h1 : (zs.take l).length = l := by rw [List.length_take]; omega
 refine ⟨h1.symm, hl, ⟨by rw [h1]; unfold maxLen at hm; omega, fun i hi => ⟨x, rfl, ?_⟩⟩, fun n hn => ?_⟩
 ·rw [h1] at hi
  rw [hcell i (by omega)]
  simp only [at0, List.getD_eq_getElem?_getD, List.getElem?_take, hi, if_true]
 ·have h2 := hw n (List.mem_of_mem_take hn)
  simp only [Lit.wf, Bool.and_eq_true, decide_eq_true_eq] at h2
  have hm : IntKind.u32.max = 4294967295 := by simp [IntKind.max, IntKind.bits, IntKind.signed]
  have hn : IntKind.u32.min = 0 := by simp [IntKind.min, IntKind.signed]
  rw [hm, hn] at h2
  rw [b32_eq]
  omega
end Go.Proofs.YthpjmhhfcechmaaDoor
