/- Parts Jp, in one file. -/
import Derived.Test.YthpjmhhfcechmaaGreatLRTexts1
import Derived.Test.YthpjmhhfcechmaaGreatLRTexts9
/- The program's value, Parse by rules. -/
set_option linter.unusedVariables false
set_option linter.unusedSimpArgs false
namespace Go.Proofs.YthpjmhhfcechmaaGreat.Sy
open Go Go.RowKit Ma
theorem r_b1 {x : Operand} {dst : Option Tmp} {ty : TypeId} {pos : String} {after : Array Edge} {guard : Option (Nat × Bool)} {ρ : Operand → Value} {W : World} {a : Int} (h1 : ρ x = .int .u32 a) : (execOp ρ ⟨dst, .buildSlice 22 1 #[(0, x)], ty, pos, after, guard⟩).run Tryz.prog W = .ok (.value (.slice (some ⟨W.heap.size, 0, none⟩) [a].length [a].length)) (W.alloc (.cells ([a].map (Value.int .u32)).toArray 140)) := by
 go_simp
theorem ce_made : CE 95 := fun args W => by go_simp
theorem info_u32 : (Tryz.prog.info? 140).map (fun i => (i.zero, i.size, i.bytes)) = some (some (.int .u32 0), 1, 4) := by kernel_rfl
theorem made_k {n : Bool} {A : Option Addr} {c : Nat} {xs : List Int} {w : World} (rA : Rd w .u32 A xs) (hc : xs.length ≤ c) (hd : dg b32 xs) : Calls Tryz.prog 95 #[.bool n, .slice A xs.length c] w (Ret w (KI (sg n (lv b32 xs)))) := made_c n A c xs w rA hc hd
theorem mulr {a r : Int} (ha : 0 ≤ a ∧ a < 4294967296) (h : 2 ≤ r ∧ r ≤ 36) : 0 ≤ a * r ∧ a * r < 18446744073709551616 := by
 have h1 := Int.mul_nonneg ha.1 (show 0 ≤ r by omega)
 have h2 := Int.mul_le_mul_of_nonneg_left h.2 ha.1
 omega
theorem addr {a r c : Int} (ha : 0 ≤ a ∧ a < 4294967296) (h : 2 ≤ r ∧ r ≤ 36) (h0 : 0 ≤ c) (h1 : c ≤ 36) : 0 ≤ a * r + c ∧ a * r + c < 18446744073709551616 := by
 have h1 := Int.mul_nonneg ha.1 (show 0 ≤ r by omega)
 have h2 := Int.mul_le_mul_of_nonneg_left h.2 ha.1
 omega
theorem pos_of_at0 {s : ByteArray} {c : Int} (h : at0 (byl s) 0 = c) (hc : c ≠ 0) : 0 < s.size := by
 apply Classical.byContradiction
 intro h2
 rw [at0_ge (by rw [byl_len]; omega)] at h
 exact hc h.symm
theorem ce_k_value : CE 128 := fun args W => by go_simp
set_option maxHeartbeats 3200000 in
set_option maxRecDepth 100000 in
theorem k_value {c : Int} (h0 : 0 ≤ c) (h1 : c < 256) : CallOk 128 [KV (.int .u8 (c))] (KV (.int .i64 (dv c))) := by
 refine CallOk.enter (l := [.vl (.int .u8 (c))]) 17 ce_k_value Tryz.func128 rfl Tryz.ntmps128 (by simp) ⟨(KV.st _), rfl, trivial⟩ fun w => ?_
 refine SC.seq ?_
 refine SC.region ?_
 refine PW.assign rfl rfl rfl rfl rfl ?_
 refine PW.nil ?_
 refine SX.then ?_
 refine SC.seq ?_
 refine SC.seq ?_
 by_cases ha : c ≥ 97
 ·by_cases hb : c ≤ 122
  ·refine SC.region ?_
   refine PW.move rfl rfl rfl rfl rfl ?_
   refine PW.q2 (x := .tmp 4) (y := .const (.int .u8 97)) (.bool true) rfl rfl rfl rfl rfl (fun ρ W h1 h2 => by exact r_ge8 h1 h2 (decide_eq_true ha)) ?_
   refine PW.move rfl rfl rfl rfl rfl ?_
   refine PW.move rfl rfl rfl rfl rfl ?_
   refine PW.q2 (x := .tmp 7) (y := .const (.int .u8 122)) (.bool true) rfl rfl rfl rfl rfl (fun ρ W h1 h2 => by exact r_le8 h1 h2 (decide_eq_true hb)) ?_
   refine PW.pick (t := true) rfl rfl rfl rfl rfl rfl ?_
   refine PW.nil ?_
   refine SX.then ?_
   refine SC.cond (t := true) rfl ?_
   refine SC.region ?_
   refine PW.move rfl rfl rfl rfl rfl ?_
   refine PW.q2 (x := .tmp 10) (y := .const (.int .u8 32)) (.int .u8 (c - 32)) rfl rfl rfl rfl rfl (fun ρ W h1 h2 => by exact r_sub8 h1 h2 rfl (by omega)) ?_
   refine PW.assign rfl rfl rfl rfl rfl ?_
   refine PW.nil ?_
   refine SX.then ?_
   refine SC.seq ?_
   refine SC.seq ?_
   refine SC.region ?_
   refine PW.move rfl rfl rfl rfl rfl ?_
   refine PW.call (r := .vl (.int .i64 (ixd (c - 32)))) rfl rfl rfl rfl rfl rfl (KV.st _) rfl (k_indexByte digs (c - 32) (index_digs (by omega) (by omega))) ?_
   refine PW.assign rfl rfl rfl rfl rfl ?_
   refine PW.nil ?_
   refine SX.then ?_
   refine SC.seq ?_
   by_cases hx : ixd (c - 32) ≥ 0
   ·refine SC.region ?_
    refine PW.move rfl rfl rfl rfl rfl ?_
    refine PW.q2 (x := .tmp 14) (y := .const (.int .i64 0)) (.bool true) rfl rfl rfl rfl rfl (fun ρ W h1 h2 => by exact r_ge h1 h2 (decide_eq_true hx)) ?_
    refine PW.nil ?_
    refine SX.then ?_
    refine SC.cond (t := true) rfl ?_
    refine SC.seq ?_
    refine SC.region ?_
    refine PW.move rfl rfl rfl rfl rfl ?_
    refine PW.assign rfl rfl rfl rfl rfl ?_
    refine PW.nil ?_
    refine SX.then ?_
    refine SC.ret ?_
    refine SX.thenR ?_
    have hr : dv c = ixd (c - 32) := by unfold dv; unfold ixd at hx ⊢; repeat' split at hx; all_goals (repeat' split); all_goals omega
    rw [hr]
    exact SX.done (s := 2) (r := .vl (.int .i64 (ixd (c - 32)))) rfl rfl rfl
   ·refine SC.region ?_
    refine PW.move rfl rfl rfl rfl rfl ?_
    refine PW.q2 (x := .tmp 14) (y := .const (.int .i64 0)) (.bool false) rfl rfl rfl rfl rfl (fun ρ W h1 h2 => by exact r_ge h1 h2 (decide_eq_false hx)) ?_
    refine PW.nil ?_
    refine SX.then ?_
    refine SC.cond (t := false) rfl ?_
    refine SC.skip ?_
    refine SX.then ?_
    refine SC.seq ?_
    refine SC.region ?_
    refine PW.assign rfl rfl rfl rfl rfl ?_
    refine PW.nil ?_
    refine SX.then ?_
    refine SC.ret ?_
    have hr : dv c = 36 := by unfold dv; unfold ixd at hx; repeat' split at hx; all_goals (repeat' split); all_goals omega
    rw [hr]
    exact SX.done (s := 2) (r := .vl (.int .i64 36)) rfl rfl rfl
  ·refine SC.region ?_
   refine PW.move rfl rfl rfl rfl rfl ?_
   refine PW.q2 (x := .tmp 4) (y := .const (.int .u8 97)) (.bool true) rfl rfl rfl rfl rfl (fun ρ W h1 h2 => by exact r_ge8 h1 h2 (decide_eq_true ha)) ?_
   refine PW.move rfl rfl rfl rfl rfl ?_
   refine PW.move rfl rfl rfl rfl rfl ?_
   refine PW.q2 (x := .tmp 7) (y := .const (.int .u8 122)) (.bool false) rfl rfl rfl rfl rfl (fun ρ W h1 h2 => by exact r_le8 h1 h2 (decide_eq_false hb)) ?_
   refine PW.pick (t := true) rfl rfl rfl rfl rfl rfl ?_
   refine PW.nil ?_
   refine SX.then ?_
   refine SC.cond (t := false) rfl ?_
   refine SC.skip ?_
   refine SX.then ?_
   refine SC.seq ?_
   refine SC.seq ?_
   refine SC.region ?_
   refine PW.move rfl rfl rfl rfl rfl ?_
   refine PW.call (r := .vl (.int .i64 (ixd (c)))) rfl rfl rfl rfl rfl rfl (KV.st _) rfl (k_indexByte digs (c) (index_digs (by omega) (by omega))) ?_
   refine PW.assign rfl rfl rfl rfl rfl ?_
   refine PW.nil ?_
   refine SX.then ?_
   refine SC.seq ?_
   by_cases hx : ixd (c) ≥ 0
   ·refine SC.region ?_
    refine PW.move rfl rfl rfl rfl rfl ?_
    refine PW.q2 (x := .tmp 14) (y := .const (.int .i64 0)) (.bool true) rfl rfl rfl rfl rfl (fun ρ W h1 h2 => by exact r_ge h1 h2 (decide_eq_true hx)) ?_
    refine PW.nil ?_
    refine SX.then ?_
    refine SC.cond (t := true) rfl ?_
    refine SC.seq ?_
    refine SC.region ?_
    refine PW.move rfl rfl rfl rfl rfl ?_
    refine PW.assign rfl rfl rfl rfl rfl ?_
    refine PW.nil ?_
    refine SX.then ?_
    refine SC.ret ?_
    refine SX.thenR ?_
    have hr : dv c = ixd (c) := by unfold dv; unfold ixd at hx ⊢; repeat' split at hx; all_goals (repeat' split); all_goals omega
    rw [hr]
    exact SX.done (s := 2) (r := .vl (.int .i64 (ixd (c)))) rfl rfl rfl
   ·refine SC.region ?_
    refine PW.move rfl rfl rfl rfl rfl ?_
    refine PW.q2 (x := .tmp 14) (y := .const (.int .i64 0)) (.bool false) rfl rfl rfl rfl rfl (fun ρ W h1 h2 => by exact r_ge h1 h2 (decide_eq_false hx)) ?_
    refine PW.nil ?_
    refine SX.then ?_
    refine SC.cond (t := false) rfl ?_
    refine SC.skip ?_
    refine SX.then ?_
    refine SC.seq ?_
    refine SC.region ?_
    refine PW.assign rfl rfl rfl rfl rfl ?_
    refine PW.nil ?_
    refine SX.then ?_
    refine SC.ret ?_
    have hr : dv c = 36 := by unfold dv; unfold ixd at hx; repeat' split at hx; all_goals (repeat' split); all_goals omega
    rw [hr]
    exact SX.done (s := 2) (r := .vl (.int .i64 36)) rfl rfl rfl
 ·refine SC.region ?_
  refine PW.move rfl rfl rfl rfl rfl ?_
  refine PW.q2 (x := .tmp 4) (y := .const (.int .u8 97)) (.bool false) rfl rfl rfl rfl rfl (fun ρ W h1 h2 => by exact r_ge8 h1 h2 (decide_eq_false ha)) ?_
  refine PW.move rfl rfl rfl rfl rfl ?_
  refine PW.skip rfl rfl rfl ?_
  refine PW.skip rfl rfl rfl ?_
  refine PW.pick (t := false) rfl rfl rfl rfl rfl rfl ?_
  refine PW.nil ?_
  refine SX.then ?_
  refine SC.cond (t := false) rfl ?_
  refine SC.skip ?_
  refine SX.then ?_
  refine SC.seq ?_
  refine SC.seq ?_
  refine SC.region ?_
  refine PW.move rfl rfl rfl rfl rfl ?_
  refine PW.call (r := .vl (.int .i64 (ixd (c)))) rfl rfl rfl rfl rfl rfl (KV.st _) rfl (k_indexByte digs (c) (index_digs (by omega) (by omega))) ?_
  refine PW.assign rfl rfl rfl rfl rfl ?_
  refine PW.nil ?_
  refine SX.then ?_
  refine SC.seq ?_
  by_cases hx : ixd (c) ≥ 0
  ·refine SC.region ?_
   refine PW.move rfl rfl rfl rfl rfl ?_
   refine PW.q2 (x := .tmp 14) (y := .const (.int .i64 0)) (.bool true) rfl rfl rfl rfl rfl (fun ρ W h1 h2 => by exact r_ge h1 h2 (decide_eq_true hx)) ?_
   refine PW.nil ?_
   refine SX.then ?_
   refine SC.cond (t := true) rfl ?_
   refine SC.seq ?_
   refine SC.region ?_
   refine PW.move rfl rfl rfl rfl rfl ?_
   refine PW.assign rfl rfl rfl rfl rfl ?_
   refine PW.nil ?_
   refine SX.then ?_
   refine SC.ret ?_
   refine SX.thenR ?_
   have hr : dv c = ixd (c) := by unfold dv; unfold ixd at hx ⊢; repeat' split at hx; all_goals (repeat' split); all_goals omega
   rw [hr]
   exact SX.done (s := 2) (r := .vl (.int .i64 (ixd (c)))) rfl rfl rfl
  ·refine SC.region ?_
   refine PW.move rfl rfl rfl rfl rfl ?_
   refine PW.q2 (x := .tmp 14) (y := .const (.int .i64 0)) (.bool false) rfl rfl rfl rfl rfl (fun ρ W h1 h2 => by exact r_ge h1 h2 (decide_eq_false hx)) ?_
   refine PW.nil ?_
   refine SX.then ?_
   refine SC.cond (t := false) rfl ?_
   refine SC.skip ?_
   refine SX.then ?_
   refine SC.seq ?_
   refine SC.region ?_
   refine PW.assign rfl rfl rfl rfl rfl ?_
   refine PW.nil ?_
   refine SX.then ?_
   refine SC.ret ?_
   have hr : dv c = 36 := by unfold dv; unfold ixd at hx; repeat' split at hx; all_goals (repeat' split); all_goals omega
   rw [hr]
   exact SX.done (s := 2) (r := .vl (.int .i64 36)) rfl rfl rfl
theorem ce_parse : CE 88 := fun args W => by go_simp
set_option maxHeartbeats 3200000 in
set_option maxRecDepth 100000 in
theorem k_parse_radix {s : ByteArray} {r : Int} (h : ¬ (2 ≤ r ∧ r ≤ 36)) : CallOk 88 [KV (.string s), KV (.int .i64 (r))] (KPI (parseR r (byl s))) := by
 refine CallOk.enter (l := [.vl (.string s), .vl (.int .i64 (r))]) 87 ce_parse Tryz.func88 rfl Tryz.ntmps88 (by simp) ⟨(KV.st _), rfl, (KV.st _), rfl, trivial⟩ fun w => ?_
 refine SC.seq ?_
 refine SC.region ?_
 refine PW.alloc (BI 31) rfl rfl rfl rfl rfl bI ?_
 refine PW.assign rfl rfl rfl rfl rfl ?_
 refine PW.nil ?_
 refine SX.then ?_
 refine SC.seq ?_
 refine SC.block ?_
 refine SC.seq ?_
 by_cases hr2 : r < 2
 ·refine SC.region ?_
  refine PW.move rfl rfl rfl rfl rfl ?_
  refine PW.q2 (x := .tmp 15) (y := .const (.int .i64 2)) (.bool true) rfl rfl rfl rfl rfl (fun ρ W h1 h2 => by exact r_lt h1 h2 (decide_eq_true hr2)) ?_
  refine PW.move rfl rfl rfl rfl rfl ?_
  refine PW.skip rfl rfl rfl ?_
  refine PW.skip rfl rfl rfl ?_
  refine PW.pick (t := true) rfl rfl rfl rfl rfl rfl ?_
  refine PW.assign rfl rfl rfl rfl rfl ?_
  refine PW.nil ?_
  refine SX.then ?_
  refine SC.cond (t := true) rfl ?_
  refine SC.seq ?_
  refine SC.region ?_
  refine PW.val (r := .kw (KI (0))) rfl rfl rfl rfl (fun a W hf => ⟨.agg #[.bool false, .slice none 0 0], by go_simp, zeroI _ w W⟩) ?_
  refine PW.store (x := .tmp 21) (r := .kw (KI (0))) rfl rfl rfl rfl rfl rfl sh_I ?_
  refine PW.assign rfl rfl rfl rfl rfl ?_
  refine PW.nil ?_
  refine SX.then ?_
  refine SC.ret ?_
  refine SX.blockR ?_
  refine SX.thenR ?_
  rw [parse_radix h]
  exact SX.done2 (s := 4) (t := 5) (r := .vl (.int .i64 1)) (.inl rfl) rfl rfl rfl rfl
 ·refine SC.region ?_
  refine PW.move rfl rfl rfl rfl rfl ?_
  refine PW.q2 (x := .tmp 15) (y := .const (.int .i64 2)) (.bool false) rfl rfl rfl rfl rfl (fun ρ W h1 h2 => by exact r_lt h1 h2 (decide_eq_false hr2)) ?_
  refine PW.move rfl rfl rfl rfl rfl ?_
  refine PW.move rfl rfl rfl rfl rfl ?_
  refine PW.q2 (x := .tmp 18) (y := .const (.int .i64 36)) (.bool true) rfl rfl rfl rfl rfl (fun ρ W h1 h2 => by exact r_gt h1 h2 (decide_eq_true (by omega))) ?_
  refine PW.pick (t := false) rfl rfl rfl rfl rfl rfl ?_
  refine PW.assign rfl rfl rfl rfl rfl ?_
  refine PW.nil ?_
  refine SX.then ?_
  refine SC.cond (t := true) rfl ?_
  refine SC.seq ?_
  refine SC.region ?_
  refine PW.val (r := .kw (KI (0))) rfl rfl rfl rfl (fun a W hf => ⟨.agg #[.bool false, .slice none 0 0], by go_simp, zeroI _ w W⟩) ?_
  refine PW.store (x := .tmp 21) (r := .kw (KI (0))) rfl rfl rfl rfl rfl rfl sh_I ?_
  refine PW.assign rfl rfl rfl rfl rfl ?_
  refine PW.nil ?_
  refine SX.then ?_
  refine SC.ret ?_
  refine SX.blockR ?_
  refine SX.thenR ?_
  rw [parse_radix h]
  exact SX.done2 (s := 4) (t := 5) (r := .vl (.int .i64 1)) (.inl rfl) rfl rfl rfl rfl
set_option maxHeartbeats 3200000 in
set_option maxRecDepth 100000 in
theorem k_parse_long {s : ByteArray} {r : Int} (h : 2 ≤ r ∧ r ≤ 36) (hl : 20000 < s.size) : CallOk 88 [KV (.string s), KV (.int .i64 (r))] (KPI (parseR r (byl s))) := by
 refine CallOk.enter (l := [.vl (.string s), .vl (.int .i64 (r))]) 87 ce_parse Tryz.func88 rfl Tryz.ntmps88 (by simp) ⟨(KV.st _), rfl, (KV.st _), rfl, trivial⟩ fun w => ?_
 refine SC.seq ?_
 refine SC.region ?_
 refine PW.alloc (BI 31) rfl rfl rfl rfl rfl bI ?_
 refine PW.assign rfl rfl rfl rfl rfl ?_
 refine PW.nil ?_
 refine SX.then ?_
 refine SC.seq ?_
 refine SC.block ?_
 refine SC.seq ?_
 refine SC.region ?_
 refine PW.move rfl rfl rfl rfl rfl ?_
 refine PW.q2 (x := .tmp 15) (y := .const (.int .i64 2)) (.bool false) rfl rfl rfl rfl rfl (fun ρ W h1 h2 => by exact r_lt h1 h2 (decide_eq_false (by omega))) ?_
 refine PW.move rfl rfl rfl rfl rfl ?_
 refine PW.move rfl rfl rfl rfl rfl ?_
 refine PW.q2 (x := .tmp 18) (y := .const (.int .i64 36)) (.bool false) rfl rfl rfl rfl rfl (fun ρ W h1 h2 => by exact r_gt h1 h2 (decide_eq_false (by omega))) ?_
 refine PW.pick (t := false) rfl rfl rfl rfl rfl rfl ?_
 refine PW.assign rfl rfl rfl rfl rfl ?_
 refine PW.nil ?_
 refine SX.then ?_
 refine SC.cond (t := false) rfl ?_
 refine SC.seq ?_
 refine SC.region ?_
 refine PW.move rfl rfl rfl rfl rfl ?_
 refine PW.qn [(.tmp 23, .string s)] (.int .i64 (s.size : Int)) rfl rfl rfl ⟨rfl, trivial⟩ (fun ρ W h => by obtain ⟨h1, _⟩ := h; exact r_slen h1) ?_
 refine PW.q2 (x := .tmp 24) (y := .const (.int .i64 20000)) (.bool true) rfl rfl rfl rfl rfl (fun ρ W h1 h2 => by exact r_gt h1 h2 (decide_eq_true (by omega))) ?_
 refine PW.assign rfl rfl rfl rfl rfl ?_
 refine PW.nil ?_
 refine SX.then ?_
 refine SC.cond (t := true) rfl ?_
 refine SC.seq ?_
 refine SC.region ?_
 refine PW.val (r := .kw (KI (0))) rfl rfl rfl rfl (fun a W hf => ⟨.agg #[.bool false, .slice none 0 0], by go_simp, zeroI _ w W⟩) ?_
 refine PW.store (x := .tmp 26) (r := .kw (KI (0))) rfl rfl rfl rfl rfl rfl sh_I ?_
 refine PW.assign rfl rfl rfl rfl rfl ?_
 refine PW.nil ?_
 refine SX.then ?_
 refine SC.ret ?_
 refine SX.blockR ?_
 refine SX.thenR ?_
 rw [parse_long h (by rw [byl_len]; exact hl)]
 exact SX.done2 (s := 4) (t := 5) (r := .vl (.int .i64 14)) (.inl rfl) rfl rfl rfl rfl
set_option maxHeartbeats 6400000 in
set_option maxRecDepth 100000 in
theorem k_parse_ok {s : ByteArray} {r : Int} (h : 2 ≤ r ∧ r ≤ 36) (hl : ¬ 20000 < s.size) : CallOk 88 [KV (.string s), KV (.int .i64 (r))] (KPI (parseR r (byl s))) := by
 refine CallOk.enter (l := [.vl (.string s), .vl (.int .i64 (r))]) 87 ce_parse Tryz.func88 rfl Tryz.ntmps88 (by simp) ⟨(KV.st _), rfl, (KV.st _), rfl, trivial⟩ fun w => ?_
 refine SC.seq ?_
 refine SC.region ?_
 refine PW.alloc (BI 31) rfl rfl rfl rfl rfl bI ?_
 refine PW.assign rfl rfl rfl rfl rfl ?_
 refine PW.nil ?_
 refine SX.then ?_
 refine SC.seq ?_
 refine SC.block ?_
 refine SC.seq ?_
 refine SC.region ?_
 refine PW.move rfl rfl rfl rfl rfl ?_
 refine PW.q2 (x := .tmp 15) (y := .const (.int .i64 2)) (.bool false) rfl rfl rfl rfl rfl (fun ρ W h1 h2 => by exact r_lt h1 h2 (decide_eq_false (by omega))) ?_
 refine PW.move rfl rfl rfl rfl rfl ?_
 refine PW.move rfl rfl rfl rfl rfl ?_
 refine PW.q2 (x := .tmp 18) (y := .const (.int .i64 36)) (.bool false) rfl rfl rfl rfl rfl (fun ρ W h1 h2 => by exact r_gt h1 h2 (decide_eq_false (by omega))) ?_
 refine PW.pick (t := false) rfl rfl rfl rfl rfl rfl ?_
 refine PW.assign rfl rfl rfl rfl rfl ?_
 refine PW.nil ?_
 refine SX.then ?_
 refine SC.cond (t := false) rfl ?_
 refine SC.seq ?_
 refine SC.region ?_
 refine PW.move rfl rfl rfl rfl rfl ?_
 refine PW.qn [(.tmp 23, .string s)] (.int .i64 (s.size : Int)) rfl rfl rfl ⟨rfl, trivial⟩ (fun ρ W h => by obtain ⟨h1, _⟩ := h; exact r_slen h1) ?_
 refine PW.q2 (x := .tmp 24) (y := .const (.int .i64 20000)) (.bool false) rfl rfl rfl rfl rfl (fun ρ W h1 h2 => by exact r_gt h1 h2 (decide_eq_false (by omega))) ?_
 refine PW.assign rfl rfl rfl rfl rfl ?_
 refine PW.nil ?_
 refine SX.then ?_
 refine SC.cond (t := false) rfl ?_
 refine SC.skip ?_
 refine SX.blockN ?_
 refine SX.then ?_
 refine SC.seq ?_
 by_cases hm : 0 < s.size ∧ at0 (byl s) 0 = 45
 ·refine SC.region ?_
  refine PW.move rfl rfl rfl rfl rfl ?_
  refine PW.call (r := .vl (.bool true)) rfl rfl rfl rfl rfl rfl (KV.st _) rfl (k_hasPrefix s ⟨#[45]⟩ ((pre_one s 45).trans (decide_eq_true hm))) ?_
  refine PW.assign rfl rfl rfl rfl rfl ?_
  refine PW.nil ?_
  refine SX.then ?_
  refine SC.seq ?_
  refine SC.seq ?_
  refine SC.region ?_
  refine PW.move rfl rfl rfl rfl rfl ?_
  refine PW.move rfl rfl rfl rfl rfl ?_
  refine PW.skip rfl rfl rfl ?_
  refine PW.skip rfl rfl rfl ?_
  refine PW.pick (t := true) rfl rfl rfl rfl rfl rfl ?_
  refine PW.nil ?_
  refine SX.then ?_
  refine SC.cond (t := true) rfl ?_
  refine SC.region ?_
  refine PW.move rfl rfl rfl rfl rfl ?_
  refine PW.qn [(.tmp 34, .string s), (.const (.int .i64 1), .int .i64 1)] (.string (s.extract 1 s.size)) rfl rfl rfl ⟨rfl, rfl, trivial⟩ (fun ρ W h => by obtain ⟨h1, h2, _⟩ := h; exact r_sfrom (p := 1) h1 h2 (by omega)) ?_
  refine PW.assign rfl rfl rfl rfl rfl ?_
  refine PW.nil ?_
  refine SX.then ?_
  refine SC.seq ?_
  refine SC.seq ?_
  obtain ⟨t, ht⟩ : ∃ t, t = s.extract 1 s.size := ⟨_, rfl⟩
  rw [← ht]
  have htl : t.size ≤ 20000 := by rw [ht, ← byl_len, byl_drop, List.length_drop, byl_len]; omega
  rw [parse_form (b := byl t) h (by rw [byl_len]; omega) (by rw [if_pos (.inl hm.2), ht, byl_drop])]
  by_cases he : t.size = 0
  ·refine SC.region ?_
   refine PW.move rfl rfl rfl rfl rfl ?_
   refine PW.q2 (x := .tmp 36) (y := .const (.string ⟨#[]⟩)) (.bool true) rfl rfl rfl rfl rfl (fun ρ W h1 h2 => by exact r_seq h1 h2 ((empty_eq t).trans (decide_eq_true he))) ?_
   refine PW.nil ?_
   refine SX.then ?_
   refine SC.cond (t := true) rfl ?_
   refine SC.seq ?_
   refine SC.region ?_
   refine PW.val (r := .kw (KI (0))) rfl rfl rfl rfl (fun a W hf => ⟨.agg #[.bool false, .slice none 0 0], by go_simp, zeroI _ w W⟩) ?_
   refine PW.store (x := .tmp 38) (r := .kw (KI (0))) rfl rfl rfl rfl rfl rfl sh_I ?_
   refine PW.assign rfl rfl rfl rfl rfl ?_
   refine PW.nil ?_
   refine SX.then ?_
   refine SC.ret ?_
   refine SX.thenR ?_
   rw [form_empty (z := 0) (by rw [byl_len]; exact he)]
   exact SX.done2 (s := 4) (t := 5) (r := .vl (.int .i64 2)) (.inl rfl) rfl rfl rfl rfl
  ·refine SC.region ?_
   refine PW.move rfl rfl rfl rfl rfl ?_
   refine PW.q2 (x := .tmp 36) (y := .const (.string ⟨#[]⟩)) (.bool false) rfl rfl rfl rfl rfl (fun ρ W h1 h2 => by exact r_seq h1 h2 ((empty_eq t).trans (decide_eq_false he))) ?_
   refine PW.nil ?_
   refine SX.then ?_
   refine SC.cond (t := false) rfl ?_
   refine SC.skip ?_
   refine SX.then ?_
   refine SC.seq ?_
   refine SC.region ?_
   refine PW.assign rfl rfl rfl rfl rfl ?_
   refine PW.nil ?_
   refine SX.then ?_
   refine SC.seq ?_
   refine SC.seq ?_
   refine SC.region ?_
   refine PW.move rfl rfl rfl rfl rfl ?_
   refine PW.qn [(.tmp 39, .string t)] (.int .i64 (t.size : Int)) rfl rfl rfl ⟨rfl, trivial⟩ (fun ρ W h => by obtain ⟨h1, _⟩ := h; exact r_slen h1) ?_
   refine PW.move rfl rfl rfl rfl rfl ?_
   refine PW.nil ?_
   refine SX.then ?_
   refine SC.block ?_
   refine SC.weak (fun a W hf => Fr.nilrow 87 140 (.int .u32) hf) ?_
   refine SC.loop (S := Nat × Value × List Int) (fun ⟨i, v, zs⟩ => [(0, .vl (.string t)), (1, .vl (.int .i64 (r))), (4, .nb (BI 31)), (5, .vl (.int .i64 0)), (6, .vl (.bool true)), (7, .vl (v)), (40, .vl (.int .i64 (t.size : Int))), (41, .vl (.int .i64 (i : Int))), (87, .ro (v) 140 (.int .u32) (zs))]) (fun ⟨i, v, zs⟩ => PrI b32 r (byl t) i zs) (fun ⟨i, v, zs⟩ => t.size - i) (0, .slice none 0 0, []) (PrI.start b32 r (byl t)) ⟨rfl, rfl, rfl, rfl, rfl, rfl, rfl, rfl, rfl, trivial⟩ ?_
   rintro ⟨i, v, zs⟩ hP
   show SC _ _ _ _ [(0, .vl (.string t)), (1, .vl (.int .i64 (r))), (4, .nb (BI 31)), (5, .vl (.int .i64 0)), (6, .vl (.bool true)), (7, .vl (v)), (40, .vl (.int .i64 (t.size : Int))), (41, .vl (.int .i64 (i : Int))), (87, .ro (v) 140 (.int .u32) (zs))] _
   refine SC.seq ?_
   by_cases hi : (i : Int) < (t.size : Int)
   ·refine SC.region ?_
    refine PW.q2 (x := .tmp 41) (y := .tmp 40) (.bool true) rfl rfl rfl rfl rfl (fun ρ W h1 h2 => by exact r_lt h1 h2 (decide_eq_true hi)) ?_
    refine PW.nil ?_
    refine SX.then ?_
    refine SC.seq ?_
    refine SC.cond (t := true) rfl ?_
    refine SC.skip ?_
    refine SX.then ?_
    refine SC.seq ?_
    refine SC.block ?_
    refine SC.seq ?_
    refine SC.region ?_
    refine PW.move rfl rfl rfl rfl rfl ?_
    refine PW.assign rfl rfl rfl rfl rfl ?_
    refine PW.nil ?_
    refine SX.then ?_
    refine SC.seq ?_
    refine SC.region ?_
    refine PW.move rfl rfl rfl rfl rfl ?_
    refine PW.move rfl rfl rfl rfl rfl ?_
    refine PW.qn [(.tmp 44, .string t), (.tmp 45, .int .i64 (i : Int))] (.int .u8 (at0 (byl t) i)) rfl rfl rfl ⟨rfl, rfl, trivial⟩ (fun ρ W h => by obtain ⟨h1, h2, _⟩ := h; exact r_sidx h1 h2 (by omega)) ?_
    refine PW.call (r := .vl (.int .i64 (dv (at0 (byl t) i)))) rfl rfl rfl rfl rfl rfl (KV.st _) rfl (k_value (byl_byte t i).1 (byl_byte t i).2) ?_
    refine PW.assign rfl rfl rfl rfl rfl ?_
    refine PW.nil ?_
    refine SX.then ?_
    refine SC.seq ?_
    refine SC.seq ?_
    by_cases hd : dv (at0 (byl t) i) ≥ r
    ·refine SC.region ?_
     refine PW.move rfl rfl rfl rfl rfl ?_
     refine PW.move rfl rfl rfl rfl rfl ?_
     refine PW.q2 (x := .tmp 48) (y := .tmp 49) (.bool true) rfl rfl rfl rfl rfl (fun ρ W h1 h2 => by exact r_ge h1 h2 (decide_eq_true hd)) ?_
     refine PW.nil ?_
     refine SX.then ?_
     refine SC.cond (t := true) rfl ?_
     refine SC.seq ?_
     refine SC.region ?_
     refine PW.val (r := .kw (KI (0))) rfl rfl rfl rfl (fun a W hf => ⟨.agg #[.bool false, .slice none 0 0], by go_simp, zeroI _ w W⟩) ?_
     refine PW.store (x := .tmp 51) (r := .kw (KI (0))) rfl rfl rfl rfl rfl rfl sh_I ?_
     refine PW.assign rfl rfl rfl rfl rfl ?_
     refine PW.nil ?_
     refine SX.then ?_
     refine SC.ret ?_
     refine SX.thenR ?_
     refine SX.blockR ?_
     refine SX.thenR ?_
     refine SX.thenR ?_
     refine SX.blockR ?_
     refine SX.thenR ?_
     rw [form_bad (i := i) (by rw [byl_len]; omega) hd]
     exact SX.done2 (s := 4) (t := 5) (r := .vl (.int .i64 2)) (.inl rfl) rfl rfl rfl rfl
    ·refine SC.region ?_
     refine PW.move rfl rfl rfl rfl rfl ?_
     refine PW.move rfl rfl rfl rfl rfl ?_
     refine PW.q2 (x := .tmp 48) (y := .tmp 49) (.bool false) rfl rfl rfl rfl rfl (fun ρ W h1 h2 => by exact r_ge h1 h2 (decide_eq_false hd)) ?_
     refine PW.nil ?_
     refine SX.then ?_
     refine SC.cond (t := false) rfl ?_
     refine SC.skip ?_
     refine SX.then ?_
     refine SC.seq ?_
     refine SC.region ?_
     refine PW.move rfl rfl rfl rfl rfl ?_
     refine PW.q1 (x := .tmp 52) (.int .u64 (dv (at0 (byl t) i))) rfl rfl rfl rfl (fun ρ W h1 => by exact r_i64u h1 (by have := dv_le (at0 (byl t) i); omega)) ?_
     refine PW.assign rfl rfl rfl rfl rfl ?_
     refine PW.nil ?_
     refine SX.then ?_
     refine SC.seq ?_
     refine SC.seq ?_
     refine SC.region ?_
     refine PW.move rfl rfl rfl rfl rfl ?_
     refine PW.rlen (s := 54) 87 rfl rfl rfl rfl rfl (fun ρ W A c h => r_len h) ?_
     refine PW.move rfl rfl rfl rfl rfl ?_
     refine PW.nil ?_
     refine SX.then ?_
     refine SC.block ?_
     refine SC.loop (S := Nat × List Int × Int) (fun ⟨k, ys, cc⟩ => [(0, .vl (.string t)), (1, .vl (.int .i64 (r))), (4, .nb (BI 31)), (5, .vl (.int .i64 0)), (6, .vl (.bool true)), (7, .vl (v)), (8, .vl (.int .i64 (i : Int))), (10, .vl (.int .u64 (cc))), (40, .vl (.int .i64 (t.size : Int))), (41, .vl (.int .i64 (i : Int))), (54, .vl (v)), (55, .vl (.int .i64 (zs.length : Int))), (56, .vl (.int .i64 (k : Int))), (87, .ro (v) 140 (.int .u32) (ys))]) (fun ⟨k, ys, cc⟩ => PrJ b32 r (dv (at0 (byl t) i)) zs k ys cc) (fun ⟨k, ys, cc⟩ => zs.length - k) (0, zs, dv (at0 (byl t) i)) (PrJ.start hP.dg (dv_le _).1 (dv_le _).2) ⟨rfl, rfl, rfl, rfl, rfl, rfl, rfl, rfl, rfl, rfl, rfl, rfl, rfl, rfl, trivial⟩ ?_
     rintro ⟨k, ys, cc⟩ hJ
     show SC _ _ _ _ [(0, .vl (.string t)), (1, .vl (.int .i64 (r))), (4, .nb (BI 31)), (5, .vl (.int .i64 0)), (6, .vl (.bool true)), (7, .vl (v)), (8, .vl (.int .i64 (i : Int))), (10, .vl (.int .u64 (cc))), (40, .vl (.int .i64 (t.size : Int))), (41, .vl (.int .i64 (i : Int))), (54, .vl (v)), (55, .vl (.int .i64 (zs.length : Int))), (56, .vl (.int .i64 (k : Int))), (87, .ro (v) 140 (.int .u32) (ys))] _
     refine SC.seq ?_
     by_cases hk : (k : Int) < (zs.length : Int)
     ·refine SC.region ?_
      refine PW.q2 (x := .tmp 56) (y := .tmp 55) (.bool true) rfl rfl rfl rfl rfl (fun ρ W h1 h2 => by exact r_lt h1 h2 (decide_eq_true hk)) ?_
      refine PW.nil ?_
      refine SX.then ?_
      refine SC.seq ?_
      refine SC.cond (t := true) rfl ?_
      refine SC.skip ?_
      refine SX.then ?_
      refine SC.seq ?_
      refine SC.block ?_
      refine SC.seq ?_
      refine SC.region ?_
      refine PW.move rfl rfl rfl rfl rfl ?_
      refine PW.ridx (i := k) 87 rfl rfl rfl rfl rfl rfl rfl (by have := hJ.len; omega) (fun ρ W g c h1 h2 => r_idx h1 h2 (by have := hJ.len; omega)) ?_
      refine PW.rget (i := k) 87 rfl rfl rfl rfl rfl rfl (by have := hJ.len; omega) r_l32 ?_
      refine PW.assign rfl rfl rfl rfl rfl ?_
      refine PW.assign rfl rfl rfl rfl rfl ?_
      refine PW.nil ?_
      refine SX.then ?_
      refine SC.seq ?_
      refine SC.region ?_
      refine PW.move rfl rfl rfl rfl rfl ?_
      refine PW.q1 (x := .tmp 61) (.int .u64 (at0 ys k)) rfl rfl rfl rfl (fun ρ W h1 => by exact r_64 h1 (dg32 hJ.dg k)) ?_
      refine PW.move rfl rfl rfl rfl rfl ?_
      refine PW.q1 (x := .tmp 63) (.int .u64 (r)) rfl rfl rfl rfl (fun ρ W h1 => by exact r_i64u h1 (by omega)) ?_
      refine PW.q2 (x := .tmp 62) (y := .tmp 64) (.int .u64 (at0 ys k * r)) rfl rfl rfl rfl rfl (fun ρ W h1 h2 => by exact r_mul6 h1 h2 rfl (mulr (dg32 hJ.dg k) h)) ?_
      refine PW.move rfl rfl rfl rfl rfl ?_
      refine PW.q2 (x := .tmp 65) (y := .tmp 66) (.int .u64 (at0 ys k * r + cc)) rfl rfl rfl rfl rfl (fun ρ W h1 h2 => by exact r_add6 h1 h2 rfl (addr (dg32 hJ.dg k) h hJ.c0 hJ.c1)) ?_
      refine PW.assign rfl rfl rfl rfl rfl ?_
      refine PW.nil ?_
      refine SX.then ?_
      refine SC.region ?_
      refine PW.move rfl rfl rfl rfl rfl ?_
      refine PW.move rfl rfl rfl rfl rfl ?_
      refine PW.move rfl rfl rfl rfl rfl ?_
      refine PW.q1 (x := .tmp 70) (.int .u32 ((at0 ys k * r + cc) % 4294967296)) rfl rfl rfl rfl (fun ρ W h1 => by exact r_32 h1) ?_
      refine PW.move rfl rfl rfl rfl rfl ?_
      refine PW.q2 (x := .tmp 72) (y := .const (.int .u64 32)) (.int .u64 ((at0 ys k * r + cc) / 4294967296)) rfl rfl rfl rfl rfl (fun ρ W h1 h2 => by exact r_dn32 h1 h2) ?_
      refine PW.ridx (i := k) 87 rfl rfl rfl rfl rfl rfl rfl (by have := hJ.len; omega) (fun ρ W g c h1 h2 => r_idx h1 h2 (by have := hJ.len; omega)) ?_
      refine PW.rput (i := k) (x := .tmp 71) (((at0 ys k * r + cc) % 4294967296)) 87 rfl rfl rfl rfl rfl (by have := hJ.len; omega) rfl rfl r_s32 ?_
      refine PW.assign rfl rfl rfl rfl rfl ?_
      refine PW.nil ?_
      refine SX.blockN ?_
      refine SX.then ?_
      refine SC.region ?_
      refine PW.q2 (x := .tmp 56) (y := .const (.int .i64 1)) (.int .i64 ((k + 1 : Nat))) rfl rfl rfl rfl rfl (fun ρ W h1 h2 => by exact r_add h1 h2 (by omega) (by have := hP.len; have := byl_len t; omega)) ?_
      refine PW.move rfl rfl rfl rfl rfl ?_
      refine PW.nil ?_
      refine SX.back (k + 1, ys.set k ((at0 ys k * r + cc) % 4294967296), (at0 ys k * r + cc) / 4294967296) ?_ ?_ ?_
      ·exact (hJ.step (by decide) (by omega) h.1 h.2 rfl hP.dg)
      ·exact (show zs.length - (k + 1) < zs.length - k by omega)
      ·exact ⟨rfl, rfl, rfl, rfl, rfl, rfl, rfl, rfl, rfl, rfl, rfl, rfl, rfl, rfl, trivial⟩
     ·obtain rfl : k = zs.length := by have := hJ.le; omega
      refine SC.region ?_
      refine PW.q2 (x := .tmp 56) (y := .tmp 55) (.bool false) rfl rfl rfl rfl rfl (fun ρ W h1 h2 => by exact r_lt h1 h2 (decide_eq_false hk)) ?_
      refine PW.nil ?_
      refine SX.then ?_
      refine SC.seq ?_
      refine SC.cond (t := false) rfl ?_
      refine SC.exit ?_
      refine SX.thenE ?_
      refine SX.thenE ?_
      refine SX.blockE ?_
      refine SX.then ?_
      refine SC.seq ?_
      by_cases hc : 0 < cc
      ·refine SC.region ?_
       refine PW.move rfl rfl rfl rfl rfl ?_
       refine PW.q2 (x := .tmp 76) (y := .const (.int .u64 0)) (.bool true) rfl rfl rfl rfl rfl (fun ρ W h1 h2 => by exact r_gt6 h1 h2 (decide_eq_true hc)) ?_
       refine PW.nil ?_
       refine SX.then ?_
       refine SC.cond (t := true) rfl ?_
       refine SC.region ?_
       refine PW.move rfl rfl rfl rfl rfl ?_
       refine PW.move rfl rfl rfl rfl rfl ?_
       refine PW.q1 (x := .tmp 79) (.int .u32 (cc)) rfl rfl rfl rfl (fun ρ W h1 => by exact r_32z h1 (by have := hJ.c0; have := hJ.c1; omega)) ?_
       refine PW.app (K := 87) (f := .int .u32) [(cc)] rfl rfl rfl (fun a W hf => r_b1 (hf.vl (s := 80) rfl)) rfl rfl rfl rfl rfl rfl rfl rfl Tryz.underlying22 info_u32 rfl (fun _ => rfl) (by have l1 := hJ.len; have l2 := hP.len; have l3 := byl_len t; have l4 := hP.le; unfold maxLen; show _ + 1 ≤ _; omega) (by have l1 := hJ.len; have l2 := hP.len; have l3 := byl_len t; have l4 := hP.le; show (_ + 1) * 4 ≤ _; omega) rfl fun vq1 uq1 => ?_
       refine PW.assign rfl rfl rfl rfl rfl ?_
       refine PW.nil ?_
       refine SX.blockN ?_
       refine SX.then ?_
       refine SC.region ?_
       refine PW.q2 (x := .tmp 41) (y := .const (.int .i64 1)) (.int .i64 ((i + 1 : Nat))) rfl rfl rfl rfl rfl (fun ρ W h1 h2 => by exact r_add h1 h2 (by omega) (by omega)) ?_
       refine PW.move rfl rfl rfl rfl rfl ?_
       refine PW.nil ?_
       refine SX.back (i + 1, vq1, ys ++ [(cc)]) ?_ ?_ ?_
       ·exact (hP.yes (by decide) (by rw [byl_len]; omega) (by omega) hJ)
       ·exact (show t.size - (i + 1) < t.size - i by omega)
       ·exact ⟨rfl, rfl, rfl, rfl, rfl, rfl, rfl, rfl, rfl, trivial⟩
      ·obtain rfl : cc = 0 := by have := hJ.c0; omega
       refine SC.region ?_
       refine PW.move rfl rfl rfl rfl rfl ?_
       refine PW.q2 (x := .tmp 76) (y := .const (.int .u64 0)) (.bool false) rfl rfl rfl rfl rfl (fun ρ W h1 h2 => by exact r_gt6 h1 h2 (decide_eq_false hc)) ?_
       refine PW.nil ?_
       refine SX.then ?_
       refine SC.cond (t := false) rfl ?_
       refine SC.skip ?_
       refine SX.blockN ?_
       refine SX.then ?_
       refine SC.region ?_
       refine PW.q2 (x := .tmp 41) (y := .const (.int .i64 1)) (.int .i64 ((i + 1 : Nat))) rfl rfl rfl rfl rfl (fun ρ W h1 h2 => by exact r_add h1 h2 (by omega) (by omega)) ?_
       refine PW.move rfl rfl rfl rfl rfl ?_
       refine PW.nil ?_
       refine SX.back (i + 1, v, ys) ?_ ?_ ?_
       ·exact (hP.no (by rw [byl_len]; omega) (by omega) hJ)
       ·exact (show t.size - (i + 1) < t.size - i by omega)
       ·exact ⟨rfl, rfl, rfl, rfl, rfl, rfl, rfl, rfl, rfl, trivial⟩
   ·obtain rfl : i = t.size := by have := hP.le; have := byl_len t; omega
    refine SC.region ?_
    refine PW.q2 (x := .tmp 41) (y := .tmp 40) (.bool false) rfl rfl rfl rfl rfl (fun ρ W h1 h2 => by exact r_lt h1 h2 (decide_eq_false hi)) ?_
    refine PW.nil ?_
    refine SX.then ?_
    refine SC.seq ?_
    refine SC.cond (t := false) rfl ?_
    refine SC.exit ?_
    refine SX.thenE ?_
    refine SX.thenE ?_
    refine SX.blockE ?_
    refine SX.then ?_
    refine SC.seq ?_
    refine SC.region ?_
    refine PW.move rfl rfl rfl rfl rfl ?_
    refine PW.move rfl rfl rfl rfl rfl ?_
    refine PW.callG (r := .kw (KI (sg true (pv r 0 (byl t))))) ce_made rfl rfl rfl rfl rfl (KI.st _) rfl (fun a W hf => by have h1 := hf.vl (s := 84) rfl; have h2 := hf.vl (s := 85) rfl; have own : OwF W _ _ (.int .u32) v zs := hf.ho 87 _ rfl; obtain ⟨A4, c4, e4, hc4, rd4⟩ := Own.rd own; show Calls Tryz.prog _ #[a.tmps.getD 84 undef, a.tmps.getD 85 undef] W _; rw [h1, h2, e4, show pv r 0 (byl t) = lv b32 zs by rw [hP.lv, List.take_of_length_le (by rw [byl_len]; exact Nat.le_refl _)]]; exact made_k rd4 hc4 hP.dg) ?_
    refine PW.store (x := .tmp 86) (r := .kw (KI (sg true (pv r 0 (byl t))))) rfl rfl rfl rfl rfl rfl sh_I ?_
    refine PW.assign rfl rfl rfl rfl rfl ?_
    refine PW.nil ?_
    refine SX.then ?_
    refine SC.ret ?_
    rw [form_ok (by rw [byl_len]; exact he) (fun j hj => hP.ok j (by rw [byl_len] at hj; exact hj))]
    rw [show decide (at0 (byl s) 0 = 45) = true by exact decide_eq_true hm.2]
    exact SX.done2 (s := 4) (t := 5) (r := .vl (.int .i64 0)) (.inl rfl) rfl rfl rfl rfl
 ·refine SC.region ?_
  refine PW.move rfl rfl rfl rfl rfl ?_
  refine PW.call (r := .vl (.bool false)) rfl rfl rfl rfl rfl rfl (KV.st _) rfl (k_hasPrefix s ⟨#[45]⟩ ((pre_one s 45).trans (decide_eq_false hm))) ?_
  refine PW.assign rfl rfl rfl rfl rfl ?_
  refine PW.nil ?_
  refine SX.then ?_
  refine SC.seq ?_
  refine SC.seq ?_
  by_cases hp : 0 < s.size ∧ at0 (byl s) 0 = 43
  ·refine SC.region ?_
   refine PW.move rfl rfl rfl rfl rfl ?_
   refine PW.move rfl rfl rfl rfl rfl ?_
   refine PW.move rfl rfl rfl rfl rfl ?_
   refine PW.call (r := .vl (.bool true)) rfl rfl rfl rfl rfl rfl (KV.st _) rfl (k_hasPrefix s ⟨#[43]⟩ ((pre_one s 43).trans (decide_eq_true hp))) ?_
   refine PW.pick (t := false) rfl rfl rfl rfl rfl rfl ?_
   refine PW.nil ?_
   refine SX.then ?_
   refine SC.cond (t := true) rfl ?_
   refine SC.region ?_
   refine PW.move rfl rfl rfl rfl rfl ?_
   refine PW.qn [(.tmp 34, .string s), (.const (.int .i64 1), .int .i64 1)] (.string (s.extract 1 s.size)) rfl rfl rfl ⟨rfl, rfl, trivial⟩ (fun ρ W h => by obtain ⟨h1, h2, _⟩ := h; exact r_sfrom (p := 1) h1 h2 (by omega)) ?_
   refine PW.assign rfl rfl rfl rfl rfl ?_
   refine PW.nil ?_
   refine SX.then ?_
   refine SC.seq ?_
   refine SC.seq ?_
   obtain ⟨t, ht⟩ : ∃ t, t = s.extract 1 s.size := ⟨_, rfl⟩
   rw [← ht]
   have htl : t.size ≤ 20000 := by rw [ht, ← byl_len, byl_drop, List.length_drop, byl_len]; omega
   rw [parse_form (b := byl t) h (by rw [byl_len]; omega) (by rw [if_pos (.inr hp.2), ht, byl_drop])]
   by_cases he : t.size = 0
   ·refine SC.region ?_
    refine PW.move rfl rfl rfl rfl rfl ?_
    refine PW.q2 (x := .tmp 36) (y := .const (.string ⟨#[]⟩)) (.bool true) rfl rfl rfl rfl rfl (fun ρ W h1 h2 => by exact r_seq h1 h2 ((empty_eq t).trans (decide_eq_true he))) ?_
    refine PW.nil ?_
    refine SX.then ?_
    refine SC.cond (t := true) rfl ?_
    refine SC.seq ?_
    refine SC.region ?_
    refine PW.val (r := .kw (KI (0))) rfl rfl rfl rfl (fun a W hf => ⟨.agg #[.bool false, .slice none 0 0], by go_simp, zeroI _ w W⟩) ?_
    refine PW.store (x := .tmp 38) (r := .kw (KI (0))) rfl rfl rfl rfl rfl rfl sh_I ?_
    refine PW.assign rfl rfl rfl rfl rfl ?_
    refine PW.nil ?_
    refine SX.then ?_
    refine SC.ret ?_
    refine SX.thenR ?_
    rw [form_empty (z := 0) (by rw [byl_len]; exact he)]
    exact SX.done2 (s := 4) (t := 5) (r := .vl (.int .i64 2)) (.inl rfl) rfl rfl rfl rfl
   ·refine SC.region ?_
    refine PW.move rfl rfl rfl rfl rfl ?_
    refine PW.q2 (x := .tmp 36) (y := .const (.string ⟨#[]⟩)) (.bool false) rfl rfl rfl rfl rfl (fun ρ W h1 h2 => by exact r_seq h1 h2 ((empty_eq t).trans (decide_eq_false he))) ?_
    refine PW.nil ?_
    refine SX.then ?_
    refine SC.cond (t := false) rfl ?_
    refine SC.skip ?_
    refine SX.then ?_
    refine SC.seq ?_
    refine SC.region ?_
    refine PW.assign rfl rfl rfl rfl rfl ?_
    refine PW.nil ?_
    refine SX.then ?_
    refine SC.seq ?_
    refine SC.seq ?_
    refine SC.region ?_
    refine PW.move rfl rfl rfl rfl rfl ?_
    refine PW.qn [(.tmp 39, .string t)] (.int .i64 (t.size : Int)) rfl rfl rfl ⟨rfl, trivial⟩ (fun ρ W h => by obtain ⟨h1, _⟩ := h; exact r_slen h1) ?_
    refine PW.move rfl rfl rfl rfl rfl ?_
    refine PW.nil ?_
    refine SX.then ?_
    refine SC.block ?_
    refine SC.weak (fun a W hf => Fr.nilrow 87 140 (.int .u32) hf) ?_
    refine SC.loop (S := Nat × Value × List Int) (fun ⟨i, v, zs⟩ => [(0, .vl (.string t)), (1, .vl (.int .i64 (r))), (4, .nb (BI 31)), (5, .vl (.int .i64 0)), (6, .vl (.bool false)), (7, .vl (v)), (40, .vl (.int .i64 (t.size : Int))), (41, .vl (.int .i64 (i : Int))), (87, .ro (v) 140 (.int .u32) (zs))]) (fun ⟨i, v, zs⟩ => PrI b32 r (byl t) i zs) (fun ⟨i, v, zs⟩ => t.size - i) (0, .slice none 0 0, []) (PrI.start b32 r (byl t)) ⟨rfl, rfl, rfl, rfl, rfl, rfl, rfl, rfl, rfl, trivial⟩ ?_
    rintro ⟨i, v, zs⟩ hP
    show SC _ _ _ _ [(0, .vl (.string t)), (1, .vl (.int .i64 (r))), (4, .nb (BI 31)), (5, .vl (.int .i64 0)), (6, .vl (.bool false)), (7, .vl (v)), (40, .vl (.int .i64 (t.size : Int))), (41, .vl (.int .i64 (i : Int))), (87, .ro (v) 140 (.int .u32) (zs))] _
    refine SC.seq ?_
    by_cases hi : (i : Int) < (t.size : Int)
    ·refine SC.region ?_
     refine PW.q2 (x := .tmp 41) (y := .tmp 40) (.bool true) rfl rfl rfl rfl rfl (fun ρ W h1 h2 => by exact r_lt h1 h2 (decide_eq_true hi)) ?_
     refine PW.nil ?_
     refine SX.then ?_
     refine SC.seq ?_
     refine SC.cond (t := true) rfl ?_
     refine SC.skip ?_
     refine SX.then ?_
     refine SC.seq ?_
     refine SC.block ?_
     refine SC.seq ?_
     refine SC.region ?_
     refine PW.move rfl rfl rfl rfl rfl ?_
     refine PW.assign rfl rfl rfl rfl rfl ?_
     refine PW.nil ?_
     refine SX.then ?_
     refine SC.seq ?_
     refine SC.region ?_
     refine PW.move rfl rfl rfl rfl rfl ?_
     refine PW.move rfl rfl rfl rfl rfl ?_
     refine PW.qn [(.tmp 44, .string t), (.tmp 45, .int .i64 (i : Int))] (.int .u8 (at0 (byl t) i)) rfl rfl rfl ⟨rfl, rfl, trivial⟩ (fun ρ W h => by obtain ⟨h1, h2, _⟩ := h; exact r_sidx h1 h2 (by omega)) ?_
     refine PW.call (r := .vl (.int .i64 (dv (at0 (byl t) i)))) rfl rfl rfl rfl rfl rfl (KV.st _) rfl (k_value (byl_byte t i).1 (byl_byte t i).2) ?_
     refine PW.assign rfl rfl rfl rfl rfl ?_
     refine PW.nil ?_
     refine SX.then ?_
     refine SC.seq ?_
     refine SC.seq ?_
     by_cases hd : dv (at0 (byl t) i) ≥ r
     ·refine SC.region ?_
      refine PW.move rfl rfl rfl rfl rfl ?_
      refine PW.move rfl rfl rfl rfl rfl ?_
      refine PW.q2 (x := .tmp 48) (y := .tmp 49) (.bool true) rfl rfl rfl rfl rfl (fun ρ W h1 h2 => by exact r_ge h1 h2 (decide_eq_true hd)) ?_
      refine PW.nil ?_
      refine SX.then ?_
      refine SC.cond (t := true) rfl ?_
      refine SC.seq ?_
      refine SC.region ?_
      refine PW.val (r := .kw (KI (0))) rfl rfl rfl rfl (fun a W hf => ⟨.agg #[.bool false, .slice none 0 0], by go_simp, zeroI _ w W⟩) ?_
      refine PW.store (x := .tmp 51) (r := .kw (KI (0))) rfl rfl rfl rfl rfl rfl sh_I ?_
      refine PW.assign rfl rfl rfl rfl rfl ?_
      refine PW.nil ?_
      refine SX.then ?_
      refine SC.ret ?_
      refine SX.thenR ?_
      refine SX.blockR ?_
      refine SX.thenR ?_
      refine SX.thenR ?_
      refine SX.blockR ?_
      refine SX.thenR ?_
      rw [form_bad (i := i) (by rw [byl_len]; omega) hd]
      exact SX.done2 (s := 4) (t := 5) (r := .vl (.int .i64 2)) (.inl rfl) rfl rfl rfl rfl
     ·refine SC.region ?_
      refine PW.move rfl rfl rfl rfl rfl ?_
      refine PW.move rfl rfl rfl rfl rfl ?_
      refine PW.q2 (x := .tmp 48) (y := .tmp 49) (.bool false) rfl rfl rfl rfl rfl (fun ρ W h1 h2 => by exact r_ge h1 h2 (decide_eq_false hd)) ?_
      refine PW.nil ?_
      refine SX.then ?_
      refine SC.cond (t := false) rfl ?_
      refine SC.skip ?_
      refine SX.then ?_
      refine SC.seq ?_
      refine SC.region ?_
      refine PW.move rfl rfl rfl rfl rfl ?_
      refine PW.q1 (x := .tmp 52) (.int .u64 (dv (at0 (byl t) i))) rfl rfl rfl rfl (fun ρ W h1 => by exact r_i64u h1 (by have := dv_le (at0 (byl t) i); omega)) ?_
      refine PW.assign rfl rfl rfl rfl rfl ?_
      refine PW.nil ?_
      refine SX.then ?_
      refine SC.seq ?_
      refine SC.seq ?_
      refine SC.region ?_
      refine PW.move rfl rfl rfl rfl rfl ?_
      refine PW.rlen (s := 54) 87 rfl rfl rfl rfl rfl (fun ρ W A c h => r_len h) ?_
      refine PW.move rfl rfl rfl rfl rfl ?_
      refine PW.nil ?_
      refine SX.then ?_
      refine SC.block ?_
      refine SC.loop (S := Nat × List Int × Int) (fun ⟨k, ys, cc⟩ => [(0, .vl (.string t)), (1, .vl (.int .i64 (r))), (4, .nb (BI 31)), (5, .vl (.int .i64 0)), (6, .vl (.bool false)), (7, .vl (v)), (8, .vl (.int .i64 (i : Int))), (10, .vl (.int .u64 (cc))), (40, .vl (.int .i64 (t.size : Int))), (41, .vl (.int .i64 (i : Int))), (54, .vl (v)), (55, .vl (.int .i64 (zs.length : Int))), (56, .vl (.int .i64 (k : Int))), (87, .ro (v) 140 (.int .u32) (ys))]) (fun ⟨k, ys, cc⟩ => PrJ b32 r (dv (at0 (byl t) i)) zs k ys cc) (fun ⟨k, ys, cc⟩ => zs.length - k) (0, zs, dv (at0 (byl t) i)) (PrJ.start hP.dg (dv_le _).1 (dv_le _).2) ⟨rfl, rfl, rfl, rfl, rfl, rfl, rfl, rfl, rfl, rfl, rfl, rfl, rfl, rfl, trivial⟩ ?_
      rintro ⟨k, ys, cc⟩ hJ
      show SC _ _ _ _ [(0, .vl (.string t)), (1, .vl (.int .i64 (r))), (4, .nb (BI 31)), (5, .vl (.int .i64 0)), (6, .vl (.bool false)), (7, .vl (v)), (8, .vl (.int .i64 (i : Int))), (10, .vl (.int .u64 (cc))), (40, .vl (.int .i64 (t.size : Int))), (41, .vl (.int .i64 (i : Int))), (54, .vl (v)), (55, .vl (.int .i64 (zs.length : Int))), (56, .vl (.int .i64 (k : Int))), (87, .ro (v) 140 (.int .u32) (ys))] _
      refine SC.seq ?_
      by_cases hk : (k : Int) < (zs.length : Int)
      ·refine SC.region ?_
       refine PW.q2 (x := .tmp 56) (y := .tmp 55) (.bool true) rfl rfl rfl rfl rfl (fun ρ W h1 h2 => by exact r_lt h1 h2 (decide_eq_true hk)) ?_
       refine PW.nil ?_
       refine SX.then ?_
       refine SC.seq ?_
       refine SC.cond (t := true) rfl ?_
       refine SC.skip ?_
       refine SX.then ?_
       refine SC.seq ?_
       refine SC.block ?_
       refine SC.seq ?_
       refine SC.region ?_
       refine PW.move rfl rfl rfl rfl rfl ?_
       refine PW.ridx (i := k) 87 rfl rfl rfl rfl rfl rfl rfl (by have := hJ.len; omega) (fun ρ W g c h1 h2 => r_idx h1 h2 (by have := hJ.len; omega)) ?_
       refine PW.rget (i := k) 87 rfl rfl rfl rfl rfl rfl (by have := hJ.len; omega) r_l32 ?_
       refine PW.assign rfl rfl rfl rfl rfl ?_
       refine PW.assign rfl rfl rfl rfl rfl ?_
       refine PW.nil ?_
       refine SX.then ?_
       refine SC.seq ?_
       refine SC.region ?_
       refine PW.move rfl rfl rfl rfl rfl ?_
       refine PW.q1 (x := .tmp 61) (.int .u64 (at0 ys k)) rfl rfl rfl rfl (fun ρ W h1 => by exact r_64 h1 (dg32 hJ.dg k)) ?_
       refine PW.move rfl rfl rfl rfl rfl ?_
       refine PW.q1 (x := .tmp 63) (.int .u64 (r)) rfl rfl rfl rfl (fun ρ W h1 => by exact r_i64u h1 (by omega)) ?_
       refine PW.q2 (x := .tmp 62) (y := .tmp 64) (.int .u64 (at0 ys k * r)) rfl rfl rfl rfl rfl (fun ρ W h1 h2 => by exact r_mul6 h1 h2 rfl (mulr (dg32 hJ.dg k) h)) ?_
       refine PW.move rfl rfl rfl rfl rfl ?_
       refine PW.q2 (x := .tmp 65) (y := .tmp 66) (.int .u64 (at0 ys k * r + cc)) rfl rfl rfl rfl rfl (fun ρ W h1 h2 => by exact r_add6 h1 h2 rfl (addr (dg32 hJ.dg k) h hJ.c0 hJ.c1)) ?_
       refine PW.assign rfl rfl rfl rfl rfl ?_
       refine PW.nil ?_
       refine SX.then ?_
       refine SC.region ?_
       refine PW.move rfl rfl rfl rfl rfl ?_
       refine PW.move rfl rfl rfl rfl rfl ?_
       refine PW.move rfl rfl rfl rfl rfl ?_
       refine PW.q1 (x := .tmp 70) (.int .u32 ((at0 ys k * r + cc) % 4294967296)) rfl rfl rfl rfl (fun ρ W h1 => by exact r_32 h1) ?_
       refine PW.move rfl rfl rfl rfl rfl ?_
       refine PW.q2 (x := .tmp 72) (y := .const (.int .u64 32)) (.int .u64 ((at0 ys k * r + cc) / 4294967296)) rfl rfl rfl rfl rfl (fun ρ W h1 h2 => by exact r_dn32 h1 h2) ?_
       refine PW.ridx (i := k) 87 rfl rfl rfl rfl rfl rfl rfl (by have := hJ.len; omega) (fun ρ W g c h1 h2 => r_idx h1 h2 (by have := hJ.len; omega)) ?_
       refine PW.rput (i := k) (x := .tmp 71) (((at0 ys k * r + cc) % 4294967296)) 87 rfl rfl rfl rfl rfl (by have := hJ.len; omega) rfl rfl r_s32 ?_
       refine PW.assign rfl rfl rfl rfl rfl ?_
       refine PW.nil ?_
       refine SX.blockN ?_
       refine SX.then ?_
       refine SC.region ?_
       refine PW.q2 (x := .tmp 56) (y := .const (.int .i64 1)) (.int .i64 ((k + 1 : Nat))) rfl rfl rfl rfl rfl (fun ρ W h1 h2 => by exact r_add h1 h2 (by omega) (by have := hP.len; have := byl_len t; omega)) ?_
       refine PW.move rfl rfl rfl rfl rfl ?_
       refine PW.nil ?_
       refine SX.back (k + 1, ys.set k ((at0 ys k * r + cc) % 4294967296), (at0 ys k * r + cc) / 4294967296) ?_ ?_ ?_
       ·exact (hJ.step (by decide) (by omega) h.1 h.2 rfl hP.dg)
       ·exact (show zs.length - (k + 1) < zs.length - k by omega)
       ·exact ⟨rfl, rfl, rfl, rfl, rfl, rfl, rfl, rfl, rfl, rfl, rfl, rfl, rfl, rfl, trivial⟩
      ·obtain rfl : k = zs.length := by have := hJ.le; omega
       refine SC.region ?_
       refine PW.q2 (x := .tmp 56) (y := .tmp 55) (.bool false) rfl rfl rfl rfl rfl (fun ρ W h1 h2 => by exact r_lt h1 h2 (decide_eq_false hk)) ?_
       refine PW.nil ?_
       refine SX.then ?_
       refine SC.seq ?_
       refine SC.cond (t := false) rfl ?_
       refine SC.exit ?_
       refine SX.thenE ?_
       refine SX.thenE ?_
       refine SX.blockE ?_
       refine SX.then ?_
       refine SC.seq ?_
       by_cases hc : 0 < cc
       ·refine SC.region ?_
        refine PW.move rfl rfl rfl rfl rfl ?_
        refine PW.q2 (x := .tmp 76) (y := .const (.int .u64 0)) (.bool true) rfl rfl rfl rfl rfl (fun ρ W h1 h2 => by exact r_gt6 h1 h2 (decide_eq_true hc)) ?_
        refine PW.nil ?_
        refine SX.then ?_
        refine SC.cond (t := true) rfl ?_
        refine SC.region ?_
        refine PW.move rfl rfl rfl rfl rfl ?_
        refine PW.move rfl rfl rfl rfl rfl ?_
        refine PW.q1 (x := .tmp 79) (.int .u32 (cc)) rfl rfl rfl rfl (fun ρ W h1 => by exact r_32z h1 (by have := hJ.c0; have := hJ.c1; omega)) ?_
        refine PW.app (K := 87) (f := .int .u32) [(cc)] rfl rfl rfl (fun a W hf => r_b1 (hf.vl (s := 80) rfl)) rfl rfl rfl rfl rfl rfl rfl rfl Tryz.underlying22 info_u32 rfl (fun _ => rfl) (by have l1 := hJ.len; have l2 := hP.len; have l3 := byl_len t; have l4 := hP.le; unfold maxLen; show _ + 1 ≤ _; omega) (by have l1 := hJ.len; have l2 := hP.len; have l3 := byl_len t; have l4 := hP.le; show (_ + 1) * 4 ≤ _; omega) rfl fun vq2 uq2 => ?_
        refine PW.assign rfl rfl rfl rfl rfl ?_
        refine PW.nil ?_
        refine SX.blockN ?_
        refine SX.then ?_
        refine SC.region ?_
        refine PW.q2 (x := .tmp 41) (y := .const (.int .i64 1)) (.int .i64 ((i + 1 : Nat))) rfl rfl rfl rfl rfl (fun ρ W h1 h2 => by exact r_add h1 h2 (by omega) (by omega)) ?_
        refine PW.move rfl rfl rfl rfl rfl ?_
        refine PW.nil ?_
        refine SX.back (i + 1, vq2, ys ++ [(cc)]) ?_ ?_ ?_
        ·exact (hP.yes (by decide) (by rw [byl_len]; omega) (by omega) hJ)
        ·exact (show t.size - (i + 1) < t.size - i by omega)
        ·exact ⟨rfl, rfl, rfl, rfl, rfl, rfl, rfl, rfl, rfl, trivial⟩
       ·obtain rfl : cc = 0 := by have := hJ.c0; omega
        refine SC.region ?_
        refine PW.move rfl rfl rfl rfl rfl ?_
        refine PW.q2 (x := .tmp 76) (y := .const (.int .u64 0)) (.bool false) rfl rfl rfl rfl rfl (fun ρ W h1 h2 => by exact r_gt6 h1 h2 (decide_eq_false hc)) ?_
        refine PW.nil ?_
        refine SX.then ?_
        refine SC.cond (t := false) rfl ?_
        refine SC.skip ?_
        refine SX.blockN ?_
        refine SX.then ?_
        refine SC.region ?_
        refine PW.q2 (x := .tmp 41) (y := .const (.int .i64 1)) (.int .i64 ((i + 1 : Nat))) rfl rfl rfl rfl rfl (fun ρ W h1 h2 => by exact r_add h1 h2 (by omega) (by omega)) ?_
        refine PW.move rfl rfl rfl rfl rfl ?_
        refine PW.nil ?_
        refine SX.back (i + 1, v, ys) ?_ ?_ ?_
        ·exact (hP.no (by rw [byl_len]; omega) (by omega) hJ)
        ·exact (show t.size - (i + 1) < t.size - i by omega)
        ·exact ⟨rfl, rfl, rfl, rfl, rfl, rfl, rfl, rfl, rfl, trivial⟩
    ·obtain rfl : i = t.size := by have := hP.le; have := byl_len t; omega
     refine SC.region ?_
     refine PW.q2 (x := .tmp 41) (y := .tmp 40) (.bool false) rfl rfl rfl rfl rfl (fun ρ W h1 h2 => by exact r_lt h1 h2 (decide_eq_false hi)) ?_
     refine PW.nil ?_
     refine SX.then ?_
     refine SC.seq ?_
     refine SC.cond (t := false) rfl ?_
     refine SC.exit ?_
     refine SX.thenE ?_
     refine SX.thenE ?_
     refine SX.blockE ?_
     refine SX.then ?_
     refine SC.seq ?_
     refine SC.region ?_
     refine PW.move rfl rfl rfl rfl rfl ?_
     refine PW.move rfl rfl rfl rfl rfl ?_
     refine PW.callG (r := .kw (KI (sg false (pv r 0 (byl t))))) ce_made rfl rfl rfl rfl rfl (KI.st _) rfl (fun a W hf => by have h1 := hf.vl (s := 84) rfl; have h2 := hf.vl (s := 85) rfl; have own : OwF W _ _ (.int .u32) v zs := hf.ho 87 _ rfl; obtain ⟨A4, c4, e4, hc4, rd4⟩ := Own.rd own; show Calls Tryz.prog _ #[a.tmps.getD 84 undef, a.tmps.getD 85 undef] W _; rw [h1, h2, e4, show pv r 0 (byl t) = lv b32 zs by rw [hP.lv, List.take_of_length_le (by rw [byl_len]; exact Nat.le_refl _)]]; exact made_k rd4 hc4 hP.dg) ?_
     refine PW.store (x := .tmp 86) (r := .kw (KI (sg false (pv r 0 (byl t))))) rfl rfl rfl rfl rfl rfl sh_I ?_
     refine PW.assign rfl rfl rfl rfl rfl ?_
     refine PW.nil ?_
     refine SX.then ?_
     refine SC.ret ?_
     rw [form_ok (by rw [byl_len]; exact he) (fun j hj => hP.ok j (by rw [byl_len] at hj; exact hj))]
     rw [show decide (at0 (byl s) 0 = 45) = false by exact decide_eq_false (fun h9 => hm ⟨pos_of_at0 h9 (by decide), h9⟩)]
     exact SX.done2 (s := 4) (t := 5) (r := .vl (.int .i64 0)) (.inl rfl) rfl rfl rfl rfl
  ·refine SC.region ?_
   refine PW.move rfl rfl rfl rfl rfl ?_
   refine PW.move rfl rfl rfl rfl rfl ?_
   refine PW.move rfl rfl rfl rfl rfl ?_
   refine PW.call (r := .vl (.bool false)) rfl rfl rfl rfl rfl rfl (KV.st _) rfl (k_hasPrefix s ⟨#[43]⟩ ((pre_one s 43).trans (decide_eq_false hp))) ?_
   refine PW.pick (t := false) rfl rfl rfl rfl rfl rfl ?_
   refine PW.nil ?_
   refine SX.then ?_
   refine SC.cond (t := false) rfl ?_
   refine SC.skip ?_
   refine SX.then ?_
   refine SC.seq ?_
   refine SC.seq ?_
   obtain ⟨t, ht⟩ : ∃ t, t = s := ⟨_, rfl⟩
   subst ht
   have htl : t.size ≤ 20000 := by omega
   rw [parse_form (b := byl t) h (by rw [byl_len]; omega) ((if_neg (fun h9 => h9.elim (fun h9 => hm ⟨pos_of_at0 h9 (by decide), h9⟩) (fun h9 => hp ⟨pos_of_at0 h9 (by decide), h9⟩))).symm)]
   by_cases he : t.size = 0
   ·refine SC.region ?_
    refine PW.move rfl rfl rfl rfl rfl ?_
    refine PW.q2 (x := .tmp 36) (y := .const (.string ⟨#[]⟩)) (.bool true) rfl rfl rfl rfl rfl (fun ρ W h1 h2 => by exact r_seq h1 h2 ((empty_eq t).trans (decide_eq_true he))) ?_
    refine PW.nil ?_
    refine SX.then ?_
    refine SC.cond (t := true) rfl ?_
    refine SC.seq ?_
    refine SC.region ?_
    refine PW.val (r := .kw (KI (0))) rfl rfl rfl rfl (fun a W hf => ⟨.agg #[.bool false, .slice none 0 0], by go_simp, zeroI _ w W⟩) ?_
    refine PW.store (x := .tmp 38) (r := .kw (KI (0))) rfl rfl rfl rfl rfl rfl sh_I ?_
    refine PW.assign rfl rfl rfl rfl rfl ?_
    refine PW.nil ?_
    refine SX.then ?_
    refine SC.ret ?_
    refine SX.thenR ?_
    rw [form_empty (z := 0) (by rw [byl_len]; exact he)]
    exact SX.done2 (s := 4) (t := 5) (r := .vl (.int .i64 2)) (.inl rfl) rfl rfl rfl rfl
   ·refine SC.region ?_
    refine PW.move rfl rfl rfl rfl rfl ?_
    refine PW.q2 (x := .tmp 36) (y := .const (.string ⟨#[]⟩)) (.bool false) rfl rfl rfl rfl rfl (fun ρ W h1 h2 => by exact r_seq h1 h2 ((empty_eq t).trans (decide_eq_false he))) ?_
    refine PW.nil ?_
    refine SX.then ?_
    refine SC.cond (t := false) rfl ?_
    refine SC.skip ?_
    refine SX.then ?_
    refine SC.seq ?_
    refine SC.region ?_
    refine PW.assign rfl rfl rfl rfl rfl ?_
    refine PW.nil ?_
    refine SX.then ?_
    refine SC.seq ?_
    refine SC.seq ?_
    refine SC.region ?_
    refine PW.move rfl rfl rfl rfl rfl ?_
    refine PW.qn [(.tmp 39, .string t)] (.int .i64 (t.size : Int)) rfl rfl rfl ⟨rfl, trivial⟩ (fun ρ W h => by obtain ⟨h1, _⟩ := h; exact r_slen h1) ?_
    refine PW.move rfl rfl rfl rfl rfl ?_
    refine PW.nil ?_
    refine SX.then ?_
    refine SC.block ?_
    refine SC.weak (fun a W hf => Fr.nilrow 87 140 (.int .u32) hf) ?_
    refine SC.loop (S := Nat × Value × List Int) (fun ⟨i, v, zs⟩ => [(0, .vl (.string t)), (1, .vl (.int .i64 (r))), (4, .nb (BI 31)), (5, .vl (.int .i64 0)), (6, .vl (.bool false)), (7, .vl (v)), (40, .vl (.int .i64 (t.size : Int))), (41, .vl (.int .i64 (i : Int))), (87, .ro (v) 140 (.int .u32) (zs))]) (fun ⟨i, v, zs⟩ => PrI b32 r (byl t) i zs) (fun ⟨i, v, zs⟩ => t.size - i) (0, .slice none 0 0, []) (PrI.start b32 r (byl t)) ⟨rfl, rfl, rfl, rfl, rfl, rfl, rfl, rfl, rfl, trivial⟩ ?_
    rintro ⟨i, v, zs⟩ hP
    show SC _ _ _ _ [(0, .vl (.string t)), (1, .vl (.int .i64 (r))), (4, .nb (BI 31)), (5, .vl (.int .i64 0)), (6, .vl (.bool false)), (7, .vl (v)), (40, .vl (.int .i64 (t.size : Int))), (41, .vl (.int .i64 (i : Int))), (87, .ro (v) 140 (.int .u32) (zs))] _
    refine SC.seq ?_
    by_cases hi : (i : Int) < (t.size : Int)
    ·refine SC.region ?_
     refine PW.q2 (x := .tmp 41) (y := .tmp 40) (.bool true) rfl rfl rfl rfl rfl (fun ρ W h1 h2 => by exact r_lt h1 h2 (decide_eq_true hi)) ?_
     refine PW.nil ?_
     refine SX.then ?_
     refine SC.seq ?_
     refine SC.cond (t := true) rfl ?_
     refine SC.skip ?_
     refine SX.then ?_
     refine SC.seq ?_
     refine SC.block ?_
     refine SC.seq ?_
     refine SC.region ?_
     refine PW.move rfl rfl rfl rfl rfl ?_
     refine PW.assign rfl rfl rfl rfl rfl ?_
     refine PW.nil ?_
     refine SX.then ?_
     refine SC.seq ?_
     refine SC.region ?_
     refine PW.move rfl rfl rfl rfl rfl ?_
     refine PW.move rfl rfl rfl rfl rfl ?_
     refine PW.qn [(.tmp 44, .string t), (.tmp 45, .int .i64 (i : Int))] (.int .u8 (at0 (byl t) i)) rfl rfl rfl ⟨rfl, rfl, trivial⟩ (fun ρ W h => by obtain ⟨h1, h2, _⟩ := h; exact r_sidx h1 h2 (by omega)) ?_
     refine PW.call (r := .vl (.int .i64 (dv (at0 (byl t) i)))) rfl rfl rfl rfl rfl rfl (KV.st _) rfl (k_value (byl_byte t i).1 (byl_byte t i).2) ?_
     refine PW.assign rfl rfl rfl rfl rfl ?_
     refine PW.nil ?_
     refine SX.then ?_
     refine SC.seq ?_
     refine SC.seq ?_
     by_cases hd : dv (at0 (byl t) i) ≥ r
     ·refine SC.region ?_
      refine PW.move rfl rfl rfl rfl rfl ?_
      refine PW.move rfl rfl rfl rfl rfl ?_
      refine PW.q2 (x := .tmp 48) (y := .tmp 49) (.bool true) rfl rfl rfl rfl rfl (fun ρ W h1 h2 => by exact r_ge h1 h2 (decide_eq_true hd)) ?_
      refine PW.nil ?_
      refine SX.then ?_
      refine SC.cond (t := true) rfl ?_
      refine SC.seq ?_
      refine SC.region ?_
      refine PW.val (r := .kw (KI (0))) rfl rfl rfl rfl (fun a W hf => ⟨.agg #[.bool false, .slice none 0 0], by go_simp, zeroI _ w W⟩) ?_
      refine PW.store (x := .tmp 51) (r := .kw (KI (0))) rfl rfl rfl rfl rfl rfl sh_I ?_
      refine PW.assign rfl rfl rfl rfl rfl ?_
      refine PW.nil ?_
      refine SX.then ?_
      refine SC.ret ?_
      refine SX.thenR ?_
      refine SX.blockR ?_
      refine SX.thenR ?_
      refine SX.thenR ?_
      refine SX.blockR ?_
      refine SX.thenR ?_
      rw [form_bad (i := i) (by rw [byl_len]; omega) hd]
      exact SX.done2 (s := 4) (t := 5) (r := .vl (.int .i64 2)) (.inl rfl) rfl rfl rfl rfl
     ·refine SC.region ?_
      refine PW.move rfl rfl rfl rfl rfl ?_
      refine PW.move rfl rfl rfl rfl rfl ?_
      refine PW.q2 (x := .tmp 48) (y := .tmp 49) (.bool false) rfl rfl rfl rfl rfl (fun ρ W h1 h2 => by exact r_ge h1 h2 (decide_eq_false hd)) ?_
      refine PW.nil ?_
      refine SX.then ?_
      refine SC.cond (t := false) rfl ?_
      refine SC.skip ?_
      refine SX.then ?_
      refine SC.seq ?_
      refine SC.region ?_
      refine PW.move rfl rfl rfl rfl rfl ?_
      refine PW.q1 (x := .tmp 52) (.int .u64 (dv (at0 (byl t) i))) rfl rfl rfl rfl (fun ρ W h1 => by exact r_i64u h1 (by have := dv_le (at0 (byl t) i); omega)) ?_
      refine PW.assign rfl rfl rfl rfl rfl ?_
      refine PW.nil ?_
      refine SX.then ?_
      refine SC.seq ?_
      refine SC.seq ?_
      refine SC.region ?_
      refine PW.move rfl rfl rfl rfl rfl ?_
      refine PW.rlen (s := 54) 87 rfl rfl rfl rfl rfl (fun ρ W A c h => r_len h) ?_
      refine PW.move rfl rfl rfl rfl rfl ?_
      refine PW.nil ?_
      refine SX.then ?_
      refine SC.block ?_
      refine SC.loop (S := Nat × List Int × Int) (fun ⟨k, ys, cc⟩ => [(0, .vl (.string t)), (1, .vl (.int .i64 (r))), (4, .nb (BI 31)), (5, .vl (.int .i64 0)), (6, .vl (.bool false)), (7, .vl (v)), (8, .vl (.int .i64 (i : Int))), (10, .vl (.int .u64 (cc))), (40, .vl (.int .i64 (t.size : Int))), (41, .vl (.int .i64 (i : Int))), (54, .vl (v)), (55, .vl (.int .i64 (zs.length : Int))), (56, .vl (.int .i64 (k : Int))), (87, .ro (v) 140 (.int .u32) (ys))]) (fun ⟨k, ys, cc⟩ => PrJ b32 r (dv (at0 (byl t) i)) zs k ys cc) (fun ⟨k, ys, cc⟩ => zs.length - k) (0, zs, dv (at0 (byl t) i)) (PrJ.start hP.dg (dv_le _).1 (dv_le _).2) ⟨rfl, rfl, rfl, rfl, rfl, rfl, rfl, rfl, rfl, rfl, rfl, rfl, rfl, rfl, trivial⟩ ?_
      rintro ⟨k, ys, cc⟩ hJ
      show SC _ _ _ _ [(0, .vl (.string t)), (1, .vl (.int .i64 (r))), (4, .nb (BI 31)), (5, .vl (.int .i64 0)), (6, .vl (.bool false)), (7, .vl (v)), (8, .vl (.int .i64 (i : Int))), (10, .vl (.int .u64 (cc))), (40, .vl (.int .i64 (t.size : Int))), (41, .vl (.int .i64 (i : Int))), (54, .vl (v)), (55, .vl (.int .i64 (zs.length : Int))), (56, .vl (.int .i64 (k : Int))), (87, .ro (v) 140 (.int .u32) (ys))] _
      refine SC.seq ?_
      by_cases hk : (k : Int) < (zs.length : Int)
      ·refine SC.region ?_
       refine PW.q2 (x := .tmp 56) (y := .tmp 55) (.bool true) rfl rfl rfl rfl rfl (fun ρ W h1 h2 => by exact r_lt h1 h2 (decide_eq_true hk)) ?_
       refine PW.nil ?_
       refine SX.then ?_
       refine SC.seq ?_
       refine SC.cond (t := true) rfl ?_
       refine SC.skip ?_
       refine SX.then ?_
       refine SC.seq ?_
       refine SC.block ?_
       refine SC.seq ?_
       refine SC.region ?_
       refine PW.move rfl rfl rfl rfl rfl ?_
       refine PW.ridx (i := k) 87 rfl rfl rfl rfl rfl rfl rfl (by have := hJ.len; omega) (fun ρ W g c h1 h2 => r_idx h1 h2 (by have := hJ.len; omega)) ?_
       refine PW.rget (i := k) 87 rfl rfl rfl rfl rfl rfl (by have := hJ.len; omega) r_l32 ?_
       refine PW.assign rfl rfl rfl rfl rfl ?_
       refine PW.assign rfl rfl rfl rfl rfl ?_
       refine PW.nil ?_
       refine SX.then ?_
       refine SC.seq ?_
       refine SC.region ?_
       refine PW.move rfl rfl rfl rfl rfl ?_
       refine PW.q1 (x := .tmp 61) (.int .u64 (at0 ys k)) rfl rfl rfl rfl (fun ρ W h1 => by exact r_64 h1 (dg32 hJ.dg k)) ?_
       refine PW.move rfl rfl rfl rfl rfl ?_
       refine PW.q1 (x := .tmp 63) (.int .u64 (r)) rfl rfl rfl rfl (fun ρ W h1 => by exact r_i64u h1 (by omega)) ?_
       refine PW.q2 (x := .tmp 62) (y := .tmp 64) (.int .u64 (at0 ys k * r)) rfl rfl rfl rfl rfl (fun ρ W h1 h2 => by exact r_mul6 h1 h2 rfl (mulr (dg32 hJ.dg k) h)) ?_
       refine PW.move rfl rfl rfl rfl rfl ?_
       refine PW.q2 (x := .tmp 65) (y := .tmp 66) (.int .u64 (at0 ys k * r + cc)) rfl rfl rfl rfl rfl (fun ρ W h1 h2 => by exact r_add6 h1 h2 rfl (addr (dg32 hJ.dg k) h hJ.c0 hJ.c1)) ?_
       refine PW.assign rfl rfl rfl rfl rfl ?_
       refine PW.nil ?_
       refine SX.then ?_
       refine SC.region ?_
       refine PW.move rfl rfl rfl rfl rfl ?_
       refine PW.move rfl rfl rfl rfl rfl ?_
       refine PW.move rfl rfl rfl rfl rfl ?_
       refine PW.q1 (x := .tmp 70) (.int .u32 ((at0 ys k * r + cc) % 4294967296)) rfl rfl rfl rfl (fun ρ W h1 => by exact r_32 h1) ?_
       refine PW.move rfl rfl rfl rfl rfl ?_
       refine PW.q2 (x := .tmp 72) (y := .const (.int .u64 32)) (.int .u64 ((at0 ys k * r + cc) / 4294967296)) rfl rfl rfl rfl rfl (fun ρ W h1 h2 => by exact r_dn32 h1 h2) ?_
       refine PW.ridx (i := k) 87 rfl rfl rfl rfl rfl rfl rfl (by have := hJ.len; omega) (fun ρ W g c h1 h2 => r_idx h1 h2 (by have := hJ.len; omega)) ?_
       refine PW.rput (i := k) (x := .tmp 71) (((at0 ys k * r + cc) % 4294967296)) 87 rfl rfl rfl rfl rfl (by have := hJ.len; omega) rfl rfl r_s32 ?_
       refine PW.assign rfl rfl rfl rfl rfl ?_
       refine PW.nil ?_
       refine SX.blockN ?_
       refine SX.then ?_
       refine SC.region ?_
       refine PW.q2 (x := .tmp 56) (y := .const (.int .i64 1)) (.int .i64 ((k + 1 : Nat))) rfl rfl rfl rfl rfl (fun ρ W h1 h2 => by exact r_add h1 h2 (by omega) (by have := hP.len; have := byl_len t; omega)) ?_
       refine PW.move rfl rfl rfl rfl rfl ?_
       refine PW.nil ?_
       refine SX.back (k + 1, ys.set k ((at0 ys k * r + cc) % 4294967296), (at0 ys k * r + cc) / 4294967296) ?_ ?_ ?_
       ·exact (hJ.step (by decide) (by omega) h.1 h.2 rfl hP.dg)
       ·exact (show zs.length - (k + 1) < zs.length - k by omega)
       ·exact ⟨rfl, rfl, rfl, rfl, rfl, rfl, rfl, rfl, rfl, rfl, rfl, rfl, rfl, rfl, trivial⟩
      ·obtain rfl : k = zs.length := by have := hJ.le; omega
       refine SC.region ?_
       refine PW.q2 (x := .tmp 56) (y := .tmp 55) (.bool false) rfl rfl rfl rfl rfl (fun ρ W h1 h2 => by exact r_lt h1 h2 (decide_eq_false hk)) ?_
       refine PW.nil ?_
       refine SX.then ?_
       refine SC.seq ?_
       refine SC.cond (t := false) rfl ?_
       refine SC.exit ?_
       refine SX.thenE ?_
       refine SX.thenE ?_
       refine SX.blockE ?_
       refine SX.then ?_
       refine SC.seq ?_
       by_cases hc : 0 < cc
       ·refine SC.region ?_
        refine PW.move rfl rfl rfl rfl rfl ?_
        refine PW.q2 (x := .tmp 76) (y := .const (.int .u64 0)) (.bool true) rfl rfl rfl rfl rfl (fun ρ W h1 h2 => by exact r_gt6 h1 h2 (decide_eq_true hc)) ?_
        refine PW.nil ?_
        refine SX.then ?_
        refine SC.cond (t := true) rfl ?_
        refine SC.region ?_
        refine PW.move rfl rfl rfl rfl rfl ?_
        refine PW.move rfl rfl rfl rfl rfl ?_
        refine PW.q1 (x := .tmp 79) (.int .u32 (cc)) rfl rfl rfl rfl (fun ρ W h1 => by exact r_32z h1 (by have := hJ.c0; have := hJ.c1; omega)) ?_
        refine PW.app (K := 87) (f := .int .u32) [(cc)] rfl rfl rfl (fun a W hf => r_b1 (hf.vl (s := 80) rfl)) rfl rfl rfl rfl rfl rfl rfl rfl Tryz.underlying22 info_u32 rfl (fun _ => rfl) (by have l1 := hJ.len; have l2 := hP.len; have l3 := byl_len t; have l4 := hP.le; unfold maxLen; show _ + 1 ≤ _; omega) (by have l1 := hJ.len; have l2 := hP.len; have l3 := byl_len t; have l4 := hP.le; show (_ + 1) * 4 ≤ _; omega) rfl fun vq3 uq3 => ?_
        refine PW.assign rfl rfl rfl rfl rfl ?_
        refine PW.nil ?_
        refine SX.blockN ?_
        refine SX.then ?_
        refine SC.region ?_
        refine PW.q2 (x := .tmp 41) (y := .const (.int .i64 1)) (.int .i64 ((i + 1 : Nat))) rfl rfl rfl rfl rfl (fun ρ W h1 h2 => by exact r_add h1 h2 (by omega) (by omega)) ?_
        refine PW.move rfl rfl rfl rfl rfl ?_
        refine PW.nil ?_
        refine SX.back (i + 1, vq3, ys ++ [(cc)]) ?_ ?_ ?_
        ·exact (hP.yes (by decide) (by rw [byl_len]; omega) (by omega) hJ)
        ·exact (show t.size - (i + 1) < t.size - i by omega)
        ·exact ⟨rfl, rfl, rfl, rfl, rfl, rfl, rfl, rfl, rfl, trivial⟩
       ·obtain rfl : cc = 0 := by have := hJ.c0; omega
        refine SC.region ?_
        refine PW.move rfl rfl rfl rfl rfl ?_
        refine PW.q2 (x := .tmp 76) (y := .const (.int .u64 0)) (.bool false) rfl rfl rfl rfl rfl (fun ρ W h1 h2 => by exact r_gt6 h1 h2 (decide_eq_false hc)) ?_
        refine PW.nil ?_
        refine SX.then ?_
        refine SC.cond (t := false) rfl ?_
        refine SC.skip ?_
        refine SX.blockN ?_
        refine SX.then ?_
        refine SC.region ?_
        refine PW.q2 (x := .tmp 41) (y := .const (.int .i64 1)) (.int .i64 ((i + 1 : Nat))) rfl rfl rfl rfl rfl (fun ρ W h1 h2 => by exact r_add h1 h2 (by omega) (by omega)) ?_
        refine PW.move rfl rfl rfl rfl rfl ?_
        refine PW.nil ?_
        refine SX.back (i + 1, v, ys) ?_ ?_ ?_
        ·exact (hP.no (by rw [byl_len]; omega) (by omega) hJ)
        ·exact (show t.size - (i + 1) < t.size - i by omega)
        ·exact ⟨rfl, rfl, rfl, rfl, rfl, rfl, rfl, rfl, rfl, trivial⟩
    ·obtain rfl : i = t.size := by have := hP.le; have := byl_len t; omega
     refine SC.region ?_
     refine PW.q2 (x := .tmp 41) (y := .tmp 40) (.bool false) rfl rfl rfl rfl rfl (fun ρ W h1 h2 => by exact r_lt h1 h2 (decide_eq_false hi)) ?_
     refine PW.nil ?_
     refine SX.then ?_
     refine SC.seq ?_
     refine SC.cond (t := false) rfl ?_
     refine SC.exit ?_
     refine SX.thenE ?_
     refine SX.thenE ?_
     refine SX.blockE ?_
     refine SX.then ?_
     refine SC.seq ?_
     refine SC.region ?_
     refine PW.move rfl rfl rfl rfl rfl ?_
     refine PW.move rfl rfl rfl rfl rfl ?_
     refine PW.callG (r := .kw (KI (sg false (pv r 0 (byl t))))) ce_made rfl rfl rfl rfl rfl (KI.st _) rfl (fun a W hf => by have h1 := hf.vl (s := 84) rfl; have h2 := hf.vl (s := 85) rfl; have own : OwF W _ _ (.int .u32) v zs := hf.ho 87 _ rfl; obtain ⟨A4, c4, e4, hc4, rd4⟩ := Own.rd own; show Calls Tryz.prog _ #[a.tmps.getD 84 undef, a.tmps.getD 85 undef] W _; rw [h1, h2, e4, show pv r 0 (byl t) = lv b32 zs by rw [hP.lv, List.take_of_length_le (by rw [byl_len]; exact Nat.le_refl _)]]; exact made_k rd4 hc4 hP.dg) ?_
     refine PW.store (x := .tmp 86) (r := .kw (KI (sg false (pv r 0 (byl t))))) rfl rfl rfl rfl rfl rfl sh_I ?_
     refine PW.assign rfl rfl rfl rfl rfl ?_
     refine PW.nil ?_
     refine SX.then ?_
     refine SC.ret ?_
     rw [form_ok (by rw [byl_len]; exact he) (fun j hj => hP.ok j (by rw [byl_len] at hj; exact hj))]
     rw [show decide (at0 (byl t) 0 = 45) = false by exact decide_eq_false (fun h9 => hm ⟨pos_of_at0 h9 (by decide), h9⟩)]
     exact SX.done2 (s := 4) (t := 5) (r := .vl (.int .i64 0)) (.inl rfl) rfl rfl rfl rfl
theorem k_parse {s : ByteArray} {r : Int} : CallOk 88 [KV (.string s), KV (.int .i64 (r))] (KPI (parseR r (byl s))) := by
 by_cases h : 2 ≤ r ∧ r ≤ 36
 ·by_cases hl : 20000 < s.size
  ·exact k_parse_long h hl
  ·exact k_parse_ok h hl
 ·exact k_parse_radix h
end Go.Proofs.YthpjmhhfcechmaaGreat.Sy
