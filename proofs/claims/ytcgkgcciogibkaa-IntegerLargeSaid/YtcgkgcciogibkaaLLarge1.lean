/- Parts Pwm, Pw, Pk, La, in one file. -/
import Derived.Lib.RabinKarpLaws
import Derived.Test.YtcgkgcciogibkaaK5
/- Powers: what their loop keeps, and how long they are. No program in sight. -/
set_option linter.unusedVariables false
set_option linter.unusedSimpArgs false
namespace Go.Proofs.Ytcgkgcciogibkaa
open Go Go.RowKit Ma
theorem natAbs_pow' (x : Int) (n : Nat) : (x ^ n).natAbs = x.natAbs ^ n := by
  induction n with
  | zero => simp
  | succ n ih => rw [Int.pow_succ, Int.natAbs_mul, ih, Nat.pow_succ]
theorem pw_bd {o b X : Int} {k m : Nat} (h : o * b ^ k = X) (hX : X ≠ 0) (hk : 1 ≤ k) (hb : bd m X) : bd m o ∧ bd m b := by
  have h1 : o.natAbs * b.natAbs ^ k = X.natAbs := by rw [← h, Int.natAbs_mul, natAbs_pow']
  have h2 : 0 < X.natAbs := by omega
  have h3 : 0 < o.natAbs := by
    rcases Nat.eq_zero_or_pos o.natAbs with e | e
    · rw [e, Nat.zero_mul] at h1; omega
    · exact e
  have h4 : 0 < b.natAbs ^ k := by
    rcases Nat.eq_zero_or_pos (b.natAbs ^ k) with e | e
    · rw [e, Nat.mul_zero] at h1; omega
    · exact e
  have h5 : o.natAbs ≤ X.natAbs := by rw [← h1]; exact Nat.le_mul_of_pos_right _ h4
  have h6 : b.natAbs ^ k ≤ X.natAbs := by rw [← h1]; exact Nat.le_mul_of_pos_left _ h3
  have h7 : b.natAbs ≤ b.natAbs ^ k := by
    obtain ⟨j, rfl⟩ : ∃ j, k = j + 1 := ⟨k - 1, by omega⟩
    rw [Nat.pow_succ]
    have h8 : 0 < b.natAbs := by
      rcases Nat.eq_zero_or_pos b.natAbs with e | e
      · rw [e, Nat.pow_succ, Nat.mul_zero] at h4; omega
      · exact e
    exact Nat.le_mul_of_pos_left _ (Nat.pow_pos h8)
  unfold bd at *
  omega
theorem pw_odd {o b X : Int} {k : Nat} (h : o * b ^ k = X) (hk : k % 2 = 1) : o * b * (b * b) ^ (k / 2) = X := by
  have e : k = 2 * (k / 2) + 1 := by omega
  rw [← h]
  conv => rhs; rw [e, Int.pow_succ, Int.pow_mul]
  rw [show b ^ 2 = b * b by rw [Int.pow_succ, Int.pow_succ, Int.pow_zero, Int.one_mul]]
  grind
theorem pw_even {o b X : Int} {k : Nat} (h : o * b ^ k = X) (hk : k % 2 = 0) : o * (b * b) ^ (k / 2) = X := by
  have e : k = 2 * (k / 2) := by omega
  rw [← h]
  conv => rhs; rw [e, Int.pow_mul]
  rw [show b ^ 2 = b * b by rw [Int.pow_succ, Int.pow_succ, Int.pow_zero, Int.one_mul]]
theorem pw_end {o b X : Int} {k : Nat} (h : o * b ^ k = X) (hk : k = 1) : o * b = X := by
  rw [hk] at h
  simpa [Int.pow_succ] using h
/-- How long a power is. -/
theorem wid_nat (z : Int) (h : 0 ≤ z) : pat z = z := by unfold pat; rw [if_neg (by omega)]
theorem pw_size {x : Int} {s : Nat} (hx : 2 ≤ x.natAbs) (hs : wid (pat (x.natAbs : Int)) = s + 1) : 2 ^ s ≤ x.natAbs ∧ x.natAbs < 2 ^ (s + 1) := by
  rw [wid_nat _ (by omega)] at hs
  have h1 := wid_le (z := (x.natAbs : Int)) (by omega)
  have h2 := wid_lt (x.natAbs : Int)
  rw [hs] at h1 h2
  rw [Nat.add_sub_cancel] at h1
  exact ⟨by exact_mod_cast h1, by exact_mod_cast h2⟩
theorem wid_big {z : Int} {M : Nat} (h : 2 ^ (M + 1) ≤ z.natAbs) : M < wid (pat z) := by
  have h5 : 2 ^ (M + 1) = 2 * 2 ^ M := by rw [Nat.pow_succ, Nat.mul_comm]
  have h6 : 0 < 2 ^ M := Nat.pow_pos (by decide)
  apply Classical.byContradiction
  intro hc
  have h7 := wid_lt (pat z)
  have h8 : (2 : Int) ^ wid (pat z) ≤ 2 ^ M := pow_le (by decide) (by omega)
  have h9 : pat z < ((2 ^ M : Nat) : Int) := by
    have : ((2 ^ M : Nat) : Int) = 2 ^ M := by rw [Int.natCast_pow]; rfl
    omega
  rw [h5] at h
  generalize (2 ^ M : Nat) = P at *
  unfold pat at h9
  split at h9 <;> omega
theorem bd_small {z : Int} {m : Nat} (h : z.natAbs ≤ 2 ^ (32 * m)) : bd (m + 1) z := by
  have h6 : (2 : Nat) ^ (32 * (m + 1)) = 2 ^ (32 * m) * 4294967296 := by rw [Nat.mul_add, Nat.pow_add]
  have h7 : 0 < 2 ^ (32 * m) := Nat.pow_pos (by decide)
  rw [bd2]
  have e : (2 : Int) ^ (32 * (m + 1)) = ((2 ^ (32 * (m + 1)) : Nat) : Int) := by rw [Int.natCast_pow]; rfl
  rw [e, h6]
  generalize (2 : Nat) ^ (32 * m) = P at *
  omega
theorem pw_large {x : Int} {n s : Nat} (hx : 2 ≤ x.natAbs) (hs : wid (pat (x.natAbs : Int)) = s + 1) (hs1 : 1 ≤ s) (hq : 65536 / s < n) : 65536 < wid (pat (x ^ n)) := by
  have h1 := (pw_size hx hs).1
  have h2 : 2 ^ (s * n) ≤ (x ^ n).natAbs := by rw [natAbs_pow', Nat.pow_mul]; exact Nat.pow_le_pow_left h1 n
  have h3 : 65536 < s * n := by
    have := Nat.lt_mul_of_div_lt hq hs1
    rwa [Nat.mul_comm] at this
  have key : ∀ M : Nat, M < s * n → M < wid (pat (x ^ n)) := fun M h => wid_big (Nat.le_trans (Nat.pow_le_pow_right (by decide) h) h2)
  exact key _ h3
theorem pw_bits {x : Int} {n s : Nat} (hx : 2 ≤ x.natAbs) (hs : wid (pat (x.natAbs : Int)) = s + 1) (hs1 : 1 ≤ s) (hq : ¬ 65536 / s < n) : bd 4097 (x ^ n) ∧ x ^ n ≠ 0 := by
  have h1 := (pw_size hx hs).2
  have h2 : (x ^ n).natAbs ≤ 2 ^ ((s + 1) * n) := by rw [natAbs_pow', Nat.pow_mul]; exact Nat.pow_le_pow_left (by omega) n
  have h3 : s * n ≤ 65536 := by
    have h4 : n ≤ 65536 / s := by omega
    have := (Nat.le_div_iff_mul_le hs1).1 h4
    rwa [Nat.mul_comm] at this
  have h4 : (s + 1) * n ≤ 32 * 4096 := by
    rw [Nat.add_mul, Nat.one_mul]
    have : n ≤ s * n := Nat.le_mul_of_pos_left n hs1
    omega
  have key : ∀ m : Nat, (s + 1) * n ≤ 32 * m → bd (m + 1) (x ^ n) := fun m h => bd_small (Nat.le_trans h2 (Nat.pow_le_pow_right (by decide) h))
  refine ⟨key _ h4, ?_⟩
  intro e
  have h8 : 0 < (x ^ n).natAbs := by rw [natAbs_pow']; exact Nat.pow_pos (by omega)
  rw [e] at h8
  simp at h8
theorem bd.zero {a : Nat} : bd a 0 := by
  have := pos_pow (b := b32) (by decide) a
  unfold bd; omega
theorem bd.abs {a : Nat} {x : Int} (h : bd a x) : bd a (x.natAbs : Int) := by unfold bd at *; omega
end Go.Proofs.Ytcgkgcciogibkaa
/- The contract of the program's Power, by rules. -/
set_option linter.unusedVariables false
set_option linter.unusedSimpArgs false
namespace Go.Proofs.Ytcgkgcciogibkaa.Sy
open Go Go.RowKit Ma
theorem ce_power : CE 62 := fun args W => by go_simp
theorem and1_run {k : Nat} {x y : Operand} {dst : Option Tmp} {ty : TypeId} {pos : String} {after : Array Edge} {guard : Option (Nat × Bool)} {ρ : Operand → Value} {W : World} (h1 : ρ x = .int .i64 (k : Int)) (h2 : ρ y = .int .i64 1) (hk : k < 9223372036854775808) :
    (execOp ρ ⟨dst, .binOp .and 3 x y 3, ty, pos, after, guard⟩).run Try.prog W = .ok (.value (.int .i64 ((k % 2 : Nat) : Int))) W := by
  rw [← Go.Proofs.and_one k hk]
  go_simp
theorem quo_run {s m : Nat} {x y : Operand} {dst : Option Tmp} {ty : TypeId} {pos : String} {after : Array Edge} {guard : Option (Nat × Bool)} {ρ : Operand → Value} {W : World} (h1 : ρ x = .int .i64 65536) (h2 : ρ y = .int .i64 (s : Int)) (hs : 1 ≤ s) (hm : 65536 / s = m) :
    (execOp ρ ⟨dst, .binOp .quo 3 x y 3, ty, pos, after, guard⟩).run Try.prog W = .ok (.value (.int .i64 (m : Int))) W := by
  have h3 : ¬ (s : Int) = 0 := by omega
  have e : (m : Int) = 65536 / (s : Int) := by rw [← hm]; exact Int.natCast_ediv _ _
  have b1 : (0 : Int) ≤ 65536 / (s : Int) := Int.ediv_nonneg (by decide) (by omega)
  have b2 : (65536 : Int) / (s : Int) ≤ 65536 := Int.ediv_le_self _ (by decide)
  rw [e]
  clear e hm
  go_simp
  rw [if_neg (by omega), show Int.tdiv 65536 (s : Int) = 65536 / (s : Int) from Int.tdiv_eq_ediv_of_nonneg (by decide), IntWalk.i64_in _ ⟨by omega, by omega⟩]
set_option maxHeartbeats 1600000 in
theorem power_neg {x n : Int} (hn : n < 0) : CallOk 62 [KI x, KV (.int .i64 n)] (K2 (KI 0) (KV (.int .i64 1))) := by
  refine CallOk.enter (l := [.kw (KI x), .vl (.int .i64 n)]) 72 ce_power Try.func62 rfl Try.ntmps62 (by simp) ⟨KI.st _, rfl, KV.st _, rfl, trivial⟩ fun w => ?_
  refine SC.seq ?_
  refine SC.region ?_
  refine PW.box (x := .tmp 0) (r := .kw (KI (x))) (BI 28) rfl rfl rfl rfl rfl bI rfl sh_I ?_
  refine PW.alloc (BI 28) rfl rfl rfl rfl rfl bI ?_
  refine PW.assign rfl rfl rfl rfl rfl ?_
  refine PW.nil ?_
  refine SX.then ?_
  refine SC.seq ?_
  refine SC.seq ?_
  refine SC.region ?_
  refine PW.move rfl rfl rfl rfl rfl ?_
  refine PW.q2 (x := .tmp 11) (y := .const (.int .i64 0)) (.bool true) rfl rfl rfl rfl rfl (fun ρ W h1 h2 => by first | (go_simp; done) | (go_simp; rw [Int.tmod_eq_emod_of_nonneg (by omega)]; exact IntWalk.i64_in _ (by omega)) | (go_simp; omega)) ?_
  refine PW.nil ?_
  refine SX.then ?_
  refine SC.cond (t := true) rfl ?_
  refine SC.seq ?_
  refine SC.region ?_
  refine PW.val (r := .kw (KI (0))) rfl rfl rfl rfl (fun a W hf => ⟨.agg #[.bool false, .slice none 0 0], by go_simp, zeroI _ W W⟩) ?_
  refine PW.store (x := .tmp 13) (r := .kw (KI (0))) rfl rfl rfl rfl rfl rfl sh_I ?_
  refine PW.assign rfl rfl rfl rfl rfl ?_
  refine PW.nil ?_
  refine SX.then ?_
  refine SC.ret ?_
  refine SX.thenR ?_
  exact SX.done2 (s := 4) (t := 5) (r := .vl (.int .i64 1)) (.inl rfl) rfl rfl rfl rfl

set_option maxHeartbeats 1600000 in
theorem power_zero {x : Int} : CallOk 62 [KI x, KV (.int .i64 0)] (K2 (KI 1) (KV (.int .i64 0))) := by
  refine CallOk.enter (l := [.kw (KI x), .vl (.int .i64 0)]) 72 ce_power Try.func62 rfl Try.ntmps62 (by simp) ⟨KI.st _, rfl, KV.st _, rfl, trivial⟩ fun w => ?_
  refine SC.seq ?_
  refine SC.region ?_
  refine PW.box (x := .tmp 0) (r := .kw (KI (x))) (BI 28) rfl rfl rfl rfl rfl bI rfl sh_I ?_
  refine PW.alloc (BI 28) rfl rfl rfl rfl rfl bI ?_
  refine PW.assign rfl rfl rfl rfl rfl ?_
  refine PW.nil ?_
  refine SX.then ?_
  refine SC.seq ?_
  refine SC.seq ?_
  refine SC.region ?_
  refine PW.move rfl rfl rfl rfl rfl ?_
  refine PW.q2 (x := .tmp 11) (y := .const (.int .i64 0)) (.bool false) rfl rfl rfl rfl rfl (fun ρ W h1 h2 => by first | (go_simp; done) | (go_simp; rw [Int.tmod_eq_emod_of_nonneg (by omega)]; exact IntWalk.i64_in _ (by omega)) | (go_simp; omega)) ?_
  refine PW.nil ?_
  refine SX.then ?_
  refine SC.cond (t := false) rfl ?_
  refine SC.skip ?_
  refine SX.then ?_
  refine SC.seq ?_
  refine SC.region ?_
  refine PW.call (r := .kw (KI (1))) rfl rfl rfl rfl rfl rfl (KI.st _) rfl (k_new (by decide)) ?_
  refine PW.alloc (BI 28) rfl rfl rfl rfl rfl bI ?_
  refine PW.store (x := .tmp 14) (r := .kw (KI (1))) rfl rfl rfl rfl rfl rfl sh_I ?_
  refine PW.nil ?_
  refine SX.then ?_
  refine SC.seq ?_
  refine SC.seq ?_
  refine SC.dx [.val 15 (.vl (.int .i64 0)), .val 16 (.vl (.bool true)), .val 17 (.vl (.bool true)), .val 18 (.vl (undef)), .val 19 (.vl (undef)), .val 20 (.vl (undef)), .val 21 (.vl (undef)), .val 22 (.vl (undef)), .val 23 (.vl (.bool true))] [([], [1]), ([0], []), ([1], []), ([2], []), ([2], []), ([2], []), ([2], []), ([2], []), ([2], [])] rfl (by kernel_rfl) (by kernel_rfl) (by kernel_rfl) ⟨?_, ?_, ?_, ?_, ?_, ?_, ?_, ?_, ?_, trivial⟩ ?_
  · exact DX.move rfl rfl rfl rfl rfl rfl
  · exact DX.q2 (x := .tmp 15) (y := .const (.int .i64 0)) (.bool true) rfl rfl rfl rfl rfl (fun ρ W h1 h2 => by first | (go_simp; done) | (go_simp; rw [Int.tmod_eq_emod_of_nonneg (by omega)]; exact IntWalk.i64_in _ (by omega)) | (go_simp; omega))
  · exact DX.move rfl rfl rfl rfl rfl rfl
  · exact DX.skip rfl rfl rfl
  · exact DX.skip rfl rfl rfl
  · exact DX.skip rfl rfl rfl
  · exact DX.skip rfl rfl rfl
  · exact DX.skip rfl rfl rfl
  · exact DX.pick (t := true) rfl rfl rfl rfl rfl rfl rfl
  refine SX.then ?_
  refine SC.cond (t := true) rfl ?_
  refine SC.seq ?_
  refine SC.block ?_
  refine SC.seq ?_
  refine SC.region ?_
  refine PW.move rfl rfl rfl rfl rfl ?_
  refine PW.q2 (x := .tmp 25) (y := .const (.int .i64 0)) (.bool true) rfl rfl rfl rfl rfl (fun ρ W h1 h2 => by first | (go_simp; done) | (go_simp; rw [Int.tmod_eq_emod_of_nonneg (by omega)]; exact IntWalk.i64_in _ (by omega)) | (go_simp; omega)) ?_
  refine PW.move rfl rfl rfl rfl rfl ?_
  refine PW.skip rfl rfl rfl ?_
  refine PW.skip rfl rfl rfl ?_
  refine PW.skip rfl rfl rfl ?_
  refine PW.skip rfl rfl rfl ?_
  refine PW.skip rfl rfl rfl ?_
  refine PW.skip rfl rfl rfl ?_
  refine PW.skip rfl rfl rfl ?_
  refine PW.pick (t := true) rfl rfl rfl rfl rfl rfl ?_
  refine PW.assign rfl rfl rfl rfl rfl ?_
  refine PW.nil ?_
  refine SX.then ?_
  refine SC.cond (t := true) rfl ?_
  refine SC.seq ?_
  refine SC.region ?_
  refine PW.load rfl rfl rfl rfl rfl rfl ?_
  refine PW.store (x := .tmp 36) (r := .kw (KI (1))) rfl rfl rfl rfl rfl rfl sh_I ?_
  refine PW.assign rfl rfl rfl rfl rfl ?_
  refine PW.nil ?_
  refine SX.then ?_
  refine SC.ret ?_
  refine SX.blockR ?_
  refine SX.thenR ?_
  refine SX.thenR ?_
  exact SX.done2 (s := 4) (t := 5) (r := .vl (.int .i64 0)) (.inl rfl) rfl rfl rfl rfl

set_option maxHeartbeats 1600000 in
theorem power_01 {x n : Int} (hx : 0 ≤ x) (hc : cmp (x.natAbs : Int) 1 ≤ 0) (hn : 1 ≤ n) (hn2 : n ≤ 9223372036854775807) : CallOk 62 [KI x, KV (.int .i64 n)] (K2 (KI x) (KV (.int .i64 0))) := by
  refine CallOk.enter (l := [.kw (KI x), .vl (.int .i64 n)]) 72 ce_power Try.func62 rfl Try.ntmps62 (by simp) ⟨KI.st _, rfl, KV.st _, rfl, trivial⟩ fun w => ?_
  refine SC.seq ?_
  refine SC.region ?_
  refine PW.box (x := .tmp 0) (r := .kw (KI (x))) (BI 28) rfl rfl rfl rfl rfl bI rfl sh_I ?_
  refine PW.alloc (BI 28) rfl rfl rfl rfl rfl bI ?_
  refine PW.assign rfl rfl rfl rfl rfl ?_
  refine PW.nil ?_
  refine SX.then ?_
  refine SC.seq ?_
  refine SC.seq ?_
  refine SC.region ?_
  refine PW.move rfl rfl rfl rfl rfl ?_
  refine PW.q2 (x := .tmp 11) (y := .const (.int .i64 0)) (.bool false) rfl rfl rfl rfl rfl (fun ρ W h1 h2 => by first | (go_simp; done) | (go_simp; rw [Int.tmod_eq_emod_of_nonneg (by omega)]; exact IntWalk.i64_in _ (by omega)) | (go_simp; omega)) ?_
  refine PW.nil ?_
  refine SX.then ?_
  refine SC.cond (t := false) rfl ?_
  refine SC.skip ?_
  refine SX.then ?_
  refine SC.seq ?_
  refine SC.region ?_
  refine PW.call (r := .kw (KI (1))) rfl rfl rfl rfl rfl rfl (KI.st _) rfl (k_new (by decide)) ?_
  refine PW.alloc (BI 28) rfl rfl rfl rfl rfl bI ?_
  refine PW.store (x := .tmp 14) (r := .kw (KI (1))) rfl rfl rfl rfl rfl rfl sh_I ?_
  refine PW.nil ?_
  refine SX.then ?_
  refine SC.seq ?_
  refine SC.seq ?_
  refine SC.dx [.val 15 (.vl (.int .i64 n)), .val 16 (.vl (.bool false)), .val 17 (.vl (.bool false)), .val 18 (.kw (KI (x))), .val 19 (.kw (KI ((x.natAbs : Int)))), .val 20 (.kw (KI (1))), .val 21 (.vl (.int .i64 (cmp (x.natAbs : Int) 1))), .val 22 (.vl (.bool true)), .val 23 (.vl (.bool true))] [([], [1]), ([0], []), ([1], []), ([2], [2]), ([3, 2], []), ([2], [6]), ([4, 5, 2], []), ([6, 2], []), ([2, 7], [])] rfl (by kernel_rfl) (by kernel_rfl) (by kernel_rfl) ⟨?_, ?_, ?_, ?_, ?_, ?_, ?_, ?_, ?_, trivial⟩ ?_
  · exact DX.move rfl rfl rfl rfl rfl rfl
  · exact DX.q2 (x := .tmp 15) (y := .const (.int .i64 0)) (.bool false) rfl rfl rfl rfl rfl (fun ρ W h1 h2 => by first | (go_simp; done) | (go_simp; rw [Int.tmod_eq_emod_of_nonneg (by omega)]; exact IntWalk.i64_in _ (by omega)) | (go_simp; omega))
  · exact DX.move rfl rfl rfl rfl rfl rfl
  · exact DX.load rfl rfl rfl rfl rfl rfl
  · exact DX.call (r := .kw (KI ((x.natAbs : Int)))) rfl rfl rfl rfl rfl rfl (KI.st _) rfl (k_abs)
  · exact DX.load rfl rfl rfl rfl rfl rfl
  · exact DX.call (r := .vl (.int .i64 (cmp (x.natAbs : Int) 1))) rfl rfl rfl rfl rfl rfl (KV.st _) rfl (k_cmp (rfl))
  · exact DX.q2 (x := .tmp 21) (y := .const (.int .i64 0)) (.bool true) rfl rfl rfl rfl rfl (fun ρ W h1 h2 => by first | (go_simp; done) | (go_simp; exact hc))
  · exact DX.pick (t := false) rfl rfl rfl rfl rfl rfl rfl
  refine SX.then ?_
  refine SC.cond (t := true) rfl ?_
  refine SC.seq ?_
  refine SC.block ?_
  refine SC.seq ?_
  refine SC.region ?_
  refine PW.move rfl rfl rfl rfl rfl ?_
  refine PW.q2 (x := .tmp 25) (y := .const (.int .i64 0)) (.bool false) rfl rfl rfl rfl rfl (fun ρ W h1 h2 => by first | (go_simp; done) | (go_simp; rw [Int.tmod_eq_emod_of_nonneg (by omega)]; exact IntWalk.i64_in _ (by omega)) | (go_simp; omega)) ?_
  refine PW.move rfl rfl rfl rfl rfl ?_
  refine PW.fld (r := .vl (.bool false)) rfl rfl rfl rfl rfl rfl rfl rfl rfl rfl rfl (fun v W p hh hk => by obtain ⟨q, u, h1, h2, h3⟩ := fldI0 v W p hh hk; exact ⟨q, u, h1, h2, by rw [h3]; show Value.bool _ = _; rw [decide_eq_false (by omega)]⟩) (KV.st _) ?_
  refine PW.move rfl rfl rfl rfl rfl ?_
  refine PW.skip rfl rfl rfl ?_
  refine PW.skip rfl rfl rfl ?_
  refine PW.skip rfl rfl rfl ?_
  refine PW.pick (t := false) rfl rfl rfl rfl rfl rfl ?_
  refine PW.pick (t := false) rfl rfl rfl rfl rfl rfl ?_
  refine PW.assign rfl rfl rfl rfl rfl ?_
  refine PW.nil ?_
  refine SX.then ?_
  refine SC.cond (t := false) rfl ?_
  refine SC.skip ?_
  refine SX.blockN ?_
  refine SX.then ?_
  refine SC.seq ?_
  refine SC.region ?_
  refine PW.load rfl rfl rfl rfl rfl rfl ?_
  refine PW.store (x := .tmp 37) (r := .kw (KI (x))) rfl rfl rfl rfl rfl rfl sh_I ?_
  refine PW.assign rfl rfl rfl rfl rfl ?_
  refine PW.nil ?_
  refine SX.then ?_
  refine SC.ret ?_
  refine SX.thenR ?_
  exact SX.done2 (s := 4) (t := 5) (r := .vl (.int .i64 0)) (.inl rfl) rfl rfl rfl rfl

set_option maxHeartbeats 1600000 in
theorem power_m1e {x n : Int} (hx : x < 0) (hc : cmp (x.natAbs : Int) 1 ≤ 0) (hn : 1 ≤ n) (hn2 : n ≤ 9223372036854775807) (hp : n % 2 = 0) : CallOk 62 [KI x, KV (.int .i64 n)] (K2 (KI 1) (KV (.int .i64 0))) := by
  refine CallOk.enter (l := [.kw (KI x), .vl (.int .i64 n)]) 72 ce_power Try.func62 rfl Try.ntmps62 (by simp) ⟨KI.st _, rfl, KV.st _, rfl, trivial⟩ fun w => ?_
  refine SC.seq ?_
  refine SC.region ?_
  refine PW.box (x := .tmp 0) (r := .kw (KI (x))) (BI 28) rfl rfl rfl rfl rfl bI rfl sh_I ?_
  refine PW.alloc (BI 28) rfl rfl rfl rfl rfl bI ?_
  refine PW.assign rfl rfl rfl rfl rfl ?_
  refine PW.nil ?_
  refine SX.then ?_
  refine SC.seq ?_
  refine SC.seq ?_
  refine SC.region ?_
  refine PW.move rfl rfl rfl rfl rfl ?_
  refine PW.q2 (x := .tmp 11) (y := .const (.int .i64 0)) (.bool false) rfl rfl rfl rfl rfl (fun ρ W h1 h2 => by first | (go_simp; done) | (go_simp; rw [Int.tmod_eq_emod_of_nonneg (by omega)]; exact IntWalk.i64_in _ (by omega)) | (go_simp; omega)) ?_
  refine PW.nil ?_
  refine SX.then ?_
  refine SC.cond (t := false) rfl ?_
  refine SC.skip ?_
  refine SX.then ?_
  refine SC.seq ?_
  refine SC.region ?_
  refine PW.call (r := .kw (KI (1))) rfl rfl rfl rfl rfl rfl (KI.st _) rfl (k_new (by decide)) ?_
  refine PW.alloc (BI 28) rfl rfl rfl rfl rfl bI ?_
  refine PW.store (x := .tmp 14) (r := .kw (KI (1))) rfl rfl rfl rfl rfl rfl sh_I ?_
  refine PW.nil ?_
  refine SX.then ?_
  refine SC.seq ?_
  refine SC.seq ?_
  refine SC.dx [.val 15 (.vl (.int .i64 n)), .val 16 (.vl (.bool false)), .val 17 (.vl (.bool false)), .val 18 (.kw (KI (x))), .val 19 (.kw (KI ((x.natAbs : Int)))), .val 20 (.kw (KI (1))), .val 21 (.vl (.int .i64 (cmp (x.natAbs : Int) 1))), .val 22 (.vl (.bool true)), .val 23 (.vl (.bool true))] [([], [1]), ([0], []), ([1], []), ([2], [2]), ([3, 2], []), ([2], [6]), ([4, 5, 2], []), ([6, 2], []), ([2, 7], [])] rfl (by kernel_rfl) (by kernel_rfl) (by kernel_rfl) ⟨?_, ?_, ?_, ?_, ?_, ?_, ?_, ?_, ?_, trivial⟩ ?_
  · exact DX.move rfl rfl rfl rfl rfl rfl
  · exact DX.q2 (x := .tmp 15) (y := .const (.int .i64 0)) (.bool false) rfl rfl rfl rfl rfl (fun ρ W h1 h2 => by first | (go_simp; done) | (go_simp; rw [Int.tmod_eq_emod_of_nonneg (by omega)]; exact IntWalk.i64_in _ (by omega)) | (go_simp; omega))
  · exact DX.move rfl rfl rfl rfl rfl rfl
  · exact DX.load rfl rfl rfl rfl rfl rfl
  · exact DX.call (r := .kw (KI ((x.natAbs : Int)))) rfl rfl rfl rfl rfl rfl (KI.st _) rfl (k_abs)
  · exact DX.load rfl rfl rfl rfl rfl rfl
  · exact DX.call (r := .vl (.int .i64 (cmp (x.natAbs : Int) 1))) rfl rfl rfl rfl rfl rfl (KV.st _) rfl (k_cmp (rfl))
  · exact DX.q2 (x := .tmp 21) (y := .const (.int .i64 0)) (.bool true) rfl rfl rfl rfl rfl (fun ρ W h1 h2 => by first | (go_simp; done) | (go_simp; exact hc))
  · exact DX.pick (t := false) rfl rfl rfl rfl rfl rfl rfl
  refine SX.then ?_
  refine SC.cond (t := true) rfl ?_
  refine SC.seq ?_
  refine SC.block ?_
  refine SC.seq ?_
  refine SC.region ?_
  refine PW.move rfl rfl rfl rfl rfl ?_
  refine PW.q2 (x := .tmp 25) (y := .const (.int .i64 0)) (.bool false) rfl rfl rfl rfl rfl (fun ρ W h1 h2 => by first | (go_simp; done) | (go_simp; rw [Int.tmod_eq_emod_of_nonneg (by omega)]; exact IntWalk.i64_in _ (by omega)) | (go_simp; omega)) ?_
  refine PW.move rfl rfl rfl rfl rfl ?_
  refine PW.fld (r := .vl (.bool true)) rfl rfl rfl rfl rfl rfl rfl rfl rfl rfl rfl (fun v W p hh hk => by obtain ⟨q, u, h1, h2, h3⟩ := fldI0 v W p hh hk; exact ⟨q, u, h1, h2, by rw [h3]; show Value.bool _ = _; rw [decide_eq_true (by omega)]⟩) (KV.st _) ?_
  refine PW.move rfl rfl rfl rfl rfl ?_
  refine PW.move rfl rfl rfl rfl rfl ?_
  refine PW.q2 (x := .tmp 31) (y := .const (.int .i64 2)) (.int .i64 0) rfl rfl rfl rfl rfl (fun ρ W h1 h2 => by have ht : n.tmod 2 = n % 2 := Int.tmod_eq_emod_of_nonneg (by omega); rw [hp] at ht; go_simp; first | done | exact IntWalk.i64_in _ (by omega)) ?_
  refine PW.q2 (x := .tmp 32) (y := .const (.int .i64 0)) (.bool true) rfl rfl rfl rfl rfl (fun ρ W h1 h2 => by go_simp) ?_
  refine PW.pick (t := true) rfl rfl rfl rfl rfl rfl ?_
  refine PW.pick (t := false) rfl rfl rfl rfl rfl rfl ?_
  refine PW.assign rfl rfl rfl rfl rfl ?_
  refine PW.nil ?_
  refine SX.then ?_
  refine SC.cond (t := true) rfl ?_
  refine SC.seq ?_
  refine SC.region ?_
  refine PW.load rfl rfl rfl rfl rfl rfl ?_
  refine PW.store (x := .tmp 36) (r := .kw (KI (1))) rfl rfl rfl rfl rfl rfl sh_I ?_
  refine PW.assign rfl rfl rfl rfl rfl ?_
  refine PW.nil ?_
  refine SX.then ?_
  refine SC.ret ?_
  refine SX.blockR ?_
  refine SX.thenR ?_
  refine SX.thenR ?_
  exact SX.done2 (s := 4) (t := 5) (r := .vl (.int .i64 0)) (.inl rfl) rfl rfl rfl rfl

set_option maxHeartbeats 1600000 in
theorem power_m1o {x n : Int} (hx : x < 0) (hc : cmp (x.natAbs : Int) 1 ≤ 0) (hn : 1 ≤ n) (hn2 : n ≤ 9223372036854775807) (hp : n % 2 = 1) : CallOk 62 [KI x, KV (.int .i64 n)] (K2 (KI x) (KV (.int .i64 0))) := by
  refine CallOk.enter (l := [.kw (KI x), .vl (.int .i64 n)]) 72 ce_power Try.func62 rfl Try.ntmps62 (by simp) ⟨KI.st _, rfl, KV.st _, rfl, trivial⟩ fun w => ?_
  refine SC.seq ?_
  refine SC.region ?_
  refine PW.box (x := .tmp 0) (r := .kw (KI (x))) (BI 28) rfl rfl rfl rfl rfl bI rfl sh_I ?_
  refine PW.alloc (BI 28) rfl rfl rfl rfl rfl bI ?_
  refine PW.assign rfl rfl rfl rfl rfl ?_
  refine PW.nil ?_
  refine SX.then ?_
  refine SC.seq ?_
  refine SC.seq ?_
  refine SC.region ?_
  refine PW.move rfl rfl rfl rfl rfl ?_
  refine PW.q2 (x := .tmp 11) (y := .const (.int .i64 0)) (.bool false) rfl rfl rfl rfl rfl (fun ρ W h1 h2 => by first | (go_simp; done) | (go_simp; rw [Int.tmod_eq_emod_of_nonneg (by omega)]; exact IntWalk.i64_in _ (by omega)) | (go_simp; omega)) ?_
  refine PW.nil ?_
  refine SX.then ?_
  refine SC.cond (t := false) rfl ?_
  refine SC.skip ?_
  refine SX.then ?_
  refine SC.seq ?_
  refine SC.region ?_
  refine PW.call (r := .kw (KI (1))) rfl rfl rfl rfl rfl rfl (KI.st _) rfl (k_new (by decide)) ?_
  refine PW.alloc (BI 28) rfl rfl rfl rfl rfl bI ?_
  refine PW.store (x := .tmp 14) (r := .kw (KI (1))) rfl rfl rfl rfl rfl rfl sh_I ?_
  refine PW.nil ?_
  refine SX.then ?_
  refine SC.seq ?_
  refine SC.seq ?_
  refine SC.dx [.val 15 (.vl (.int .i64 n)), .val 16 (.vl (.bool false)), .val 17 (.vl (.bool false)), .val 18 (.kw (KI (x))), .val 19 (.kw (KI ((x.natAbs : Int)))), .val 20 (.kw (KI (1))), .val 21 (.vl (.int .i64 (cmp (x.natAbs : Int) 1))), .val 22 (.vl (.bool true)), .val 23 (.vl (.bool true))] [([], [1]), ([0], []), ([1], []), ([2], [2]), ([3, 2], []), ([2], [6]), ([4, 5, 2], []), ([6, 2], []), ([2, 7], [])] rfl (by kernel_rfl) (by kernel_rfl) (by kernel_rfl) ⟨?_, ?_, ?_, ?_, ?_, ?_, ?_, ?_, ?_, trivial⟩ ?_
  · exact DX.move rfl rfl rfl rfl rfl rfl
  · exact DX.q2 (x := .tmp 15) (y := .const (.int .i64 0)) (.bool false) rfl rfl rfl rfl rfl (fun ρ W h1 h2 => by first | (go_simp; done) | (go_simp; rw [Int.tmod_eq_emod_of_nonneg (by omega)]; exact IntWalk.i64_in _ (by omega)) | (go_simp; omega))
  · exact DX.move rfl rfl rfl rfl rfl rfl
  · exact DX.load rfl rfl rfl rfl rfl rfl
  · exact DX.call (r := .kw (KI ((x.natAbs : Int)))) rfl rfl rfl rfl rfl rfl (KI.st _) rfl (k_abs)
  · exact DX.load rfl rfl rfl rfl rfl rfl
  · exact DX.call (r := .vl (.int .i64 (cmp (x.natAbs : Int) 1))) rfl rfl rfl rfl rfl rfl (KV.st _) rfl (k_cmp (rfl))
  · exact DX.q2 (x := .tmp 21) (y := .const (.int .i64 0)) (.bool true) rfl rfl rfl rfl rfl (fun ρ W h1 h2 => by first | (go_simp; done) | (go_simp; exact hc))
  · exact DX.pick (t := false) rfl rfl rfl rfl rfl rfl rfl
  refine SX.then ?_
  refine SC.cond (t := true) rfl ?_
  refine SC.seq ?_
  refine SC.block ?_
  refine SC.seq ?_
  refine SC.region ?_
  refine PW.move rfl rfl rfl rfl rfl ?_
  refine PW.q2 (x := .tmp 25) (y := .const (.int .i64 0)) (.bool false) rfl rfl rfl rfl rfl (fun ρ W h1 h2 => by first | (go_simp; done) | (go_simp; rw [Int.tmod_eq_emod_of_nonneg (by omega)]; exact IntWalk.i64_in _ (by omega)) | (go_simp; omega)) ?_
  refine PW.move rfl rfl rfl rfl rfl ?_
  refine PW.fld (r := .vl (.bool true)) rfl rfl rfl rfl rfl rfl rfl rfl rfl rfl rfl (fun v W p hh hk => by obtain ⟨q, u, h1, h2, h3⟩ := fldI0 v W p hh hk; exact ⟨q, u, h1, h2, by rw [h3]; show Value.bool _ = _; rw [decide_eq_true (by omega)]⟩) (KV.st _) ?_
  refine PW.move rfl rfl rfl rfl rfl ?_
  refine PW.move rfl rfl rfl rfl rfl ?_
  refine PW.q2 (x := .tmp 31) (y := .const (.int .i64 2)) (.int .i64 1) rfl rfl rfl rfl rfl (fun ρ W h1 h2 => by have ht : n.tmod 2 = n % 2 := Int.tmod_eq_emod_of_nonneg (by omega); rw [hp] at ht; go_simp; first | done | exact IntWalk.i64_in _ (by omega)) ?_
  refine PW.q2 (x := .tmp 32) (y := .const (.int .i64 0)) (.bool false) rfl rfl rfl rfl rfl (fun ρ W h1 h2 => by go_simp) ?_
  refine PW.pick (t := true) rfl rfl rfl rfl rfl rfl ?_
  refine PW.pick (t := false) rfl rfl rfl rfl rfl rfl ?_
  refine PW.assign rfl rfl rfl rfl rfl ?_
  refine PW.nil ?_
  refine SX.then ?_
  refine SC.cond (t := false) rfl ?_
  refine SC.skip ?_
  refine SX.blockN ?_
  refine SX.then ?_
  refine SC.seq ?_
  refine SC.region ?_
  refine PW.load rfl rfl rfl rfl rfl rfl ?_
  refine PW.store (x := .tmp 37) (r := .kw (KI (x))) rfl rfl rfl rfl rfl rfl sh_I ?_
  refine PW.assign rfl rfl rfl rfl rfl ?_
  refine PW.nil ?_
  refine SX.then ?_
  refine SC.ret ?_
  refine SX.thenR ?_
  exact SX.done2 (s := 4) (t := 5) (r := .vl (.int .i64 0)) (.inl rfl) rfl rfl rfl rfl

set_option maxHeartbeats 1600000 in
theorem power_big {x : Int} {n s m : Nat} (hm : 65536 / s = m) (hx : 2 ≤ x.natAbs) (hc : 0 < cmp (x.natAbs : Int) 1) {a : Nat} (X : bd a x) (ha : a ≤ 100000) (hn : 1 ≤ n) (hn2 : n ≤ 9223372036854775807) (hs : wid (pat (x.natAbs : Int)) = s + 1) (hs1 : 1 ≤ s) (hs2 : s ≤ 9223372036854775806) : CallOk 62 [KI x, KV (.int .i64 (n : Int))] (if wid (pat (x ^ n)) ≤ 65536 then K2 (KI (x ^ n)) (KV (.int .i64 0)) else K2 (KI 0) (KV (.int .i64 14))) := by
  refine CallOk.enter (l := [.kw (KI x), .vl (.int .i64 (n : Int))]) 72 ce_power Try.func62 rfl Try.ntmps62 (by simp) ⟨KI.st _, rfl, KV.st _, rfl, trivial⟩ fun w => ?_
  refine SC.seq ?_
  refine SC.region ?_
  refine PW.box (x := .tmp 0) (r := .kw (KI (x))) (BI 28) rfl rfl rfl rfl rfl bI rfl sh_I ?_
  refine PW.alloc (BI 28) rfl rfl rfl rfl rfl bI ?_
  refine PW.assign rfl rfl rfl rfl rfl ?_
  refine PW.nil ?_
  refine SX.then ?_
  refine SC.seq ?_
  refine SC.seq ?_
  refine SC.region ?_
  refine PW.move rfl rfl rfl rfl rfl ?_
  refine PW.q2 (x := .tmp 11) (y := .const (.int .i64 0)) (.bool false) rfl rfl rfl rfl rfl (fun ρ W h1 h2 => by first | (go_simp; done) | (go_simp; rw [Int.tmod_eq_emod_of_nonneg (by omega)]; exact IntWalk.i64_in _ (by omega)) | (go_simp; omega)) ?_
  refine PW.nil ?_
  refine SX.then ?_
  refine SC.cond (t := false) rfl ?_
  refine SC.skip ?_
  refine SX.then ?_
  refine SC.seq ?_
  refine SC.region ?_
  refine PW.call (r := .kw (KI (1))) rfl rfl rfl rfl rfl rfl (KI.st _) rfl (k_new (by decide)) ?_
  refine PW.alloc (BI 28) rfl rfl rfl rfl rfl bI ?_
  refine PW.store (x := .tmp 14) (r := .kw (KI (1))) rfl rfl rfl rfl rfl rfl sh_I ?_
  refine PW.nil ?_
  refine SX.then ?_
  refine SC.seq ?_
  refine SC.seq ?_
  refine SC.dx [.val 15 (.vl (.int .i64 (n : Int))), .val 16 (.vl (.bool false)), .val 17 (.vl (.bool false)), .val 18 (.kw (KI (x))), .val 19 (.kw (KI ((x.natAbs : Int)))), .val 20 (.kw (KI (1))), .val 21 (.vl (.int .i64 (cmp (x.natAbs : Int) 1))), .val 22 (.vl (.bool false)), .val 23 (.vl (.bool false))] [([], [1]), ([0], []), ([1], []), ([2], [2]), ([3, 2], []), ([2], [6]), ([4, 5, 2], []), ([6, 2], []), ([2, 7], [])] rfl (by kernel_rfl) (by kernel_rfl) (by kernel_rfl) ⟨?_, ?_, ?_, ?_, ?_, ?_, ?_, ?_, ?_, trivial⟩ ?_
  · exact DX.move rfl rfl rfl rfl rfl rfl
  · exact DX.q2 (x := .tmp 15) (y := .const (.int .i64 0)) (.bool false) rfl rfl rfl rfl rfl (fun ρ W h1 h2 => by first | (go_simp; done) | (go_simp; rw [Int.tmod_eq_emod_of_nonneg (by omega)]; exact IntWalk.i64_in _ (by omega)) | (go_simp; omega))
  · exact DX.move rfl rfl rfl rfl rfl rfl
  · exact DX.load rfl rfl rfl rfl rfl rfl
  · exact DX.call (r := .kw (KI ((x.natAbs : Int)))) rfl rfl rfl rfl rfl rfl (KI.st _) rfl (k_abs)
  · exact DX.load rfl rfl rfl rfl rfl rfl
  · exact DX.call (r := .vl (.int .i64 (cmp (x.natAbs : Int) 1))) rfl rfl rfl rfl rfl rfl (KV.st _) rfl (k_cmp (rfl))
  · exact DX.q2 (x := .tmp 21) (y := .const (.int .i64 0)) (.bool false) rfl rfl rfl rfl rfl (fun ρ W h1 h2 => by first | (go_simp; done) | (go_simp; exact hc))
  · exact DX.pick (t := false) rfl rfl rfl rfl rfl rfl rfl
  refine SX.then ?_
  refine SC.cond (t := false) rfl ?_
  refine SC.skip ?_
  refine SX.then ?_
  refine SC.seq ?_
  refine SC.seq ?_
  refine SC.region ?_
  refine PW.load rfl rfl rfl rfl rfl rfl ?_
  refine PW.call (r := .kw (KI ((x.natAbs : Int)))) rfl rfl rfl rfl rfl rfl (KI.st _) rfl (k_abs) ?_
  refine PW.call (r := .vl (.int .i64 ((s : Int) + 1))) rfl rfl rfl rfl rfl rfl (KV.st _) rfl (k_len X.abs (by first | decide | omega) (by rw [hs]; rfl)) ?_
  refine PW.q2 (x := .tmp 40) (y := .const (.int .i64 1)) (.int .i64 (s : Int)) rfl rfl rfl rfl rfl (fun ρ W h1 h2 => by first | (go_simp; done) | (go_simp; exact IntWalk.i64_in _ (by omega)) | (go_simp; exact Int.tmod_eq_emod_of_nonneg (by omega)) | (go_simp; exact Int.tdiv_eq_ediv_of_nonneg (by omega)) | (go_simp; exact (IntWalk.i64_in _ (by omega)).trans (by omega)) | (go_simp; rw [Int.tmod_eq_emod_of_nonneg (by omega)]; exact IntWalk.i64_in _ (by omega)) | (go_simp; omega)) ?_
  refine PW.assign rfl rfl rfl rfl rfl ?_
  refine PW.nil ?_
  refine SX.then ?_
  refine SC.seq ?_
  by_cases hq : m < n
  · refine SC.region ?_
    refine PW.move rfl rfl rfl rfl rfl ?_
    refine PW.q2 (x := .tmp 42) (y := .const (.int .i64 0)) (.bool true) rfl rfl rfl rfl rfl (fun ρ W h1 h2 => by first | (go_simp; done) | (go_simp; rw [Int.tmod_eq_emod_of_nonneg (by omega)]; exact IntWalk.i64_in _ (by omega)) | (go_simp; omega)) ?_
    refine PW.move rfl rfl rfl rfl rfl ?_
    refine PW.move rfl rfl rfl rfl rfl ?_
    refine PW.move rfl rfl rfl rfl rfl ?_
    refine PW.q2 (x := .const (.int .i64 65536)) (y := .tmp 46) (.int .i64 (m : Int)) rfl rfl rfl rfl rfl (fun ρ W h1 h2 => by exact quo_run h1 h2 hs1 hm) ?_
    refine PW.q2 (x := .tmp 45) (y := .tmp 47) (.bool true) rfl rfl rfl rfl rfl (fun ρ W h1 h2 => by first | (go_simp; done) | (go_simp; rw [Int.tmod_eq_emod_of_nonneg (by omega)]; exact IntWalk.i64_in _ (by omega)) | (go_simp; omega)) ?_
    refine PW.pick (t := true) rfl rfl rfl rfl rfl rfl ?_
    refine PW.nil ?_
    refine SX.then ?_
    refine SC.cond (t := true) rfl ?_
    refine SC.seq ?_
    refine SC.region ?_
    refine PW.val (r := .kw (KI (0))) rfl rfl rfl rfl (fun a W hf => ⟨.agg #[.bool false, .slice none 0 0], by go_simp, zeroI _ W W⟩) ?_
    refine PW.store (x := .tmp 50) (r := .kw (KI (0))) rfl rfl rfl rfl rfl rfl sh_I ?_
    refine PW.assign rfl rfl rfl rfl rfl ?_
    refine PW.nil ?_
    refine SX.then ?_
    refine SC.ret ?_
    refine SX.thenR ?_
    rw [if_neg (by have := pw_large (n := n) hx hs hs1 (by rw [hm]; exact hq); omega)]
    exact SX.done2 (s := 4) (t := 5) (r := .vl (.int .i64 14)) (.inl rfl) rfl rfl rfl rfl
  · obtain ⟨hX, hX0⟩ := pw_bits (n := n) hx hs hs1 (by rw [hm]; exact hq)
    refine SC.region ?_
    refine PW.move rfl rfl rfl rfl rfl ?_
    refine PW.q2 (x := .tmp 42) (y := .const (.int .i64 0)) (.bool true) rfl rfl rfl rfl rfl (fun ρ W h1 h2 => by first | (go_simp; done) | (go_simp; rw [Int.tmod_eq_emod_of_nonneg (by omega)]; exact IntWalk.i64_in _ (by omega)) | (go_simp; omega)) ?_
    refine PW.move rfl rfl rfl rfl rfl ?_
    refine PW.move rfl rfl rfl rfl rfl ?_
    refine PW.move rfl rfl rfl rfl rfl ?_
    refine PW.q2 (x := .const (.int .i64 65536)) (y := .tmp 46) (.int .i64 (m : Int)) rfl rfl rfl rfl rfl (fun ρ W h1 h2 => by exact quo_run h1 h2 hs1 hm) ?_
    refine PW.q2 (x := .tmp 45) (y := .tmp 47) (.bool false) rfl rfl rfl rfl rfl (fun ρ W h1 h2 => by first | (go_simp; done) | (go_simp; rw [Int.tmod_eq_emod_of_nonneg (by omega)]; exact IntWalk.i64_in _ (by omega)) | (go_simp; omega)) ?_
    refine PW.pick (t := true) rfl rfl rfl rfl rfl rfl ?_
    refine PW.nil ?_
    refine SX.then ?_
    refine SC.cond (t := false) rfl ?_
    refine SC.skip ?_
    refine SX.then ?_
    refine SC.seq ?_
    refine SC.dx [.val 51 (.kw (KI (1))), .val 52 (.kw (KI (x))), .new 8 (BI 28), .new 9 (BI 28), .put 8 (BI 28) (.kw (KI (1))), .put 9 (BI 28) (.kw (KI (x)))] [([], [6]), ([], [2]), ([], []), ([], []), ([2, 0], []), ([3, 1], [])] rfl (by kernel_rfl) (by kernel_rfl) (by kernel_rfl) ⟨?_, ?_, ?_, ?_, ?_, ?_, trivial⟩ ?_
    · exact DX.load rfl rfl rfl rfl rfl rfl
    · exact DX.load rfl rfl rfl rfl rfl rfl
    · exact DX.alloc (BI 28) rfl rfl rfl rfl bI rfl
    · exact DX.alloc (BI 28) rfl rfl rfl rfl bI rfl
    · exact DX.store (x := .tmp 51) (r := .kw (KI (1))) rfl rfl rfl rfl rfl rfl sh_I
    · exact DX.store (x := .tmp 52) (r := .kw (KI (x))) rfl rfl rfl rfl rfl rfl sh_I
    refine SX.then ?_
    refine SC.seq ?_
    refine SC.seq ?_
    refine SC.region ?_
    refine PW.move rfl rfl rfl rfl rfl ?_
    refine PW.assign rfl rfl rfl rfl rfl ?_
    refine PW.nil ?_
    refine SX.then ?_
    refine SC.block ?_
    refine SC.loop (S := Int × Int × Nat) (fun ⟨o, b, k⟩ => [(4, .bx (BI 28) (KT)), (5, .vl (.int .i64 0)), (8, .bx (BI 28) (KI (o))), (9, .bx (BI 28) (KI (b))), (10, .vl (.int .i64 (k : Int)))]) (fun ⟨o, b, k⟩ => o * b ^ k = x ^ n ∧ 1 ≤ k ∧ k ≤ n) (fun ⟨o, b, k⟩ => k) (1, x, n) ⟨Int.one_mul _, hn, Nat.le_refl _⟩ ⟨rfl, rfl, rfl, rfl, rfl, trivial⟩ ?_
    rintro ⟨o, b, k⟩ ⟨hi, hk1, hkn⟩
    obtain ⟨bo, bb⟩ := pw_bd hi hX0 hk1 hX
    refine SC.seq ?_
    refine SC.block ?_
    refine SC.seq ?_
    refine SC.seq ?_
    by_cases ho : k % 2 = 1
    · refine SC.region ?_
      refine PW.move rfl rfl rfl rfl rfl ?_
      refine PW.q2 (x := .tmp 56) (y := .const (.int .i64 1)) (.int .i64 ((k % 2 : Nat) : Int)) rfl rfl rfl rfl rfl (fun ρ W h1 h2 => by exact and1_run h1 h2 (by omega)) ?_
      refine PW.q2 (x := .tmp 57) (y := .const (.int .i64 1)) (.bool true) rfl rfl rfl rfl rfl (fun ρ W h1 h2 => by first | (go_simp; done) | (go_simp; rw [Int.tmod_eq_emod_of_nonneg (by omega)]; exact IntWalk.i64_in _ (by omega)) | (go_simp; omega)) ?_
      refine PW.nil ?_
      refine SX.then ?_
      refine SC.cond (t := true) rfl ?_
      refine SC.region ?_
      refine PW.load rfl rfl rfl rfl rfl rfl ?_
      refine PW.load rfl rfl rfl rfl rfl rfl ?_
      refine PW.call (r := .kw (KI (o * b))) rfl rfl rfl rfl rfl rfl (KI.st _) rfl (k_mul bo bb (by first | decide | omega) (by first | decide | omega)) ?_
      refine PW.store (x := .tmp 61) (r := .kw (KI (o * b))) rfl rfl rfl rfl rfl rfl sh_I ?_
      refine PW.nil ?_
      refine SX.then ?_
      refine SC.seq ?_
      refine SC.seq ?_
      by_cases he : k = 1
      · refine SC.region ?_
        refine PW.move rfl rfl rfl rfl rfl ?_
        refine PW.q2 (x := .tmp 62) (y := .const (.int .i64 1)) (.bool true) rfl rfl rfl rfl rfl (fun ρ W h1 h2 => by first | (go_simp; done) | (go_simp; rw [Int.tmod_eq_emod_of_nonneg (by omega)]; exact IntWalk.i64_in _ (by omega)) | (go_simp; omega)) ?_
        refine PW.nil ?_
        refine SX.then ?_
        refine SC.cond (t := true) rfl ?_
        refine SC.exit ?_
        have e8 : o * b = x ^ n := pw_end hi he
        rw [e8]
        refine SX.thenE ?_
        refine SX.blockX rfl ?_
        refine SX.thenE ?_
        refine SX.thenE ?_
        refine SX.blockE ?_
        refine SX.then ?_
        refine SC.seq ?_
        refine SC.seq ?_
        by_cases hl : 65536 < wid (pat (x ^ n))
        · refine SC.region ?_
          refine PW.load rfl rfl rfl rfl rfl rfl ?_
          refine PW.call (r := .vl (.int .i64 (wid (pat (x ^ n)) : Int))) rfl rfl rfl rfl rfl rfl (KV.st _) rfl (k_len hX (by first | decide | omega) (rfl)) ?_
          refine PW.q2 (x := .tmp 68) (y := .const (.int .i64 65536)) (.bool true) rfl rfl rfl rfl rfl (fun ρ W h1 h2 => by first | (go_simp; done) | (go_simp; rw [Int.tmod_eq_emod_of_nonneg (by omega)]; exact IntWalk.i64_in _ (by omega)) | (go_simp; omega)) ?_
          refine PW.nil ?_
          refine SX.then ?_
          refine SC.cond (t := true) rfl ?_
          refine SC.seq ?_
          refine SC.region ?_
          refine PW.val (r := .kw (KI (0))) rfl rfl rfl rfl (fun a W hf => ⟨.agg #[.bool false, .slice none 0 0], by go_simp, zeroI _ W W⟩) ?_
          refine PW.store (x := .tmp 70) (r := .kw (KI (0))) rfl rfl rfl rfl rfl rfl sh_I ?_
          refine PW.assign rfl rfl rfl rfl rfl ?_
          refine PW.nil ?_
          refine SX.then ?_
          refine SC.ret ?_
          refine SX.thenR ?_
          rw [if_neg (by omega)]
          exact SX.done2 (s := 4) (t := 5) (r := .vl (.int .i64 14)) (.inl rfl) rfl rfl rfl rfl
        · refine SC.region ?_
          refine PW.load rfl rfl rfl rfl rfl rfl ?_
          refine PW.call (r := .vl (.int .i64 (wid (pat (x ^ n)) : Int))) rfl rfl rfl rfl rfl rfl (KV.st _) rfl (k_len hX (by first | decide | omega) (rfl)) ?_
          refine PW.q2 (x := .tmp 68) (y := .const (.int .i64 65536)) (.bool false) rfl rfl rfl rfl rfl (fun ρ W h1 h2 => by first | (go_simp; done) | (go_simp; rw [Int.tmod_eq_emod_of_nonneg (by omega)]; exact IntWalk.i64_in _ (by omega)) | (go_simp; omega)) ?_
          refine PW.nil ?_
          refine SX.then ?_
          refine SC.cond (t := false) rfl ?_
          refine SC.skip ?_
          refine SX.then ?_
          refine SC.seq ?_
          refine SC.region ?_
          refine PW.load rfl rfl rfl rfl rfl rfl ?_
          refine PW.store (x := .tmp 71) (r := .kw (KI (x ^ n))) rfl rfl rfl rfl rfl rfl sh_I ?_
          refine PW.assign rfl rfl rfl rfl rfl ?_
          refine PW.nil ?_
          refine SX.then ?_
          refine SC.ret ?_
          rw [if_pos (by omega)]
          exact SX.done2 (s := 4) (t := 5) (r := .vl (.int .i64 0)) (.inl rfl) rfl rfl rfl rfl
      · refine SC.region ?_
        refine PW.move rfl rfl rfl rfl rfl ?_
        refine PW.q2 (x := .tmp 62) (y := .const (.int .i64 1)) (.bool false) rfl rfl rfl rfl rfl (fun ρ W h1 h2 => by first | (go_simp; done) | (go_simp; rw [Int.tmod_eq_emod_of_nonneg (by omega)]; exact IntWalk.i64_in _ (by omega)) | (go_simp; omega)) ?_
        refine PW.nil ?_
        refine SX.then ?_
        refine SC.cond (t := false) rfl ?_
        refine SC.skip ?_
        refine SX.then ?_
        refine SC.region ?_
        refine PW.load rfl rfl rfl rfl rfl rfl ?_
        refine PW.load rfl rfl rfl rfl rfl rfl ?_
        refine PW.call (r := .kw (KI (b * b))) rfl rfl rfl rfl rfl rfl (KI.st _) rfl (k_mul bb bb (by first | decide | omega) (by first | decide | omega)) ?_
        refine PW.store (x := .tmp 66) (r := .kw (KI (b * b))) rfl rfl rfl rfl rfl rfl sh_I ?_
        refine PW.nil ?_
        refine SX.blockN ?_
        refine SX.then ?_
        refine SC.region ?_
        refine PW.move rfl rfl rfl rfl rfl ?_
        refine PW.q2 (x := .tmp 54) (y := .const (.int .u64 1)) (.int .i64 ((k / 2 : Nat) : Int)) rfl rfl rfl rfl rfl (fun ρ W h1 h2 => by first | (go_simp; done) | (go_simp; omega)) ?_
        refine PW.assign rfl rfl rfl rfl rfl ?_
        refine PW.nil ?_
        refine SX.back (o * b, b * b, k / 2) ?_ ?_ ?_
        · exact ⟨pw_odd hi (by omega), by omega, by omega⟩
        · exact (show k / 2 < k by omega)
        · exact ⟨rfl, rfl, rfl, rfl, rfl, trivial⟩
    · refine SC.region ?_
      refine PW.move rfl rfl rfl rfl rfl ?_
      refine PW.q2 (x := .tmp 56) (y := .const (.int .i64 1)) (.int .i64 ((k % 2 : Nat) : Int)) rfl rfl rfl rfl rfl (fun ρ W h1 h2 => by exact and1_run h1 h2 (by omega)) ?_
      refine PW.q2 (x := .tmp 57) (y := .const (.int .i64 1)) (.bool false) rfl rfl rfl rfl rfl (fun ρ W h1 h2 => by first | (go_simp; done) | (go_simp; rw [Int.tmod_eq_emod_of_nonneg (by omega)]; exact IntWalk.i64_in _ (by omega)) | (go_simp; omega)) ?_
      refine PW.nil ?_
      refine SX.then ?_
      refine SC.cond (t := false) rfl ?_
      refine SC.skip ?_
      refine SX.then ?_
      refine SC.seq ?_
      refine SC.seq ?_
      refine SC.region ?_
      refine PW.move rfl rfl rfl rfl rfl ?_
      refine PW.q2 (x := .tmp 62) (y := .const (.int .i64 1)) (.bool false) rfl rfl rfl rfl rfl (fun ρ W h1 h2 => by first | (go_simp; done) | (go_simp; rw [Int.tmod_eq_emod_of_nonneg (by omega)]; exact IntWalk.i64_in _ (by omega)) | (go_simp; omega)) ?_
      refine PW.nil ?_
      refine SX.then ?_
      refine SC.cond (t := false) rfl ?_
      refine SC.skip ?_
      refine SX.then ?_
      refine SC.region ?_
      refine PW.load rfl rfl rfl rfl rfl rfl ?_
      refine PW.load rfl rfl rfl rfl rfl rfl ?_
      refine PW.call (r := .kw (KI (b * b))) rfl rfl rfl rfl rfl rfl (KI.st _) rfl (k_mul bb bb (by first | decide | omega) (by first | decide | omega)) ?_
      refine PW.store (x := .tmp 66) (r := .kw (KI (b * b))) rfl rfl rfl rfl rfl rfl sh_I ?_
      refine PW.nil ?_
      refine SX.blockN ?_
      refine SX.then ?_
      refine SC.region ?_
      refine PW.move rfl rfl rfl rfl rfl ?_
      refine PW.q2 (x := .tmp 54) (y := .const (.int .u64 1)) (.int .i64 ((k / 2 : Nat) : Int)) rfl rfl rfl rfl rfl (fun ρ W h1 h2 => by first | (go_simp; done) | (go_simp; omega)) ?_
      refine PW.assign rfl rfl rfl rfl rfl ?_
      refine PW.nil ?_
      refine SX.back (o, b * b, k / 2) ?_ ?_ ?_
      · exact ⟨pw_even hi (by omega), by omega, by omega⟩
      · exact (show k / 2 < k by omega)
      · exact ⟨rfl, rfl, rfl, rfl, rfl, trivial⟩

end Go.Proofs.Ytcgkgcciogibkaa.Sy
/- The contract of the program's Power, in one; powers of powers of two. -/
set_option linter.unusedVariables false
set_option linter.unusedSimpArgs false
namespace Go.Proofs.Ytcgkgcciogibkaa.Sy
open Go Go.RowKit Ma
/-- What Power hands back. -/
def KP (x : Int) (n : Nat) : Know := if wid (pat (x ^ n)) ≤ 65536 then K2 (KI (x ^ n)) (KV (.int .i64 0)) else K2 (KI 0) (KV (.int .i64 14))
theorem k_power {x : Int} {n a : Nat} (X : bd a x) (ha : a ≤ 100000) (hn2 : n ≤ 9223372036854775807) : CallOk 62 [KI x, KV (.int .i64 (n : Int))] (KP x n) := by
  unfold KP
  by_cases h0 : n = 0
  · subst h0
    rw [Int.pow_zero, if_pos (by decide)]
    exact power_zero
  · by_cases h1 : x.natAbs ≤ 1
    · have hc : cmp (x.natAbs : Int) 1 ≤ 0 := by unfold cmp; split <;> (try split) <;> omega
      by_cases hx : 0 ≤ x
      · have e : x ^ n = x := by
          rcases (show x = 0 ∨ x = 1 by omega) with rfl | rfl
          · exact Int.zero_pow h0
          · exact Int.one_pow
        rw [e, if_pos (by rcases (show x = 0 ∨ x = 1 by omega) with rfl | rfl <;> decide)]
        exact power_01 hx hc (by omega) (by omega)
      · obtain rfl : x = -1 := by omega
        by_cases hp : n % 2 = 0
        · have e : (-1 : Int) ^ n = 1 := by
            obtain ⟨m, rfl⟩ : ∃ m, n = 2 * m := ⟨n / 2, by omega⟩
            rw [Int.pow_mul, show (-1 : Int) ^ 2 = 1 by decide, Int.one_pow]
          rw [e, if_pos (by decide)]
          exact power_m1e (by decide) hc (by omega) (by omega) (by omega)
        · have e : (-1 : Int) ^ n = -1 := by
            obtain ⟨m, rfl⟩ : ∃ m, n = 2 * m + 1 := ⟨n / 2, by omega⟩
            rw [Int.pow_succ, Int.pow_mul, show (-1 : Int) ^ 2 = 1 by decide, Int.one_pow]
            decide
          rw [e, if_pos (by decide)]
          exact power_m1o (by decide) hc (by omega) (by omega) (by omega)
    · have hc : 0 < cmp (x.natAbs : Int) 1 := by unfold cmp; rw [if_neg (by omega), if_neg (by omega)]; decide
      have hw : 2 ≤ wid (pat (x.natAbs : Int)) := by
        rw [wid_nat _ (by omega)]
        apply Classical.byContradiction
        intro hq
        have := wid_lt (x.natAbs : Int)
        have h3 : (2 : Int) ^ wid (x.natAbs : Int) ≤ 2 ^ 1 := pow_le (by decide) (by omega)
        omega
      have hw2 : wid (pat (x.natAbs : Int)) ≤ 32 * a := by
        rw [wid_nat _ (by omega)]
        apply wid_le_of
        have := bd2.1 X
        omega
      exact power_big rfl (s := wid (pat (x.natAbs : Int)) - 1) (by omega) hc X ha (by omega) hn2 (by omega) (by omega) (by omega)
theorem KP.st (x : Int) (n : Nat) : St (KP x n) := by unfold KP; split <;> exact K2.st (KI.st _) (KV.st _)
theorem KP.ok {x : Int} {n : Nat} (h : wid (pat (x ^ n)) ≤ 65536) : KP x n = K2 (KI (x ^ n)) (KV (.int .i64 0)) := if_pos h
theorem KP.large {x : Int} {n : Nat} (h : 65536 < wid (pat (x ^ n))) : KP x n = K2 (KI 0) (KV (.int .i64 14)) := if_neg (by omega)
theorem k_power_ok {x : Int} {n a : Nat} (X : bd a x) (ha : a ≤ 100000) (hn2 : n ≤ 9223372036854775807) (h : wid (pat (x ^ n)) ≤ 65536) : CallOk 62 [KI x, KV (.int .i64 (n : Int))] (K2 (KI (x ^ n)) (KV (.int .i64 0))) := KP.ok h ▸ k_power X ha hn2
theorem k_power_large {x : Int} {n a : Nat} (X : bd a x) (ha : a ≤ 100000) (hn2 : n ≤ 9223372036854775807) (h : 65536 < wid (pat (x ^ n))) : CallOk 62 [KI x, KV (.int .i64 (n : Int))] (K2 (KI 0) (KV (.int .i64 14))) := KP.large h ▸ k_power X ha hn2
/-! ### Powers of powers of two -/
theorem wid_pow2 (j : Nat) : wid (2 ^ j) = j + 1 := by
  have hp : (0 : Int) < 2 ^ j := Int.pow_pos (by decide)
  exact wid_of (by rw [Int.pow_succ]; omega) (by omega) (by rw [Nat.add_sub_cancel]; exact Int.le_refl _)
theorem wid_pow2m (j : Nat) : wid (2 ^ j - 1) = j := by
  have hp : (0 : Int) < 2 ^ j := Int.pow_pos (by decide)
  cases j with
  | zero => decide
  | succ i =>
    have hi : (0 : Int) < 2 ^ i := Int.pow_pos (by decide)
    exact wid_of (by omega) (by omega) (by rw [Nat.add_sub_cancel, Int.pow_succ]; omega)
theorem pat_pow2 (j : Nat) : wid (pat (2 ^ j)) = j + 1 := by
  have hp : (0 : Int) < 2 ^ j := Int.pow_pos (by decide)
  rw [wid_nat _ (by omega), wid_pow2]
theorem pat_npow2 (j : Nat) : wid (pat (-(2 ^ j))) = j := by
  have hp : (0 : Int) < 2 ^ j := Int.pow_pos (by decide)
  have : pat (-(2 ^ j)) = 2 ^ j - 1 := by unfold pat; rw [if_pos (by omega)]; omega
  rw [this, wid_pow2m]
theorem npow_even {x : Int} {m : Nat} (h : m % 2 = 0) : (-x) ^ m = x ^ m := by
  obtain ⟨k, rfl⟩ : ∃ k, m = 2 * k := ⟨m / 2, by omega⟩
  rw [Int.pow_mul, Int.pow_mul, show (-x) ^ 2 = x ^ 2 by grind]
theorem npow_odd {x : Int} {m : Nat} (h : m % 2 = 1) : (-x) ^ m = -(x ^ m) := by
  obtain ⟨k, rfl⟩ : ∃ k, m = 2 * k + 1 := ⟨m / 2, by omega⟩
  rw [Int.pow_succ, Int.pow_succ, npow_even (by omega), Int.mul_neg]
end Go.Proofs.Ytcgkgcciogibkaa.Sy
/- IntegerLarge: the walk, by rules. -/
set_option linter.unusedVariables false
set_option linter.unusedSimpArgs false
namespace Go.Proofs.Ytcgkgcciogibkaa.Sy
open Go Go.RowKit Ma
theorem ce_large : CE 10 := fun args W => by go_simp
theorem sh1 (k : Nat) : sh 1 (k : Int) = 2 ^ k := by rw [sh_up, Int.one_mul]
theorem bd.pow2 {k : Nat} (h : k ≤ 300) : bd 11 ((2 : Int) ^ k) := by
  rw [bd2]
  have p1 : (0 : Int) < 2 ^ k := Int.pow_pos (by decide)
  have p2 := pow_le (b := 2) (by decide) (show k + 1 ≤ 32 * 11 by omega)
  rw [Int.pow_succ] at p2
  omega
theorem shOk_of {x i : Int} {a : Nat} (h : bd a x) (hi : 32 * (a : Int) + i ≤ 65536) : shOk x i := by
  refine .inr (.inr ?_)
  have := wid_le_of (z := pat x) (n := 32 * a) (by have := bd2.1 h; unfold pat; split <;> omega)
  omega
theorem pl_f {k m q : Nat} (hq : k * m = q) : wid (pat (((2 : Int) ^ k) ^ m)) = q + 1 := by rw [← Int.pow_mul, hq, pat_pow2]
theorem pl_e {k m q : Nat} (hq : k * m = q) (hp : m % 2 = 0) : wid (pat ((-((2 : Int) ^ k)) ^ m)) = q + 1 := by rw [npow_even hp, ← Int.pow_mul, hq, pat_pow2]
theorem pl_o {k m q : Nat} (hq : k * m = q) (hp : m % 2 = 1) : wid (pat ((-((2 : Int) ^ k)) ^ m)) = q := by rw [npow_odd hp, ← Int.pow_mul, hq, pat_npow2]
theorem pl_bd {x : Int} {j : Nat} (h : wid (pat x) = j) (hj : j ≤ 65536) : bd 2050 x := by
  have h1 := wid_lt (pat x)
  rw [h] at h1
  have h2 := pow_le (b := 2) (by decide) (show j + 1 ≤ 32 * 2050 by omega)
  rw [Int.pow_succ] at h2
  have h3 : (0 : Int) < 2 ^ j := Int.pow_pos (by decide)
  have h4 := pat_nonneg x
  rw [bd2]
  generalize (2 : Int) ^ (32 * 2050) = P at *
  unfold pat at h1 h4
  split at h1 <;> omega
set_option maxHeartbeats 1600000 in
theorem large_false {bt nt kb k m q : Nat} (hb : bt ≤ 65535) (hn : nt ≤ 65535) (hkb : bt % 200 = kb) (hk : 1 + kb = k) (hm : nt % 2000 = m) (hq : k * m = q) (hq2 : q ≤ 400000) : CallOk 10 [KV (.int .u16 (bt : Int)), KV (.int .u16 (nt : Int)), KV (.bool false)] (KV (.bool true)) := by
  refine CallOk.enter (l := [.vl (.int .u16 (bt : Int)), .vl (.int .u16 (nt : Int)), .vl (.bool false)]) 73 ce_large Try.func10 rfl Try.ntmps10 (by simp) ⟨KV.st _, rfl, KV.st _, rfl, KV.st _, rfl, trivial⟩ fun w => ?_
  refine SC.seq ?_
  refine SC.region ?_
  refine PW.assign rfl rfl rfl rfl rfl ?_
  refine PW.nil ?_
  refine SX.then ?_
  refine SC.seq ?_
  refine SC.region ?_
  refine PW.move rfl rfl rfl rfl rfl ?_
  refine PW.q2 (x := .tmp 14) (y := .const (.int .u16 200)) (.int .u16 (kb : Int)) rfl rfl rfl rfl rfl (fun ρ W h1 h2 => by have ht : Int.tmod (bt : Int) 200 = (kb : Int) := (by (rw [Int.tmod_eq_emod_of_nonneg (by omega)]; omega)); go_simp; first | done | exact IntWalk.i64_in _ (by omega)) ?_
  refine PW.q1 (x := .tmp 15) (.int .i64 (kb : Int)) rfl rfl rfl rfl (fun ρ W h1 => by first | (go_simp; done) | (go_simp; exact IntWalk.i64_in _ (by omega)) | (go_simp; exact Int.tmod_eq_emod_of_nonneg (by omega)) | (go_simp; exact Int.tdiv_eq_ediv_of_nonneg (by omega)) | (go_simp; exact (IntWalk.i64_in _ (by omega)).trans (by omega)) | (go_simp; rw [Int.tmod_eq_emod_of_nonneg (by omega)]; exact IntWalk.i64_in _ (by omega)) | (go_simp; omega)) ?_
  refine PW.q2 (x := .const (.int .i64 1)) (y := .tmp 16) (.int .i64 (k : Int)) rfl rfl rfl rfl rfl (fun ρ W h1 h2 => by go_simp; exact (IntWalk.i64_in _ (by omega)).trans (by omega)) ?_
  refine PW.assign rfl rfl rfl rfl rfl ?_
  refine PW.nil ?_
  refine SX.then ?_
  refine SC.seq ?_
  refine SC.region ?_
  refine PW.call (r := .kw (KI (1))) rfl rfl rfl rfl rfl rfl (KI.st _) rfl (k_new (by decide)) ?_
  refine PW.move rfl rfl rfl rfl rfl ?_
  refine PW.call (r := .kw (K2 (KI ((2 : Int) ^ k)) (KV (.int .i64 0)))) rfl rfl rfl rfl rfl rfl (K2.st (KI.st _) (KV.st _)) rfl (sh1 k ▸ k_Shift (bd.lit (by decide)) (by decide) (by omega) (by omega) (shOk_of (bd.lit (by decide)) (by omega))) ?_
  refine PW.move rfl rfl rfl rfl rfl ?_
  refine PW.ext (r := .kw (KI ((2 : Int) ^ k))) rfl rfl rfl rfl rfl ex20 (KI.st _) rfl ?_
  refine PW.ext (r := .vl (.int .i64 0)) rfl rfl rfl rfl rfl ex21v (KV.st _) rfl ?_
  refine PW.alloc (BI 28) rfl rfl rfl rfl rfl bI ?_
  refine PW.store (x := .tmp 22) (r := .kw (KI ((2 : Int) ^ k))) rfl rfl rfl rfl rfl rfl sh_I ?_
  refine PW.assign rfl rfl rfl rfl rfl ?_
  refine PW.nil ?_
  refine SX.then ?_
  refine SC.seq ?_
  refine SC.seq ?_
  refine SC.region ?_
  refine PW.move rfl rfl rfl rfl rfl ?_
  refine PW.nil ?_
  refine SX.then ?_
  refine SC.cond (t := false) rfl ?_
  refine SC.skip ?_
  refine SX.then ?_
  refine SC.seq ?_
  refine SC.region ?_
  refine PW.move rfl rfl rfl rfl rfl ?_
  refine PW.q2 (x := .tmp 27) (y := .const (.int .u16 2000)) (.int .u16 (m : Int)) rfl rfl rfl rfl rfl (fun ρ W h1 h2 => by have ht : Int.tmod (nt : Int) 2000 = (m : Int) := (by (rw [Int.tmod_eq_emod_of_nonneg (by omega)]; omega)); go_simp; first | done | exact IntWalk.i64_in _ (by omega)) ?_
  refine PW.q1 (x := .tmp 28) (.int .i64 (m : Int)) rfl rfl rfl rfl (fun ρ W h1 => by first | (go_simp; done) | (go_simp; exact IntWalk.i64_in _ (by omega)) | (go_simp; exact Int.tmod_eq_emod_of_nonneg (by omega)) | (go_simp; exact Int.tdiv_eq_ediv_of_nonneg (by omega)) | (go_simp; exact (IntWalk.i64_in _ (by omega)).trans (by omega)) | (go_simp; rw [Int.tmod_eq_emod_of_nonneg (by omega)]; exact IntWalk.i64_in _ (by omega)) | (go_simp; omega)) ?_
  refine PW.assign rfl rfl rfl rfl rfl ?_
  refine PW.nil ?_
  refine SX.then ?_
  refine SC.seq ?_
  by_cases hl : q + 1 ≤ 65536
  · refine SC.region ?_
    refine PW.load rfl rfl rfl rfl rfl rfl ?_
    refine PW.move rfl rfl rfl rfl rfl ?_
    refine PW.call (r := .kw (K2 (KI (((2 : Int) ^ k) ^ m)) (KV (.int .i64 0)))) rfl rfl rfl rfl rfl rfl (K2.st (KI.st _) (KV.st _)) rfl (k_power_ok (bd.pow2 (k := k) (by omega)) (by decide) (by omega) (by rw [pl_f hq]; omega)) ?_
    refine PW.move rfl rfl rfl rfl rfl ?_
    refine PW.ext (r := .kw (KI (((2 : Int) ^ k) ^ m))) rfl rfl rfl rfl rfl ex20 (KI.st _) rfl ?_
    refine PW.ext (r := .vl (.int .i64 0)) rfl rfl rfl rfl rfl ex21v (KV.st _) rfl ?_
    refine PW.alloc (BI 28) rfl rfl rfl rfl rfl bI ?_
    refine PW.store (x := .tmp 34) (r := .kw (KI (((2 : Int) ^ k) ^ m))) rfl rfl rfl rfl rfl rfl sh_I ?_
    refine PW.assign rfl rfl rfl rfl rfl ?_
    refine PW.nil ?_
    refine SX.then ?_
    refine SC.seq ?_
    refine SC.region ?_
    refine PW.move rfl rfl rfl rfl rfl ?_
    refine PW.move rfl rfl rfl rfl rfl ?_
    refine PW.q2 (x := .tmp 36) (y := .tmp 37) (.int .i64 (q : Int)) rfl rfl rfl rfl rfl (fun ρ W h1 h2 => by have e : (k : Int) * (m : Int) = (q : Int) := (by (rw [← hq]; exact (Int.natCast_mul k m).symm)); go_simp; exact IntWalk.i64_in _ (by omega)) ?_
    refine PW.q2 (x := .tmp 38) (y := .const (.int .i64 1)) (.int .i64 ((q : Int) + 1)) rfl rfl rfl rfl rfl (fun ρ W h1 h2 => by first | (go_simp; done) | (go_simp; exact IntWalk.i64_in _ (by omega)) | (go_simp; exact Int.tmod_eq_emod_of_nonneg (by omega)) | (go_simp; exact Int.tdiv_eq_ediv_of_nonneg (by omega)) | (go_simp; exact (IntWalk.i64_in _ (by omega)).trans (by omega)) | (go_simp; rw [Int.tmod_eq_emod_of_nonneg (by omega)]; exact IntWalk.i64_in _ (by omega)) | (go_simp; omega)) ?_
    refine PW.assign rfl rfl rfl rfl rfl ?_
    refine PW.nil ?_
    refine SX.then ?_
    refine SC.seq ?_
    refine SC.seq ?_
    refine SC.region ?_
    refine PW.move rfl rfl rfl rfl rfl ?_
    refine PW.move rfl rfl rfl rfl rfl ?_
    refine PW.skip rfl rfl rfl ?_
    refine PW.skip rfl rfl rfl ?_
    refine PW.skip rfl rfl rfl ?_
    refine PW.pick (t := false) rfl rfl rfl rfl rfl rfl ?_
    refine PW.nil ?_
    refine SX.then ?_
    refine SC.cond (t := false) rfl ?_
    refine SC.skip ?_
    refine SX.then ?_
    refine SC.seq ?_
    refine SC.seq ?_
    refine SC.region ?_
    refine PW.move rfl rfl rfl rfl rfl ?_
    refine PW.q2 (x := .tmp 48) (y := .const (.int .i64 0)) (.bool false) rfl rfl rfl rfl rfl (fun ρ W h1 h2 => by go_simp) ?_
    refine PW.move rfl rfl rfl rfl rfl ?_
    refine PW.move rfl rfl rfl rfl rfl ?_
    refine PW.q2 (x := .tmp 51) (y := .const (.int .i64 65536)) (.bool false) rfl rfl rfl rfl rfl (fun ρ W h1 h2 => by first | (go_simp; done) | (go_simp; rw [Int.tmod_eq_emod_of_nonneg (by omega)]; exact IntWalk.i64_in _ (by omega)) | (go_simp; omega)) ?_
    refine PW.move rfl rfl rfl rfl rfl ?_
    refine PW.skip rfl rfl rfl ?_
    refine PW.skip rfl rfl rfl ?_
    refine PW.pick (t := false) rfl rfl rfl rfl rfl rfl ?_
    refine PW.pick (t := false) rfl rfl rfl rfl rfl rfl ?_
    refine PW.move rfl rfl rfl rfl rfl ?_
    refine PW.move rfl rfl rfl rfl rfl ?_
    refine PW.q2 (x := .tmp 59) (y := .const (.int .i64 65536)) (.bool true) rfl rfl rfl rfl rfl (fun ρ W h1 h2 => by first | (go_simp; done) | (go_simp; rw [Int.tmod_eq_emod_of_nonneg (by omega)]; exact IntWalk.i64_in _ (by omega)) | (go_simp; omega)) ?_
    refine PW.move rfl rfl rfl rfl rfl ?_
    refine PW.move rfl rfl rfl rfl rfl ?_
    refine PW.q2 (x := .tmp 62) (y := .const (.int .i64 0)) (.bool false) rfl rfl rfl rfl rfl (fun ρ W h1 h2 => by go_simp) ?_
    refine PW.move rfl rfl rfl rfl rfl ?_
    refine PW.load rfl rfl rfl rfl rfl rfl ?_
    refine PW.call (r := .vl (.int .i64 ((q : Int) + 1))) rfl rfl rfl rfl rfl rfl (KV.st _) rfl (k_len (pl_bd (pl_f hq) (by omega)) (by decide) (by first | (rw [pl_f hq]; done) | (rw [pl_f hq]; rfl))) ?_
    refine PW.move rfl rfl rfl rfl rfl ?_
    refine PW.q2 (x := .tmp 66) (y := .tmp 67) (.bool false) rfl rfl rfl rfl rfl (fun ρ W h1 h2 => by go_simp) ?_
    refine PW.pick (t := false) rfl rfl rfl rfl rfl rfl ?_
    refine PW.pick (t := true) rfl rfl rfl rfl rfl rfl ?_
    refine PW.pick (t := false) rfl rfl rfl rfl rfl rfl ?_
    refine PW.nil ?_
    refine SX.then ?_
    refine SC.cond (t := false) rfl ?_
    refine SC.skip ?_
    refine SX.then ?_
    refine SC.seq ?_
    refine SC.region ?_
    refine PW.call (r := .vl (.bool true)) rfl rfl rfl rfl rfl rfl (KV.st _) rfl (k_awake) ?_
    refine PW.assign rfl rfl rfl rfl rfl ?_
    refine PW.nil ?_
    refine SX.then ?_
    refine SC.ret ?_
    exact SX.done (s := 6) (r := .vl (.bool true)) rfl rfl rfl
  · refine SC.region ?_
    refine PW.load rfl rfl rfl rfl rfl rfl ?_
    refine PW.move rfl rfl rfl rfl rfl ?_
    refine PW.call (r := .kw (K2 (KI (0)) (KV (.int .i64 14)))) rfl rfl rfl rfl rfl rfl (K2.st (KI.st _) (KV.st _)) rfl (k_power_large (bd.pow2 (k := k) (by omega)) (by decide) (by omega) (by rw [pl_f hq]; omega)) ?_
    refine PW.move rfl rfl rfl rfl rfl ?_
    refine PW.ext (r := .kw (KI (0))) rfl rfl rfl rfl rfl ex20 (KI.st _) rfl ?_
    refine PW.ext (r := .vl (.int .i64 14)) rfl rfl rfl rfl rfl ex21v (KV.st _) rfl ?_
    refine PW.alloc (BI 28) rfl rfl rfl rfl rfl bI ?_
    refine PW.store (x := .tmp 34) (r := .kw (KI (0))) rfl rfl rfl rfl rfl rfl sh_I ?_
    refine PW.assign rfl rfl rfl rfl rfl ?_
    refine PW.nil ?_
    refine SX.then ?_
    refine SC.seq ?_
    refine SC.region ?_
    refine PW.move rfl rfl rfl rfl rfl ?_
    refine PW.move rfl rfl rfl rfl rfl ?_
    refine PW.q2 (x := .tmp 36) (y := .tmp 37) (.int .i64 (q : Int)) rfl rfl rfl rfl rfl (fun ρ W h1 h2 => by have e : (k : Int) * (m : Int) = (q : Int) := (by (rw [← hq]; exact (Int.natCast_mul k m).symm)); go_simp; exact IntWalk.i64_in _ (by omega)) ?_
    refine PW.q2 (x := .tmp 38) (y := .const (.int .i64 1)) (.int .i64 ((q : Int) + 1)) rfl rfl rfl rfl rfl (fun ρ W h1 h2 => by first | (go_simp; done) | (go_simp; exact IntWalk.i64_in _ (by omega)) | (go_simp; exact Int.tmod_eq_emod_of_nonneg (by omega)) | (go_simp; exact Int.tdiv_eq_ediv_of_nonneg (by omega)) | (go_simp; exact (IntWalk.i64_in _ (by omega)).trans (by omega)) | (go_simp; rw [Int.tmod_eq_emod_of_nonneg (by omega)]; exact IntWalk.i64_in _ (by omega)) | (go_simp; omega)) ?_
    refine PW.assign rfl rfl rfl rfl rfl ?_
    refine PW.nil ?_
    refine SX.then ?_
    refine SC.seq ?_
    refine SC.seq ?_
    refine SC.region ?_
    refine PW.move rfl rfl rfl rfl rfl ?_
    refine PW.move rfl rfl rfl rfl rfl ?_
    refine PW.skip rfl rfl rfl ?_
    refine PW.skip rfl rfl rfl ?_
    refine PW.skip rfl rfl rfl ?_
    refine PW.pick (t := false) rfl rfl rfl rfl rfl rfl ?_
    refine PW.nil ?_
    refine SX.then ?_
    refine SC.cond (t := false) rfl ?_
    refine SC.skip ?_
    refine SX.then ?_
    refine SC.seq ?_
    refine SC.seq ?_
    refine SC.region ?_
    refine PW.move rfl rfl rfl rfl rfl ?_
    refine PW.q2 (x := .tmp 48) (y := .const (.int .i64 0)) (.bool false) rfl rfl rfl rfl rfl (fun ρ W h1 h2 => by go_simp) ?_
    refine PW.move rfl rfl rfl rfl rfl ?_
    refine PW.move rfl rfl rfl rfl rfl ?_
    refine PW.q2 (x := .tmp 51) (y := .const (.int .i64 65536)) (.bool true) rfl rfl rfl rfl rfl (fun ρ W h1 h2 => by first | (go_simp; done) | (go_simp; rw [Int.tmod_eq_emod_of_nonneg (by omega)]; exact IntWalk.i64_in _ (by omega)) | (go_simp; omega)) ?_
    refine PW.move rfl rfl rfl rfl rfl ?_
    refine PW.move rfl rfl rfl rfl rfl ?_
    refine PW.q2 (x := .tmp 54) (y := .const (.int .i64 14)) (.bool false) rfl rfl rfl rfl rfl (fun ρ W h1 h2 => by go_simp) ?_
    refine PW.pick (t := true) rfl rfl rfl rfl rfl rfl ?_
    refine PW.pick (t := false) rfl rfl rfl rfl rfl rfl ?_
    refine PW.move rfl rfl rfl rfl rfl ?_
    refine PW.move rfl rfl rfl rfl rfl ?_
    refine PW.q2 (x := .tmp 59) (y := .const (.int .i64 65536)) (.bool false) rfl rfl rfl rfl rfl (fun ρ W h1 h2 => by first | (go_simp; done) | (go_simp; rw [Int.tmod_eq_emod_of_nonneg (by omega)]; exact IntWalk.i64_in _ (by omega)) | (go_simp; omega)) ?_
    refine PW.move rfl rfl rfl rfl rfl ?_
    refine PW.skip rfl rfl rfl ?_
    refine PW.skip rfl rfl rfl ?_
    refine PW.skip rfl rfl rfl ?_
    refine PW.skip rfl rfl rfl ?_
    refine PW.skip rfl rfl rfl ?_
    refine PW.skip rfl rfl rfl ?_
    refine PW.skip rfl rfl rfl ?_
    refine PW.skip rfl rfl rfl ?_
    refine PW.pick (t := false) rfl rfl rfl rfl rfl rfl ?_
    refine PW.pick (t := false) rfl rfl rfl rfl rfl rfl ?_
    refine PW.nil ?_
    refine SX.then ?_
    refine SC.cond (t := false) rfl ?_
    refine SC.skip ?_
    refine SX.then ?_
    refine SC.seq ?_
    refine SC.region ?_
    refine PW.call (r := .vl (.bool true)) rfl rfl rfl rfl rfl rfl (KV.st _) rfl (k_awake) ?_
    refine PW.assign rfl rfl rfl rfl rfl ?_
    refine PW.nil ?_
    refine SX.then ?_
    refine SC.ret ?_
    exact SX.done (s := 6) (r := .vl (.bool true)) rfl rfl rfl

set_option maxHeartbeats 1600000 in
theorem large_true {bt nt kb k m q : Nat} (hb : bt ≤ 65535) (hn : nt ≤ 65535) (hkb : bt % 200 = kb) (hk : 1 + kb = k) (hm : nt % 2000 = m) (hq : k * m = q) (hq2 : q ≤ 400000) : CallOk 10 [KV (.int .u16 (bt : Int)), KV (.int .u16 (nt : Int)), KV (.bool true)] (KV (.bool true)) := by
  refine CallOk.enter (l := [.vl (.int .u16 (bt : Int)), .vl (.int .u16 (nt : Int)), .vl (.bool true)]) 73 ce_large Try.func10 rfl Try.ntmps10 (by simp) ⟨KV.st _, rfl, KV.st _, rfl, KV.st _, rfl, trivial⟩ fun w => ?_
  refine SC.seq ?_
  refine SC.region ?_
  refine PW.assign rfl rfl rfl rfl rfl ?_
  refine PW.nil ?_
  refine SX.then ?_
  refine SC.seq ?_
  refine SC.region ?_
  refine PW.move rfl rfl rfl rfl rfl ?_
  refine PW.q2 (x := .tmp 14) (y := .const (.int .u16 200)) (.int .u16 (kb : Int)) rfl rfl rfl rfl rfl (fun ρ W h1 h2 => by have ht : Int.tmod (bt : Int) 200 = (kb : Int) := (by (rw [Int.tmod_eq_emod_of_nonneg (by omega)]; omega)); go_simp; first | done | exact IntWalk.i64_in _ (by omega)) ?_
  refine PW.q1 (x := .tmp 15) (.int .i64 (kb : Int)) rfl rfl rfl rfl (fun ρ W h1 => by first | (go_simp; done) | (go_simp; exact IntWalk.i64_in _ (by omega)) | (go_simp; exact Int.tmod_eq_emod_of_nonneg (by omega)) | (go_simp; exact Int.tdiv_eq_ediv_of_nonneg (by omega)) | (go_simp; exact (IntWalk.i64_in _ (by omega)).trans (by omega)) | (go_simp; rw [Int.tmod_eq_emod_of_nonneg (by omega)]; exact IntWalk.i64_in _ (by omega)) | (go_simp; omega)) ?_
  refine PW.q2 (x := .const (.int .i64 1)) (y := .tmp 16) (.int .i64 (k : Int)) rfl rfl rfl rfl rfl (fun ρ W h1 h2 => by go_simp; exact (IntWalk.i64_in _ (by omega)).trans (by omega)) ?_
  refine PW.assign rfl rfl rfl rfl rfl ?_
  refine PW.nil ?_
  refine SX.then ?_
  refine SC.seq ?_
  refine SC.region ?_
  refine PW.call (r := .kw (KI (1))) rfl rfl rfl rfl rfl rfl (KI.st _) rfl (k_new (by decide)) ?_
  refine PW.move rfl rfl rfl rfl rfl ?_
  refine PW.call (r := .kw (K2 (KI ((2 : Int) ^ k)) (KV (.int .i64 0)))) rfl rfl rfl rfl rfl rfl (K2.st (KI.st _) (KV.st _)) rfl (sh1 k ▸ k_Shift (bd.lit (by decide)) (by decide) (by omega) (by omega) (shOk_of (bd.lit (by decide)) (by omega))) ?_
  refine PW.move rfl rfl rfl rfl rfl ?_
  refine PW.ext (r := .kw (KI ((2 : Int) ^ k))) rfl rfl rfl rfl rfl ex20 (KI.st _) rfl ?_
  refine PW.ext (r := .vl (.int .i64 0)) rfl rfl rfl rfl rfl ex21v (KV.st _) rfl ?_
  refine PW.alloc (BI 28) rfl rfl rfl rfl rfl bI ?_
  refine PW.store (x := .tmp 22) (r := .kw (KI ((2 : Int) ^ k))) rfl rfl rfl rfl rfl rfl sh_I ?_
  refine PW.assign rfl rfl rfl rfl rfl ?_
  refine PW.nil ?_
  refine SX.then ?_
  refine SC.seq ?_
  refine SC.seq ?_
  refine SC.region ?_
  refine PW.move rfl rfl rfl rfl rfl ?_
  refine PW.nil ?_
  refine SX.then ?_
  refine SC.cond (t := true) rfl ?_
  refine SC.region ?_
  refine PW.load rfl rfl rfl rfl rfl rfl ?_
  refine PW.call (r := .kw (KI (-((2 : Int) ^ k)))) rfl rfl rfl rfl rfl rfl (KI.st _) rfl (k_neg) ?_
  refine PW.store (x := .tmp 26) (r := .kw (KI (-((2 : Int) ^ k)))) rfl rfl rfl rfl rfl rfl sh_I ?_
  refine PW.nil ?_
  refine SX.then ?_
  refine SC.seq ?_
  refine SC.region ?_
  refine PW.move rfl rfl rfl rfl rfl ?_
  refine PW.q2 (x := .tmp 27) (y := .const (.int .u16 2000)) (.int .u16 (m : Int)) rfl rfl rfl rfl rfl (fun ρ W h1 h2 => by have ht : Int.tmod (nt : Int) 2000 = (m : Int) := (by (rw [Int.tmod_eq_emod_of_nonneg (by omega)]; omega)); go_simp; first | done | exact IntWalk.i64_in _ (by omega)) ?_
  refine PW.q1 (x := .tmp 28) (.int .i64 (m : Int)) rfl rfl rfl rfl (fun ρ W h1 => by first | (go_simp; done) | (go_simp; exact IntWalk.i64_in _ (by omega)) | (go_simp; exact Int.tmod_eq_emod_of_nonneg (by omega)) | (go_simp; exact Int.tdiv_eq_ediv_of_nonneg (by omega)) | (go_simp; exact (IntWalk.i64_in _ (by omega)).trans (by omega)) | (go_simp; rw [Int.tmod_eq_emod_of_nonneg (by omega)]; exact IntWalk.i64_in _ (by omega)) | (go_simp; omega)) ?_
  refine PW.assign rfl rfl rfl rfl rfl ?_
  refine PW.nil ?_
  refine SX.then ?_
  refine SC.seq ?_
  by_cases hp : m % 2 = 1
  · by_cases hl : q ≤ 65536
    · refine SC.region ?_
      refine PW.load rfl rfl rfl rfl rfl rfl ?_
      refine PW.move rfl rfl rfl rfl rfl ?_
      refine PW.call (r := .kw (K2 (KI ((-((2 : Int) ^ k)) ^ m)) (KV (.int .i64 0)))) rfl rfl rfl rfl rfl rfl (K2.st (KI.st _) (KV.st _)) rfl (k_power_ok (bd.pow2 (k := k) (by omega)).neg (by decide) (by omega) (by rw [pl_o hq hp]; omega)) ?_
      refine PW.move rfl rfl rfl rfl rfl ?_
      refine PW.ext (r := .kw (KI ((-((2 : Int) ^ k)) ^ m))) rfl rfl rfl rfl rfl ex20 (KI.st _) rfl ?_
      refine PW.ext (r := .vl (.int .i64 0)) rfl rfl rfl rfl rfl ex21v (KV.st _) rfl ?_
      refine PW.alloc (BI 28) rfl rfl rfl rfl rfl bI ?_
      refine PW.store (x := .tmp 34) (r := .kw (KI ((-((2 : Int) ^ k)) ^ m))) rfl rfl rfl rfl rfl rfl sh_I ?_
      refine PW.assign rfl rfl rfl rfl rfl ?_
      refine PW.nil ?_
      refine SX.then ?_
      refine SC.seq ?_
      refine SC.region ?_
      refine PW.move rfl rfl rfl rfl rfl ?_
      refine PW.move rfl rfl rfl rfl rfl ?_
      refine PW.q2 (x := .tmp 36) (y := .tmp 37) (.int .i64 (q : Int)) rfl rfl rfl rfl rfl (fun ρ W h1 h2 => by have e : (k : Int) * (m : Int) = (q : Int) := (by (rw [← hq]; exact (Int.natCast_mul k m).symm)); go_simp; exact IntWalk.i64_in _ (by omega)) ?_
      refine PW.q2 (x := .tmp 38) (y := .const (.int .i64 1)) (.int .i64 ((q : Int) + 1)) rfl rfl rfl rfl rfl (fun ρ W h1 h2 => by first | (go_simp; done) | (go_simp; exact IntWalk.i64_in _ (by omega)) | (go_simp; exact Int.tmod_eq_emod_of_nonneg (by omega)) | (go_simp; exact Int.tdiv_eq_ediv_of_nonneg (by omega)) | (go_simp; exact (IntWalk.i64_in _ (by omega)).trans (by omega)) | (go_simp; rw [Int.tmod_eq_emod_of_nonneg (by omega)]; exact IntWalk.i64_in _ (by omega)) | (go_simp; omega)) ?_
      refine PW.assign rfl rfl rfl rfl rfl ?_
      refine PW.nil ?_
      refine SX.then ?_
      refine SC.seq ?_
      refine SC.seq ?_
      refine SC.region ?_
      refine PW.move rfl rfl rfl rfl rfl ?_
      refine PW.move rfl rfl rfl rfl rfl ?_
      refine PW.move rfl rfl rfl rfl rfl ?_
      refine PW.q2 (x := .tmp 42) (y := .const (.int .i64 2)) (.int .i64 1) rfl rfl rfl rfl rfl (fun ρ W h1 h2 => by have ht : Int.tmod (m : Int) 2 = 1 := (by (rw [Int.tmod_eq_emod_of_nonneg (by omega)]; omega)); go_simp; first | done | exact IntWalk.i64_in _ (by omega)) ?_
      refine PW.q2 (x := .tmp 43) (y := .const (.int .i64 1)) (.bool true) rfl rfl rfl rfl rfl (fun ρ W h1 h2 => by go_simp) ?_
      refine PW.pick (t := true) rfl rfl rfl rfl rfl rfl ?_
      refine PW.nil ?_
      refine SX.then ?_
      refine SC.cond (t := true) rfl ?_
      refine SC.region ?_
      refine PW.move rfl rfl rfl rfl rfl ?_
      refine PW.q2 (x := .tmp 46) (y := .const (.int .i64 1)) (.int .i64 (q : Int)) rfl rfl rfl rfl rfl (fun ρ W h1 h2 => by first | (go_simp; done) | (go_simp; exact IntWalk.i64_in _ (by omega)) | (go_simp; exact Int.tmod_eq_emod_of_nonneg (by omega)) | (go_simp; exact Int.tdiv_eq_ediv_of_nonneg (by omega)) | (go_simp; exact (IntWalk.i64_in _ (by omega)).trans (by omega)) | (go_simp; rw [Int.tmod_eq_emod_of_nonneg (by omega)]; exact IntWalk.i64_in _ (by omega)) | (go_simp; omega)) ?_
      refine PW.assign rfl rfl rfl rfl rfl ?_
      refine PW.nil ?_
      refine SX.then ?_
      refine SC.seq ?_
      refine SC.seq ?_
      refine SC.region ?_
      refine PW.move rfl rfl rfl rfl rfl ?_
      refine PW.q2 (x := .tmp 48) (y := .const (.int .i64 0)) (.bool false) rfl rfl rfl rfl rfl (fun ρ W h1 h2 => by go_simp) ?_
      refine PW.move rfl rfl rfl rfl rfl ?_
      refine PW.move rfl rfl rfl rfl rfl ?_
      refine PW.q2 (x := .tmp 51) (y := .const (.int .i64 65536)) (.bool false) rfl rfl rfl rfl rfl (fun ρ W h1 h2 => by first | (go_simp; done) | (go_simp; rw [Int.tmod_eq_emod_of_nonneg (by omega)]; exact IntWalk.i64_in _ (by omega)) | (go_simp; omega)) ?_
      refine PW.move rfl rfl rfl rfl rfl ?_
      refine PW.skip rfl rfl rfl ?_
      refine PW.skip rfl rfl rfl ?_
      refine PW.pick (t := false) rfl rfl rfl rfl rfl rfl ?_
      refine PW.pick (t := false) rfl rfl rfl rfl rfl rfl ?_
      refine PW.move rfl rfl rfl rfl rfl ?_
      refine PW.move rfl rfl rfl rfl rfl ?_
      refine PW.q2 (x := .tmp 59) (y := .const (.int .i64 65536)) (.bool true) rfl rfl rfl rfl rfl (fun ρ W h1 h2 => by first | (go_simp; done) | (go_simp; rw [Int.tmod_eq_emod_of_nonneg (by omega)]; exact IntWalk.i64_in _ (by omega)) | (go_simp; omega)) ?_
      refine PW.move rfl rfl rfl rfl rfl ?_
      refine PW.move rfl rfl rfl rfl rfl ?_
      refine PW.q2 (x := .tmp 62) (y := .const (.int .i64 0)) (.bool false) rfl rfl rfl rfl rfl (fun ρ W h1 h2 => by go_simp) ?_
      refine PW.move rfl rfl rfl rfl rfl ?_
      refine PW.load rfl rfl rfl rfl rfl rfl ?_
      refine PW.call (r := .vl (.int .i64 ((q : Int)))) rfl rfl rfl rfl rfl rfl (KV.st _) rfl (k_len (pl_bd (pl_o hq hp) (by omega)) (by decide) (by first | (rw [pl_o hq hp]; done) | (rw [pl_o hq hp]; rfl))) ?_
      refine PW.move rfl rfl rfl rfl rfl ?_
      refine PW.q2 (x := .tmp 66) (y := .tmp 67) (.bool false) rfl rfl rfl rfl rfl (fun ρ W h1 h2 => by go_simp) ?_
      refine PW.pick (t := false) rfl rfl rfl rfl rfl rfl ?_
      refine PW.pick (t := true) rfl rfl rfl rfl rfl rfl ?_
      refine PW.pick (t := false) rfl rfl rfl rfl rfl rfl ?_
      refine PW.nil ?_
      refine SX.then ?_
      refine SC.cond (t := false) rfl ?_
      refine SC.skip ?_
      refine SX.then ?_
      refine SC.seq ?_
      refine SC.region ?_
      refine PW.call (r := .vl (.bool true)) rfl rfl rfl rfl rfl rfl (KV.st _) rfl (k_awake) ?_
      refine PW.assign rfl rfl rfl rfl rfl ?_
      refine PW.nil ?_
      refine SX.then ?_
      refine SC.ret ?_
      exact SX.done (s := 6) (r := .vl (.bool true)) rfl rfl rfl
    · refine SC.region ?_
      refine PW.load rfl rfl rfl rfl rfl rfl ?_
      refine PW.move rfl rfl rfl rfl rfl ?_
      refine PW.call (r := .kw (K2 (KI (0)) (KV (.int .i64 14)))) rfl rfl rfl rfl rfl rfl (K2.st (KI.st _) (KV.st _)) rfl (k_power_large (bd.pow2 (k := k) (by omega)).neg (by decide) (by omega) (by rw [pl_o hq hp]; omega)) ?_
      refine PW.move rfl rfl rfl rfl rfl ?_
      refine PW.ext (r := .kw (KI (0))) rfl rfl rfl rfl rfl ex20 (KI.st _) rfl ?_
      refine PW.ext (r := .vl (.int .i64 14)) rfl rfl rfl rfl rfl ex21v (KV.st _) rfl ?_
      refine PW.alloc (BI 28) rfl rfl rfl rfl rfl bI ?_
      refine PW.store (x := .tmp 34) (r := .kw (KI (0))) rfl rfl rfl rfl rfl rfl sh_I ?_
      refine PW.assign rfl rfl rfl rfl rfl ?_
      refine PW.nil ?_
      refine SX.then ?_
      refine SC.seq ?_
      refine SC.region ?_
      refine PW.move rfl rfl rfl rfl rfl ?_
      refine PW.move rfl rfl rfl rfl rfl ?_
      refine PW.q2 (x := .tmp 36) (y := .tmp 37) (.int .i64 (q : Int)) rfl rfl rfl rfl rfl (fun ρ W h1 h2 => by have e : (k : Int) * (m : Int) = (q : Int) := (by (rw [← hq]; exact (Int.natCast_mul k m).symm)); go_simp; exact IntWalk.i64_in _ (by omega)) ?_
      refine PW.q2 (x := .tmp 38) (y := .const (.int .i64 1)) (.int .i64 ((q : Int) + 1)) rfl rfl rfl rfl rfl (fun ρ W h1 h2 => by first | (go_simp; done) | (go_simp; exact IntWalk.i64_in _ (by omega)) | (go_simp; exact Int.tmod_eq_emod_of_nonneg (by omega)) | (go_simp; exact Int.tdiv_eq_ediv_of_nonneg (by omega)) | (go_simp; exact (IntWalk.i64_in _ (by omega)).trans (by omega)) | (go_simp; rw [Int.tmod_eq_emod_of_nonneg (by omega)]; exact IntWalk.i64_in _ (by omega)) | (go_simp; omega)) ?_
      refine PW.assign rfl rfl rfl rfl rfl ?_
      refine PW.nil ?_
      refine SX.then ?_
      refine SC.seq ?_
      refine SC.seq ?_
      refine SC.region ?_
      refine PW.move rfl rfl rfl rfl rfl ?_
      refine PW.move rfl rfl rfl rfl rfl ?_
      refine PW.move rfl rfl rfl rfl rfl ?_
      refine PW.q2 (x := .tmp 42) (y := .const (.int .i64 2)) (.int .i64 1) rfl rfl rfl rfl rfl (fun ρ W h1 h2 => by have ht : Int.tmod (m : Int) 2 = 1 := (by (rw [Int.tmod_eq_emod_of_nonneg (by omega)]; omega)); go_simp; first | done | exact IntWalk.i64_in _ (by omega)) ?_
      refine PW.q2 (x := .tmp 43) (y := .const (.int .i64 1)) (.bool true) rfl rfl rfl rfl rfl (fun ρ W h1 h2 => by go_simp) ?_
      refine PW.pick (t := true) rfl rfl rfl rfl rfl rfl ?_
      refine PW.nil ?_
      refine SX.then ?_
      refine SC.cond (t := true) rfl ?_
      refine SC.region ?_
      refine PW.move rfl rfl rfl rfl rfl ?_
      refine PW.q2 (x := .tmp 46) (y := .const (.int .i64 1)) (.int .i64 (q : Int)) rfl rfl rfl rfl rfl (fun ρ W h1 h2 => by first | (go_simp; done) | (go_simp; exact IntWalk.i64_in _ (by omega)) | (go_simp; exact Int.tmod_eq_emod_of_nonneg (by omega)) | (go_simp; exact Int.tdiv_eq_ediv_of_nonneg (by omega)) | (go_simp; exact (IntWalk.i64_in _ (by omega)).trans (by omega)) | (go_simp; rw [Int.tmod_eq_emod_of_nonneg (by omega)]; exact IntWalk.i64_in _ (by omega)) | (go_simp; omega)) ?_
      refine PW.assign rfl rfl rfl rfl rfl ?_
      refine PW.nil ?_
      refine SX.then ?_
      refine SC.seq ?_
      refine SC.seq ?_
      refine SC.region ?_
      refine PW.move rfl rfl rfl rfl rfl ?_
      refine PW.q2 (x := .tmp 48) (y := .const (.int .i64 0)) (.bool false) rfl rfl rfl rfl rfl (fun ρ W h1 h2 => by go_simp) ?_
      refine PW.move rfl rfl rfl rfl rfl ?_
      refine PW.move rfl rfl rfl rfl rfl ?_
      refine PW.q2 (x := .tmp 51) (y := .const (.int .i64 65536)) (.bool true) rfl rfl rfl rfl rfl (fun ρ W h1 h2 => by first | (go_simp; done) | (go_simp; rw [Int.tmod_eq_emod_of_nonneg (by omega)]; exact IntWalk.i64_in _ (by omega)) | (go_simp; omega)) ?_
      refine PW.move rfl rfl rfl rfl rfl ?_
      refine PW.move rfl rfl rfl rfl rfl ?_
      refine PW.q2 (x := .tmp 54) (y := .const (.int .i64 14)) (.bool false) rfl rfl rfl rfl rfl (fun ρ W h1 h2 => by go_simp) ?_
      refine PW.pick (t := true) rfl rfl rfl rfl rfl rfl ?_
      refine PW.pick (t := false) rfl rfl rfl rfl rfl rfl ?_
      refine PW.move rfl rfl rfl rfl rfl ?_
      refine PW.move rfl rfl rfl rfl rfl ?_
      refine PW.q2 (x := .tmp 59) (y := .const (.int .i64 65536)) (.bool false) rfl rfl rfl rfl rfl (fun ρ W h1 h2 => by first | (go_simp; done) | (go_simp; rw [Int.tmod_eq_emod_of_nonneg (by omega)]; exact IntWalk.i64_in _ (by omega)) | (go_simp; omega)) ?_
      refine PW.move rfl rfl rfl rfl rfl ?_
      refine PW.skip rfl rfl rfl ?_
      refine PW.skip rfl rfl rfl ?_
      refine PW.skip rfl rfl rfl ?_
      refine PW.skip rfl rfl rfl ?_
      refine PW.skip rfl rfl rfl ?_
      refine PW.skip rfl rfl rfl ?_
      refine PW.skip rfl rfl rfl ?_
      refine PW.skip rfl rfl rfl ?_
      refine PW.pick (t := false) rfl rfl rfl rfl rfl rfl ?_
      refine PW.pick (t := false) rfl rfl rfl rfl rfl rfl ?_
      refine PW.nil ?_
      refine SX.then ?_
      refine SC.cond (t := false) rfl ?_
      refine SC.skip ?_
      refine SX.then ?_
      refine SC.seq ?_
      refine SC.region ?_
      refine PW.call (r := .vl (.bool true)) rfl rfl rfl rfl rfl rfl (KV.st _) rfl (k_awake) ?_
      refine PW.assign rfl rfl rfl rfl rfl ?_
      refine PW.nil ?_
      refine SX.then ?_
      refine SC.ret ?_
      exact SX.done (s := 6) (r := .vl (.bool true)) rfl rfl rfl
  · by_cases hl : q + 1 ≤ 65536
    · refine SC.region ?_
      refine PW.load rfl rfl rfl rfl rfl rfl ?_
      refine PW.move rfl rfl rfl rfl rfl ?_
      refine PW.call (r := .kw (K2 (KI ((-((2 : Int) ^ k)) ^ m)) (KV (.int .i64 0)))) rfl rfl rfl rfl rfl rfl (K2.st (KI.st _) (KV.st _)) rfl (k_power_ok (bd.pow2 (k := k) (by omega)).neg (by decide) (by omega) (by rw [pl_e hq (by omega)]; omega)) ?_
      refine PW.move rfl rfl rfl rfl rfl ?_
      refine PW.ext (r := .kw (KI ((-((2 : Int) ^ k)) ^ m))) rfl rfl rfl rfl rfl ex20 (KI.st _) rfl ?_
      refine PW.ext (r := .vl (.int .i64 0)) rfl rfl rfl rfl rfl ex21v (KV.st _) rfl ?_
      refine PW.alloc (BI 28) rfl rfl rfl rfl rfl bI ?_
      refine PW.store (x := .tmp 34) (r := .kw (KI ((-((2 : Int) ^ k)) ^ m))) rfl rfl rfl rfl rfl rfl sh_I ?_
      refine PW.assign rfl rfl rfl rfl rfl ?_
      refine PW.nil ?_
      refine SX.then ?_
      refine SC.seq ?_
      refine SC.region ?_
      refine PW.move rfl rfl rfl rfl rfl ?_
      refine PW.move rfl rfl rfl rfl rfl ?_
      refine PW.q2 (x := .tmp 36) (y := .tmp 37) (.int .i64 (q : Int)) rfl rfl rfl rfl rfl (fun ρ W h1 h2 => by have e : (k : Int) * (m : Int) = (q : Int) := (by (rw [← hq]; exact (Int.natCast_mul k m).symm)); go_simp; exact IntWalk.i64_in _ (by omega)) ?_
      refine PW.q2 (x := .tmp 38) (y := .const (.int .i64 1)) (.int .i64 ((q : Int) + 1)) rfl rfl rfl rfl rfl (fun ρ W h1 h2 => by first | (go_simp; done) | (go_simp; exact IntWalk.i64_in _ (by omega)) | (go_simp; exact Int.tmod_eq_emod_of_nonneg (by omega)) | (go_simp; exact Int.tdiv_eq_ediv_of_nonneg (by omega)) | (go_simp; exact (IntWalk.i64_in _ (by omega)).trans (by omega)) | (go_simp; rw [Int.tmod_eq_emod_of_nonneg (by omega)]; exact IntWalk.i64_in _ (by omega)) | (go_simp; omega)) ?_
      refine PW.assign rfl rfl rfl rfl rfl ?_
      refine PW.nil ?_
      refine SX.then ?_
      refine SC.seq ?_
      refine SC.seq ?_
      refine SC.region ?_
      refine PW.move rfl rfl rfl rfl rfl ?_
      refine PW.move rfl rfl rfl rfl rfl ?_
      refine PW.move rfl rfl rfl rfl rfl ?_
      refine PW.q2 (x := .tmp 42) (y := .const (.int .i64 2)) (.int .i64 0) rfl rfl rfl rfl rfl (fun ρ W h1 h2 => by have ht : Int.tmod (m : Int) 2 = 0 := (by (rw [Int.tmod_eq_emod_of_nonneg (by omega)]; omega)); go_simp; first | done | exact IntWalk.i64_in _ (by omega)) ?_
      refine PW.q2 (x := .tmp 43) (y := .const (.int .i64 1)) (.bool false) rfl rfl rfl rfl rfl (fun ρ W h1 h2 => by go_simp) ?_
      refine PW.pick (t := true) rfl rfl rfl rfl rfl rfl ?_
      refine PW.nil ?_
      refine SX.then ?_
      refine SC.cond (t := false) rfl ?_
      refine SC.skip ?_
      refine SX.then ?_
      refine SC.seq ?_
      refine SC.seq ?_
      refine SC.region ?_
      refine PW.move rfl rfl rfl rfl rfl ?_
      refine PW.q2 (x := .tmp 48) (y := .const (.int .i64 0)) (.bool false) rfl rfl rfl rfl rfl (fun ρ W h1 h2 => by go_simp) ?_
      refine PW.move rfl rfl rfl rfl rfl ?_
      refine PW.move rfl rfl rfl rfl rfl ?_
      refine PW.q2 (x := .tmp 51) (y := .const (.int .i64 65536)) (.bool false) rfl rfl rfl rfl rfl (fun ρ W h1 h2 => by first | (go_simp; done) | (go_simp; rw [Int.tmod_eq_emod_of_nonneg (by omega)]; exact IntWalk.i64_in _ (by omega)) | (go_simp; omega)) ?_
      refine PW.move rfl rfl rfl rfl rfl ?_
      refine PW.skip rfl rfl rfl ?_
      refine PW.skip rfl rfl rfl ?_
      refine PW.pick (t := false) rfl rfl rfl rfl rfl rfl ?_
      refine PW.pick (t := false) rfl rfl rfl rfl rfl rfl ?_
      refine PW.move rfl rfl rfl rfl rfl ?_
      refine PW.move rfl rfl rfl rfl rfl ?_
      refine PW.q2 (x := .tmp 59) (y := .const (.int .i64 65536)) (.bool true) rfl rfl rfl rfl rfl (fun ρ W h1 h2 => by first | (go_simp; done) | (go_simp; rw [Int.tmod_eq_emod_of_nonneg (by omega)]; exact IntWalk.i64_in _ (by omega)) | (go_simp; omega)) ?_
      refine PW.move rfl rfl rfl rfl rfl ?_
      refine PW.move rfl rfl rfl rfl rfl ?_
      refine PW.q2 (x := .tmp 62) (y := .const (.int .i64 0)) (.bool false) rfl rfl rfl rfl rfl (fun ρ W h1 h2 => by go_simp) ?_
      refine PW.move rfl rfl rfl rfl rfl ?_
      refine PW.load rfl rfl rfl rfl rfl rfl ?_
      refine PW.call (r := .vl (.int .i64 ((q : Int) + 1))) rfl rfl rfl rfl rfl rfl (KV.st _) rfl (k_len (pl_bd (pl_e hq (by omega)) (by omega)) (by decide) (by first | (rw [pl_e hq (by omega)]; done) | (rw [pl_e hq (by omega)]; rfl))) ?_
      refine PW.move rfl rfl rfl rfl rfl ?_
      refine PW.q2 (x := .tmp 66) (y := .tmp 67) (.bool false) rfl rfl rfl rfl rfl (fun ρ W h1 h2 => by go_simp) ?_
      refine PW.pick (t := false) rfl rfl rfl rfl rfl rfl ?_
      refine PW.pick (t := true) rfl rfl rfl rfl rfl rfl ?_
      refine PW.pick (t := false) rfl rfl rfl rfl rfl rfl ?_
      refine PW.nil ?_
      refine SX.then ?_
      refine SC.cond (t := false) rfl ?_
      refine SC.skip ?_
      refine SX.then ?_
      refine SC.seq ?_
      refine SC.region ?_
      refine PW.call (r := .vl (.bool true)) rfl rfl rfl rfl rfl rfl (KV.st _) rfl (k_awake) ?_
      refine PW.assign rfl rfl rfl rfl rfl ?_
      refine PW.nil ?_
      refine SX.then ?_
      refine SC.ret ?_
      exact SX.done (s := 6) (r := .vl (.bool true)) rfl rfl rfl
    · refine SC.region ?_
      refine PW.load rfl rfl rfl rfl rfl rfl ?_
      refine PW.move rfl rfl rfl rfl rfl ?_
      refine PW.call (r := .kw (K2 (KI (0)) (KV (.int .i64 14)))) rfl rfl rfl rfl rfl rfl (K2.st (KI.st _) (KV.st _)) rfl (k_power_large (bd.pow2 (k := k) (by omega)).neg (by decide) (by omega) (by rw [pl_e hq (by omega)]; omega)) ?_
      refine PW.move rfl rfl rfl rfl rfl ?_
      refine PW.ext (r := .kw (KI (0))) rfl rfl rfl rfl rfl ex20 (KI.st _) rfl ?_
      refine PW.ext (r := .vl (.int .i64 14)) rfl rfl rfl rfl rfl ex21v (KV.st _) rfl ?_
      refine PW.alloc (BI 28) rfl rfl rfl rfl rfl bI ?_
      refine PW.store (x := .tmp 34) (r := .kw (KI (0))) rfl rfl rfl rfl rfl rfl sh_I ?_
      refine PW.assign rfl rfl rfl rfl rfl ?_
      refine PW.nil ?_
      refine SX.then ?_
      refine SC.seq ?_
      refine SC.region ?_
      refine PW.move rfl rfl rfl rfl rfl ?_
      refine PW.move rfl rfl rfl rfl rfl ?_
      refine PW.q2 (x := .tmp 36) (y := .tmp 37) (.int .i64 (q : Int)) rfl rfl rfl rfl rfl (fun ρ W h1 h2 => by have e : (k : Int) * (m : Int) = (q : Int) := (by (rw [← hq]; exact (Int.natCast_mul k m).symm)); go_simp; exact IntWalk.i64_in _ (by omega)) ?_
      refine PW.q2 (x := .tmp 38) (y := .const (.int .i64 1)) (.int .i64 ((q : Int) + 1)) rfl rfl rfl rfl rfl (fun ρ W h1 h2 => by first | (go_simp; done) | (go_simp; exact IntWalk.i64_in _ (by omega)) | (go_simp; exact Int.tmod_eq_emod_of_nonneg (by omega)) | (go_simp; exact Int.tdiv_eq_ediv_of_nonneg (by omega)) | (go_simp; exact (IntWalk.i64_in _ (by omega)).trans (by omega)) | (go_simp; rw [Int.tmod_eq_emod_of_nonneg (by omega)]; exact IntWalk.i64_in _ (by omega)) | (go_simp; omega)) ?_
      refine PW.assign rfl rfl rfl rfl rfl ?_
      refine PW.nil ?_
      refine SX.then ?_
      refine SC.seq ?_
      refine SC.seq ?_
      refine SC.region ?_
      refine PW.move rfl rfl rfl rfl rfl ?_
      refine PW.move rfl rfl rfl rfl rfl ?_
      refine PW.move rfl rfl rfl rfl rfl ?_
      refine PW.q2 (x := .tmp 42) (y := .const (.int .i64 2)) (.int .i64 0) rfl rfl rfl rfl rfl (fun ρ W h1 h2 => by have ht : Int.tmod (m : Int) 2 = 0 := (by (rw [Int.tmod_eq_emod_of_nonneg (by omega)]; omega)); go_simp; first | done | exact IntWalk.i64_in _ (by omega)) ?_
      refine PW.q2 (x := .tmp 43) (y := .const (.int .i64 1)) (.bool false) rfl rfl rfl rfl rfl (fun ρ W h1 h2 => by go_simp) ?_
      refine PW.pick (t := true) rfl rfl rfl rfl rfl rfl ?_
      refine PW.nil ?_
      refine SX.then ?_
      refine SC.cond (t := false) rfl ?_
      refine SC.skip ?_
      refine SX.then ?_
      refine SC.seq ?_
      refine SC.seq ?_
      refine SC.region ?_
      refine PW.move rfl rfl rfl rfl rfl ?_
      refine PW.q2 (x := .tmp 48) (y := .const (.int .i64 0)) (.bool false) rfl rfl rfl rfl rfl (fun ρ W h1 h2 => by go_simp) ?_
      refine PW.move rfl rfl rfl rfl rfl ?_
      refine PW.move rfl rfl rfl rfl rfl ?_
      refine PW.q2 (x := .tmp 51) (y := .const (.int .i64 65536)) (.bool true) rfl rfl rfl rfl rfl (fun ρ W h1 h2 => by first | (go_simp; done) | (go_simp; rw [Int.tmod_eq_emod_of_nonneg (by omega)]; exact IntWalk.i64_in _ (by omega)) | (go_simp; omega)) ?_
      refine PW.move rfl rfl rfl rfl rfl ?_
      refine PW.move rfl rfl rfl rfl rfl ?_
      refine PW.q2 (x := .tmp 54) (y := .const (.int .i64 14)) (.bool false) rfl rfl rfl rfl rfl (fun ρ W h1 h2 => by go_simp) ?_
      refine PW.pick (t := true) rfl rfl rfl rfl rfl rfl ?_
      refine PW.pick (t := false) rfl rfl rfl rfl rfl rfl ?_
      refine PW.move rfl rfl rfl rfl rfl ?_
      refine PW.move rfl rfl rfl rfl rfl ?_
      refine PW.q2 (x := .tmp 59) (y := .const (.int .i64 65536)) (.bool false) rfl rfl rfl rfl rfl (fun ρ W h1 h2 => by first | (go_simp; done) | (go_simp; rw [Int.tmod_eq_emod_of_nonneg (by omega)]; exact IntWalk.i64_in _ (by omega)) | (go_simp; omega)) ?_
      refine PW.move rfl rfl rfl rfl rfl ?_
      refine PW.skip rfl rfl rfl ?_
      refine PW.skip rfl rfl rfl ?_
      refine PW.skip rfl rfl rfl ?_
      refine PW.skip rfl rfl rfl ?_
      refine PW.skip rfl rfl rfl ?_
      refine PW.skip rfl rfl rfl ?_
      refine PW.skip rfl rfl rfl ?_
      refine PW.skip rfl rfl rfl ?_
      refine PW.pick (t := false) rfl rfl rfl rfl rfl rfl ?_
      refine PW.pick (t := false) rfl rfl rfl rfl rfl rfl ?_
      refine PW.nil ?_
      refine SX.then ?_
      refine SC.cond (t := false) rfl ?_
      refine SC.skip ?_
      refine SX.then ?_
      refine SC.seq ?_
      refine SC.region ?_
      refine PW.call (r := .vl (.bool true)) rfl rfl rfl rfl rfl rfl (KV.st _) rfl (k_awake) ?_
      refine PW.assign rfl rfl rfl rfl rfl ?_
      refine PW.nil ?_
      refine SX.then ?_
      refine SC.ret ?_
      exact SX.done (s := 6) (r := .vl (.bool true)) rfl rfl rfl

theorem large_walk {b n : Int} {w : World} (hb : (Lit.int .u16 b).wf = true) (hn : (Lit.int .u16 n).wf = true) (g : Bool) : Calls Try.prog 10 #[.int .u16 b, .int .u16 n, .bool g] w (Ret w (KV (.bool true))) := by
  have key : ∀ {n : Int}, (Lit.int .u16 n).wf = true → 0 ≤ n ∧ n ≤ 65535 := fun {n} h => by
    simp only [Lit.wf, Bool.and_eq_true, decide_eq_true_eq] at h
    have hm : IntKind.u16.max = 65535 := by simp [IntKind.max, IntKind.bits, IntKind.signed]
    have hn : IntKind.u16.min = 0 := by simp [IntKind.min, IntKind.signed]
    rw [hm, hn] at h
    exact h
  have b1 := key hb
  have b2 := key hn
  obtain ⟨bt, rfl⟩ : ∃ k : Nat, b = k := ⟨b.toNat, by omega⟩
  obtain ⟨nt, rfl⟩ : ∃ k : Nat, n = k := ⟨n.toNat, by omega⟩
  have hq2 : (1 + bt % 200) * (nt % 2000) ≤ 400000 := by
    have := Nat.mul_le_mul (show 1 + bt % 200 ≤ 200 by omega) (show nt % 2000 ≤ 2000 by omega)
    omega
  cases g
  · exact (large_false (by omega) (by omega) rfl rfl rfl rfl hq2).2 w _ ⟨rfl, rfl, rfl, trivial⟩
  · exact (large_true (by omega) (by omega) rfl rfl rfl rfl hq2).2 w _ ⟨rfl, rfl, rfl, trivial⟩
end Go.Proofs.Ytcgkgcciogibkaa.Sy
