/- Parts Jx, Gc, Rt, Ip, in one file. -/
import Derived.Test.YtcgkgcciogibkaaK5
import Derived.Test.YtcgkgcciogibkaaLPowers1
import Derived.Test.YtcgkgcciogibkaaLPowers2
import Derived.Test.YtcgkgcciogibkaaLPowers5
/- The reference's Length, Power, Root by rules. -/
set_option linter.unusedVariables false
set_option linter.unusedSimpArgs false
namespace Go.Proofs.Ytcgkgcciogibkaa.Sy
open Go Go.RowKit Ma
theorem sgn_gt_iff {x : Int} : sgn x > 0 ↔ 0 < x := by unfold sgn; split <;> (try split) <;> omega
theorem sgn_lt_iff {x : Int} : sgn x < 0 ↔ x < 0 := by unfold sgn; split <;> (try split) <;> omega
theorem wid_le1 {x : Int} (h : x.natAbs ≤ 1) : (wid (x.natAbs : Int) : Int) ≤ 1 := by have := wid_le_of (z := (x.natAbs : Int)) (n := 1) (by omega); omega
theorem wid_gt1 {x : Int} (h : 2 ≤ x.natAbs) : 1 < wid (x.natAbs : Int) := by
  have h1 := wid_lt (x.natAbs : Int)
  apply Classical.byContradiction
  intro h2
  have h3 := pow_le (b := 2) (by decide) (show wid (x.natAbs : Int) ≤ 1 by omega)
  omega
theorem bd_le1 {x : Int} (h : x.natAbs ≤ 1) : bd 1 x := bd.lit (by omega)
theorem wid_bdn {z : Int} {a : Nat} (h : bd a z) : wid (z.natAbs : Int) ≤ 32 * a := wid_le_of (by have := bd2.1 h; omega)
theorem wid_bdp {z : Int} {a : Nat} (h : bd a z) : wid (pat z) ≤ 32 * a := wid_le_of (by have := bd2.1 h; unfold pat; split <;> omega)
theorem pw_zero {x : Int} {n : Nat} (h : n = 0) : x ^ n = 1 := by subst h; exact Int.pow_zero x
theorem pw_one {x : Int} {n : Nat} (h : x = 1) : x ^ n = 1 := by subst h; exact Int.one_pow
theorem pw_even1 {x : Int} {n : Nat} (h : x = -1) (he : n % 2 = 0) : x ^ n = 1 := by subst h; rw [npow_even he]; exact Int.one_pow
theorem pw_self {x : Int} {n : Nat} (h : x = -1) (he : ¬ n % 2 = 0) : x ^ n = x := by subst h; rw [npow_odd (by omega), Int.one_pow]
theorem pw_self0 {x : Int} {n : Nat} (h : x = 0) (he : ¬ n = 0) : x ^ n = x := by subst h; exact Int.zero_pow he
theorem bd.pw2 {x : Int} (X : bd 2 x) {n : Nat} (hn : n ≤ 41) : bd 83 (x ^ n) := by
  have h0 : x.natAbs ≤ 4294967296 ^ 2 := by
    have e : (b32 : Int) ^ 2 = ((4294967296 ^ 2 : Nat) : Int) := by rw [Int.natCast_pow]; rfl
    unfold bd at X
    rw [e] at X
    omega
  have h1 : x.natAbs ^ n ≤ (4294967296 ^ 2) ^ n := Nat.pow_le_pow_left h0 n
  have h2 : (4294967296 ^ 2) ^ n ≤ 4294967296 ^ 82 := by rw [← Nat.pow_mul]; exact Nat.pow_le_pow_right (by decide) (by omega)
  have h3 : 4294967296 ^ 82 < 4294967296 ^ 83 := Nat.pow_lt_pow_right (by decide) (by decide)
  have h4 : (x ^ n).natAbs < 4294967296 ^ 83 := by rw [Int.natAbs_pow]; omega
  have e : (b32 : Int) ^ 83 = ((4294967296 ^ 83 : Nat) : Int) := by rw [Int.natCast_pow]; rfl
  unfold bd
  rw [e]
  omega
theorem bd_two {n i : Nat} (h : i ≤ 32 * n + 1) : bd (n + 1) (2 ^ i : Int) := by
  have h1 := pow_le (b := 2) (by decide) (show i + 1 ≤ 32 * (n + 1) by omega)
  have h2 : (0 : Int) < 2 ^ i := Int.pow_pos (by decide)
  rw [Int.pow_succ] at h1
  rw [bd2]
  omega
/-- The rounds of Root. -/
structure Rq (x : Int) (m t : Nat) (q : Int) : Prop where
  q0 : 0 ≤ q
  lo : q * q ≤ x
  hi : x < (q + 2 ^ t) * (q + 2 ^ t)
  le : t ≤ m
theorem Rq.start {x : Int} {w : Nat} (h : wid (x.natAbs : Int) = w) (hx : 0 ≤ x) : Rq x (w / 2 + 1) (w / 2 + 1) 0 := by
  refine ⟨by omega, by omega, ?_, Nat.le_refl _⟩
  have h1 := wid_lt (x.natAbs : Int)
  have h2 := pow_le (b := 2) (by decide) (show wid (x.natAbs : Int) ≤ (w / 2 + 1) + (w / 2 + 1) by omega)
  rw [Int.pow_add] at h2
  rw [Int.zero_add]
  omega
theorem Rq.up {x q : Int} {m i : Nat} (h : Rq x m (i + 1) q) (hq : (q + 2 ^ i) * (q + 2 ^ i) ≤ x) : Rq x m i (q + 2 ^ i) := by
  have hp : (0 : Int) < 2 ^ i := Int.pow_pos (by decide)
  have := h.hi
  have e : q + 2 ^ (i + 1) = q + 2 ^ i + 2 ^ i := by rw [Int.pow_succ]; omega
  rw [e] at this
  exact ⟨by have := h.q0; omega, hq, this, by have := h.le; omega⟩
theorem Rq.down {x q : Int} {m i : Nat} (h : Rq x m (i + 1) q) (hq : ¬ (q + 2 ^ i) * (q + 2 ^ i) ≤ x) : Rq x m i q := ⟨h.q0, h.lo, by omega, by have := h.le; omega⟩
theorem Rq.fin {x q r : Int} {m : Nat} (h : Rq x m 0 q) (h0 : 0 ≤ r) (h1 : r * r ≤ x) (h2 : x < (r + 1) * (r + 1)) : q = r := by
  have a := h.hi
  rw [Int.pow_zero] at a
  have b := h.lo
  have c := h.q0
  rcases Int.lt_trichotomy q r with e | e | e
  · have := Int.mul_le_mul (show q + 1 ≤ r by omega) (show q + 1 ≤ r by omega) (by omega) h0
    omega
  · exact e
  · have := Int.mul_le_mul (show r + 1 ≤ q by omega) (show r + 1 ≤ q by omega) (by omega) c
    omega
theorem Rq.bd {x q : Int} {m t n : Nat} (h : Rq x m t q) (X : Go.Proofs.Ytcgkgcciogibkaa.bd n x) : Go.Proofs.Ytcgkgcciogibkaa.bd n q := by
  have a := h.lo
  have b := h.q0
  have c : q ≤ x := by
    by_cases e : q = 0
    · rw [e] at a ⊢; omega
    · have := Int.mul_le_mul_of_nonneg_right (show 1 ≤ q by omega) b
      omega
  unfold Go.Proofs.Ytcgkgcciogibkaa.bd at *
  omega

theorem ce_k_jlen : CE 49 := fun args W => by go_simp

set_option maxHeartbeats 3200000 in
set_option maxRecDepth 100000 in
theorem k_jlen {x : Int} {a : Nat} (X : bd a x) (ha : a ≤ 400000) : CallOk 49 [KJ (x)] (KV (.int .i64 (wid (pat x) : Int))) := by
  refine CallOk.enter (l := [.kw (KJ (x))]) 11 ce_k_jlen Try.func49 rfl Try.ntmps49 (by simp) ⟨(KJ.st _), rfl, trivial⟩ fun w => ?_
  refine SC.seq ?_
  refine SC.region ?_
  refine PW.box (x := .tmp 0) (r := .kw (KJ (x))) (BI 31) rfl rfl rfl rfl rfl bJ rfl sh_J ?_
  refine PW.assign rfl rfl rfl rfl rfl ?_
  refine PW.nil ?_
  refine SX.then ?_
  refine SC.seq ?_
  refine SC.seq ?_
  by_cases nx : x < 0
  · refine SC.region ?_
    refine PW.fld (r := .vl (.bool true)) rfl rfl rfl rfl rfl rfl rfl rfl rfl rfl rfl (fldJ0 (decide_eq_true nx)) (KV.st _) ?_
    refine PW.nil ?_
    refine SX.then ?_
    refine SC.cond (t := true) rfl ?_
    refine SC.seq ?_
    refine SC.dx [.val 5 (.kw (KJ (x))), .val 6 (.kw (KJ (1))), .val 7 (.kw (KJ (x + 1))), .val 8 (.vl (.int .i64 (wid ((x + 1).natAbs) : Int))), .val 2 (.vl (.int .i64 (wid ((x + 1).natAbs) : Int)))] [([], [1]), ([], []), ([0, 1], []), ([2], []), ([3], [])] rfl (by kernel_rfl) (by kernel_rfl) (by kernel_rfl) rfl ⟨?_, ?_, ?_, ?_, ?_, trivial⟩ ?_
    · exact DX.load rfl rfl rfl rfl rfl rfl
    · exact DX.call (r := .kw (KJ (1))) rfl rfl rfl rfl rfl rfl (KJ.st _) rfl (k_jnew (by decide))
    · exact DX.call (r := .kw (KJ (x + 1))) rfl rfl rfl rfl rfl rfl (KJ.st _) rfl (k_jadd X (bd.lit (by decide)) (by first | decide | omega) (by first | decide | omega))
    · exact DX.call (r := .vl (.int .i64 (wid ((x + 1).natAbs) : Int))) rfl rfl rfl rfl rfl rfl (KV.st _) rfl (k_width (X.add (bd.lit (by decide))) (by first | decide | omega))
    · exact DX.assign rfl rfl rfl rfl rfl rfl
    refine SX.then ?_
    refine SC.ret ?_
    refine SX.thenR ?_
    have hr : (wid (pat x) : Int) = (wid ((x + 1).natAbs) : Int) := by unfold pat; rw [if_pos nx]; congr 2; omega
    rw [hr]
    exact SX.done (s := 2) (r := .vl (.int .i64 (wid ((x + 1).natAbs) : Int))) rfl rfl rfl
  · refine SC.region ?_
    refine PW.fld (r := .vl (.bool false)) rfl rfl rfl rfl rfl rfl rfl rfl rfl rfl rfl (fldJ0 (decide_eq_false nx)) (KV.st _) ?_
    refine PW.nil ?_
    refine SX.then ?_
    refine SC.cond (t := false) rfl ?_
    refine SC.skip ?_
    refine SX.then ?_
    refine SC.seq ?_
    refine SC.region ?_
    refine PW.load rfl rfl rfl rfl rfl rfl ?_
    refine PW.call (r := .vl (.int .i64 (wid ((x).natAbs) : Int))) rfl rfl rfl rfl rfl rfl (KV.st _) rfl (k_width X (by first | decide | omega)) ?_
    refine PW.assign rfl rfl rfl rfl rfl ?_
    refine PW.nil ?_
    refine SX.then ?_
    refine SC.ret ?_
    have hr : (wid (pat x) : Int) = (wid ((x).natAbs) : Int) := by unfold pat; rw [if_neg nx]; congr 2; omega
    rw [hr]
    exact SX.done (s := 2) (r := .vl (.int .i64 (wid ((x).natAbs) : Int))) rfl rfl rfl

theorem ce_k_jpower_neg : CE 63 := fun args W => by go_simp

set_option maxHeartbeats 3200000 in
set_option maxRecDepth 100000 in
theorem k_jpower_neg {x n : Int} (hn : n < 0) : CallOk 63 [KJ (x), KV (.int .i64 (n))] (K2 (KJ 0) (KV (.int .i64 1))) := by
  refine CallOk.enter (l := [.kw (KJ (x)), .vl (.int .i64 (n))]) 50 ce_k_jpower_neg Try.func63 rfl Try.ntmps63 (by simp) ⟨(KJ.st _), rfl, (KV.st _), rfl, trivial⟩ fun w => ?_
  refine SC.seq ?_
  refine SC.region ?_
  refine PW.box (x := .tmp 0) (r := .kw (KJ (x))) (BI 31) rfl rfl rfl rfl rfl bJ rfl sh_J ?_
  refine PW.alloc (BI 31) rfl rfl rfl rfl rfl bJ ?_
  refine PW.assign rfl rfl rfl rfl rfl ?_
  refine PW.nil ?_
  refine SX.then ?_
  refine SC.seq ?_
  refine SC.seq ?_
  refine SC.region ?_
  refine PW.move rfl rfl rfl rfl rfl ?_
  refine PW.q2 (x := .tmp 8) (y := .const (.int .i64 0)) (.bool true) rfl rfl rfl rfl rfl (fun ρ W h1 h2 => by exact r_lt h1 h2 (decide_eq_true hn)) ?_
  refine PW.nil ?_
  refine SX.then ?_
  refine SC.cond (t := true) rfl ?_
  refine SC.seq ?_
  refine SC.region ?_
  refine PW.val (r := .kw (KJ (0))) rfl rfl rfl rfl (fun a W hf => ⟨.agg #[.bool false, .slice none 0 0], by go_simp, zeroJ W, KJ.st _⟩) ?_
  refine PW.store (x := .tmp 10) (r := .kw (KJ (0))) rfl rfl rfl rfl rfl rfl sh_J ?_
  refine PW.assign rfl rfl rfl rfl rfl ?_
  refine PW.nil ?_
  refine SX.then ?_
  refine SC.ret ?_
  refine SX.thenR ?_
  exact SX.done2 (s := 4) (t := 5) (r := .vl (.int .i64 1)) (.inl rfl) rfl rfl rfl rfl

set_option maxHeartbeats 3200000 in
set_option maxRecDepth 100000 in
theorem k_jpower_small {x : Int} {n : Nat} (hx : x.natAbs ≤ 1) (hn : n ≤ 9223372036854775807) : CallOk 63 [KJ (x), KV (.int .i64 (n : Int))] (K2 (KJ (x ^ n)) (KV (.int .i64 0))) := by
  refine CallOk.enter (l := [.kw (KJ (x)), .vl (.int .i64 (n : Int))]) 50 ce_k_jpower_neg Try.func63 rfl Try.ntmps63 (by simp) ⟨(KJ.st _), rfl, (KV.st _), rfl, trivial⟩ fun w => ?_
  refine SC.seq ?_
  refine SC.region ?_
  refine PW.box (x := .tmp 0) (r := .kw (KJ (x))) (BI 31) rfl rfl rfl rfl rfl bJ rfl sh_J ?_
  refine PW.alloc (BI 31) rfl rfl rfl rfl rfl bJ ?_
  refine PW.assign rfl rfl rfl rfl rfl ?_
  refine PW.nil ?_
  refine SX.then ?_
  refine SC.seq ?_
  refine SC.seq ?_
  refine SC.region ?_
  refine PW.move rfl rfl rfl rfl rfl ?_
  refine PW.q2 (x := .tmp 8) (y := .const (.int .i64 0)) (.bool false) rfl rfl rfl rfl rfl (fun ρ W h1 h2 => by exact r_lt h1 h2 (decide_eq_false (by omega))) ?_
  refine PW.nil ?_
  refine SX.then ?_
  refine SC.cond (t := false) rfl ?_
  refine SC.skip ?_
  refine SX.then ?_
  refine SC.seq ?_
  refine SC.region ?_
  refine PW.call (r := .kw (KJ (1))) rfl rfl rfl rfl rfl rfl (KJ.st _) rfl (k_jnew (by decide)) ?_
  refine PW.alloc (BI 31) rfl rfl rfl rfl rfl bJ ?_
  refine PW.store (x := .tmp 11) (r := .kw (KJ (1))) rfl rfl rfl rfl rfl rfl sh_J ?_
  refine PW.nil ?_
  refine SX.then ?_
  refine SC.seq ?_
  refine SC.seq ?_
  refine SC.region ?_
  refine PW.load rfl rfl rfl rfl rfl rfl ?_
  refine PW.call (r := .vl (.int .i64 (wid ((x).natAbs) : Int))) rfl rfl rfl rfl rfl rfl (KV.st _) rfl (k_width ((bd_le1 hx)) (by first | decide | omega)) ?_
  refine PW.q2 (x := .tmp 13) (y := .const (.int .i64 1)) (.bool true) rfl rfl rfl rfl rfl (fun ρ W h1 h2 => by exact r_le h1 h2 (decide_eq_true (wid_le1 hx))) ?_
  refine PW.nil ?_
  refine SX.then ?_
  refine SC.cond (t := true) rfl ?_
  refine SC.seq ?_
  refine SC.seq ?_
  by_cases h0 : n = 0
  · refine SC.region ?_
    refine PW.move rfl rfl rfl rfl rfl ?_
    refine PW.q2 (x := .tmp 15) (y := .const (.int .i64 0)) (.bool true) rfl rfl rfl rfl rfl (fun ρ W h1 h2 => by exact r_eqT h1 h2 (by omega)) ?_
    refine PW.move rfl rfl rfl rfl rfl ?_
    refine PW.skip rfl rfl rfl ?_
    refine PW.skip rfl rfl rfl ?_
    refine PW.skip rfl rfl rfl ?_
    refine PW.pick (t := true) rfl rfl rfl rfl rfl rfl ?_
    refine PW.nil ?_
    refine SX.then ?_
    refine SC.cond (t := true) rfl ?_
    refine SC.seq ?_
    refine SC.region ?_
    refine PW.load rfl rfl rfl rfl rfl rfl ?_
    refine PW.store (x := .tmp 22) (r := .kw (KJ (1))) rfl rfl rfl rfl rfl rfl sh_J ?_
    refine PW.assign rfl rfl rfl rfl rfl ?_
    refine PW.nil ?_
    refine SX.then ?_
    refine SC.ret ?_
    refine SX.thenR ?_
    refine SX.thenR ?_
    have hr : x ^ n = 1 := pw_zero h0
    rw [hr]
    exact SX.done2 (s := 4) (t := 5) (r := .vl (.int .i64 0)) (.inl rfl) rfl rfl rfl rfl
  · by_cases hp : 0 < x
    · refine SC.region ?_
      refine PW.move rfl rfl rfl rfl rfl ?_
      refine PW.q2 (x := .tmp 15) (y := .const (.int .i64 0)) (.bool false) rfl rfl rfl rfl rfl (fun ρ W h1 h2 => by exact r_eqF h1 h2 (by omega)) ?_
      refine PW.move rfl rfl rfl rfl rfl ?_
      refine PW.load rfl rfl rfl rfl rfl rfl ?_
      refine PW.call (r := .vl (.int .i64 (sgn x))) rfl rfl rfl rfl rfl rfl (KV.st _) rfl (k_jsign rfl) ?_
      refine PW.q2 (x := .tmp 19) (y := .const (.int .i64 0)) (.bool true) rfl rfl rfl rfl rfl (fun ρ W h1 h2 => by exact r_gt h1 h2 (decide_eq_true (sgn_gt_iff.2 hp))) ?_
      refine PW.pick (t := false) rfl rfl rfl rfl rfl rfl ?_
      refine PW.nil ?_
      refine SX.then ?_
      refine SC.cond (t := true) rfl ?_
      refine SC.seq ?_
      refine SC.region ?_
      refine PW.load rfl rfl rfl rfl rfl rfl ?_
      refine PW.store (x := .tmp 22) (r := .kw (KJ (1))) rfl rfl rfl rfl rfl rfl sh_J ?_
      refine PW.assign rfl rfl rfl rfl rfl ?_
      refine PW.nil ?_
      refine SX.then ?_
      refine SC.ret ?_
      refine SX.thenR ?_
      refine SX.thenR ?_
      have hr : x ^ n = 1 := pw_one (by omega)
      rw [hr]
      exact SX.done2 (s := 4) (t := 5) (r := .vl (.int .i64 0)) (.inl rfl) rfl rfl rfl rfl
    · refine SC.region ?_
      refine PW.move rfl rfl rfl rfl rfl ?_
      refine PW.q2 (x := .tmp 15) (y := .const (.int .i64 0)) (.bool false) rfl rfl rfl rfl rfl (fun ρ W h1 h2 => by exact r_eqF h1 h2 (by omega)) ?_
      refine PW.move rfl rfl rfl rfl rfl ?_
      refine PW.load rfl rfl rfl rfl rfl rfl ?_
      refine PW.call (r := .vl (.int .i64 (sgn x))) rfl rfl rfl rfl rfl rfl (KV.st _) rfl (k_jsign rfl) ?_
      refine PW.q2 (x := .tmp 19) (y := .const (.int .i64 0)) (.bool false) rfl rfl rfl rfl rfl (fun ρ W h1 h2 => by exact r_gt h1 h2 (decide_eq_false (fun h => hp (sgn_gt_iff.1 h)))) ?_
      refine PW.pick (t := false) rfl rfl rfl rfl rfl rfl ?_
      refine PW.nil ?_
      refine SX.then ?_
      refine SC.cond (t := false) rfl ?_
      refine SC.skip ?_
      refine SX.then ?_
      refine SC.seq ?_
      refine SC.seq ?_
      by_cases nx : x < 0
      · by_cases he : n % 2 = 0
        · refine SC.region ?_
          refine PW.load rfl rfl rfl rfl rfl rfl ?_
          refine PW.call (r := .vl (.int .i64 (sgn x))) rfl rfl rfl rfl rfl rfl (KV.st _) rfl (k_jsign rfl) ?_
          refine PW.q2 (x := .tmp 24) (y := .const (.int .i64 0)) (.bool true) rfl rfl rfl rfl rfl (fun ρ W h1 h2 => by exact r_lt h1 h2 (decide_eq_true (sgn_lt_iff.2 nx))) ?_
          refine PW.move rfl rfl rfl rfl rfl ?_
          refine PW.move rfl rfl rfl rfl rfl ?_
          refine PW.q2 (x := .tmp 27) (y := .const (.int .i64 2)) (.int .i64 ((n % 2 : Nat))) rfl rfl rfl rfl rfl (fun ρ W h1 h2 => by exact r_rem h1 h2 (by omega) (by omega) (by decide)) ?_
          refine PW.q2 (x := .tmp 28) (y := .const (.int .i64 0)) (.bool true) rfl rfl rfl rfl rfl (fun ρ W h1 h2 => by exact r_eqT h1 h2 (by omega)) ?_
          refine PW.pick (t := true) rfl rfl rfl rfl rfl rfl ?_
          refine PW.nil ?_
          refine SX.then ?_
          refine SC.cond (t := true) rfl ?_
          refine SC.seq ?_
          refine SC.region ?_
          refine PW.load rfl rfl rfl rfl rfl rfl ?_
          refine PW.store (x := .tmp 31) (r := .kw (KJ (1))) rfl rfl rfl rfl rfl rfl sh_J ?_
          refine PW.assign rfl rfl rfl rfl rfl ?_
          refine PW.nil ?_
          refine SX.then ?_
          refine SC.ret ?_
          refine SX.thenR ?_
          refine SX.thenR ?_
          have hr : x ^ n = 1 := pw_even1 (by omega) he
          rw [hr]
          exact SX.done2 (s := 4) (t := 5) (r := .vl (.int .i64 0)) (.inl rfl) rfl rfl rfl rfl
        · refine SC.region ?_
          refine PW.load rfl rfl rfl rfl rfl rfl ?_
          refine PW.call (r := .vl (.int .i64 (sgn x))) rfl rfl rfl rfl rfl rfl (KV.st _) rfl (k_jsign rfl) ?_
          refine PW.q2 (x := .tmp 24) (y := .const (.int .i64 0)) (.bool true) rfl rfl rfl rfl rfl (fun ρ W h1 h2 => by exact r_lt h1 h2 (decide_eq_true (sgn_lt_iff.2 nx))) ?_
          refine PW.move rfl rfl rfl rfl rfl ?_
          refine PW.move rfl rfl rfl rfl rfl ?_
          refine PW.q2 (x := .tmp 27) (y := .const (.int .i64 2)) (.int .i64 ((n % 2 : Nat))) rfl rfl rfl rfl rfl (fun ρ W h1 h2 => by exact r_rem h1 h2 (by omega) (by omega) (by decide)) ?_
          refine PW.q2 (x := .tmp 28) (y := .const (.int .i64 0)) (.bool false) rfl rfl rfl rfl rfl (fun ρ W h1 h2 => by exact r_eqF h1 h2 (by omega)) ?_
          refine PW.pick (t := true) rfl rfl rfl rfl rfl rfl ?_
          refine PW.nil ?_
          refine SX.then ?_
          refine SC.cond (t := false) rfl ?_
          refine SC.skip ?_
          refine SX.then ?_
          refine SC.seq ?_
          refine SC.region ?_
          refine PW.load rfl rfl rfl rfl rfl rfl ?_
          refine PW.store (x := .tmp 32) (r := .kw (KJ (x))) rfl rfl rfl rfl rfl rfl sh_J ?_
          refine PW.assign rfl rfl rfl rfl rfl ?_
          refine PW.nil ?_
          refine SX.then ?_
          refine SC.ret ?_
          refine SX.thenR ?_
          have hr : x ^ n = x := pw_self (by omega) he
          rw [hr]
          exact SX.done2 (s := 4) (t := 5) (r := .vl (.int .i64 0)) (.inl rfl) rfl rfl rfl rfl
      · refine SC.region ?_
        refine PW.load rfl rfl rfl rfl rfl rfl ?_
        refine PW.call (r := .vl (.int .i64 (sgn x))) rfl rfl rfl rfl rfl rfl (KV.st _) rfl (k_jsign rfl) ?_
        refine PW.q2 (x := .tmp 24) (y := .const (.int .i64 0)) (.bool false) rfl rfl rfl rfl rfl (fun ρ W h1 h2 => by exact r_lt h1 h2 (decide_eq_false (fun h => nx (sgn_lt_iff.1 h)))) ?_
        refine PW.move rfl rfl rfl rfl rfl ?_
        refine PW.skip rfl rfl rfl ?_
        refine PW.skip rfl rfl rfl ?_
        refine PW.skip rfl rfl rfl ?_
        refine PW.pick (t := false) rfl rfl rfl rfl rfl rfl ?_
        refine PW.nil ?_
        refine SX.then ?_
        refine SC.cond (t := false) rfl ?_
        refine SC.skip ?_
        refine SX.then ?_
        refine SC.seq ?_
        refine SC.region ?_
        refine PW.load rfl rfl rfl rfl rfl rfl ?_
        refine PW.store (x := .tmp 32) (r := .kw (KJ (x))) rfl rfl rfl rfl rfl rfl sh_J ?_
        refine PW.assign rfl rfl rfl rfl rfl ?_
        refine PW.nil ?_
        refine SX.then ?_
        refine SC.ret ?_
        refine SX.thenR ?_
        have hr : x ^ n = x := pw_self0 (by omega) h0
        rw [hr]
        exact SX.done2 (s := 4) (t := 5) (r := .vl (.int .i64 0)) (.inl rfl) rfl rfl rfl rfl

set_option maxHeartbeats 3200000 in
set_option maxRecDepth 100000 in
theorem k_jpower {x : Int} {n : Nat} (X : bd 2 x) (hx : 2 ≤ x.natAbs) (hn : n ≤ 40) : CallOk 63 [KJ (x), KV (.int .i64 (n : Int))] (K2 (KJ (x ^ n)) (KV (.int .i64 0))) := by
  refine CallOk.enter (l := [.kw (KJ (x)), .vl (.int .i64 (n : Int))]) 50 ce_k_jpower_neg Try.func63 rfl Try.ntmps63 (by simp) ⟨(KJ.st _), rfl, (KV.st _), rfl, trivial⟩ fun w => ?_
  refine SC.seq ?_
  refine SC.region ?_
  refine PW.box (x := .tmp 0) (r := .kw (KJ (x))) (BI 31) rfl rfl rfl rfl rfl bJ rfl sh_J ?_
  refine PW.alloc (BI 31) rfl rfl rfl rfl rfl bJ ?_
  refine PW.assign rfl rfl rfl rfl rfl ?_
  refine PW.nil ?_
  refine SX.then ?_
  refine SC.seq ?_
  refine SC.seq ?_
  refine SC.region ?_
  refine PW.move rfl rfl rfl rfl rfl ?_
  refine PW.q2 (x := .tmp 8) (y := .const (.int .i64 0)) (.bool false) rfl rfl rfl rfl rfl (fun ρ W h1 h2 => by exact r_lt h1 h2 (decide_eq_false (by omega))) ?_
  refine PW.nil ?_
  refine SX.then ?_
  refine SC.cond (t := false) rfl ?_
  refine SC.skip ?_
  refine SX.then ?_
  refine SC.seq ?_
  refine SC.region ?_
  refine PW.call (r := .kw (KJ (1))) rfl rfl rfl rfl rfl rfl (KJ.st _) rfl (k_jnew (by decide)) ?_
  refine PW.alloc (BI 31) rfl rfl rfl rfl rfl bJ ?_
  refine PW.store (x := .tmp 11) (r := .kw (KJ (1))) rfl rfl rfl rfl rfl rfl sh_J ?_
  refine PW.nil ?_
  refine SX.then ?_
  refine SC.seq ?_
  refine SC.seq ?_
  refine SC.region ?_
  refine PW.load rfl rfl rfl rfl rfl rfl ?_
  refine PW.call (r := .vl (.int .i64 (wid ((x).natAbs) : Int))) rfl rfl rfl rfl rfl rfl (KV.st _) rfl (k_width X (by first | decide | omega)) ?_
  refine PW.q2 (x := .tmp 13) (y := .const (.int .i64 1)) (.bool false) rfl rfl rfl rfl rfl (fun ρ W h1 h2 => by exact r_le h1 h2 (decide_eq_false (by have := wid_gt1 hx; omega))) ?_
  refine PW.nil ?_
  refine SX.then ?_
  refine SC.cond (t := false) rfl ?_
  refine SC.skip ?_
  refine SX.then ?_
  refine SC.seq ?_
  refine SC.seq ?_
  refine SC.region ?_
  refine PW.assign rfl rfl rfl rfl rfl ?_
  refine PW.nil ?_
  refine SX.then ?_
  refine SC.block ?_
  refine SC.loop (S := Nat × Int) (fun ⟨i, y⟩ => [(1, .vl (.int .i64 (n : Int))), (2, .bx (BI 31) (KJ (x))), (4, .nb (BI 31)), (5, .vl (.int .i64 0)), (6, .bx (BI 31) (KJ (y))), (7, .vl (.int .i64 (i : Int)))]) (fun ⟨i, y⟩ => i ≤ n ∧ y = x ^ i) (fun ⟨i, y⟩ => n - i) (0, 1) ⟨Nat.zero_le n, (Int.pow_zero x).symm⟩ ⟨rfl, rfl, rfl, rfl, rfl, rfl, trivial⟩ ?_
  rintro ⟨i, y⟩ ⟨hP, hy⟩
  show SC _ _ _ _ [(1, .vl (.int .i64 (n : Int))), (2, .bx (BI 31) (KJ (x))), (4, .nb (BI 31)), (5, .vl (.int .i64 0)), (6, .bx (BI 31) (KJ (y))), (7, .vl (.int .i64 (i : Int)))] _
  have Y2 : bd 83 y := hy ▸ bd.pw2 X (by omega)
  refine SC.seq ?_
  refine SC.seq ?_
  by_cases hk : (i : Int) < (n : Int)
  · refine SC.region ?_
    refine PW.move rfl rfl rfl rfl rfl ?_
    refine PW.move rfl rfl rfl rfl rfl ?_
    refine PW.q2 (x := .tmp 33) (y := .tmp 34) (.bool true) rfl rfl rfl rfl rfl (fun ρ W h1 h2 => by exact r_lt h1 h2 (decide_eq_true hk)) ?_
    refine PW.nil ?_
    refine SX.then ?_
    refine SC.cond (t := true) rfl ?_
    refine SC.skip ?_
    refine SX.then ?_
    refine SC.seq ?_
    refine SC.block ?_
    refine SC.seq ?_
    refine SC.region ?_
    refine PW.load rfl rfl rfl rfl rfl rfl ?_
    refine PW.load rfl rfl rfl rfl rfl rfl ?_
    refine PW.call (r := .kw (KJ (y * x))) rfl rfl rfl rfl rfl rfl (KJ.st _) rfl (k_jmul Y2 X (by first | decide | omega) (by first | decide | omega)) ?_
    refine PW.store (x := .tmp 40) (r := .kw (KJ (y * x))) rfl rfl rfl rfl rfl rfl sh_J ?_
    refine PW.nil ?_
    refine SX.then ?_
    refine SC.seq ?_
    refine SC.region ?_
    refine PW.load rfl rfl rfl rfl rfl rfl ?_
    refine PW.call (r := .vl (.int .i64 (wid ((y * x).natAbs) : Int))) rfl rfl rfl rfl rfl rfl (KV.st _) rfl (k_width (Y2.mul X) (by first | decide | omega)) ?_
    refine PW.q2 (x := .tmp 42) (y := .const (.int .i64 65537)) (.bool false) rfl rfl rfl rfl rfl (fun ρ W h1 h2 => by exact r_gt h1 h2 (decide_eq_false (by have := wid_bdn (Y2.mul X); omega))) ?_
    refine PW.nil ?_
    refine SX.then ?_
    refine SC.cond (t := false) rfl ?_
    refine SC.skip ?_
    refine SX.blockN ?_
    refine SX.then ?_
    refine SC.region ?_
    refine PW.move rfl rfl rfl rfl rfl ?_
    refine PW.q2 (x := .tmp 36) (y := .const (.int .i64 1)) (.int .i64 ((i + 1 : Nat))) rfl rfl rfl rfl rfl (fun ρ W h1 h2 => by exact r_add h1 h2 (by omega) (by omega)) ?_
    refine PW.assign rfl rfl rfl rfl rfl ?_
    refine PW.nil ?_
    refine SX.back (i + 1, y * x) ?_ ?_ ?_
    · exact ⟨(by omega : i + 1 ≤ n), (by rw [hy, Int.pow_succ] : y * x = x ^ (i + 1))⟩
    · exact (show n - (i + 1) < n - i by omega)
    · exact ⟨rfl, rfl, rfl, rfl, rfl, rfl, trivial⟩
  · obtain rfl : i = n := by omega
    refine SC.region ?_
    refine PW.move rfl rfl rfl rfl rfl ?_
    refine PW.move rfl rfl rfl rfl rfl ?_
    refine PW.q2 (x := .tmp 33) (y := .tmp 34) (.bool false) rfl rfl rfl rfl rfl (fun ρ W h1 h2 => by exact r_lt h1 h2 (decide_eq_false hk)) ?_
    refine PW.nil ?_
    refine SX.then ?_
    refine SC.cond (t := false) rfl ?_
    refine SC.exit ?_
    refine SX.thenE ?_
    refine SX.thenE ?_
    refine SX.blockE ?_
    refine SX.then ?_
    refine SC.seq ?_
    refine SC.seq ?_
    refine SC.region ?_
    refine PW.load rfl rfl rfl rfl rfl rfl ?_
    refine PW.call (r := .vl (.int .i64 (wid (pat y) : Int))) rfl rfl rfl rfl rfl rfl (KV.st _) rfl (k_jlen Y2 (by first | decide | omega)) ?_
    refine PW.q2 (x := .tmp 46) (y := .const (.int .i64 65536)) (.bool false) rfl rfl rfl rfl rfl (fun ρ W h1 h2 => by exact r_gt h1 h2 (decide_eq_false (by have := wid_bdp Y2; omega))) ?_
    refine PW.nil ?_
    refine SX.then ?_
    refine SC.cond (t := false) rfl ?_
    refine SC.skip ?_
    refine SX.then ?_
    refine SC.seq ?_
    refine SC.region ?_
    refine PW.load rfl rfl rfl rfl rfl rfl ?_
    refine PW.store (x := .tmp 49) (r := .kw (KJ (y))) rfl rfl rfl rfl rfl rfl sh_J ?_
    refine PW.assign rfl rfl rfl rfl rfl ?_
    refine PW.nil ?_
    refine SX.then ?_
    refine SC.ret ?_
    rw [← hy]
    exact SX.done2 (s := 4) (t := 5) (r := .vl (.int .i64 0)) (.inl rfl) rfl rfl rfl rfl

theorem ce_k_jroot_neg : CE 65 := fun args W => by go_simp

set_option maxHeartbeats 3200000 in
set_option maxRecDepth 100000 in
theorem k_jroot_neg {x : Int} (hx : x < 0) : CallOk 65 [KJ (x)] (K2 (KJ 0) (KV (.int .i64 1))) := by
  refine CallOk.enter (l := [.kw (KJ (x))]) 31 ce_k_jroot_neg Try.func65 rfl Try.ntmps65 (by simp) ⟨(KJ.st _), rfl, trivial⟩ fun w => ?_
  refine SC.seq ?_
  refine SC.region ?_
  refine PW.box (x := .tmp 0) (r := .kw (KJ (x))) (BI 31) rfl rfl rfl rfl rfl bJ rfl sh_J ?_
  refine PW.alloc (BI 31) rfl rfl rfl rfl rfl bJ ?_
  refine PW.assign rfl rfl rfl rfl rfl ?_
  refine PW.nil ?_
  refine SX.then ?_
  refine SC.seq ?_
  refine SC.seq ?_
  refine SC.region ?_
  refine PW.load rfl rfl rfl rfl rfl rfl ?_
  refine PW.call (r := .vl (.int .i64 (sgn x))) rfl rfl rfl rfl rfl rfl (KV.st _) rfl (k_jsign rfl) ?_
  refine PW.q2 (x := .tmp 8) (y := .const (.int .i64 0)) (.bool true) rfl rfl rfl rfl rfl (fun ρ W h1 h2 => by exact r_lt h1 h2 (decide_eq_true (sgn_lt_iff.2 hx))) ?_
  refine PW.nil ?_
  refine SX.then ?_
  refine SC.cond (t := true) rfl ?_
  refine SC.seq ?_
  refine SC.region ?_
  refine PW.val (r := .kw (KJ (0))) rfl rfl rfl rfl (fun a W hf => ⟨.agg #[.bool false, .slice none 0 0], by go_simp, zeroJ W, KJ.st _⟩) ?_
  refine PW.store (x := .tmp 10) (r := .kw (KJ (0))) rfl rfl rfl rfl rfl rfl sh_J ?_
  refine PW.assign rfl rfl rfl rfl rfl ?_
  refine PW.nil ?_
  refine SX.then ?_
  refine SC.ret ?_
  refine SX.thenR ?_
  exact SX.done2 (s := 2) (t := 3) (r := .vl (.int .i64 1)) (.inl rfl) rfl rfl rfl rfl

set_option maxHeartbeats 3200000 in
set_option maxRecDepth 100000 in
theorem k_jroot {x r : Int} {n : Nat} (X : bd n x) (hn : n ≤ 50000) (h0 : 0 ≤ r) (h1 : r * r ≤ x) (h2 : x < (r + 1) * (r + 1)) : CallOk 65 [KJ (x)] (K2 (KJ r) (KV (.int .i64 0))) := by
  have hx0 : 0 ≤ x := Int.le_trans (Int.mul_nonneg h0 h0) h1
  obtain ⟨wx, hwx⟩ : ∃ k, wid (x.natAbs : Int) = k := ⟨_, rfl⟩
  have hwn : wx ≤ 32 * n := hwx ▸ wid_bdn X
  refine CallOk.enter (l := [.kw (KJ (x))]) 31 ce_k_jroot_neg Try.func65 rfl Try.ntmps65 (by simp) ⟨(KJ.st _), rfl, trivial⟩ fun w => ?_
  refine SC.seq ?_
  refine SC.region ?_
  refine PW.box (x := .tmp 0) (r := .kw (KJ (x))) (BI 31) rfl rfl rfl rfl rfl bJ rfl sh_J ?_
  refine PW.alloc (BI 31) rfl rfl rfl rfl rfl bJ ?_
  refine PW.assign rfl rfl rfl rfl rfl ?_
  refine PW.nil ?_
  refine SX.then ?_
  refine SC.seq ?_
  refine SC.seq ?_
  refine SC.region ?_
  refine PW.load rfl rfl rfl rfl rfl rfl ?_
  refine PW.call (r := .vl (.int .i64 (sgn x))) rfl rfl rfl rfl rfl rfl (KV.st _) rfl (k_jsign rfl) ?_
  refine PW.q2 (x := .tmp 8) (y := .const (.int .i64 0)) (.bool false) rfl rfl rfl rfl rfl (fun ρ W h1 h2 => by exact r_lt h1 h2 (decide_eq_false (fun h => absurd (sgn_lt_iff.1 h) (by omega)))) ?_
  refine PW.nil ?_
  refine SX.then ?_
  refine SC.cond (t := false) rfl ?_
  refine SC.skip ?_
  refine SX.then ?_
  refine SC.seq ?_
  refine SC.region ?_
  refine PW.call (r := .kw (KJ (0))) rfl rfl rfl rfl rfl rfl (KJ.st _) rfl (k_jnew (by decide)) ?_
  refine PW.alloc (BI 31) rfl rfl rfl rfl rfl bJ ?_
  refine PW.store (x := .tmp 11) (r := .kw (KJ (0))) rfl rfl rfl rfl rfl rfl sh_J ?_
  refine PW.nil ?_
  refine SX.then ?_
  refine SC.seq ?_
  refine SC.seq ?_
  refine SC.region ?_
  refine PW.load rfl rfl rfl rfl rfl rfl ?_
  refine PW.call (r := .vl (.int .i64 (wid ((x).natAbs) : Int))) rfl rfl rfl rfl rfl rfl (KV.st _) rfl (k_width X (by first | decide | omega)) ?_
  refine PW.q2 (x := .tmp 13) (y := .const (.int .i64 2)) (.int .i64 (((wx / 2 + 1 : Nat) : Int) - 1)) rfl rfl rfl rfl rfl (fun ρ W h1 h2 => by exact r_quo h1 h2 (by rw [hwx]; omega) (by rw [hwx]; omega) (by decide)) ?_
  refine PW.assign rfl rfl rfl rfl rfl ?_
  refine PW.nil ?_
  refine SX.then ?_
  refine SC.block ?_
  refine SC.loop (S := Nat × Int) (fun ⟨t, q⟩ => [(1, .bx (BI 31) (KJ (x))), (2, .nb (BI 31)), (3, .vl (.int .i64 0)), (4, .bx (BI 31) (KJ (q))), (5, .vl (.int .i64 ((t : Int) - 1)))]) (fun ⟨t, q⟩ => Rq x (wx / 2 + 1) t q) (fun ⟨t, q⟩ => t) (wx / 2 + 1, 0) (Rq.start hwx (by omega)) ⟨rfl, rfl, rfl, rfl, rfl, trivial⟩ ?_
  rintro ⟨t, q⟩ hP
  show SC _ _ _ _ [(1, .bx (BI 31) (KJ (x))), (2, .nb (BI 31)), (3, .vl (.int .i64 0)), (4, .bx (BI 31) (KJ (q))), (5, .vl (.int .i64 ((t : Int) - 1)))] _
  refine SC.seq ?_
  refine SC.seq ?_
  by_cases ht : (0 : Int) ≤ (t : Int) - 1
  · obtain ⟨i, rfl⟩ : ∃ i, t = i + 1 := ⟨t - 1, by omega⟩
    rw [show ((i + 1 : Nat) : Int) - 1 = (i : Int) by omega]
    rw [show ((i + 1 : Nat) : Int) - 1 = (i : Int) by omega] at ht
    have h2i : bd (n + 1) (2 ^ i : Int) := bd_two (by have := hP.le; omega)
    have Q : bd n q := hP.bd X
    have hil := hP.le
    refine SC.region ?_
    refine PW.move rfl rfl rfl rfl rfl ?_
    refine PW.q2 (x := .tmp 15) (y := .const (.int .i64 0)) (.bool true) rfl rfl rfl rfl rfl (fun ρ W h1 h2 => by exact r_ge h1 h2 (decide_eq_true ht)) ?_
    refine PW.nil ?_
    refine SX.then ?_
    refine SC.cond (t := true) rfl ?_
    refine SC.skip ?_
    refine SX.then ?_
    refine SC.seq ?_
    refine SC.block ?_
    refine SC.seq ?_
    refine SC.dx [.val 19 (.kw (KJ (q))), .val 20 (.vl (.int .i64 (i : Int))), .val 21 (.kw (KJ (2 ^ i))), .val 22 (.kw (KJ (q + (2 ^ i)))), .new 6 (BI 31), .put 6 (BI 31) (.kw (KJ (q + (2 ^ i))))] [([], [4]), ([], [5]), ([1], []), ([0, 2], []), ([], []), ([4, 3], [])] rfl (by kernel_rfl) (by kernel_rfl) (by kernel_rfl) rfl ⟨?_, ?_, ?_, ?_, ?_, ?_, trivial⟩ ?_
    · exact DX.load rfl rfl rfl rfl rfl rfl
    · exact DX.move rfl rfl rfl rfl rfl rfl
    · exact DX.call (r := .kw (KJ (2 ^ i))) rfl rfl rfl rfl rfl rfl (KJ.st _) rfl (k_two (by omega))
    · exact DX.call (r := .kw (KJ (q + (2 ^ i)))) rfl rfl rfl rfl rfl rfl (KJ.st _) rfl (k_jadd Q h2i (by first | decide | omega) (by first | decide | omega))
    · exact DX.alloc (BI 31) rfl rfl rfl rfl bJ rfl
    · exact DX.store (x := .tmp 22) (r := .kw (KJ (q + (2 ^ i)))) rfl rfl rfl rfl rfl rfl sh_J
    refine SX.then ?_
    refine SC.seq ?_
    by_cases hq : (q + 2 ^ i) * (q + 2 ^ i) ≤ x
    · refine SC.dx [.val 23 (.kw (KJ (q + (2 ^ i)))), .val 24 (.kw (KJ (q + (2 ^ i)))), .val 25 (.kw (KJ ((q + (2 ^ i)) * (q + (2 ^ i))))), .val 26 (.kw (KJ (x))), .val 27 (.vl (.int .i64 (cmp ((q + (2 ^ i)) * (q + (2 ^ i))) x))), .val 28 (.vl (.bool true))] [([], [6]), ([], [6]), ([0, 1], []), ([], [1]), ([2, 3], []), ([4], [])] rfl (by kernel_rfl) (by kernel_rfl) (by kernel_rfl) rfl ⟨?_, ?_, ?_, ?_, ?_, ?_, trivial⟩ ?_
      · exact DX.load rfl rfl rfl rfl rfl rfl
      · exact DX.load rfl rfl rfl rfl rfl rfl
      · exact DX.call (r := .kw (KJ ((q + (2 ^ i)) * (q + (2 ^ i))))) rfl rfl rfl rfl rfl rfl (KJ.st _) rfl (k_jmul (Q.add h2i) (Q.add h2i) (by first | decide | omega) (by first | decide | omega))
      · exact DX.load rfl rfl rfl rfl rfl rfl
      · exact DX.call (r := .vl (.int .i64 (cmp ((q + (2 ^ i)) * (q + (2 ^ i))) x))) rfl rfl rfl rfl rfl rfl (KV.st _) rfl (k_jcmp ((Q.add h2i).mul (Q.add h2i)) X (by first | decide | omega) (by first | decide | omega) rfl)
      · exact DX.q2 (x := .tmp 27) (y := .const (.int .i64 0)) (.bool true) rfl rfl rfl rfl rfl (fun ρ W h1 h2 => by exact r_le h1 h2 (decide_eq_true (cmp_np hq)))
      refine SX.then ?_
      refine SC.cond (t := true) rfl ?_
      refine SC.region ?_
      refine PW.load rfl rfl rfl rfl rfl rfl ?_
      refine PW.store (x := .tmp 29) (r := .kw (KJ (q + (2 ^ i)))) rfl rfl rfl rfl rfl rfl sh_J ?_
      refine PW.nil ?_
      refine SX.blockN ?_
      refine SX.then ?_
      refine SC.region ?_
      refine PW.move rfl rfl rfl rfl rfl ?_
      refine PW.q2 (x := .tmp 17) (y := .const (.int .i64 1)) (.int .i64 ((i : Int) - 1)) rfl rfl rfl rfl rfl (fun ρ W h1 h2 => by exact r_sub h1 h2 (rfl) (by omega)) ?_
      refine PW.assign rfl rfl rfl rfl rfl ?_
      refine PW.nil ?_
      refine SX.back (i, q + 2 ^ i) ?_ ?_ ?_
      · exact (hP.up hq)
      · exact (show i < i + 1 by omega)
      · exact ⟨rfl, rfl, rfl, rfl, rfl, trivial⟩
    · refine SC.dx [.val 23 (.kw (KJ (q + (2 ^ i)))), .val 24 (.kw (KJ (q + (2 ^ i)))), .val 25 (.kw (KJ ((q + (2 ^ i)) * (q + (2 ^ i))))), .val 26 (.kw (KJ (x))), .val 27 (.vl (.int .i64 (cmp ((q + (2 ^ i)) * (q + (2 ^ i))) x))), .val 28 (.vl (.bool false))] [([], [6]), ([], [6]), ([0, 1], []), ([], [1]), ([2, 3], []), ([4], [])] rfl (by kernel_rfl) (by kernel_rfl) (by kernel_rfl) rfl ⟨?_, ?_, ?_, ?_, ?_, ?_, trivial⟩ ?_
      · exact DX.load rfl rfl rfl rfl rfl rfl
      · exact DX.load rfl rfl rfl rfl rfl rfl
      · exact DX.call (r := .kw (KJ ((q + (2 ^ i)) * (q + (2 ^ i))))) rfl rfl rfl rfl rfl rfl (KJ.st _) rfl (k_jmul (Q.add h2i) (Q.add h2i) (by first | decide | omega) (by first | decide | omega))
      · exact DX.load rfl rfl rfl rfl rfl rfl
      · exact DX.call (r := .vl (.int .i64 (cmp ((q + (2 ^ i)) * (q + (2 ^ i))) x))) rfl rfl rfl rfl rfl rfl (KV.st _) rfl (k_jcmp ((Q.add h2i).mul (Q.add h2i)) X (by first | decide | omega) (by first | decide | omega) rfl)
      · exact DX.q2 (x := .tmp 27) (y := .const (.int .i64 0)) (.bool false) rfl rfl rfl rfl rfl (fun ρ W h1 h2 => by exact r_le h1 h2 (by rw [cmp_gt (by omega)]; decide))
      refine SX.then ?_
      refine SC.cond (t := false) rfl ?_
      refine SC.skip ?_
      refine SX.blockN ?_
      refine SX.then ?_
      refine SC.region ?_
      refine PW.move rfl rfl rfl rfl rfl ?_
      refine PW.q2 (x := .tmp 17) (y := .const (.int .i64 1)) (.int .i64 ((i : Int) - 1)) rfl rfl rfl rfl rfl (fun ρ W h1 h2 => by exact r_sub h1 h2 (rfl) (by omega)) ?_
      refine PW.assign rfl rfl rfl rfl rfl ?_
      refine PW.nil ?_
      refine SX.back (i, q) ?_ ?_ ?_
      · exact (hP.down hq)
      · exact (show i < i + 1 by omega)
      · exact ⟨rfl, rfl, rfl, rfl, rfl, trivial⟩
  · obtain rfl : t = 0 := by omega
    obtain rfl : q = r := hP.fin h0 h1 h2
    refine SC.region ?_
    refine PW.move rfl rfl rfl rfl rfl ?_
    refine PW.q2 (x := .tmp 15) (y := .const (.int .i64 0)) (.bool false) rfl rfl rfl rfl rfl (fun ρ W h1 h2 => by exact r_ge h1 h2 (decide_eq_false ht)) ?_
    refine PW.nil ?_
    refine SX.then ?_
    refine SC.cond (t := false) rfl ?_
    refine SC.exit ?_
    refine SX.thenE ?_
    refine SX.thenE ?_
    refine SX.blockE ?_
    refine SX.then ?_
    refine SC.seq ?_
    refine SC.region ?_
    refine PW.load rfl rfl rfl rfl rfl rfl ?_
    refine PW.store (x := .tmp 30) (r := .kw (KJ (q))) rfl rfl rfl rfl rfl rfl sh_J ?_
    refine PW.assign rfl rfl rfl rfl rfl ?_
    refine PW.nil ?_
    refine SX.then ?_
    refine SC.ret ?_
    exact SX.done2 (s := 2) (t := 3) (r := .vl (.int .i64 0)) (.inl rfl) rfl rfl rfl rfl

end Go.Proofs.Ytcgkgcciogibkaa.Sy
/- The contract of the program's Gcd, by rules. -/
set_option linter.unusedVariables false
set_option linter.unusedSimpArgs false
namespace Go.Proofs.Ytcgkgcciogibkaa.Sy
open Go Go.RowKit Ma
theorem ce_gcd : CE 39 := fun args W => by go_simp
theorem sgn_one {x : Int} (h : 0 < x) : sgn x = 1 := by unfold sgn; rw [if_neg (by omega), if_neg (by omega)]
set_option maxHeartbeats 1600000 in
theorem k_gcd0 {x y : Int} {n g : Nat} (X : bd n x) (Y : bd n y) (hn : n ≤ 300000) (hg : Nat.gcd x.natAbs y.natAbs = g) : CallOk 39 [KI x, KI y] (KI (g : Int)) := by
  refine CallOk.enter (l := [.kw (KI x), .kw (KI y)]) 25 ce_gcd Try.func39 rfl Try.ntmps39 (by simp) ⟨KI.st _, rfl, KI.st _, rfl, trivial⟩ fun w => ?_
  refine SC.seq ?_
  refine SC.region ?_
  refine PW.box (x := .tmp 0) (r := .kw (KI (x))) (BI 28) rfl rfl rfl rfl rfl bI rfl sh_I ?_
  refine PW.box (x := .tmp 1) (r := .kw (KI (y))) (BI 28) rfl rfl rfl rfl rfl bI rfl sh_I ?_
  refine PW.alloc (BI 28) rfl rfl rfl rfl rfl bI ?_
  refine PW.nil ?_
  refine SX.then ?_
  refine SC.seq ?_
  refine SC.dx [.val 8 (.kw (KI (x))), .val 9 (.kw (KI ((x.natAbs : Int)))), .val 10 (.kw (KI (y))), .val 11 (.kw (KI ((y.natAbs : Int)))), .put 2 (BI 28) (.kw (KI ((x.natAbs : Int)))), .put 3 (BI 28) (.kw (KI ((y.natAbs : Int))))] [([], [2]), ([0], []), ([], [3]), ([2], []), ([1], [2]), ([3], [3])] rfl (by kernel_rfl) (by kernel_rfl) (by kernel_rfl) rfl ⟨?_, ?_, ?_, ?_, ?_, ?_, trivial⟩ ?_
  · exact DX.load rfl rfl rfl rfl rfl rfl
  · exact DX.call (r := .kw (KI ((x.natAbs : Int)))) rfl rfl rfl rfl rfl rfl (KI.st _) rfl (k_abs)
  · exact DX.load rfl rfl rfl rfl rfl rfl
  · exact DX.call (r := .kw (KI ((y.natAbs : Int)))) rfl rfl rfl rfl rfl rfl (KI.st _) rfl (k_abs)
  · exact DX.store (x := .tmp 9) (r := .kw (KI ((x.natAbs : Int)))) rfl rfl rfl rfl rfl rfl sh_I
  · exact DX.store (x := .tmp 11) (r := .kw (KI ((y.natAbs : Int)))) rfl rfl rfl rfl rfl rfl sh_I
  refine SX.then ?_
  refine SC.seq ?_
  refine SC.block ?_
  refine SC.loop (S := Nat × Nat) (fun ⟨a, b⟩ => [(2, .bx (BI 28) (KI ((a : Int)))), (3, .bx (BI 28) (KI ((b : Int)))), (4, .nb (BI 28))]) (fun ⟨a, b⟩ => Nat.gcd a b = g ∧ bd n (a : Int) ∧ bd n (b : Int)) (fun ⟨a, b⟩ => b) (x.natAbs, y.natAbs) ⟨hg, X.abs, Y.abs⟩ ⟨rfl, rfl, rfl, trivial⟩ ?_
  rintro ⟨a, b⟩ ⟨hi, A, B⟩
  show SC _ _ _ _ [(2, .bx (BI 28) (KI ((a : Int)))), (3, .bx (BI 28) (KI ((b : Int)))), (4, .nb (BI 28))] _
  refine SC.seq ?_
  refine SC.seq ?_
  by_cases hb : (b : Int) = 0
  · obtain rfl : b = 0 := by omega
    obtain rfl : a = g := by simpa using hi
    refine SC.region ?_
    refine PW.load rfl rfl rfl rfl rfl rfl ?_
    refine PW.call (r := .vl (.int .i64 0)) rfl rfl rfl rfl rfl rfl (KV.st _) rfl (k_sign (by rw [hb]; rfl)) ?_
    refine PW.q2 (x := .tmp 13) (y := .const (.int .i64 0)) (.bool false) rfl rfl rfl rfl rfl (fun ρ W h1 h2 => by go_simp) ?_
    refine PW.nil ?_
    refine SX.then ?_
    refine SC.cond (t := false) rfl ?_
    refine SC.exit ?_
    refine SX.thenE ?_
    refine SX.thenE ?_
    refine SX.blockE ?_
    refine SX.then ?_
    refine SC.seq ?_
    refine SC.region ?_
    refine PW.load rfl rfl rfl rfl rfl rfl ?_
    refine PW.store (x := .tmp 24) (r := .kw (KI ((a : Int)))) rfl rfl rfl rfl rfl rfl sh_I ?_
    refine PW.nil ?_
    refine SX.then ?_
    refine SC.ret ?_
    exact SX.doneC (s := 4) (.inl rfl) rfl rfl rfl
  · refine SC.region ?_
    refine PW.load rfl rfl rfl rfl rfl rfl ?_
    refine PW.call (r := .vl (.int .i64 1)) rfl rfl rfl rfl rfl rfl (KV.st _) rfl (k_sign (sgn_one (by omega))) ?_
    refine PW.q2 (x := .tmp 13) (y := .const (.int .i64 0)) (.bool true) rfl rfl rfl rfl rfl (fun ρ W h1 h2 => by go_simp) ?_
    refine PW.nil ?_
    refine SX.then ?_
    refine SC.cond (t := true) rfl ?_
    refine SC.skip ?_
    refine SX.then ?_
    refine SC.block ?_
    refine SC.seq ?_
    refine SC.region ?_
    refine PW.load rfl rfl rfl rfl rfl rfl ?_
    refine PW.load rfl rfl rfl rfl rfl rfl ?_
    refine PW.call (r := .kw (K3 (KI (((a : Int)).tdiv ((b : Int)))) (KI (((a : Int)).tmod ((b : Int)))) (KV (.int .i64 0)))) rfl rfl rfl rfl rfl rfl (K3.st (KI.st _) (KI.st _) (KV.st _)) rfl (k_div A (by first | decide | omega) hb) ?_
    refine PW.move rfl rfl rfl rfl rfl ?_
    refine PW.ext (r := .kw (KI (((a : Int)).tdiv ((b : Int))))) rfl rfl rfl rfl rfl ex30 (KI.st _) rfl ?_
    refine PW.ext (r := .kw (KI (((a : Int)).tmod ((b : Int))))) rfl rfl rfl rfl rfl ex31 (KI.st _) rfl ?_
    refine PW.ext (r := .vl (.int .i64 0)) rfl rfl rfl rfl rfl ex32v (KV.st _) rfl ?_
    refine PW.alloc (BI 28) rfl rfl rfl rfl rfl bI ?_
    refine PW.alloc (BI 28) rfl rfl rfl rfl rfl bI ?_
    refine PW.store (x := .tmp 19) (r := .kw (KI (((a : Int)).tdiv ((b : Int))))) rfl rfl rfl rfl rfl rfl sh_I ?_
    refine PW.store (x := .tmp 20) (r := .kw (KI (((a : Int)).tmod ((b : Int))))) rfl rfl rfl rfl rfl rfl sh_I ?_
    refine PW.assign rfl rfl rfl rfl rfl ?_
    refine PW.nil ?_
    refine SX.then ?_
    refine SC.dx [.val 22 (.kw (KI ((b : Int)))), .val 23 (.kw (KI (((a : Int)).tmod ((b : Int))))), .put 2 (BI 28) (.kw (KI ((b : Int)))), .put 3 (BI 28) (.kw (KI (((a : Int)).tmod ((b : Int)))))] [([], [3]), ([], [6]), ([0], [2]), ([1], [3])] rfl (by kernel_rfl) (by kernel_rfl) (by kernel_rfl) rfl ⟨?_, ?_, ?_, ?_, trivial⟩ ?_
    · exact DX.load rfl rfl rfl rfl rfl rfl
    · exact DX.load rfl rfl rfl rfl rfl rfl
    · exact DX.store (x := .tmp 22) (r := .kw (KI ((b : Int)))) rfl rfl rfl rfl rfl rfl sh_I
    · exact DX.store (x := .tmp 23) (r := .kw (KI (((a : Int)).tmod ((b : Int))))) rfl rfl rfl rfl rfl rfl sh_I
    refine SX.blockN ?_
    refine SX.back (b, a % b) ?_ ?_ ?_
    · exact ⟨by rw [← hi, Nat.gcd_comm a b, Nat.gcd_rec b a, Nat.gcd_comm], B, (A.tmod (y := (b : Int)) : bd n ((a : Int).tmod (b : Int)))⟩
    · exact (show a % b < b from Nat.mod_lt _ (by omega))
    · exact ⟨rfl, rfl, rfl, trivial⟩
theorem k_gcd {x y : Int} {a b : Nat} (X : bd a x) (Y : bd b y) (ha : a ≤ 300000) (hb : b ≤ 300000) : CallOk 39 [KI x, KI y] (KI (Int.gcd x y : Int)) := k_gcd0 (X.mono (Nat.le_max_left a b)) (Y.mono (Nat.le_max_right a b)) (by omega) rfl
end Go.Proofs.Ytcgkgcciogibkaa.Sy
/- The contract of the program's Root, by rules. -/
set_option linter.unusedVariables false
set_option linter.unusedSimpArgs false
namespace Go.Proofs.Ytcgkgcciogibkaa.Sy
open Go Go.RowKit Ma
theorem ce_root : CE 64 := fun args W => by go_simp
theorem ce_shift : CE 103 := fun args W => by go_simp
theorem k_shift {x i : Int} {a : Nat} (X : bd a x) (ha : a ≤ 300000) (h1 : -9223372036854775808 ≤ i) (h2 : i ≤ 1000000) : CallOk 103 [KI x, KV (.int .i64 i)] (KI (sh x i)) := callIV ce_shift fun W n A l c h => shift_c h (by have := h.le X ha; omega) h1 h2
theorem sh1 (k : Nat) : sh 1 (k : Int) = 2 ^ k := by rw [sh_up, Int.one_mul]
theorem half_eq (y : Int) : sh y (-1) = y / 2 := by have := sh_down y 1; simpa using this
theorem cmp_ge0 {a b : Int} (h : b ≤ a) : cmp a b ≥ 0 := by unfold cmp; rw [if_neg (by omega)]; split <;> decide
theorem sq_mono {a b : Int} (h0 : 0 ≤ a) (h : a ≤ b) : a * a ≤ b * b := Int.mul_le_mul h h h0 (by omega)
section
variable {x q r : Int}
theorem tq (hx : 0 < x) : x.tdiv q = x / q := Int.tdiv_eq_ediv_of_nonneg (by omega)
theorem nwt_nn (hx : 0 < x) (hq : 1 ≤ q) : 0 ≤ x.tdiv q := by rw [tq hx]; exact Int.ediv_nonneg (by omega) (by omega)
theorem nwt_end (hx : 0 < x) (h0 : 0 ≤ r) (hr : r ≤ q) (hq : 1 ≤ q) (h2 : x < (r + 1) * (r + 1)) (hc : q ≤ (q + x.tdiv q) / 2) : q = r := by
  apply Classical.byContradiction
  intro hne
  have h3 : r + 1 ≤ q := by omega
  have h4 : x / q < q := by
    apply Int.ediv_lt_of_lt_mul (by omega)
    have := sq_mono (show 0 ≤ r + 1 by omega) h3
    omega
  rw [tq hx] at hc
  omega
theorem nwt_step (hx : 0 < x) (h0 : 0 ≤ r) (h1 : r * r ≤ x) (hr : r ≤ q) (hq : 1 ≤ q) : r ≤ (q + x.tdiv q) / 2 := by
  rw [tq hx]
  have h3 : 2 * r - q ≤ x / q := by
    apply Int.le_ediv_of_mul_le (by omega)
    have h4 : 0 ≤ (r - q) * (r - q) := by
      have e : (r - q) * (r - q) = (q - r) * (q - r) := by grind
      rw [e]; exact Int.mul_nonneg (by omega) (by omega)
    have e : (2 * r - q) * q = r * r - (r - q) * (r - q) := by grind
    omega
  omega
theorem nwt_pos (hx : 0 < x) (hr : r ≤ q) (hq : 1 ≤ q) (h0 : 0 ≤ r) (h1 : r * r ≤ x) (h2 : x < (r + 1) * (r + 1)) : 1 ≤ (q + x.tdiv q) / 2 := by
  have h3 := nwt_step hx h0 h1 hr hq
  have : 1 ≤ r := by
    apply Classical.byContradiction
    intro hne
    have e : r = 0 := by omega
    subst e
    omega
  omega
end
theorem bd.down2 {n : Nat} {q z : Int} (A : bd n q) (h1 : z < q) (h0 : 0 ≤ z) : bd n z := by
  unfold bd at *
  omega
set_option maxHeartbeats 1600000 in
theorem root_neg {x : Int} (hx : x < 0) : CallOk 64 [KI x] (K2 (KI 0) (KV (.int .i64 1))) := by
  refine CallOk.enter (l := [.kw (KI x)]) 39 ce_root Try.func64 rfl Try.ntmps64 (by simp) ⟨KI.st _, rfl, trivial⟩ fun w => ?_
  refine SC.seq ?_
  refine SC.region ?_
  refine PW.box (x := .tmp 0) (r := .kw (KI (x))) (BI 28) rfl rfl rfl rfl rfl bI rfl sh_I ?_
  refine PW.alloc (BI 28) rfl rfl rfl rfl rfl bI ?_
  refine PW.assign rfl rfl rfl rfl rfl ?_
  refine PW.nil ?_
  refine SX.then ?_
  refine SC.seq ?_
  refine SC.seq ?_
  refine SC.region ?_
  refine PW.fld (r := .vl (.bool true)) rfl rfl rfl rfl rfl rfl rfl rfl rfl rfl rfl (fun v W p hh hk => by obtain ⟨q, u, h1, h2, h3⟩ := fldI0 v W p hh hk; exact ⟨q, u, h1, h2, by rw [h3]; show Value.bool _ = _; rw [decide_eq_true (by omega)]⟩) (KV.st _) ?_
  refine PW.nil ?_
  refine SX.then ?_
  refine SC.cond (t := true) rfl ?_
  refine SC.seq ?_
  refine SC.region ?_
  refine PW.val (r := .kw (KI (0))) rfl rfl rfl rfl (fun a W hf => ⟨.agg #[.bool false, .slice none 0 0], by go_simp, zeroI _ W W⟩) ?_
  refine PW.store (x := .tmp 11) (r := .kw (KI (0))) rfl rfl rfl rfl rfl rfl sh_I ?_
  refine PW.assign rfl rfl rfl rfl rfl ?_
  refine PW.nil ?_
  refine SX.then ?_
  refine SC.ret ?_
  refine SX.thenR ?_
  exact SX.done2 (s := 2) (t := 3) (r := .vl (.int .i64 1)) (.inl rfl) rfl rfl rfl rfl

set_option maxHeartbeats 1600000 in
theorem root_zero {x : Int} (hx : x = 0) : CallOk 64 [KI x] (K2 (KI x) (KV (.int .i64 0))) := by
  refine CallOk.enter (l := [.kw (KI x)]) 39 ce_root Try.func64 rfl Try.ntmps64 (by simp) ⟨KI.st _, rfl, trivial⟩ fun w => ?_
  refine SC.seq ?_
  refine SC.region ?_
  refine PW.box (x := .tmp 0) (r := .kw (KI (x))) (BI 28) rfl rfl rfl rfl rfl bI rfl sh_I ?_
  refine PW.alloc (BI 28) rfl rfl rfl rfl rfl bI ?_
  refine PW.assign rfl rfl rfl rfl rfl ?_
  refine PW.nil ?_
  refine SX.then ?_
  refine SC.seq ?_
  refine SC.seq ?_
  refine SC.region ?_
  refine PW.fld (r := .vl (.bool false)) rfl rfl rfl rfl rfl rfl rfl rfl rfl rfl rfl (fun v W p hh hk => by obtain ⟨q, u, h1, h2, h3⟩ := fldI0 v W p hh hk; exact ⟨q, u, h1, h2, by rw [h3]; show Value.bool _ = _; rw [decide_eq_false (by omega)]⟩) (KV.st _) ?_
  refine PW.nil ?_
  refine SX.then ?_
  refine SC.cond (t := false) rfl ?_
  refine SC.skip ?_
  refine SX.then ?_
  refine SC.seq ?_
  refine SC.seq ?_
  refine SC.region ?_
  refine PW.load rfl rfl rfl rfl rfl rfl ?_
  refine PW.call (r := .vl (.int .i64 0)) rfl rfl rfl rfl rfl rfl (KV.st _) rfl (k_sign (by subst hx; rfl)) ?_
  refine PW.q2 (x := .tmp 13) (y := .const (.int .i64 0)) (.bool true) rfl rfl rfl rfl rfl (fun ρ W h1 h2 => by go_simp) ?_
  refine PW.nil ?_
  refine SX.then ?_
  refine SC.cond (t := true) rfl ?_
  refine SC.seq ?_
  refine SC.region ?_
  refine PW.load rfl rfl rfl rfl rfl rfl ?_
  refine PW.store (x := .tmp 15) (r := .kw (KI (x))) rfl rfl rfl rfl rfl rfl sh_I ?_
  refine PW.assign rfl rfl rfl rfl rfl ?_
  refine PW.nil ?_
  refine SX.then ?_
  refine SC.ret ?_
  refine SX.thenR ?_
  exact SX.done2 (s := 2) (t := 3) (r := .vl (.int .i64 0)) (.inl rfl) rfl rfl rfl rfl

set_option maxHeartbeats 1600000 in
theorem root_pos {x r : Int} {n wl h : Nat} (X : bd n x) (hn : n ≤ 50000) (hx : 0 < x) (h0 : 0 ≤ r) (h1 : r * r ≤ x) (h2 : x < (r + 1) * (r + 1)) (hw : wid (pat x) = wl) (hh : (wl + 1) / 2 = h) (hwl : wl ≤ 32 * n) (hG : bd (n + 1) ((2 : Int) ^ h)) (hGr : r ≤ 2 ^ h) (hG1 : (1 : Int) ≤ 2 ^ h) : CallOk 64 [KI x] (K2 (KI r) (KV (.int .i64 0))) := by
  refine CallOk.enter (l := [.kw (KI x)]) 39 ce_root Try.func64 rfl Try.ntmps64 (by simp) ⟨KI.st _, rfl, trivial⟩ fun w => ?_
  refine SC.seq ?_
  refine SC.region ?_
  refine PW.box (x := .tmp 0) (r := .kw (KI (x))) (BI 28) rfl rfl rfl rfl rfl bI rfl sh_I ?_
  refine PW.alloc (BI 28) rfl rfl rfl rfl rfl bI ?_
  refine PW.assign rfl rfl rfl rfl rfl ?_
  refine PW.nil ?_
  refine SX.then ?_
  refine SC.seq ?_
  refine SC.seq ?_
  refine SC.region ?_
  refine PW.fld (r := .vl (.bool false)) rfl rfl rfl rfl rfl rfl rfl rfl rfl rfl rfl (fun v W p hh hk => by obtain ⟨q, u, h1, h2, h3⟩ := fldI0 v W p hh hk; exact ⟨q, u, h1, h2, by rw [h3]; show Value.bool _ = _; rw [decide_eq_false (by omega)]⟩) (KV.st _) ?_
  refine PW.nil ?_
  refine SX.then ?_
  refine SC.cond (t := false) rfl ?_
  refine SC.skip ?_
  refine SX.then ?_
  refine SC.seq ?_
  refine SC.seq ?_
  refine SC.region ?_
  refine PW.load rfl rfl rfl rfl rfl rfl ?_
  refine PW.call (r := .vl (.int .i64 1)) rfl rfl rfl rfl rfl rfl (KV.st _) rfl (k_sign (sgn_one hx)) ?_
  refine PW.q2 (x := .tmp 13) (y := .const (.int .i64 0)) (.bool false) rfl rfl rfl rfl rfl (fun ρ W h1 h2 => by go_simp) ?_
  refine PW.nil ?_
  refine SX.then ?_
  refine SC.cond (t := false) rfl ?_
  refine SC.skip ?_
  refine SX.then ?_
  refine SC.seq ?_
  refine SC.dx [.val 16 (.kw (KI (1))), .val 17 (.kw (KI (x))), .val 18 (.vl (.int .i64 (wl : Int))), .val 19 (.vl (.int .i64 ((wl : Int) + 1))), .val 20 (.vl (.int .i64 (h : Int))), .val 21 (.kw (KI ((2 : Int) ^ h))), .new 4 (BI 28), .put 4 (BI 28) (.kw (KI ((2 : Int) ^ h)))] [([], []), ([], [1]), ([1], []), ([2], []), ([3], []), ([0, 4], []), ([], []), ([6, 5], [])] rfl (by kernel_rfl) (by kernel_rfl) (by kernel_rfl) rfl ⟨?_, ?_, ?_, ?_, ?_, ?_, ?_, ?_, trivial⟩ ?_
  · exact DX.call (r := .kw (KI (1))) rfl rfl rfl rfl rfl rfl (KI.st _) rfl (k_new (by decide))
  · exact DX.load rfl rfl rfl rfl rfl rfl
  · exact DX.call (r := .vl (.int .i64 (wl : Int))) rfl rfl rfl rfl rfl rfl (KV.st _) rfl (k_len X (by first | decide | omega) (by rw [hw]))
  · exact DX.q2 (x := .tmp 18) (y := .const (.int .i64 1)) (.int .i64 ((wl : Int) + 1)) rfl rfl rfl rfl rfl (fun ρ W h1 h2 => by first | (go_simp; done) | (go_simp; exact IntWalk.i64_in _ (by omega)) | (go_simp; exact Int.tmod_eq_emod_of_nonneg (by omega)) | (go_simp; exact Int.tdiv_eq_ediv_of_nonneg (by omega)) | (go_simp; exact (IntWalk.i64_in _ (by omega)).trans (by omega)) | (go_simp; rw [Int.tmod_eq_emod_of_nonneg (by omega)]; exact IntWalk.i64_in _ (by omega)) | (go_simp; omega))
  · exact DX.q2 (x := .tmp 19) (y := .const (.int .i64 2)) (.int .i64 (h : Int)) rfl rfl rfl rfl rfl (fun ρ W h1 h2 => by exact r_quo h1 h2 (by omega) (by omega) (by decide))
  · exact DX.call (r := .kw (KI ((2 : Int) ^ h))) rfl rfl rfl rfl rfl rfl (KI.st _) rfl (sh1 h ▸ k_shift (bd.lit (by decide)) (by decide) (by omega) (by omega))
  · exact DX.alloc (BI 28) rfl rfl rfl rfl bI rfl
  · exact DX.store (x := .tmp 21) (r := .kw (KI ((2 : Int) ^ h))) rfl rfl rfl rfl rfl rfl sh_I
  refine SX.then ?_
  refine SC.block ?_
  refine SC.loop (S := Int) (fun q => [(1, .bx (BI 28) (KI (x))), (2, .nb (BI 28)), (3, .vl (.int .i64 0)), (4, .bx (BI 28) (KI (q)))]) (fun q => r ≤ q ∧ 1 ≤ q ∧ bd (n + 1) q) (fun q => q.toNat) ((2 : Int) ^ h) ⟨hGr, hG1, hG⟩ ⟨rfl, rfl, rfl, rfl, trivial⟩ ?_
  rintro q ⟨hi1, hi2, A⟩
  refine SC.block ?_
  refine SC.seq ?_
  refine SC.region ?_
  refine PW.load rfl rfl rfl rfl rfl rfl ?_
  refine PW.load rfl rfl rfl rfl rfl rfl ?_
  refine PW.call (r := .kw (K3 (KI (x.tdiv q)) (KI (x.tmod q)) (KV (.int .i64 0)))) rfl rfl rfl rfl rfl rfl (K3.st (KI.st _) (KI.st _) (KV.st _)) rfl (k_div X (by omega) (by omega)) ?_
  refine PW.move rfl rfl rfl rfl rfl ?_
  refine PW.ext (r := .kw (KI (x.tdiv q))) rfl rfl rfl rfl rfl ex30 (KI.st _) rfl ?_
  refine PW.ext (r := .kw (KI (x.tmod q))) rfl rfl rfl rfl rfl ex31 (KI.st _) rfl ?_
  refine PW.ext (r := .vl (.int .i64 0)) rfl rfl rfl rfl rfl ex32v (KV.st _) rfl ?_
  refine PW.alloc (BI 28) rfl rfl rfl rfl rfl bI ?_
  refine PW.alloc (BI 28) rfl rfl rfl rfl rfl bI ?_
  refine PW.store (x := .tmp 26) (r := .kw (KI (x.tdiv q))) rfl rfl rfl rfl rfl rfl sh_I ?_
  refine PW.store (x := .tmp 27) (r := .kw (KI (x.tmod q))) rfl rfl rfl rfl rfl rfl sh_I ?_
  refine PW.assign rfl rfl rfl rfl rfl ?_
  refine PW.nil ?_
  refine SX.then ?_
  refine SC.seq ?_
  refine SC.region ?_
  refine PW.load rfl rfl rfl rfl rfl rfl ?_
  refine PW.load rfl rfl rfl rfl rfl rfl ?_
  refine PW.call (r := .kw (KI (q + (x.tdiv q)))) rfl rfl rfl rfl rfl rfl (KI.st _) rfl (k_add A X.tdiv (by first | decide | omega) (by first | decide | omega)) ?_
  refine PW.call (r := .kw (KI ((q + x.tdiv q) / 2))) rfl rfl rfl rfl rfl rfl (KI.st _) rfl (half_eq (q + x.tdiv q) ▸ k_shift (A.add X.tdiv) (by omega) (by omega) (by omega)) ?_
  refine PW.alloc (BI 28) rfl rfl rfl rfl rfl bI ?_
  refine PW.store (x := .tmp 32) (r := .kw (KI ((q + x.tdiv q) / 2))) rfl rfl rfl rfl rfl rfl sh_I ?_
  refine PW.nil ?_
  refine SX.then ?_
  refine SC.seq ?_
  refine SC.seq ?_
  by_cases hc : q ≤ (q + x.tdiv q) / 2
  · obtain rfl : q = r := nwt_end hx h0 hi1 hi2 h2 hc
    refine SC.region ?_
    refine PW.load rfl rfl rfl rfl rfl rfl ?_
    refine PW.load rfl rfl rfl rfl rfl rfl ?_
    refine PW.call (r := .vl (.int .i64 (cmp ((q + x.tdiv q) / 2) q))) rfl rfl rfl rfl rfl rfl (KV.st _) rfl (k_cmp (rfl)) ?_
    refine PW.q2 (x := .tmp 35) (y := .const (.int .i64 0)) (.bool true) rfl rfl rfl rfl rfl (fun ρ W h1 h2 => by exact r_ge h1 h2 (decide_eq_true (cmp_ge0 hc))) ?_
    refine PW.nil ?_
    refine SX.then ?_
    refine SC.cond (t := true) rfl ?_
    refine SC.seq ?_
    refine SC.region ?_
    refine PW.load rfl rfl rfl rfl rfl rfl ?_
    refine PW.store (x := .tmp 37) (r := .kw (KI (q))) rfl rfl rfl rfl rfl rfl sh_I ?_
    refine PW.assign rfl rfl rfl rfl rfl ?_
    refine PW.nil ?_
    refine SX.then ?_
    refine SC.ret ?_
    refine SX.thenR ?_
    refine SX.blockR ?_
    refine SX.thenR ?_
    refine SX.blockR ?_
    exact SX.done2 (s := 2) (t := 3) (r := .vl (.int .i64 0)) (.inl rfl) rfl rfl rfl rfl
  · refine SC.region ?_
    refine PW.load rfl rfl rfl rfl rfl rfl ?_
    refine PW.load rfl rfl rfl rfl rfl rfl ?_
    refine PW.call (r := .vl (.int .i64 (-1))) rfl rfl rfl rfl rfl rfl (KV.st _) rfl (k_cmp (cmp_lt (by omega))) ?_
    refine PW.q2 (x := .tmp 35) (y := .const (.int .i64 0)) (.bool false) rfl rfl rfl rfl rfl (fun ρ W h1 h2 => by go_simp) ?_
    refine PW.nil ?_
    refine SX.then ?_
    refine SC.cond (t := false) rfl ?_
    refine SC.skip ?_
    refine SX.then ?_
    refine SC.region ?_
    refine PW.load rfl rfl rfl rfl rfl rfl ?_
    refine PW.store (x := .tmp 38) (r := .kw (KI ((q + x.tdiv q) / 2))) rfl rfl rfl rfl rfl rfl sh_I ?_
    refine PW.nil ?_
    refine SX.blockN ?_
    refine SX.back ((q + x.tdiv q) / 2) ?_ ?_ ?_
    · exact ⟨nwt_step hx h0 h1 hi1 hi2, nwt_pos hx hi1 hi2 h0 h1 h2, bd.down2 A (by omega) (Int.le_trans h0 (nwt_step hx h0 h1 hi1 hi2))⟩
    · exact (show ((q + x.tdiv q) / 2).toNat < q.toNat by omega)
    · exact ⟨rfl, rfl, rfl, rfl, trivial⟩

/-- Root, with the number that it gives. -/
theorem k_root {x r : Int} {n : Nat} (X : bd n x) (hn : n ≤ 50000) (h0 : 0 ≤ r) (h1 : r * r ≤ x) (h2 : x < (r + 1) * (r + 1)) : CallOk 64 [KI x] (K2 (KI r) (KV (.int .i64 0))) := by
  have hrr := Int.mul_nonneg h0 h0
  by_cases hx : x = 0
  · have hr : r = 0 := by
      apply Classical.byContradiction
      intro hne
      have := Int.mul_pos (show 0 < r by omega) (show 0 < r by omega)
      omega
    have := root_zero hx
    rw [hx] at this ⊢
    rw [hr]
    exact this
  · have hx' : 0 < x := by omega
    have hp : pat x = x := by unfold pat; rw [if_neg (by omega)]
    have hb := bd2.1 X
    have hwl : wid (pat x) ≤ 32 * n := by rw [hp]; exact wid_le_of hb.2
    have hlt := wid_lt x
    have hG1 : (1 : Int) ≤ 2 ^ ((wid (pat x) + 1) / 2) := Int.pow_pos (by decide)
    refine root_pos X hn hx' h0 h1 h2 rfl rfl hwl ?_ ?_ hG1
    · rw [bd2]
      have a1 := pow_le (b := 2) (by decide) (show (wid (pat x) + 1) / 2 + 1 ≤ 32 * (n + 1) by omega)
      rw [Int.pow_succ] at a1
      omega
    · apply Classical.byContradiction
      intro hne
      have a1 := sq_mono (show (0 : Int) ≤ 2 ^ ((wid (pat x) + 1) / 2) by omega) (show (2 : Int) ^ ((wid (pat x) + 1) / 2) ≤ r by omega)
      rw [← Int.pow_add] at a1
      have a2 := pow_le (b := 2) (by decide) (show wid x ≤ (wid (pat x) + 1) / 2 + (wid (pat x) + 1) / 2 by rw [hp]; omega)
      omega
/-- There is such a number. -/
theorem root_ex : ∀ (m : Nat), ∃ r : Int, 0 ≤ r ∧ r * r ≤ (m : Int) ∧ (m : Int) < (r + 1) * (r + 1)
  | 0 => ⟨0, by decide, by decide, by decide⟩
  | m + 1 => by
    obtain ⟨r, h0, h1, h2⟩ := root_ex m
    by_cases h : ((m + 1 : Nat) : Int) < (r + 1) * (r + 1)
    · exact ⟨r, h0, by omega, h⟩
    · refine ⟨r + 1, by omega, by omega, ?_⟩
      have : (r + 1 + 1) * (r + 1 + 1) = (r + 1) * (r + 1) + 2 * r + 3 := by grind
      omega
end Go.Proofs.Ytcgkgcciogibkaa.Sy
/- IntegerPowers: the walk, by rules. -/
set_option linter.unusedVariables false
set_option linter.unusedSimpArgs false
namespace Go.Proofs.Ytcgkgcciogibkaa
open Go.RowKit Ma Sy
set_option maxHeartbeats 3200000 in
set_option maxRecDepth 100000 in
theorem k_power_neg {x n : Int} (hn : n < 0) : CallOk 62 [KI x, KV (.int .i64 (n))] (K2 (KI 0) (KV (.int .i64 1))) := by
  refine CallOk.enter (l := [.kw (KI x), .vl (.int .i64 (n))]) 72 (fun args W => by go_simp) Try.func62 rfl Try.ntmps62 (by simp) ⟨KI.st _, rfl, KV.st _, rfl, trivial⟩ fun w => ?_
  refine SC.seq ?_
  refine SC.region ?_
  refine PW.box (x := .tmp 0) (r := .kw (KI (x))) (BI 28) rfl rfl rfl rfl rfl bI rfl sh_I ?_
  refine PW.alloc (BI 28) rfl rfl rfl rfl rfl bI ?_
  refine PW.assign rfl rfl rfl rfl rfl ?_
  refine PW.nil ?_
  refine SX.then ?_
  refine SC.seq ?_
  refine SC.seq ?_
  refine SC.region ?_
  refine PW.move rfl rfl rfl rfl rfl ?_
  refine PW.q2 (x := .tmp 11) (y := .const (.int .i64 0)) (.bool true) rfl rfl rfl rfl rfl (fun ρ W h1 h2 => by exact r_lt h1 h2 (decide_eq_true hn)) ?_
  refine PW.nil ?_
  refine SX.then ?_
  refine SC.cond (t := true) rfl ?_
  refine SC.seq ?_
  refine SC.region ?_
  refine PW.val (r := .kw (KI (0))) rfl rfl rfl rfl (fun a W hf => ⟨.agg #[.bool false, .slice none 0 0], by go_simp, zeroI _ w W⟩) ?_
  refine PW.store (x := .tmp 13) (r := .kw (KI (0))) rfl rfl rfl rfl rfl rfl sh_I ?_
  refine PW.assign rfl rfl rfl rfl rfl ?_
  refine PW.nil ?_
  refine SX.then ?_
  refine SC.ret ?_
  refine SX.thenR ?_
  exact SX.done2 (s := 4) (t := 5) (r := .vl (.int .i64 1)) (.inl rfl) rfl rfl rfl rfl
theorem bd_pw1 {x : Int} {n : Nat} (h : x.natAbs ≤ 1) : bd 1 (x ^ n) := bd_le1 (by rw [Int.natAbs_pow]; have := Nat.pow_le_pow_left h n; rwa [Nat.one_pow] at this)
theorem bd_root {x r : Int} {n : Nat} (X : bd n x) (h0 : 0 ≤ r) (h1 : r * r ≤ x) : bd n r := Rq.bd (t := wid (x.natAbs : Int) / 2 + 1) ⟨h0, h1, (by
  have hx : 0 ≤ x := Int.le_trans (Int.mul_nonneg h0 h0) h1
  have := (Rq.start (x := x) rfl hx).hi
  rw [Int.zero_add] at this
  have hp : (0 : Int) < 2 ^ (wid (x.natAbs : Int) / 2 + 1) := Int.pow_pos (by decide)
  generalize (2 : Int) ^ (wid (x.natAbs : Int) / 2 + 1) = P at *
  have := Int.mul_le_mul (show P ≤ r + P by omega) (show P ≤ r + P by omega) (by omega) (by omega)
  omega), Nat.le_refl _⟩ X
theorem len_abs1 {x : Int} : (wid (pat (x.natAbs : Int)) : Int) > 1 ↔ 2 ≤ x.natAbs := by
  rw [wid_nat _ (by omega)]
  constructor
  · intro h
    apply Classical.byContradiction
    intro h2
    have := wid_le1 (x := x) (by omega)
    omega
  · intro h
    have := wid_gt1 h
    omega
set_option maxHeartbeats 12800000 in
set_option maxRecDepth 100000 in
theorem integerPowers_walk {n1 n2 : Bool} {A1 A2 : Option Addr} {l1 l2 c1 c2 : Nat} {xs1 xs2 : List Int} {n : Int}  {w : World} (h1 : In w A1 l1 c1 xs1) (hw : (Lit.int .i64 n).wf = true) (h2 : In w A2 l2 c2 xs2) :
    Calls Try.prog 12 #[.agg #[.bool n1, .slice A1 l1 c1], .int .i64 n, .agg #[.bool n2, .slice A2 l2 c2]] w (Ret w (KV (.bool true))) := by
  obtain ⟨x, hz1⟩ : ∃ z, z = sg n1 (lv b32 xs1) := ⟨_, rfl⟩
  obtain ⟨y, hz2⟩ : ∃ z, z = sg n2 (lv b32 xs2) := ⟨_, rfl⟩
  have hnr := lit_i64 hw
  refine calls_sc (l := [.vl (.agg #[.bool n1, .slice A1 l1 c1]), .vl (.int .i64 n), .vl (.agg #[.bool n2, .slice A2 l2 c2])]) (us := [.agg #[.bool n1, .slice A1 l1 c1], .int .i64 n, .agg #[.bool n2, .slice A2 l2 c2]]) 91 Try.func12 rfl Try.ntmps12 (by simp) ⟨rfl, rfl, rfl, rfl, rfl, rfl, trivial⟩ ?_
  refine SC.seq ?_
  refine SC.region ?_
  refine PW.box (x := .tmp 0) (r := .vl (.agg #[.bool n1, .slice A1 l1 c1])) (BI 24) rfl rfl rfl rfl rfl bN rfl sh_V ?_
  refine PW.box (x := .tmp 2) (r := .vl (.agg #[.bool n2, .slice A2 l2 c2])) (BI 24) rfl rfl rfl rfl rfl bN rfl sh_V ?_
  refine PW.assign rfl rfl rfl rfl rfl ?_
  refine PW.nil ?_
  refine SX.then ?_
  refine SC.seq ?_
  refine SC.seq ?_
  by_cases hs : shB 8 [(n2, A2, l2, c2)] = true
  · have hlehs : l2 ≤ 8 := by simpa [shB] using hs
    have Y : bd 8 y := hz2 ▸ bd_sg h2.2.2.2 (by have := h2.1; omega)
    have hl2 : l2 ≤ 8 := by omega
    by_cases ht : shB 2 [(n1, A1, l1, c1)] = true
    · have hleht : l1 ≤ 2 := by simpa [shB] using ht
      have X : bd 2 x := hz1 ▸ bd_sg h1.2.2.2 (by have := h1.1; omega)
      have hl1 : l1 ≤ 2 := by omega
      refine SC.region ?_
      refine PW.loadV rfl rfl rfl rfl rfl rfl ?_
      refine PW.short 8 [(n2, A2, l2, c2)] _ rfl rfl rfl (fun a W hf => r_bN1 (hf.vl (s := 19) rfl)) (fun W => ns_lit1 W) (by simp; exact In.lim h2) rfl rfl hs rfl rfl rfl rfl rfl rfl ?_
      refine PW.q1 (x := .tmp 21) (.bool false) rfl rfl rfl rfl (fun ρ W h1 => by go_simp) ?_
      refine PW.move rfl rfl rfl rfl rfl ?_
      refine PW.loadV rfl rfl rfl rfl rfl rfl ?_
      refine PW.short 2 [(n1, A1, l1, c1)] _ rfl rfl rfl (fun a W hf => r_bN1 (hf.vl (s := 24) rfl)) (fun W => ns_lit1 W) (by simp; exact In.lim h1) rfl rfl ht rfl rfl rfl rfl rfl rfl ?_
      refine PW.q1 (x := .tmp 26) (.bool false) rfl rfl rfl rfl (fun ρ W h1 => by go_simp) ?_
      refine PW.pick (t := false) rfl rfl rfl rfl rfl rfl ?_
      refine PW.nil ?_
      refine SX.then ?_
      refine SC.cond (t := false) rfl ?_
      refine SC.skip ?_
      refine SX.then ?_
      refine SC.seq ?_
      refine SC.region ?_
      refine PW.loadV rfl rfl rfl rfl rfl rfl ?_
      refine PW.callG (r := .kw (K2 (KI (x)) (KJ (x)))) ce_of rfl rfl rfl rfl rfl (K2.st (KI.st _) (KJ.st _)) rfl (fun a W hf => by have e1 := hf.vl (s := 31) rfl; show Calls Try.prog _ #[a.tmps.getD 31 undef] W _; rw [e1]; exact of_in h1 hf.be (by omega) hz1) ?_
      refine PW.move rfl rfl rfl rfl rfl ?_
      refine PW.ext (r := .kw (KI (x))) rfl rfl rfl rfl rfl ex20 (KI.st _) rfl ?_
      refine PW.ext (r := .kw (KJ (x))) rfl rfl rfl rfl rfl ex21 (KJ.st _) rfl ?_
      refine PW.alloc (BI 28) rfl rfl rfl rfl rfl bI ?_
      refine PW.alloc (BI 31) rfl rfl rfl rfl rfl bJ ?_
      refine PW.store (x := .tmp 33) (r := .kw (KI (x))) rfl rfl rfl rfl rfl rfl sh_I ?_
      refine PW.store (x := .tmp 34) (r := .kw (KJ (x))) rfl rfl rfl rfl rfl rfl sh_J ?_
      refine PW.nil ?_
      refine SX.then ?_
      refine SC.seq ?_
      refine SC.seq ?_
      by_cases hn : n < 0
      · refine SC.region ?_
        refine PW.move rfl rfl rfl rfl rfl ?_
        refine PW.q2 (x := .tmp 35) (y := .const (.int .i64 40)) (.bool false) rfl rfl rfl rfl rfl (fun ρ W h1 h2 => by exact r_gt h1 h2 (decide_eq_false (by omega))) ?_
        refine PW.move rfl rfl rfl rfl rfl ?_
        refine PW.skip rfl rfl rfl ?_
        refine PW.skip rfl rfl rfl ?_
        refine PW.skip rfl rfl rfl ?_
        refine PW.skip rfl rfl rfl ?_
        refine PW.pick (t := false) rfl rfl rfl rfl rfl rfl ?_
        refine PW.nil ?_
        refine SX.then ?_
        refine SC.cond (t := false) rfl ?_
        refine SC.skip ?_
        refine SX.then ?_
        refine SC.seq ?_
        refine SC.region ?_
        refine PW.load rfl rfl rfl rfl rfl rfl ?_
        refine PW.move rfl rfl rfl rfl rfl ?_
        refine PW.call (r := .kw (K2 (KI (0)) (KV (.int .i64 1)))) rfl rfl rfl rfl rfl rfl (K2.st (KI.st _) (KV.st _)) rfl (k_power_neg hn) ?_
        refine PW.move rfl rfl rfl rfl rfl ?_
        refine PW.ext (r := .kw (KI (0))) rfl rfl rfl rfl rfl ex20 (KI.st _) rfl ?_
        refine PW.ext (r := .vl (.int .i64 1)) rfl rfl rfl rfl rfl ex21v (KV.st _) rfl ?_
        refine PW.alloc (BI 28) rfl rfl rfl rfl rfl bI ?_
        refine PW.store (x := .tmp 47) (r := .kw (KI (0))) rfl rfl rfl rfl rfl rfl sh_I ?_
        refine PW.assign rfl rfl rfl rfl rfl ?_
        refine PW.nil ?_
        refine SX.then ?_
        refine SC.seq ?_
        refine SC.region ?_
        refine PW.load rfl rfl rfl rfl rfl rfl ?_
        refine PW.move rfl rfl rfl rfl rfl ?_
        refine PW.call (r := .kw (K2 (KJ (0)) (KV (.int .i64 1)))) rfl rfl rfl rfl rfl rfl (K2.st (KJ.st _) (KV.st _)) rfl (k_jpower_neg hn) ?_
        refine PW.move rfl rfl rfl rfl rfl ?_
        refine PW.ext (r := .kw (KJ (0))) rfl rfl rfl rfl rfl ex20 (KJ.st _) rfl ?_
        refine PW.ext (r := .vl (.int .i64 1)) rfl rfl rfl rfl rfl ex21v (KV.st _) rfl ?_
        refine PW.alloc (BI 31) rfl rfl rfl rfl rfl bJ ?_
        refine PW.store (x := .tmp 53) (r := .kw (KJ (0))) rfl rfl rfl rfl rfl rfl sh_J ?_
        refine PW.assign rfl rfl rfl rfl rfl ?_
        refine PW.nil ?_
        refine SX.then ?_
        refine SC.seq ?_
        refine SC.region ?_
        refine PW.loadV rfl rfl rfl rfl rfl rfl ?_
        refine PW.callG (r := .kw (K2 (KI (y)) (KJ (y)))) ce_of rfl rfl rfl rfl rfl (K2.st (KI.st _) (KJ.st _)) rfl (fun a W hf => by have e1 := hf.vl (s := 56) rfl; show Calls Try.prog _ #[a.tmps.getD 56 undef] W _; rw [e1]; exact of_in h2 hf.be (by omega) hz2) ?_
        refine PW.move rfl rfl rfl rfl rfl ?_
        refine PW.ext (r := .kw (KI (y))) rfl rfl rfl rfl rfl ex20 (KI.st _) rfl ?_
        refine PW.ext (r := .kw (KJ (y))) rfl rfl rfl rfl rfl ex21 (KJ.st _) rfl ?_
        refine PW.alloc (BI 28) rfl rfl rfl rfl rfl bI ?_
        refine PW.alloc (BI 31) rfl rfl rfl rfl rfl bJ ?_
        refine PW.store (x := .tmp 58) (r := .kw (KI (y))) rfl rfl rfl rfl rfl rfl sh_I ?_
        refine PW.store (x := .tmp 59) (r := .kw (KJ (y))) rfl rfl rfl rfl rfl rfl sh_J ?_
        refine PW.nil ?_
        refine SX.then ?_
        refine SC.seq ?_
        by_cases ny : y < 0
        · refine SC.region ?_
          refine PW.load rfl rfl rfl rfl rfl rfl ?_
          refine PW.call (r := .kw (K2 (KI (0)) (KV (.int .i64 1)))) rfl rfl rfl rfl rfl rfl (K2.st (KI.st _) (KV.st _)) rfl (root_neg ny) ?_
          refine PW.move rfl rfl rfl rfl rfl ?_
          refine PW.ext (r := .kw (KI (0))) rfl rfl rfl rfl rfl ex20 (KI.st _) rfl ?_
          refine PW.ext (r := .vl (.int .i64 1)) rfl rfl rfl rfl rfl ex21v (KV.st _) rfl ?_
          refine PW.alloc (BI 28) rfl rfl rfl rfl rfl bI ?_
          refine PW.store (x := .tmp 63) (r := .kw (KI (0))) rfl rfl rfl rfl rfl rfl sh_I ?_
          refine PW.assign rfl rfl rfl rfl rfl ?_
          refine PW.nil ?_
          refine SX.then ?_
          refine SC.seq ?_
          refine SC.region ?_
          refine PW.load rfl rfl rfl rfl rfl rfl ?_
          refine PW.call (r := .kw (K2 (KJ (0)) (KV (.int .i64 1)))) rfl rfl rfl rfl rfl rfl (K2.st (KJ.st _) (KV.st _)) rfl (k_jroot_neg ny) ?_
          refine PW.move rfl rfl rfl rfl rfl ?_
          refine PW.ext (r := .kw (KJ (0))) rfl rfl rfl rfl rfl ex20 (KJ.st _) rfl ?_
          refine PW.ext (r := .vl (.int .i64 1)) rfl rfl rfl rfl rfl ex21v (KV.st _) rfl ?_
          refine PW.alloc (BI 31) rfl rfl rfl rfl rfl bJ ?_
          refine PW.store (x := .tmp 68) (r := .kw (KJ (0))) rfl rfl rfl rfl rfl rfl sh_J ?_
          refine PW.assign rfl rfl rfl rfl rfl ?_
          refine PW.nil ?_
          refine SX.then ?_
          refine SC.seq ?_
          refine SC.region ?_
          refine PW.move rfl rfl rfl rfl rfl ?_
          refine PW.move rfl rfl rfl rfl rfl ?_
          refine PW.q2 (x := .tmp 70) (y := .tmp 71) (.bool true) rfl rfl rfl rfl rfl (fun ρ W h1 h2 => by go_simp) ?_
          refine PW.move rfl rfl rfl rfl rfl ?_
          refine PW.load rfl rfl rfl rfl rfl rfl ?_
          refine PW.load rfl rfl rfl rfl rfl rfl ?_
          refine PW.call (r := .vl (.bool true)) rfl rfl rfl rfl rfl rfl (KV.st _) rfl (k_is (bd.zero (a := 1)) (by first | decide | omega) rfl) ?_
          refine PW.pick (t := true) rfl rfl rfl rfl rfl rfl ?_
          refine PW.move rfl rfl rfl rfl rfl ?_
          refine PW.move rfl rfl rfl rfl rfl ?_
          refine PW.move rfl rfl rfl rfl rfl ?_
          refine PW.q2 (x := .tmp 79) (y := .tmp 80) (.bool true) rfl rfl rfl rfl rfl (fun ρ W h1 h2 => by go_simp) ?_
          refine PW.pick (t := true) rfl rfl rfl rfl rfl rfl ?_
          refine PW.move rfl rfl rfl rfl rfl ?_
          refine PW.load rfl rfl rfl rfl rfl rfl ?_
          refine PW.load rfl rfl rfl rfl rfl rfl ?_
          refine PW.call (r := .vl (.bool true)) rfl rfl rfl rfl rfl rfl (KV.st _) rfl (k_is (bd.zero (a := 1)) (by first | decide | omega) rfl) ?_
          refine PW.pick (t := true) rfl rfl rfl rfl rfl rfl ?_
          refine PW.move rfl rfl rfl rfl rfl ?_
          refine PW.call (r := .vl (.bool true)) rfl rfl rfl rfl rfl rfl (KV.st _) rfl (k_awake) ?_
          refine PW.pick (t := true) rfl rfl rfl rfl rfl rfl ?_
          refine PW.assign rfl rfl rfl rfl rfl ?_
          refine PW.nil ?_
          refine SX.then ?_
          refine SC.ret ?_
          exact SX.done (r := .vl (.bool true)) rfl rfl rfl
        · obtain ⟨r, r0, r1, r2⟩ := root_ex y.toNat
          rw [Int.toNat_of_nonneg (by omega)] at r1 r2
          refine SC.region ?_
          refine PW.load rfl rfl rfl rfl rfl rfl ?_
          refine PW.call (r := .kw (K2 (KI (r)) (KV (.int .i64 0)))) rfl rfl rfl rfl rfl rfl (K2.st (KI.st _) (KV.st _)) rfl (k_root Y (by decide) r0 r1 r2) ?_
          refine PW.move rfl rfl rfl rfl rfl ?_
          refine PW.ext (r := .kw (KI (r))) rfl rfl rfl rfl rfl ex20 (KI.st _) rfl ?_
          refine PW.ext (r := .vl (.int .i64 0)) rfl rfl rfl rfl rfl ex21v (KV.st _) rfl ?_
          refine PW.alloc (BI 28) rfl rfl rfl rfl rfl bI ?_
          refine PW.store (x := .tmp 63) (r := .kw (KI (r))) rfl rfl rfl rfl rfl rfl sh_I ?_
          refine PW.assign rfl rfl rfl rfl rfl ?_
          refine PW.nil ?_
          refine SX.then ?_
          refine SC.seq ?_
          refine SC.region ?_
          refine PW.load rfl rfl rfl rfl rfl rfl ?_
          refine PW.call (r := .kw (K2 (KJ (r)) (KV (.int .i64 0)))) rfl rfl rfl rfl rfl rfl (K2.st (KJ.st _) (KV.st _)) rfl (k_jroot Y (by decide) r0 r1 r2) ?_
          refine PW.move rfl rfl rfl rfl rfl ?_
          refine PW.ext (r := .kw (KJ (r))) rfl rfl rfl rfl rfl ex20 (KJ.st _) rfl ?_
          refine PW.ext (r := .vl (.int .i64 0)) rfl rfl rfl rfl rfl ex21v (KV.st _) rfl ?_
          refine PW.alloc (BI 31) rfl rfl rfl rfl rfl bJ ?_
          refine PW.store (x := .tmp 68) (r := .kw (KJ (r))) rfl rfl rfl rfl rfl rfl sh_J ?_
          refine PW.assign rfl rfl rfl rfl rfl ?_
          refine PW.nil ?_
          refine SX.then ?_
          refine SC.seq ?_
          refine SC.region ?_
          refine PW.move rfl rfl rfl rfl rfl ?_
          refine PW.move rfl rfl rfl rfl rfl ?_
          refine PW.q2 (x := .tmp 70) (y := .tmp 71) (.bool true) rfl rfl rfl rfl rfl (fun ρ W h1 h2 => by go_simp) ?_
          refine PW.move rfl rfl rfl rfl rfl ?_
          refine PW.load rfl rfl rfl rfl rfl rfl ?_
          refine PW.load rfl rfl rfl rfl rfl rfl ?_
          refine PW.call (r := .vl (.bool true)) rfl rfl rfl rfl rfl rfl (KV.st _) rfl (k_is (bd.zero (a := 1)) (by first | decide | omega) rfl) ?_
          refine PW.pick (t := true) rfl rfl rfl rfl rfl rfl ?_
          refine PW.move rfl rfl rfl rfl rfl ?_
          refine PW.move rfl rfl rfl rfl rfl ?_
          refine PW.move rfl rfl rfl rfl rfl ?_
          refine PW.q2 (x := .tmp 79) (y := .tmp 80) (.bool true) rfl rfl rfl rfl rfl (fun ρ W h1 h2 => by go_simp) ?_
          refine PW.pick (t := true) rfl rfl rfl rfl rfl rfl ?_
          refine PW.move rfl rfl rfl rfl rfl ?_
          refine PW.load rfl rfl rfl rfl rfl rfl ?_
          refine PW.load rfl rfl rfl rfl rfl rfl ?_
          refine PW.call (r := .vl (.bool true)) rfl rfl rfl rfl rfl rfl (KV.st _) rfl (k_is ((bd_root Y r0 r1)) (by first | decide | omega) rfl) ?_
          refine PW.pick (t := true) rfl rfl rfl rfl rfl rfl ?_
          refine PW.move rfl rfl rfl rfl rfl ?_
          refine PW.call (r := .vl (.bool true)) rfl rfl rfl rfl rfl rfl (KV.st _) rfl (k_awake) ?_
          refine PW.pick (t := true) rfl rfl rfl rfl rfl rfl ?_
          refine PW.assign rfl rfl rfl rfl rfl ?_
          refine PW.nil ?_
          refine SX.then ?_
          refine SC.ret ?_
          exact SX.done (r := .vl (.bool true)) rfl rfl rfl
      · obtain ⟨k, rfl⟩ : ∃ k : Nat, n = k := ⟨n.toNat, by omega⟩
        by_cases hs1 : x.natAbs ≤ 1
        · by_cases h40 : 40 < k
          · refine SC.region ?_
            refine PW.move rfl rfl rfl rfl rfl ?_
            refine PW.q2 (x := .tmp 35) (y := .const (.int .i64 40)) (.bool true) rfl rfl rfl rfl rfl (fun ρ W h1 h2 => by exact r_gt h1 h2 (decide_eq_true (by omega))) ?_
            refine PW.move rfl rfl rfl rfl rfl ?_
            refine PW.load rfl rfl rfl rfl rfl rfl ?_
            refine PW.call (r := .kw (KJ ((x.natAbs : Int)))) rfl rfl rfl rfl rfl rfl (KJ.st _) rfl (k_jabs) ?_
            refine PW.call (r := .vl (.int .i64 (wid (pat ((x.natAbs : Int))) : Int))) rfl rfl rfl rfl rfl rfl (KV.st _) rfl (k_jlen X.abs (by first | decide | omega)) ?_
            refine PW.q2 (x := .tmp 40) (y := .const (.int .i64 1)) (.bool false) rfl rfl rfl rfl rfl (fun ρ W h1 h2 => by exact r_gt h1 h2 (decide_eq_false (fun h => absurd (len_abs1.1 h) (by omega)))) ?_
            refine PW.pick (t := true) rfl rfl rfl rfl rfl rfl ?_
            refine PW.nil ?_
            refine SX.then ?_
            refine SC.cond (t := false) rfl ?_
            refine SC.skip ?_
            refine SX.then ?_
            refine SC.seq ?_
            refine SC.region ?_
            refine PW.load rfl rfl rfl rfl rfl rfl ?_
            refine PW.move rfl rfl rfl rfl rfl ?_
            refine PW.call (r := .kw (K2 (KI (x ^ k)) (KV (.int .i64 0)))) rfl rfl rfl rfl rfl rfl (K2.st (KI.st _) (KV.st _)) rfl (k_power_ok (n := k) X (by decide) (by omega) (by have := wid_bdp (bd_pw1 (n := k) hs1); omega)) ?_
            refine PW.move rfl rfl rfl rfl rfl ?_
            refine PW.ext (r := .kw (KI (x ^ k))) rfl rfl rfl rfl rfl ex20 (KI.st _) rfl ?_
            refine PW.ext (r := .vl (.int .i64 0)) rfl rfl rfl rfl rfl ex21v (KV.st _) rfl ?_
            refine PW.alloc (BI 28) rfl rfl rfl rfl rfl bI ?_
            refine PW.store (x := .tmp 47) (r := .kw (KI (x ^ k))) rfl rfl rfl rfl rfl rfl sh_I ?_
            refine PW.assign rfl rfl rfl rfl rfl ?_
            refine PW.nil ?_
            refine SX.then ?_
            refine SC.seq ?_
            refine SC.region ?_
            refine PW.load rfl rfl rfl rfl rfl rfl ?_
            refine PW.move rfl rfl rfl rfl rfl ?_
            refine PW.call (r := .kw (K2 (KJ (x ^ k)) (KV (.int .i64 0)))) rfl rfl rfl rfl rfl rfl (K2.st (KJ.st _) (KV.st _)) rfl (k_jpower_small (n := k) hs1 (by omega)) ?_
            refine PW.move rfl rfl rfl rfl rfl ?_
            refine PW.ext (r := .kw (KJ (x ^ k))) rfl rfl rfl rfl rfl ex20 (KJ.st _) rfl ?_
            refine PW.ext (r := .vl (.int .i64 0)) rfl rfl rfl rfl rfl ex21v (KV.st _) rfl ?_
            refine PW.alloc (BI 31) rfl rfl rfl rfl rfl bJ ?_
            refine PW.store (x := .tmp 53) (r := .kw (KJ (x ^ k))) rfl rfl rfl rfl rfl rfl sh_J ?_
            refine PW.assign rfl rfl rfl rfl rfl ?_
            refine PW.nil ?_
            refine SX.then ?_
            refine SC.seq ?_
            refine SC.region ?_
            refine PW.loadV rfl rfl rfl rfl rfl rfl ?_
            refine PW.callG (r := .kw (K2 (KI (y)) (KJ (y)))) ce_of rfl rfl rfl rfl rfl (K2.st (KI.st _) (KJ.st _)) rfl (fun a W hf => by have e1 := hf.vl (s := 56) rfl; show Calls Try.prog _ #[a.tmps.getD 56 undef] W _; rw [e1]; exact of_in h2 hf.be (by omega) hz2) ?_
            refine PW.move rfl rfl rfl rfl rfl ?_
            refine PW.ext (r := .kw (KI (y))) rfl rfl rfl rfl rfl ex20 (KI.st _) rfl ?_
            refine PW.ext (r := .kw (KJ (y))) rfl rfl rfl rfl rfl ex21 (KJ.st _) rfl ?_
            refine PW.alloc (BI 28) rfl rfl rfl rfl rfl bI ?_
            refine PW.alloc (BI 31) rfl rfl rfl rfl rfl bJ ?_
            refine PW.store (x := .tmp 58) (r := .kw (KI (y))) rfl rfl rfl rfl rfl rfl sh_I ?_
            refine PW.store (x := .tmp 59) (r := .kw (KJ (y))) rfl rfl rfl rfl rfl rfl sh_J ?_
            refine PW.nil ?_
            refine SX.then ?_
            refine SC.seq ?_
            by_cases ny : y < 0
            · refine SC.region ?_
              refine PW.load rfl rfl rfl rfl rfl rfl ?_
              refine PW.call (r := .kw (K2 (KI (0)) (KV (.int .i64 1)))) rfl rfl rfl rfl rfl rfl (K2.st (KI.st _) (KV.st _)) rfl (root_neg ny) ?_
              refine PW.move rfl rfl rfl rfl rfl ?_
              refine PW.ext (r := .kw (KI (0))) rfl rfl rfl rfl rfl ex20 (KI.st _) rfl ?_
              refine PW.ext (r := .vl (.int .i64 1)) rfl rfl rfl rfl rfl ex21v (KV.st _) rfl ?_
              refine PW.alloc (BI 28) rfl rfl rfl rfl rfl bI ?_
              refine PW.store (x := .tmp 63) (r := .kw (KI (0))) rfl rfl rfl rfl rfl rfl sh_I ?_
              refine PW.assign rfl rfl rfl rfl rfl ?_
              refine PW.nil ?_
              refine SX.then ?_
              refine SC.seq ?_
              refine SC.region ?_
              refine PW.load rfl rfl rfl rfl rfl rfl ?_
              refine PW.call (r := .kw (K2 (KJ (0)) (KV (.int .i64 1)))) rfl rfl rfl rfl rfl rfl (K2.st (KJ.st _) (KV.st _)) rfl (k_jroot_neg ny) ?_
              refine PW.move rfl rfl rfl rfl rfl ?_
              refine PW.ext (r := .kw (KJ (0))) rfl rfl rfl rfl rfl ex20 (KJ.st _) rfl ?_
              refine PW.ext (r := .vl (.int .i64 1)) rfl rfl rfl rfl rfl ex21v (KV.st _) rfl ?_
              refine PW.alloc (BI 31) rfl rfl rfl rfl rfl bJ ?_
              refine PW.store (x := .tmp 68) (r := .kw (KJ (0))) rfl rfl rfl rfl rfl rfl sh_J ?_
              refine PW.assign rfl rfl rfl rfl rfl ?_
              refine PW.nil ?_
              refine SX.then ?_
              refine SC.seq ?_
              refine SC.region ?_
              refine PW.move rfl rfl rfl rfl rfl ?_
              refine PW.move rfl rfl rfl rfl rfl ?_
              refine PW.q2 (x := .tmp 70) (y := .tmp 71) (.bool true) rfl rfl rfl rfl rfl (fun ρ W h1 h2 => by go_simp) ?_
              refine PW.move rfl rfl rfl rfl rfl ?_
              refine PW.load rfl rfl rfl rfl rfl rfl ?_
              refine PW.load rfl rfl rfl rfl rfl rfl ?_
              refine PW.call (r := .vl (.bool true)) rfl rfl rfl rfl rfl rfl (KV.st _) rfl (k_is ((bd_pw1 (n := k) hs1)) (by first | decide | omega) rfl) ?_
              refine PW.pick (t := true) rfl rfl rfl rfl rfl rfl ?_
              refine PW.move rfl rfl rfl rfl rfl ?_
              refine PW.move rfl rfl rfl rfl rfl ?_
              refine PW.move rfl rfl rfl rfl rfl ?_
              refine PW.q2 (x := .tmp 79) (y := .tmp 80) (.bool true) rfl rfl rfl rfl rfl (fun ρ W h1 h2 => by go_simp) ?_
              refine PW.pick (t := true) rfl rfl rfl rfl rfl rfl ?_
              refine PW.move rfl rfl rfl rfl rfl ?_
              refine PW.load rfl rfl rfl rfl rfl rfl ?_
              refine PW.load rfl rfl rfl rfl rfl rfl ?_
              refine PW.call (r := .vl (.bool true)) rfl rfl rfl rfl rfl rfl (KV.st _) rfl (k_is (bd.zero (a := 1)) (by first | decide | omega) rfl) ?_
              refine PW.pick (t := true) rfl rfl rfl rfl rfl rfl ?_
              refine PW.move rfl rfl rfl rfl rfl ?_
              refine PW.call (r := .vl (.bool true)) rfl rfl rfl rfl rfl rfl (KV.st _) rfl (k_awake) ?_
              refine PW.pick (t := true) rfl rfl rfl rfl rfl rfl ?_
              refine PW.assign rfl rfl rfl rfl rfl ?_
              refine PW.nil ?_
              refine SX.then ?_
              refine SC.ret ?_
              exact SX.done (r := .vl (.bool true)) rfl rfl rfl
            · obtain ⟨r, r0, r1, r2⟩ := root_ex y.toNat
              rw [Int.toNat_of_nonneg (by omega)] at r1 r2
              refine SC.region ?_
              refine PW.load rfl rfl rfl rfl rfl rfl ?_
              refine PW.call (r := .kw (K2 (KI (r)) (KV (.int .i64 0)))) rfl rfl rfl rfl rfl rfl (K2.st (KI.st _) (KV.st _)) rfl (k_root Y (by decide) r0 r1 r2) ?_
              refine PW.move rfl rfl rfl rfl rfl ?_
              refine PW.ext (r := .kw (KI (r))) rfl rfl rfl rfl rfl ex20 (KI.st _) rfl ?_
              refine PW.ext (r := .vl (.int .i64 0)) rfl rfl rfl rfl rfl ex21v (KV.st _) rfl ?_
              refine PW.alloc (BI 28) rfl rfl rfl rfl rfl bI ?_
              refine PW.store (x := .tmp 63) (r := .kw (KI (r))) rfl rfl rfl rfl rfl rfl sh_I ?_
              refine PW.assign rfl rfl rfl rfl rfl ?_
              refine PW.nil ?_
              refine SX.then ?_
              refine SC.seq ?_
              refine SC.region ?_
              refine PW.load rfl rfl rfl rfl rfl rfl ?_
              refine PW.call (r := .kw (K2 (KJ (r)) (KV (.int .i64 0)))) rfl rfl rfl rfl rfl rfl (K2.st (KJ.st _) (KV.st _)) rfl (k_jroot Y (by decide) r0 r1 r2) ?_
              refine PW.move rfl rfl rfl rfl rfl ?_
              refine PW.ext (r := .kw (KJ (r))) rfl rfl rfl rfl rfl ex20 (KJ.st _) rfl ?_
              refine PW.ext (r := .vl (.int .i64 0)) rfl rfl rfl rfl rfl ex21v (KV.st _) rfl ?_
              refine PW.alloc (BI 31) rfl rfl rfl rfl rfl bJ ?_
              refine PW.store (x := .tmp 68) (r := .kw (KJ (r))) rfl rfl rfl rfl rfl rfl sh_J ?_
              refine PW.assign rfl rfl rfl rfl rfl ?_
              refine PW.nil ?_
              refine SX.then ?_
              refine SC.seq ?_
              refine SC.region ?_
              refine PW.move rfl rfl rfl rfl rfl ?_
              refine PW.move rfl rfl rfl rfl rfl ?_
              refine PW.q2 (x := .tmp 70) (y := .tmp 71) (.bool true) rfl rfl rfl rfl rfl (fun ρ W h1 h2 => by go_simp) ?_
              refine PW.move rfl rfl rfl rfl rfl ?_
              refine PW.load rfl rfl rfl rfl rfl rfl ?_
              refine PW.load rfl rfl rfl rfl rfl rfl ?_
              refine PW.call (r := .vl (.bool true)) rfl rfl rfl rfl rfl rfl (KV.st _) rfl (k_is ((bd_pw1 (n := k) hs1)) (by first | decide | omega) rfl) ?_
              refine PW.pick (t := true) rfl rfl rfl rfl rfl rfl ?_
              refine PW.move rfl rfl rfl rfl rfl ?_
              refine PW.move rfl rfl rfl rfl rfl ?_
              refine PW.move rfl rfl rfl rfl rfl ?_
              refine PW.q2 (x := .tmp 79) (y := .tmp 80) (.bool true) rfl rfl rfl rfl rfl (fun ρ W h1 h2 => by go_simp) ?_
              refine PW.pick (t := true) rfl rfl rfl rfl rfl rfl ?_
              refine PW.move rfl rfl rfl rfl rfl ?_
              refine PW.load rfl rfl rfl rfl rfl rfl ?_
              refine PW.load rfl rfl rfl rfl rfl rfl ?_
              refine PW.call (r := .vl (.bool true)) rfl rfl rfl rfl rfl rfl (KV.st _) rfl (k_is ((bd_root Y r0 r1)) (by first | decide | omega) rfl) ?_
              refine PW.pick (t := true) rfl rfl rfl rfl rfl rfl ?_
              refine PW.move rfl rfl rfl rfl rfl ?_
              refine PW.call (r := .vl (.bool true)) rfl rfl rfl rfl rfl rfl (KV.st _) rfl (k_awake) ?_
              refine PW.pick (t := true) rfl rfl rfl rfl rfl rfl ?_
              refine PW.assign rfl rfl rfl rfl rfl ?_
              refine PW.nil ?_
              refine SX.then ?_
              refine SC.ret ?_
              exact SX.done (r := .vl (.bool true)) rfl rfl rfl
          · refine SC.region ?_
            refine PW.move rfl rfl rfl rfl rfl ?_
            refine PW.q2 (x := .tmp 35) (y := .const (.int .i64 40)) (.bool false) rfl rfl rfl rfl rfl (fun ρ W h1 h2 => by exact r_gt h1 h2 (decide_eq_false (by omega))) ?_
            refine PW.move rfl rfl rfl rfl rfl ?_
            refine PW.skip rfl rfl rfl ?_
            refine PW.skip rfl rfl rfl ?_
            refine PW.skip rfl rfl rfl ?_
            refine PW.skip rfl rfl rfl ?_
            refine PW.pick (t := false) rfl rfl rfl rfl rfl rfl ?_
            refine PW.nil ?_
            refine SX.then ?_
            refine SC.cond (t := false) rfl ?_
            refine SC.skip ?_
            refine SX.then ?_
            refine SC.seq ?_
            refine SC.region ?_
            refine PW.load rfl rfl rfl rfl rfl rfl ?_
            refine PW.move rfl rfl rfl rfl rfl ?_
            refine PW.call (r := .kw (K2 (KI (x ^ k)) (KV (.int .i64 0)))) rfl rfl rfl rfl rfl rfl (K2.st (KI.st _) (KV.st _)) rfl (k_power_ok (n := k) X (by decide) (by omega) (by have := wid_bdp (bd_pw1 (n := k) hs1); omega)) ?_
            refine PW.move rfl rfl rfl rfl rfl ?_
            refine PW.ext (r := .kw (KI (x ^ k))) rfl rfl rfl rfl rfl ex20 (KI.st _) rfl ?_
            refine PW.ext (r := .vl (.int .i64 0)) rfl rfl rfl rfl rfl ex21v (KV.st _) rfl ?_
            refine PW.alloc (BI 28) rfl rfl rfl rfl rfl bI ?_
            refine PW.store (x := .tmp 47) (r := .kw (KI (x ^ k))) rfl rfl rfl rfl rfl rfl sh_I ?_
            refine PW.assign rfl rfl rfl rfl rfl ?_
            refine PW.nil ?_
            refine SX.then ?_
            refine SC.seq ?_
            refine SC.region ?_
            refine PW.load rfl rfl rfl rfl rfl rfl ?_
            refine PW.move rfl rfl rfl rfl rfl ?_
            refine PW.call (r := .kw (K2 (KJ (x ^ k)) (KV (.int .i64 0)))) rfl rfl rfl rfl rfl rfl (K2.st (KJ.st _) (KV.st _)) rfl (k_jpower_small (n := k) hs1 (by omega)) ?_
            refine PW.move rfl rfl rfl rfl rfl ?_
            refine PW.ext (r := .kw (KJ (x ^ k))) rfl rfl rfl rfl rfl ex20 (KJ.st _) rfl ?_
            refine PW.ext (r := .vl (.int .i64 0)) rfl rfl rfl rfl rfl ex21v (KV.st _) rfl ?_
            refine PW.alloc (BI 31) rfl rfl rfl rfl rfl bJ ?_
            refine PW.store (x := .tmp 53) (r := .kw (KJ (x ^ k))) rfl rfl rfl rfl rfl rfl sh_J ?_
            refine PW.assign rfl rfl rfl rfl rfl ?_
            refine PW.nil ?_
            refine SX.then ?_
            refine SC.seq ?_
            refine SC.region ?_
            refine PW.loadV rfl rfl rfl rfl rfl rfl ?_
            refine PW.callG (r := .kw (K2 (KI (y)) (KJ (y)))) ce_of rfl rfl rfl rfl rfl (K2.st (KI.st _) (KJ.st _)) rfl (fun a W hf => by have e1 := hf.vl (s := 56) rfl; show Calls Try.prog _ #[a.tmps.getD 56 undef] W _; rw [e1]; exact of_in h2 hf.be (by omega) hz2) ?_
            refine PW.move rfl rfl rfl rfl rfl ?_
            refine PW.ext (r := .kw (KI (y))) rfl rfl rfl rfl rfl ex20 (KI.st _) rfl ?_
            refine PW.ext (r := .kw (KJ (y))) rfl rfl rfl rfl rfl ex21 (KJ.st _) rfl ?_
            refine PW.alloc (BI 28) rfl rfl rfl rfl rfl bI ?_
            refine PW.alloc (BI 31) rfl rfl rfl rfl rfl bJ ?_
            refine PW.store (x := .tmp 58) (r := .kw (KI (y))) rfl rfl rfl rfl rfl rfl sh_I ?_
            refine PW.store (x := .tmp 59) (r := .kw (KJ (y))) rfl rfl rfl rfl rfl rfl sh_J ?_
            refine PW.nil ?_
            refine SX.then ?_
            refine SC.seq ?_
            by_cases ny : y < 0
            · refine SC.region ?_
              refine PW.load rfl rfl rfl rfl rfl rfl ?_
              refine PW.call (r := .kw (K2 (KI (0)) (KV (.int .i64 1)))) rfl rfl rfl rfl rfl rfl (K2.st (KI.st _) (KV.st _)) rfl (root_neg ny) ?_
              refine PW.move rfl rfl rfl rfl rfl ?_
              refine PW.ext (r := .kw (KI (0))) rfl rfl rfl rfl rfl ex20 (KI.st _) rfl ?_
              refine PW.ext (r := .vl (.int .i64 1)) rfl rfl rfl rfl rfl ex21v (KV.st _) rfl ?_
              refine PW.alloc (BI 28) rfl rfl rfl rfl rfl bI ?_
              refine PW.store (x := .tmp 63) (r := .kw (KI (0))) rfl rfl rfl rfl rfl rfl sh_I ?_
              refine PW.assign rfl rfl rfl rfl rfl ?_
              refine PW.nil ?_
              refine SX.then ?_
              refine SC.seq ?_
              refine SC.region ?_
              refine PW.load rfl rfl rfl rfl rfl rfl ?_
              refine PW.call (r := .kw (K2 (KJ (0)) (KV (.int .i64 1)))) rfl rfl rfl rfl rfl rfl (K2.st (KJ.st _) (KV.st _)) rfl (k_jroot_neg ny) ?_
              refine PW.move rfl rfl rfl rfl rfl ?_
              refine PW.ext (r := .kw (KJ (0))) rfl rfl rfl rfl rfl ex20 (KJ.st _) rfl ?_
              refine PW.ext (r := .vl (.int .i64 1)) rfl rfl rfl rfl rfl ex21v (KV.st _) rfl ?_
              refine PW.alloc (BI 31) rfl rfl rfl rfl rfl bJ ?_
              refine PW.store (x := .tmp 68) (r := .kw (KJ (0))) rfl rfl rfl rfl rfl rfl sh_J ?_
              refine PW.assign rfl rfl rfl rfl rfl ?_
              refine PW.nil ?_
              refine SX.then ?_
              refine SC.seq ?_
              refine SC.region ?_
              refine PW.move rfl rfl rfl rfl rfl ?_
              refine PW.move rfl rfl rfl rfl rfl ?_
              refine PW.q2 (x := .tmp 70) (y := .tmp 71) (.bool true) rfl rfl rfl rfl rfl (fun ρ W h1 h2 => by go_simp) ?_
              refine PW.move rfl rfl rfl rfl rfl ?_
              refine PW.load rfl rfl rfl rfl rfl rfl ?_
              refine PW.load rfl rfl rfl rfl rfl rfl ?_
              refine PW.call (r := .vl (.bool true)) rfl rfl rfl rfl rfl rfl (KV.st _) rfl (k_is ((bd_pw1 (n := k) hs1)) (by first | decide | omega) rfl) ?_
              refine PW.pick (t := true) rfl rfl rfl rfl rfl rfl ?_
              refine PW.move rfl rfl rfl rfl rfl ?_
              refine PW.move rfl rfl rfl rfl rfl ?_
              refine PW.move rfl rfl rfl rfl rfl ?_
              refine PW.q2 (x := .tmp 79) (y := .tmp 80) (.bool true) rfl rfl rfl rfl rfl (fun ρ W h1 h2 => by go_simp) ?_
              refine PW.pick (t := true) rfl rfl rfl rfl rfl rfl ?_
              refine PW.move rfl rfl rfl rfl rfl ?_
              refine PW.load rfl rfl rfl rfl rfl rfl ?_
              refine PW.load rfl rfl rfl rfl rfl rfl ?_
              refine PW.call (r := .vl (.bool true)) rfl rfl rfl rfl rfl rfl (KV.st _) rfl (k_is (bd.zero (a := 1)) (by first | decide | omega) rfl) ?_
              refine PW.pick (t := true) rfl rfl rfl rfl rfl rfl ?_
              refine PW.move rfl rfl rfl rfl rfl ?_
              refine PW.call (r := .vl (.bool true)) rfl rfl rfl rfl rfl rfl (KV.st _) rfl (k_awake) ?_
              refine PW.pick (t := true) rfl rfl rfl rfl rfl rfl ?_
              refine PW.assign rfl rfl rfl rfl rfl ?_
              refine PW.nil ?_
              refine SX.then ?_
              refine SC.ret ?_
              exact SX.done (r := .vl (.bool true)) rfl rfl rfl
            · obtain ⟨r, r0, r1, r2⟩ := root_ex y.toNat
              rw [Int.toNat_of_nonneg (by omega)] at r1 r2
              refine SC.region ?_
              refine PW.load rfl rfl rfl rfl rfl rfl ?_
              refine PW.call (r := .kw (K2 (KI (r)) (KV (.int .i64 0)))) rfl rfl rfl rfl rfl rfl (K2.st (KI.st _) (KV.st _)) rfl (k_root Y (by decide) r0 r1 r2) ?_
              refine PW.move rfl rfl rfl rfl rfl ?_
              refine PW.ext (r := .kw (KI (r))) rfl rfl rfl rfl rfl ex20 (KI.st _) rfl ?_
              refine PW.ext (r := .vl (.int .i64 0)) rfl rfl rfl rfl rfl ex21v (KV.st _) rfl ?_
              refine PW.alloc (BI 28) rfl rfl rfl rfl rfl bI ?_
              refine PW.store (x := .tmp 63) (r := .kw (KI (r))) rfl rfl rfl rfl rfl rfl sh_I ?_
              refine PW.assign rfl rfl rfl rfl rfl ?_
              refine PW.nil ?_
              refine SX.then ?_
              refine SC.seq ?_
              refine SC.region ?_
              refine PW.load rfl rfl rfl rfl rfl rfl ?_
              refine PW.call (r := .kw (K2 (KJ (r)) (KV (.int .i64 0)))) rfl rfl rfl rfl rfl rfl (K2.st (KJ.st _) (KV.st _)) rfl (k_jroot Y (by decide) r0 r1 r2) ?_
              refine PW.move rfl rfl rfl rfl rfl ?_
              refine PW.ext (r := .kw (KJ (r))) rfl rfl rfl rfl rfl ex20 (KJ.st _) rfl ?_
              refine PW.ext (r := .vl (.int .i64 0)) rfl rfl rfl rfl rfl ex21v (KV.st _) rfl ?_
              refine PW.alloc (BI 31) rfl rfl rfl rfl rfl bJ ?_
              refine PW.store (x := .tmp 68) (r := .kw (KJ (r))) rfl rfl rfl rfl rfl rfl sh_J ?_
              refine PW.assign rfl rfl rfl rfl rfl ?_
              refine PW.nil ?_
              refine SX.then ?_
              refine SC.seq ?_
              refine SC.region ?_
              refine PW.move rfl rfl rfl rfl rfl ?_
              refine PW.move rfl rfl rfl rfl rfl ?_
              refine PW.q2 (x := .tmp 70) (y := .tmp 71) (.bool true) rfl rfl rfl rfl rfl (fun ρ W h1 h2 => by go_simp) ?_
              refine PW.move rfl rfl rfl rfl rfl ?_
              refine PW.load rfl rfl rfl rfl rfl rfl ?_
              refine PW.load rfl rfl rfl rfl rfl rfl ?_
              refine PW.call (r := .vl (.bool true)) rfl rfl rfl rfl rfl rfl (KV.st _) rfl (k_is ((bd_pw1 (n := k) hs1)) (by first | decide | omega) rfl) ?_
              refine PW.pick (t := true) rfl rfl rfl rfl rfl rfl ?_
              refine PW.move rfl rfl rfl rfl rfl ?_
              refine PW.move rfl rfl rfl rfl rfl ?_
              refine PW.move rfl rfl rfl rfl rfl ?_
              refine PW.q2 (x := .tmp 79) (y := .tmp 80) (.bool true) rfl rfl rfl rfl rfl (fun ρ W h1 h2 => by go_simp) ?_
              refine PW.pick (t := true) rfl rfl rfl rfl rfl rfl ?_
              refine PW.move rfl rfl rfl rfl rfl ?_
              refine PW.load rfl rfl rfl rfl rfl rfl ?_
              refine PW.load rfl rfl rfl rfl rfl rfl ?_
              refine PW.call (r := .vl (.bool true)) rfl rfl rfl rfl rfl rfl (KV.st _) rfl (k_is ((bd_root Y r0 r1)) (by first | decide | omega) rfl) ?_
              refine PW.pick (t := true) rfl rfl rfl rfl rfl rfl ?_
              refine PW.move rfl rfl rfl rfl rfl ?_
              refine PW.call (r := .vl (.bool true)) rfl rfl rfl rfl rfl rfl (KV.st _) rfl (k_awake) ?_
              refine PW.pick (t := true) rfl rfl rfl rfl rfl rfl ?_
              refine PW.assign rfl rfl rfl rfl rfl ?_
              refine PW.nil ?_
              refine SX.then ?_
              refine SC.ret ?_
              exact SX.done (r := .vl (.bool true)) rfl rfl rfl
        · by_cases h40 : 40 < k
          · refine SC.region ?_
            refine PW.move rfl rfl rfl rfl rfl ?_
            refine PW.q2 (x := .tmp 35) (y := .const (.int .i64 40)) (.bool true) rfl rfl rfl rfl rfl (fun ρ W h1 h2 => by exact r_gt h1 h2 (decide_eq_true (by omega))) ?_
            refine PW.move rfl rfl rfl rfl rfl ?_
            refine PW.load rfl rfl rfl rfl rfl rfl ?_
            refine PW.call (r := .kw (KJ ((x.natAbs : Int)))) rfl rfl rfl rfl rfl rfl (KJ.st _) rfl (k_jabs) ?_
            refine PW.call (r := .vl (.int .i64 (wid (pat ((x.natAbs : Int))) : Int))) rfl rfl rfl rfl rfl rfl (KV.st _) rfl (k_jlen X.abs (by first | decide | omega)) ?_
            refine PW.q2 (x := .tmp 40) (y := .const (.int .i64 1)) (.bool true) rfl rfl rfl rfl rfl (fun ρ W h1 h2 => by exact r_gt h1 h2 (decide_eq_true (len_abs1.2 (by omega)))) ?_
            refine PW.pick (t := true) rfl rfl rfl rfl rfl rfl ?_
            refine PW.nil ?_
            refine SX.then ?_
            refine SC.cond (t := true) rfl ?_
            refine SC.region ?_
            refine PW.assign rfl rfl rfl rfl rfl ?_
            refine PW.nil ?_
            refine SX.then ?_
            refine SC.seq ?_
            refine SC.region ?_
            refine PW.load rfl rfl rfl rfl rfl rfl ?_
            refine PW.move rfl rfl rfl rfl rfl ?_
            refine PW.call (r := .kw (K2 (KI (x ^ 40)) (KV (.int .i64 0)))) rfl rfl rfl rfl rfl rfl (K2.st (KI.st _) (KV.st _)) rfl (k_power_ok (n := 40) X (by decide) (by omega) (by have := wid_bdp (bd.pw2 X (n := 40) (by omega)); omega)) ?_
            refine PW.move rfl rfl rfl rfl rfl ?_
            refine PW.ext (r := .kw (KI (x ^ 40))) rfl rfl rfl rfl rfl ex20 (KI.st _) rfl ?_
            refine PW.ext (r := .vl (.int .i64 0)) rfl rfl rfl rfl rfl ex21v (KV.st _) rfl ?_
            refine PW.alloc (BI 28) rfl rfl rfl rfl rfl bI ?_
            refine PW.store (x := .tmp 47) (r := .kw (KI (x ^ 40))) rfl rfl rfl rfl rfl rfl sh_I ?_
            refine PW.assign rfl rfl rfl rfl rfl ?_
            refine PW.nil ?_
            refine SX.then ?_
            refine SC.seq ?_
            refine SC.region ?_
            refine PW.load rfl rfl rfl rfl rfl rfl ?_
            refine PW.move rfl rfl rfl rfl rfl ?_
            refine PW.call (r := .kw (K2 (KJ (x ^ 40)) (KV (.int .i64 0)))) rfl rfl rfl rfl rfl rfl (K2.st (KJ.st _) (KV.st _)) rfl (k_jpower (n := 40) X (by omega) (by omega)) ?_
            refine PW.move rfl rfl rfl rfl rfl ?_
            refine PW.ext (r := .kw (KJ (x ^ 40))) rfl rfl rfl rfl rfl ex20 (KJ.st _) rfl ?_
            refine PW.ext (r := .vl (.int .i64 0)) rfl rfl rfl rfl rfl ex21v (KV.st _) rfl ?_
            refine PW.alloc (BI 31) rfl rfl rfl rfl rfl bJ ?_
            refine PW.store (x := .tmp 53) (r := .kw (KJ (x ^ 40))) rfl rfl rfl rfl rfl rfl sh_J ?_
            refine PW.assign rfl rfl rfl rfl rfl ?_
            refine PW.nil ?_
            refine SX.then ?_
            refine SC.seq ?_
            refine SC.region ?_
            refine PW.loadV rfl rfl rfl rfl rfl rfl ?_
            refine PW.callG (r := .kw (K2 (KI (y)) (KJ (y)))) ce_of rfl rfl rfl rfl rfl (K2.st (KI.st _) (KJ.st _)) rfl (fun a W hf => by have e1 := hf.vl (s := 56) rfl; show Calls Try.prog _ #[a.tmps.getD 56 undef] W _; rw [e1]; exact of_in h2 hf.be (by omega) hz2) ?_
            refine PW.move rfl rfl rfl rfl rfl ?_
            refine PW.ext (r := .kw (KI (y))) rfl rfl rfl rfl rfl ex20 (KI.st _) rfl ?_
            refine PW.ext (r := .kw (KJ (y))) rfl rfl rfl rfl rfl ex21 (KJ.st _) rfl ?_
            refine PW.alloc (BI 28) rfl rfl rfl rfl rfl bI ?_
            refine PW.alloc (BI 31) rfl rfl rfl rfl rfl bJ ?_
            refine PW.store (x := .tmp 58) (r := .kw (KI (y))) rfl rfl rfl rfl rfl rfl sh_I ?_
            refine PW.store (x := .tmp 59) (r := .kw (KJ (y))) rfl rfl rfl rfl rfl rfl sh_J ?_
            refine PW.nil ?_
            refine SX.then ?_
            refine SC.seq ?_
            by_cases ny : y < 0
            · refine SC.region ?_
              refine PW.load rfl rfl rfl rfl rfl rfl ?_
              refine PW.call (r := .kw (K2 (KI (0)) (KV (.int .i64 1)))) rfl rfl rfl rfl rfl rfl (K2.st (KI.st _) (KV.st _)) rfl (root_neg ny) ?_
              refine PW.move rfl rfl rfl rfl rfl ?_
              refine PW.ext (r := .kw (KI (0))) rfl rfl rfl rfl rfl ex20 (KI.st _) rfl ?_
              refine PW.ext (r := .vl (.int .i64 1)) rfl rfl rfl rfl rfl ex21v (KV.st _) rfl ?_
              refine PW.alloc (BI 28) rfl rfl rfl rfl rfl bI ?_
              refine PW.store (x := .tmp 63) (r := .kw (KI (0))) rfl rfl rfl rfl rfl rfl sh_I ?_
              refine PW.assign rfl rfl rfl rfl rfl ?_
              refine PW.nil ?_
              refine SX.then ?_
              refine SC.seq ?_
              refine SC.region ?_
              refine PW.load rfl rfl rfl rfl rfl rfl ?_
              refine PW.call (r := .kw (K2 (KJ (0)) (KV (.int .i64 1)))) rfl rfl rfl rfl rfl rfl (K2.st (KJ.st _) (KV.st _)) rfl (k_jroot_neg ny) ?_
              refine PW.move rfl rfl rfl rfl rfl ?_
              refine PW.ext (r := .kw (KJ (0))) rfl rfl rfl rfl rfl ex20 (KJ.st _) rfl ?_
              refine PW.ext (r := .vl (.int .i64 1)) rfl rfl rfl rfl rfl ex21v (KV.st _) rfl ?_
              refine PW.alloc (BI 31) rfl rfl rfl rfl rfl bJ ?_
              refine PW.store (x := .tmp 68) (r := .kw (KJ (0))) rfl rfl rfl rfl rfl rfl sh_J ?_
              refine PW.assign rfl rfl rfl rfl rfl ?_
              refine PW.nil ?_
              refine SX.then ?_
              refine SC.seq ?_
              refine SC.region ?_
              refine PW.move rfl rfl rfl rfl rfl ?_
              refine PW.move rfl rfl rfl rfl rfl ?_
              refine PW.q2 (x := .tmp 70) (y := .tmp 71) (.bool true) rfl rfl rfl rfl rfl (fun ρ W h1 h2 => by go_simp) ?_
              refine PW.move rfl rfl rfl rfl rfl ?_
              refine PW.load rfl rfl rfl rfl rfl rfl ?_
              refine PW.load rfl rfl rfl rfl rfl rfl ?_
              refine PW.call (r := .vl (.bool true)) rfl rfl rfl rfl rfl rfl (KV.st _) rfl (k_is ((bd.pw2 X (n := 40) (by omega))) (by first | decide | omega) rfl) ?_
              refine PW.pick (t := true) rfl rfl rfl rfl rfl rfl ?_
              refine PW.move rfl rfl rfl rfl rfl ?_
              refine PW.move rfl rfl rfl rfl rfl ?_
              refine PW.move rfl rfl rfl rfl rfl ?_
              refine PW.q2 (x := .tmp 79) (y := .tmp 80) (.bool true) rfl rfl rfl rfl rfl (fun ρ W h1 h2 => by go_simp) ?_
              refine PW.pick (t := true) rfl rfl rfl rfl rfl rfl ?_
              refine PW.move rfl rfl rfl rfl rfl ?_
              refine PW.load rfl rfl rfl rfl rfl rfl ?_
              refine PW.load rfl rfl rfl rfl rfl rfl ?_
              refine PW.call (r := .vl (.bool true)) rfl rfl rfl rfl rfl rfl (KV.st _) rfl (k_is (bd.zero (a := 1)) (by first | decide | omega) rfl) ?_
              refine PW.pick (t := true) rfl rfl rfl rfl rfl rfl ?_
              refine PW.move rfl rfl rfl rfl rfl ?_
              refine PW.call (r := .vl (.bool true)) rfl rfl rfl rfl rfl rfl (KV.st _) rfl (k_awake) ?_
              refine PW.pick (t := true) rfl rfl rfl rfl rfl rfl ?_
              refine PW.assign rfl rfl rfl rfl rfl ?_
              refine PW.nil ?_
              refine SX.then ?_
              refine SC.ret ?_
              exact SX.done (r := .vl (.bool true)) rfl rfl rfl
            · obtain ⟨r, r0, r1, r2⟩ := root_ex y.toNat
              rw [Int.toNat_of_nonneg (by omega)] at r1 r2
              refine SC.region ?_
              refine PW.load rfl rfl rfl rfl rfl rfl ?_
              refine PW.call (r := .kw (K2 (KI (r)) (KV (.int .i64 0)))) rfl rfl rfl rfl rfl rfl (K2.st (KI.st _) (KV.st _)) rfl (k_root Y (by decide) r0 r1 r2) ?_
              refine PW.move rfl rfl rfl rfl rfl ?_
              refine PW.ext (r := .kw (KI (r))) rfl rfl rfl rfl rfl ex20 (KI.st _) rfl ?_
              refine PW.ext (r := .vl (.int .i64 0)) rfl rfl rfl rfl rfl ex21v (KV.st _) rfl ?_
              refine PW.alloc (BI 28) rfl rfl rfl rfl rfl bI ?_
              refine PW.store (x := .tmp 63) (r := .kw (KI (r))) rfl rfl rfl rfl rfl rfl sh_I ?_
              refine PW.assign rfl rfl rfl rfl rfl ?_
              refine PW.nil ?_
              refine SX.then ?_
              refine SC.seq ?_
              refine SC.region ?_
              refine PW.load rfl rfl rfl rfl rfl rfl ?_
              refine PW.call (r := .kw (K2 (KJ (r)) (KV (.int .i64 0)))) rfl rfl rfl rfl rfl rfl (K2.st (KJ.st _) (KV.st _)) rfl (k_jroot Y (by decide) r0 r1 r2) ?_
              refine PW.move rfl rfl rfl rfl rfl ?_
              refine PW.ext (r := .kw (KJ (r))) rfl rfl rfl rfl rfl ex20 (KJ.st _) rfl ?_
              refine PW.ext (r := .vl (.int .i64 0)) rfl rfl rfl rfl rfl ex21v (KV.st _) rfl ?_
              refine PW.alloc (BI 31) rfl rfl rfl rfl rfl bJ ?_
              refine PW.store (x := .tmp 68) (r := .kw (KJ (r))) rfl rfl rfl rfl rfl rfl sh_J ?_
              refine PW.assign rfl rfl rfl rfl rfl ?_
              refine PW.nil ?_
              refine SX.then ?_
              refine SC.seq ?_
              refine SC.region ?_
              refine PW.move rfl rfl rfl rfl rfl ?_
              refine PW.move rfl rfl rfl rfl rfl ?_
              refine PW.q2 (x := .tmp 70) (y := .tmp 71) (.bool true) rfl rfl rfl rfl rfl (fun ρ W h1 h2 => by go_simp) ?_
              refine PW.move rfl rfl rfl rfl rfl ?_
              refine PW.load rfl rfl rfl rfl rfl rfl ?_
              refine PW.load rfl rfl rfl rfl rfl rfl ?_
              refine PW.call (r := .vl (.bool true)) rfl rfl rfl rfl rfl rfl (KV.st _) rfl (k_is ((bd.pw2 X (n := 40) (by omega))) (by first | decide | omega) rfl) ?_
              refine PW.pick (t := true) rfl rfl rfl rfl rfl rfl ?_
              refine PW.move rfl rfl rfl rfl rfl ?_
              refine PW.move rfl rfl rfl rfl rfl ?_
              refine PW.move rfl rfl rfl rfl rfl ?_
              refine PW.q2 (x := .tmp 79) (y := .tmp 80) (.bool true) rfl rfl rfl rfl rfl (fun ρ W h1 h2 => by go_simp) ?_
              refine PW.pick (t := true) rfl rfl rfl rfl rfl rfl ?_
              refine PW.move rfl rfl rfl rfl rfl ?_
              refine PW.load rfl rfl rfl rfl rfl rfl ?_
              refine PW.load rfl rfl rfl rfl rfl rfl ?_
              refine PW.call (r := .vl (.bool true)) rfl rfl rfl rfl rfl rfl (KV.st _) rfl (k_is ((bd_root Y r0 r1)) (by first | decide | omega) rfl) ?_
              refine PW.pick (t := true) rfl rfl rfl rfl rfl rfl ?_
              refine PW.move rfl rfl rfl rfl rfl ?_
              refine PW.call (r := .vl (.bool true)) rfl rfl rfl rfl rfl rfl (KV.st _) rfl (k_awake) ?_
              refine PW.pick (t := true) rfl rfl rfl rfl rfl rfl ?_
              refine PW.assign rfl rfl rfl rfl rfl ?_
              refine PW.nil ?_
              refine SX.then ?_
              refine SC.ret ?_
              exact SX.done (r := .vl (.bool true)) rfl rfl rfl
          · refine SC.region ?_
            refine PW.move rfl rfl rfl rfl rfl ?_
            refine PW.q2 (x := .tmp 35) (y := .const (.int .i64 40)) (.bool false) rfl rfl rfl rfl rfl (fun ρ W h1 h2 => by exact r_gt h1 h2 (decide_eq_false (by omega))) ?_
            refine PW.move rfl rfl rfl rfl rfl ?_
            refine PW.skip rfl rfl rfl ?_
            refine PW.skip rfl rfl rfl ?_
            refine PW.skip rfl rfl rfl ?_
            refine PW.skip rfl rfl rfl ?_
            refine PW.pick (t := false) rfl rfl rfl rfl rfl rfl ?_
            refine PW.nil ?_
            refine SX.then ?_
            refine SC.cond (t := false) rfl ?_
            refine SC.skip ?_
            refine SX.then ?_
            refine SC.seq ?_
            refine SC.region ?_
            refine PW.load rfl rfl rfl rfl rfl rfl ?_
            refine PW.move rfl rfl rfl rfl rfl ?_
            refine PW.call (r := .kw (K2 (KI (x ^ k)) (KV (.int .i64 0)))) rfl rfl rfl rfl rfl rfl (K2.st (KI.st _) (KV.st _)) rfl (k_power_ok (n := k) X (by decide) (by omega) (by have := wid_bdp (bd.pw2 X (n := k) (by omega)); omega)) ?_
            refine PW.move rfl rfl rfl rfl rfl ?_
            refine PW.ext (r := .kw (KI (x ^ k))) rfl rfl rfl rfl rfl ex20 (KI.st _) rfl ?_
            refine PW.ext (r := .vl (.int .i64 0)) rfl rfl rfl rfl rfl ex21v (KV.st _) rfl ?_
            refine PW.alloc (BI 28) rfl rfl rfl rfl rfl bI ?_
            refine PW.store (x := .tmp 47) (r := .kw (KI (x ^ k))) rfl rfl rfl rfl rfl rfl sh_I ?_
            refine PW.assign rfl rfl rfl rfl rfl ?_
            refine PW.nil ?_
            refine SX.then ?_
            refine SC.seq ?_
            refine SC.region ?_
            refine PW.load rfl rfl rfl rfl rfl rfl ?_
            refine PW.move rfl rfl rfl rfl rfl ?_
            refine PW.call (r := .kw (K2 (KJ (x ^ k)) (KV (.int .i64 0)))) rfl rfl rfl rfl rfl rfl (K2.st (KJ.st _) (KV.st _)) rfl (k_jpower (n := k) X (by omega) (by omega)) ?_
            refine PW.move rfl rfl rfl rfl rfl ?_
            refine PW.ext (r := .kw (KJ (x ^ k))) rfl rfl rfl rfl rfl ex20 (KJ.st _) rfl ?_
            refine PW.ext (r := .vl (.int .i64 0)) rfl rfl rfl rfl rfl ex21v (KV.st _) rfl ?_
            refine PW.alloc (BI 31) rfl rfl rfl rfl rfl bJ ?_
            refine PW.store (x := .tmp 53) (r := .kw (KJ (x ^ k))) rfl rfl rfl rfl rfl rfl sh_J ?_
            refine PW.assign rfl rfl rfl rfl rfl ?_
            refine PW.nil ?_
            refine SX.then ?_
            refine SC.seq ?_
            refine SC.region ?_
            refine PW.loadV rfl rfl rfl rfl rfl rfl ?_
            refine PW.callG (r := .kw (K2 (KI (y)) (KJ (y)))) ce_of rfl rfl rfl rfl rfl (K2.st (KI.st _) (KJ.st _)) rfl (fun a W hf => by have e1 := hf.vl (s := 56) rfl; show Calls Try.prog _ #[a.tmps.getD 56 undef] W _; rw [e1]; exact of_in h2 hf.be (by omega) hz2) ?_
            refine PW.move rfl rfl rfl rfl rfl ?_
            refine PW.ext (r := .kw (KI (y))) rfl rfl rfl rfl rfl ex20 (KI.st _) rfl ?_
            refine PW.ext (r := .kw (KJ (y))) rfl rfl rfl rfl rfl ex21 (KJ.st _) rfl ?_
            refine PW.alloc (BI 28) rfl rfl rfl rfl rfl bI ?_
            refine PW.alloc (BI 31) rfl rfl rfl rfl rfl bJ ?_
            refine PW.store (x := .tmp 58) (r := .kw (KI (y))) rfl rfl rfl rfl rfl rfl sh_I ?_
            refine PW.store (x := .tmp 59) (r := .kw (KJ (y))) rfl rfl rfl rfl rfl rfl sh_J ?_
            refine PW.nil ?_
            refine SX.then ?_
            refine SC.seq ?_
            by_cases ny : y < 0
            · refine SC.region ?_
              refine PW.load rfl rfl rfl rfl rfl rfl ?_
              refine PW.call (r := .kw (K2 (KI (0)) (KV (.int .i64 1)))) rfl rfl rfl rfl rfl rfl (K2.st (KI.st _) (KV.st _)) rfl (root_neg ny) ?_
              refine PW.move rfl rfl rfl rfl rfl ?_
              refine PW.ext (r := .kw (KI (0))) rfl rfl rfl rfl rfl ex20 (KI.st _) rfl ?_
              refine PW.ext (r := .vl (.int .i64 1)) rfl rfl rfl rfl rfl ex21v (KV.st _) rfl ?_
              refine PW.alloc (BI 28) rfl rfl rfl rfl rfl bI ?_
              refine PW.store (x := .tmp 63) (r := .kw (KI (0))) rfl rfl rfl rfl rfl rfl sh_I ?_
              refine PW.assign rfl rfl rfl rfl rfl ?_
              refine PW.nil ?_
              refine SX.then ?_
              refine SC.seq ?_
              refine SC.region ?_
              refine PW.load rfl rfl rfl rfl rfl rfl ?_
              refine PW.call (r := .kw (K2 (KJ (0)) (KV (.int .i64 1)))) rfl rfl rfl rfl rfl rfl (K2.st (KJ.st _) (KV.st _)) rfl (k_jroot_neg ny) ?_
              refine PW.move rfl rfl rfl rfl rfl ?_
              refine PW.ext (r := .kw (KJ (0))) rfl rfl rfl rfl rfl ex20 (KJ.st _) rfl ?_
              refine PW.ext (r := .vl (.int .i64 1)) rfl rfl rfl rfl rfl ex21v (KV.st _) rfl ?_
              refine PW.alloc (BI 31) rfl rfl rfl rfl rfl bJ ?_
              refine PW.store (x := .tmp 68) (r := .kw (KJ (0))) rfl rfl rfl rfl rfl rfl sh_J ?_
              refine PW.assign rfl rfl rfl rfl rfl ?_
              refine PW.nil ?_
              refine SX.then ?_
              refine SC.seq ?_
              refine SC.region ?_
              refine PW.move rfl rfl rfl rfl rfl ?_
              refine PW.move rfl rfl rfl rfl rfl ?_
              refine PW.q2 (x := .tmp 70) (y := .tmp 71) (.bool true) rfl rfl rfl rfl rfl (fun ρ W h1 h2 => by go_simp) ?_
              refine PW.move rfl rfl rfl rfl rfl ?_
              refine PW.load rfl rfl rfl rfl rfl rfl ?_
              refine PW.load rfl rfl rfl rfl rfl rfl ?_
              refine PW.call (r := .vl (.bool true)) rfl rfl rfl rfl rfl rfl (KV.st _) rfl (k_is ((bd.pw2 X (n := k) (by omega))) (by first | decide | omega) rfl) ?_
              refine PW.pick (t := true) rfl rfl rfl rfl rfl rfl ?_
              refine PW.move rfl rfl rfl rfl rfl ?_
              refine PW.move rfl rfl rfl rfl rfl ?_
              refine PW.move rfl rfl rfl rfl rfl ?_
              refine PW.q2 (x := .tmp 79) (y := .tmp 80) (.bool true) rfl rfl rfl rfl rfl (fun ρ W h1 h2 => by go_simp) ?_
              refine PW.pick (t := true) rfl rfl rfl rfl rfl rfl ?_
              refine PW.move rfl rfl rfl rfl rfl ?_
              refine PW.load rfl rfl rfl rfl rfl rfl ?_
              refine PW.load rfl rfl rfl rfl rfl rfl ?_
              refine PW.call (r := .vl (.bool true)) rfl rfl rfl rfl rfl rfl (KV.st _) rfl (k_is (bd.zero (a := 1)) (by first | decide | omega) rfl) ?_
              refine PW.pick (t := true) rfl rfl rfl rfl rfl rfl ?_
              refine PW.move rfl rfl rfl rfl rfl ?_
              refine PW.call (r := .vl (.bool true)) rfl rfl rfl rfl rfl rfl (KV.st _) rfl (k_awake) ?_
              refine PW.pick (t := true) rfl rfl rfl rfl rfl rfl ?_
              refine PW.assign rfl rfl rfl rfl rfl ?_
              refine PW.nil ?_
              refine SX.then ?_
              refine SC.ret ?_
              exact SX.done (r := .vl (.bool true)) rfl rfl rfl
            · obtain ⟨r, r0, r1, r2⟩ := root_ex y.toNat
              rw [Int.toNat_of_nonneg (by omega)] at r1 r2
              refine SC.region ?_
              refine PW.load rfl rfl rfl rfl rfl rfl ?_
              refine PW.call (r := .kw (K2 (KI (r)) (KV (.int .i64 0)))) rfl rfl rfl rfl rfl rfl (K2.st (KI.st _) (KV.st _)) rfl (k_root Y (by decide) r0 r1 r2) ?_
              refine PW.move rfl rfl rfl rfl rfl ?_
              refine PW.ext (r := .kw (KI (r))) rfl rfl rfl rfl rfl ex20 (KI.st _) rfl ?_
              refine PW.ext (r := .vl (.int .i64 0)) rfl rfl rfl rfl rfl ex21v (KV.st _) rfl ?_
              refine PW.alloc (BI 28) rfl rfl rfl rfl rfl bI ?_
              refine PW.store (x := .tmp 63) (r := .kw (KI (r))) rfl rfl rfl rfl rfl rfl sh_I ?_
              refine PW.assign rfl rfl rfl rfl rfl ?_
              refine PW.nil ?_
              refine SX.then ?_
              refine SC.seq ?_
              refine SC.region ?_
              refine PW.load rfl rfl rfl rfl rfl rfl ?_
              refine PW.call (r := .kw (K2 (KJ (r)) (KV (.int .i64 0)))) rfl rfl rfl rfl rfl rfl (K2.st (KJ.st _) (KV.st _)) rfl (k_jroot Y (by decide) r0 r1 r2) ?_
              refine PW.move rfl rfl rfl rfl rfl ?_
              refine PW.ext (r := .kw (KJ (r))) rfl rfl rfl rfl rfl ex20 (KJ.st _) rfl ?_
              refine PW.ext (r := .vl (.int .i64 0)) rfl rfl rfl rfl rfl ex21v (KV.st _) rfl ?_
              refine PW.alloc (BI 31) rfl rfl rfl rfl rfl bJ ?_
              refine PW.store (x := .tmp 68) (r := .kw (KJ (r))) rfl rfl rfl rfl rfl rfl sh_J ?_
              refine PW.assign rfl rfl rfl rfl rfl ?_
              refine PW.nil ?_
              refine SX.then ?_
              refine SC.seq ?_
              refine SC.region ?_
              refine PW.move rfl rfl rfl rfl rfl ?_
              refine PW.move rfl rfl rfl rfl rfl ?_
              refine PW.q2 (x := .tmp 70) (y := .tmp 71) (.bool true) rfl rfl rfl rfl rfl (fun ρ W h1 h2 => by go_simp) ?_
              refine PW.move rfl rfl rfl rfl rfl ?_
              refine PW.load rfl rfl rfl rfl rfl rfl ?_
              refine PW.load rfl rfl rfl rfl rfl rfl ?_
              refine PW.call (r := .vl (.bool true)) rfl rfl rfl rfl rfl rfl (KV.st _) rfl (k_is ((bd.pw2 X (n := k) (by omega))) (by first | decide | omega) rfl) ?_
              refine PW.pick (t := true) rfl rfl rfl rfl rfl rfl ?_
              refine PW.move rfl rfl rfl rfl rfl ?_
              refine PW.move rfl rfl rfl rfl rfl ?_
              refine PW.move rfl rfl rfl rfl rfl ?_
              refine PW.q2 (x := .tmp 79) (y := .tmp 80) (.bool true) rfl rfl rfl rfl rfl (fun ρ W h1 h2 => by go_simp) ?_
              refine PW.pick (t := true) rfl rfl rfl rfl rfl rfl ?_
              refine PW.move rfl rfl rfl rfl rfl ?_
              refine PW.load rfl rfl rfl rfl rfl rfl ?_
              refine PW.load rfl rfl rfl rfl rfl rfl ?_
              refine PW.call (r := .vl (.bool true)) rfl rfl rfl rfl rfl rfl (KV.st _) rfl (k_is ((bd_root Y r0 r1)) (by first | decide | omega) rfl) ?_
              refine PW.pick (t := true) rfl rfl rfl rfl rfl rfl ?_
              refine PW.move rfl rfl rfl rfl rfl ?_
              refine PW.call (r := .vl (.bool true)) rfl rfl rfl rfl rfl rfl (KV.st _) rfl (k_awake) ?_
              refine PW.pick (t := true) rfl rfl rfl rfl rfl rfl ?_
              refine PW.assign rfl rfl rfl rfl rfl ?_
              refine PW.nil ?_
              refine SX.then ?_
              refine SC.ret ?_
              exact SX.done (r := .vl (.bool true)) rfl rfl rfl
    · have ht : shB 2 [(n1, A1, l1, c1)] = false := by simpa using ht
      refine SC.region ?_
      refine PW.loadV rfl rfl rfl rfl rfl rfl ?_
      refine PW.short 8 [(n2, A2, l2, c2)] _ rfl rfl rfl (fun a W hf => r_bN1 (hf.vl (s := 19) rfl)) (fun W => ns_lit1 W) (by simp; exact In.lim h2) rfl rfl hs rfl rfl rfl rfl rfl rfl ?_
      refine PW.q1 (x := .tmp 21) (.bool false) rfl rfl rfl rfl (fun ρ W h1 => by go_simp) ?_
      refine PW.move rfl rfl rfl rfl rfl ?_
      refine PW.loadV rfl rfl rfl rfl rfl rfl ?_
      refine PW.short 2 [(n1, A1, l1, c1)] _ rfl rfl rfl (fun a W hf => r_bN1 (hf.vl (s := 24) rfl)) (fun W => ns_lit1 W) (by simp; exact In.lim h1) rfl rfl ht rfl rfl rfl rfl rfl rfl ?_
      refine PW.q1 (x := .tmp 26) (.bool true) rfl rfl rfl rfl (fun ρ W h1 => by go_simp) ?_
      refine PW.pick (t := false) rfl rfl rfl rfl rfl rfl ?_
      refine PW.nil ?_
      refine SX.then ?_
      refine SC.cond (t := true) rfl ?_
      refine SC.seq ?_
      refine SC.region ?_
      refine PW.call (r := .vl (.bool true)) rfl rfl rfl rfl rfl rfl (KV.st _) rfl (k_awake) ?_
      refine PW.assign rfl rfl rfl rfl rfl ?_
      refine PW.nil ?_
      refine SX.then ?_
      refine SC.ret ?_
      refine SX.thenR ?_
      exact SX.done (r := .vl (.bool true)) rfl rfl rfl
  · have hs : shB 8 [(n2, A2, l2, c2)] = false := by simpa using hs
    refine SC.region ?_
    refine PW.loadV rfl rfl rfl rfl rfl rfl ?_
    refine PW.short 8 [(n2, A2, l2, c2)] _ rfl rfl rfl (fun a W hf => r_bN1 (hf.vl (s := 19) rfl)) (fun W => ns_lit1 W) (by simp; exact In.lim h2) rfl rfl hs rfl rfl rfl rfl rfl rfl ?_
    refine PW.q1 (x := .tmp 21) (.bool true) rfl rfl rfl rfl (fun ρ W h1 => by go_simp) ?_
    refine PW.move rfl rfl rfl rfl rfl ?_
    refine PW.skip rfl rfl rfl ?_
    refine PW.skip rfl rfl rfl ?_
    refine PW.skip rfl rfl rfl ?_
    refine PW.skip rfl rfl rfl ?_
    refine PW.pick (t := true) rfl rfl rfl rfl rfl rfl ?_
    refine PW.nil ?_
    refine SX.then ?_
    refine SC.cond (t := true) rfl ?_
    refine SC.seq ?_
    refine SC.region ?_
    refine PW.call (r := .vl (.bool true)) rfl rfl rfl rfl rfl rfl (KV.st _) rfl (k_awake) ?_
    refine PW.assign rfl rfl rfl rfl rfl ?_
    refine PW.nil ?_
    refine SX.then ?_
    refine SC.ret ?_
    refine SX.thenR ?_
    exact SX.done (r := .vl (.bool true)) rfl rfl rfl
end Go.Proofs.Ytcgkgcciogibkaa
