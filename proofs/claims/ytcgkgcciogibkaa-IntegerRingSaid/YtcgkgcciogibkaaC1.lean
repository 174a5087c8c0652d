/- The law of Boole: the bits of what a round stores; of the number that is read back. No walk. -/
import Derived.Test.YtcgkgcciogibkaaB9
import Derived.Test.YtcgkgcciogibkaaMf
set_option linter.unusedVariables false
set_option linter.unusedSimpArgs false
namespace Go.Proofs.Ytcgkgcciogibkaa
open Go.RowKit Ma

/-- The bit that an operation makes of two bits. -/
def ch (op : Int) (a b : Bool) : Bool := decide (op / (if a then (if b then 8 else 4) else (if b then 2 else 1)) % 2 = 1)
theorem and1 (q : Int) (h0 : 0 ≤ q) (h1 : q ≤ 15) : (bits .and .i64 q 1 == 0) = decide (q % 2 = 0) := by
  obtain ⟨n, rfl⟩ := Int.eq_ofNat_of_zero_le h0
  have key : ∀ n : Fin 16, (bits .and .i64 ((n.val : Nat) : Int) 1 == 0) = decide (((n.val : Nat) : Int) % 2 = 0) := by decide
  exact key ⟨n, by omega⟩
theorem tq_nat (q : Int) (h0 : 0 ≤ q) (h1 : q ≤ 15) (A B : Nat) (hA : A < 4294967296) (hB : B < 4294967296) : tq q A B = ((if q % 2 = 0 then 0 else A &&& B : Nat) : Int) := by
  unfold tq
  rw [and1 q h0 h1, u32_and_nat A B hA hB]
  by_cases h : q % 2 = 0 <;> simp [h]
theorem ones_bit (k : Nat) (hk : k < 32) : Nat.testBit 4294967295 k = true := by
  have := Nat.testBit_two_pow_sub_one 32 k
  have p32 : (2 : Nat) ^ 32 - 1 = 4294967295 := by decide
  rw [p32] at this
  rw [this]; simp [hk]
theorem bl_bit (op p q : Int) (h0 : 0 ≤ op) (h1 : op ≤ 15) (hp : 0 ≤ p ∧ p < 4294967296) (hq : 0 ≤ q ∧ q < 4294967296) (k : Nat) (hk : k < 32) : tb (bl op p q) k = ch op (tb p k) (tb q k) := by
  obtain ⟨P, rfl⟩ := Int.eq_ofNat_of_zero_le hp.1
  obtain ⟨Q, rfl⟩ := Int.eq_ofNat_of_zero_le hq.1
  have hP : P < 4294967296 := by omega
  have hQ : Q < 4294967296 := by omega
  have hm : IntKind.u32.max = ((4294967295 : Nat) : Int) := by simp [IntKind.max, IntKind.bits, IntKind.signed]
  have p32 : (2 : Nat) ^ 32 = 4294967296 := by decide
  have l1 : 4294967295 ^^^ P < 4294967296 := by rw [← p32]; exact Nat.xor_lt_two_pow (by omega) (by omega)
  have l2 : 4294967295 ^^^ Q < 4294967296 := by rw [← p32]; exact Nat.xor_lt_two_pow (by omega) (by omega)
  unfold bl
  rw [hm, u32_xor_nat _ _ (by omega) hP, u32_xor_nat _ _ (by omega) hQ, tq_nat op h0 h1 _ _ l1 l2, tq_nat (op / 2) (by omega) (by omega) _ _ l1 hQ, tq_nat (op / 4) (by omega) (by omega) _ _ hP l2, tq_nat (op / 8) (by omega) (by omega) _ _ hP hQ]
  have b : ∀ (c : Prop) [Decidable c] (X Y : Nat), X < 4294967296 → (if c then 0 else X &&& Y) < 4294967296 := by
    intro c _ X Y hX
    split
    · omega
    · exact Nat.lt_of_le_of_lt Nat.and_le_left hX
  have o : ∀ X Y : Nat, X < 4294967296 → Y < 4294967296 → X ||| Y < 4294967296 := fun X Y hX hY => by rw [← p32]; exact Nat.or_lt_two_pow (by omega) (by omega)
  rw [u32_or_nat _ _ (b _ _ _ l1) (b _ _ _ l1), u32_or_nat _ _ (o _ _ (b _ _ _ l1) (b _ _ _ l1)) (b _ _ _ hP), u32_or_nat _ _ (o _ _ (o _ _ (b _ _ _ l1) (b _ _ _ l1)) (b _ _ _ hP)) (b _ _ _ hP)]
  rw [tb_nat, tb_nat, tb_nat]
  simp only [Nat.testBit_or]
  have t : ∀ (c : Prop) [Decidable c] (X Y : Nat), (if c then 0 else X &&& Y).testBit k = (!decide c && (X.testBit k && Y.testBit k)) := by
    intro c _ X Y
    by_cases h : c <;> simp [h]
  rw [t, t, t, t]
  simp only [Nat.testBit_xor, ones_bit k hk]
  have hdec : ∀ x : Int, (!decide (x % 2 = 0)) = decide (x % 2 = 1) := by
    intro x
    rw [Bool.eq_iff_iff, Bool.not_eq_true', decide_eq_false_iff_not, decide_eq_true_eq]
    omega
  rw [hdec, hdec, hdec, hdec]
  unfold ch
  cases P.testBit k <;> cases Q.testBit k <;> simp
theorem pow32 (n : Nat) : b32 ^ n = 2 ^ (32 * n) := by rw [Int.pow_mul]; rfl
theorem boole_law {x y op : Int} {us vs ts : List Int} {N : Nat} (h0 : 0 ≤ op) (h1 : op ≤ 15) (hN : 0 < N) (lu : us.length = N) (lv' : vs.length = N) (lt : ts.length = N) (du : dg b32 us) (dv : dg b32 vs) (dt : dg b32 ts)
    (eu : lv b32 us = x % b32 ^ N) (ev : lv b32 vs = y % b32 ^ N) (ht : ∀ i, i < N → at0 ts i = bl op (at0 us i) (at0 vs i))
    (x0 : -(b32 ^ (N - 1)) ≤ x) (x1 : x < b32 ^ (N - 1)) (y0 : -(b32 ^ (N - 1)) ≤ y) (y1 : y < b32 ^ (N - 1)) (i : Nat) : tb (sx N (lv b32 ts)) i = ch op (tb x i) (tb y i) := by
  have t0 := lv_nonneg (show (0 : Int) < b32 by decide) dt
  have t1 := lv_lt (show (0 : Int) < b32 by decide) dt
  rw [lt] at t1
  rw [pow32] at eu ev t1 x0 x1 y0 y1
  have low : ∀ i, i < 32 * N → tb (sx N (lv b32 ts)) i = ch op (tb x i) (tb y i) := by
    intro i hi
    have e1 : tb (sx N (lv b32 ts)) i = tb (lv b32 ts) i := by
      unfold sx
      split
      · rfl
      · rw [pow32, show lv b32 ts - 2 ^ (32 * N) = lv b32 ts + 2 ^ (32 * N) * (-1) by omega, tb_add_mul _ _ hi]
    have hj : i / 32 < N := by omega
    have hk : i % 32 < 32 := Nat.mod_lt _ (by decide)
    have hi2 : 32 * (i / 32) + i % 32 = i := by omega
    have a1 := lv_tb dt (i / 32) (i % 32) hk
    have a2 := lv_tb du (i / 32) (i % 32) hk
    have a3 := lv_tb dv (i / 32) (i % 32) hk
    rw [hi2] at a1 a2 a3
    have b2 := dg_at du (by decide) (i / 32)
    have b3 := dg_at dv (by decide) (i / 32)
    rw [b32_eq] at b2 b3
    rw [e1]
    rw [show lv b32 ts = lv 4294967296 ts from rfl, a1, ht _ hj, bl_bit op _ _ h0 h1 b2 b3 _ hk, ← a2, ← a3]
    rw [show lv 4294967296 us = lv b32 us from rfl, show lv 4294967296 vs = lv b32 vs from rfl, eu, ev, tb_emod _ hi, tb_emod _ hi]
  by_cases hi : i < 32 * N
  · exact low i hi
  · have hM : 32 * N - 1 + 1 = 32 * N := by omega
    have hpp : (2 : Int) ^ (32 * N) = 2 ^ (32 * N - 1) * 2 := by rw [← Int.pow_succ]; congr 1; omega
    have z0 : -(2 ^ (32 * N - 1)) ≤ sx N (lv b32 ts) := by unfold sx; rw [pow32]; split <;> omega
    have z1 : sx N (lv b32 ts) < 2 ^ (32 * N - 1) := by unfold sx; rw [pow32]; split <;> omega
    rw [tb_high z0 z1 (show 32 * N - 1 ≤ i by omega), ← tb_high z0 z1 (Nat.le_refl _), low _ (by omega)]
    rw [tb_high x0 x1 (show 32 * (N - 1) ≤ 32 * N - 1 by omega), tb_high x0 x1 (show 32 * (N - 1) ≤ i by omega), tb_high y0 y1 (show 32 * (N - 1) ≤ 32 * N - 1 by omega), tb_high y0 y1 (show 32 * (N - 1) ≤ i by omega)]
/-- The number whose bits an operation makes of the bits of two numbers. -/
noncomputable def bo (op x y : Int) : Int := @dite _ (∃ z, ∀ i, tb z i = ch op (tb x i) (tb y i)) (Classical.propDecidable _) (fun h => Classical.choose h) (fun _ => 0)
theorem bo_eq {op x y z : Int} (h : ∀ i, tb z i = ch op (tb x i) (tb y i)) : z = bo op x y := by
  have hex : ∃ z, ∀ i, tb z i = ch op (tb x i) (tb y i) := ⟨z, h⟩
  unfold bo
  rw [dif_pos hex]
  exact tb_ext fun i => (h i).trans (Classical.choose_spec hex i).symm
theorem boole_c {x y : Int} {n m : Bool} {A B : Option Addr} {l l' c d : Nat} {w : World} {op : Int} (hx : RI w n A l c x) (hy : RI w m B l' d y) (hl : l ≤ 300000) (hl' : l' ≤ 300000) (ho : 0 ≤ op) (ho2 : op ≤ 15) :
    Calls Try.prog 17 #[.agg #[.bool n, .slice A l c], .int .i64 op, .agg #[.bool m, .slice B l' d]] w (Ret w (K2 (KI (bo op x y)) (KV (.int .i64 0)))) := by
  have bx := hx.abs_lt
  have by' := hy.abs_lt
  refine (boole_w hx hy hl hl' ho ho2).mono fun e w' ⟨v, e1, ⟨v1, v2, e2, ⟨us, vs, ts, N, hN, lu, lv', lt, du, dv, dt, eu, ev, ht, hk⟩, h2⟩, hb⟩ => ⟨v, e1, ⟨v1, v2, e2, ?_, h2⟩, hb⟩
  have p1 := pow_le (b := b32) (by decide) (show l ≤ N - 1 by omega)
  have p2 := pow_le (b := b32) (by decide) (show l' ≤ N - 1 by omega)
  rw [← bo_eq (boole_law ho ho2 (by omega) lu lv' lt du dv dt eu ev ht (by omega) (by omega) (by omega) (by omega))]
  exact hk
end Go.Proofs.Ytcgkgcciogibkaa
