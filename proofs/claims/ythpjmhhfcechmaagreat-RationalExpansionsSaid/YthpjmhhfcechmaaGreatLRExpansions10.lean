/- Parts Ra, Rw, Rj, Rx, Cq, in one file. -/
import Derived.Lib.IndexLaws
import Derived.Test.YthpjmhhfcechmaaGreatLRExpansions5
import Derived.Test.YthpjmhhfcechmaaGreatLRExpansions8
import Derived.Test.YthpjmhhfcechmaaGreatLRExpansions9
/- Simplest, Cut, Parse, Text of fractions by rules. -/
set_option linter.unusedVariables false
set_option linter.unusedSimpArgs false
namespace Go.Proofs.YthpjmhhfcechmaaGreat.Sy
open Go Go.RowKit Ma
theorem k_text {x r : Int} {a : Nat} (X : bd a x) (ha : a ≤ 300000) (h : 2 ≤ r ∧ r ≤ 36) : CallOk 85 [KI x, KV (.int .i64 r)] (K2 (KV (.string (tstr r x))) (KV (.int .i64 0))) :=
 call2 (fun args W => by go_simp) fun W u v ⟨n, A, l, c, e1, h1⟩ e2 => by
  subst e1
  obtain rfl : v = _ := e2
  refine (text_ok r h.1 h.2 h1 (by have := h1.le X ha; omega)).mono fun e W' ⟨v, q1, q2, q3⟩ => ⟨v, q1, ?_, q3⟩
  obtain ⟨a, b, rfl, ⟨s, rfl, hs⟩, hb⟩ := q2
  exact ⟨_, _, rfl, congrArg Value.string (tstr_eq h.1 hs), hb⟩
theorem pv_lt {r : Int} (hr : 2 ≤ r) (hr2 : r ≤ 36) : ∀ (l : List Int) (v : Int), 0 ≤ v → (∀ c ∈ l, dv c < r) → 0 ≤ pv r v l ∧ pv r v l < (v + 1) * 64 ^ l.length
 | [], v, h, _ => by simp [pv]; omega
 | c :: l, v, h, hd => by
  have a1 := dv_le c
  have a2 := hd c List.mem_cons_self
  have a3 : v * r ≤ v * 63 := Int.mul_le_mul_of_nonneg_left (by omega) h
  have a4 : 0 ≤ v * r := Int.mul_nonneg h (by omega)
  have ⟨b1, b2⟩ := pv_lt hr hr2 l (v * r + dv c) (by omega) fun x hx => hd x (List.mem_cons_of_mem _ hx)
  refine ⟨b1, Int.lt_of_lt_of_le b2 ?_⟩
  rw [List.length_cons, Int.pow_succ, Int.mul_comm _ (64 : Int), ← Int.mul_assoc]
  exact Int.mul_le_mul_of_nonneg_right (by omega) (Int.le_of_lt (Int.pow_pos (by decide)))
theorem parse_err {r : Int} {s : List Int} (h : ¬ ∃ z, parseR r s = .ok z) : ∃ e, parseR r s = .error e := by
 cases e0 : parseR r s with
 | ok z => exact absurd ⟨z, e0⟩ h
 | error e => exact ⟨e, rfl⟩
theorem ex31v {v : Value} {k1 k3 : Know} : Ex (K3 k1 (KV v) k3) 1 (.vl v) := fun u W ⟨v1, v2, v3, e, h1, h2, h3⟩ => ⟨_, v2, e, rfl, h2⟩
theorem bsz1 : (⟨#[47]⟩ : ByteArray).size = 1 := rfl
def cutI (s : ByteArray) : Int := Lib.indexByte s.data.toList 47
theorem cut_cases (s : ByteArray) : cutI s = -1 ∨ ∃ i : Nat, cutI s = (i : Int) ∧ i < s.size := by
 have h := Lib.indexByte_ge s.data.toList 47
 by_cases e : cutI s = -1
 ·exact .inl e
 ·right
  have h0 : 0 ≤ cutI s := by unfold cutI at *; omega
  refine ⟨(cutI s).toNat, (Int.toNat_of_nonneg h0).symm, ?_⟩
  have h1 : Lib.indexByte s.data.toList 47 = ((cutI s).toNat : Int) := (Int.toNat_of_nonneg h0).symm
  have := (List.getElem?_eq_some_iff.1 (Lib.indexByte_some h1).1).1
  simpa using this
theorem ext_size (s : ByteArray) (a b : Nat) : (s.extract a b).size = min b s.size - a := by simp
theorem k_index1 {s : ByteArray} {r : Int} (e : cutI s = r) : CallOk 151 [KV (.string s), KV (.string ⟨#[47]⟩)] (KV (.int .i64 r)) :=
 call2 (fun args W => by go_simp) fun W u v e1 e2 => by
  obtain rfl : u = _ := e1
  obtain rfl : v = _ := e2
  subst e
  exact (Tryz.stringslite_Index_one s 47 W).mono fun e W' ⟨e1, e2⟩ => ⟨_, e1, rfl, e2 ▸ Nw.refl _⟩
theorem r_sto {x y : Operand} {dst : Option Tmp} {ty : TypeId} {pos : String} {after : Array Edge} {guard : Option (Nat × Bool)} {ρ : Operand → Value} {W : World} {s : ByteArray} {p : Nat} (h1 : ρ x = .string s) (h2 : ρ y = .int .i64 (p : Int)) (hp : p ≤ s.size) : (execOp ρ ⟨dst, .slice 9 x none (some y) none, ty, pos, after, guard⟩).run Tryz.prog W = .ok (.value (.string (s.extract 0 p))) W := by
 go_simp
section
variable {x y : Operand} {dst : Option Tmp} {ty : TypeId} {pos : String} {after : Array Edge} {guard : Option (Nat × Bool)} {ρ : Operand → Value} {W : World} {a b : Int}
theorem r_neE (h1 : ρ x = .int .i64 a) (h2 : ρ y = .int .i64 b) (e : a ≠ b) : (execOp ρ ⟨dst, .binOp .neq 39 x y 39, ty, pos, after, guard⟩).run Tryz.prog W = .ok (.value (.bool true)) W := by
 go_simp
end
theorem SX.done3v {fn : Func} {B N : Nat} {w0 : World} {fr : List (Nat × AV)} {e : Exit} {s t u : Nat} {v1 v2 v3 : Value} (he : e = .ret ∨ e = .normal) (hr : fn.results = #[.tmp s, .tmp t, .tmp u]) (hs : look fr s = some (.vl v1)) (ht : look fr t = some (.vl v2)) (hu : look fr u = some (.vl v3)) (hB : B = w0.heap.size) : SX B N w0 e fr (bodyPost Tryz.prog fn (Ret w0 (K3 (KV v1) (KV v2) (KV v3)))) := fun a W hf => by
 have h1 : a.tmps.getD s undef = v1 := hf.ho s _ hs
 have h2 : a.tmps.getD t undef = v2 := hf.ho t _ ht
 have h3 : a.tmps.getD u undef = v3 := hf.ho u _ hu
 have hrun : (results fn a.tmps).run Tryz.prog W = .ok (.tuple #[v1, v2, v3]) W := by
  have e1 : a.tmps[s]?.getD undef = v1 := by simpa [Array.getD_eq_getD_getElem?] using h1
  have e2 : a.tmps[t]?.getD undef = v2 := by simpa [Array.getD_eq_getD_getElem?] using h2
  have e3 : a.tmps[u]?.getD undef = v3 := by simpa [Array.getD_eq_getD_getElem?] using h3
  unfold results
  simp [hr, go_sem, e1, e2, e3]
 have key : a.defers = [] ∧ ∃ v, (results fn a.tmps).run Tryz.prog W = .ok v W ∧ Ret w0 (K3 (KV v1) (KV v2) (KV v3)) (.returned v) W :=
  ⟨hf.df, _, hrun, ⟨_, rfl, ⟨v1, v2, v3, rfl, rfl, rfl, rfl⟩, by have := hf.be; rw [hB] at this; exact this⟩⟩
 rcases he with rfl | rfl <;> exact key
theorem SX.done2v {fn : Func} {B N : Nat} {w0 : World} {fr : List (Nat × AV)} {e : Exit} {s t : Nat} {v1 v2 : Value} (he : e = .ret ∨ e = .normal) (hr : fn.results = #[.tmp s, .tmp t]) (hs : look fr s = some (.vl v1)) (ht : look fr t = some (.vl v2)) (hB : B = w0.heap.size) : SX B N w0 e fr (bodyPost Tryz.prog fn (Ret w0 (K2 (KV v1) (KV v2)))) := SX.done2t he hr hs ht hB
theorem parse_ne {r e : Int} {s : List Int} (h : parseR r s = .error e) : e ≠ 0 := by
 unfold parseR at h
 split at h
 ·injection h with h; omega
 split at h
 ·injection h with h; omega
 dsimp only at h
 generalize (if at0 s 0 = 45 ∨ at0 s 0 = 43 then s.drop 1 else s) = b at h
 split at h
 ·injection h with h; omega
 split at h
 ·cases h
 ·injection h with h; omega
theorem pow_le_base {r : Int} (h : 2 ≤ r) : ∀ n : Nat, (2 : Int) ^ n ≤ r ^ n
 | 0 => by simp
 | n + 1 => by
  rw [Int.pow_succ, Int.pow_succ]
  exact Int.mul_le_mul (pow_le_base h n) h (by decide) (Int.pow_nonneg (by omega))
theorem parse_bd9 {r z : Int} {s : ByteArray} (h : parseR r (byl s) = .ok z) {n m : Nat} (hs : s.size ≤ n) (h6 : 6 * n < 32 * m) (hn2 : n ≤ 20000) : bd m z := by
 unfold parseR at h
 have h1 : 2 ≤ r ∧ r ≤ 36 := by
  apply Classical.byContradiction
  intro hn
  rw [if_pos hn] at h
  cases h
 rw [if_neg (fun x => x h1), if_neg (by rw [byl_len]; omega)] at h
 dsimp only at h
 generalize hb : (if at0 (byl s) 0 = 45 ∨ at0 (byl s) 0 = 43 then (byl s).drop 1 else byl s) = b at h
 have hbl : b.length ≤ n := by
  have := byl_len s
  rw [← hb]
  split
  ·rw [List.length_drop]; omega
  ·omega
 split at h
 ·cases h
 split at h
 ·rename_i h3
  injection h with h
  have ⟨b1, b2⟩ := pv_lt h1.1 h1.2 b 0 (by omega) (fun c hc => by have := List.all_eq_true.1 h3 c hc; simpa using this)
  have b3 := pow_le (b := 64) (by decide) hbl
  rw [bd2]
  have b4 : (64 : Int) ^ n < 2 ^ (32 * m) := by
   rw [show (64 : Int) = 2 ^ 6 by decide, ← Int.pow_mul]
   exact Int.pow_lt_pow_of_lt (by decide) h6
  rw [← h]
  unfold sg
  generalize (2 : Int) ^ (32 * m) = P at *
  generalize (64 : Int) ^ n = P2 at *
  split <;> omega
 ·cases h
def parseQ (r : Int) (s : ByteArray) : Except Int Rat :=
 if ¬ (2 ≤ r ∧ r ≤ 36) then .error 1
 else if 20000 < s.size then .error 14
 else if cutI s = -1 then match parseR r (byl s) with
  | .ok n => .ok (n : Rat)
  | .error e => .error e
 else match parseR r (byl (s.extract 0 (cutI s).toNat)) with
  | .error e => .error e
  | .ok n => if (0 < (s.extract ((cutI s).toNat + 1) s.size).size ∧ at0 (byl (s.extract ((cutI s).toNat + 1) s.size)) 0 = 43) ∨ (0 < (s.extract ((cutI s).toNat + 1) s.size).size ∧ at0 (byl (s.extract ((cutI s).toNat + 1) s.size)) 0 = 45) then .error 2
   else match parseR r (byl (s.extract ((cutI s).toNat + 1) s.size)) with
    | .error e => .error e
    | .ok d => if d = 0 then .error 6 else .ok (Rat.divInt n d)
theorem parseQ_radix {r : Int} {s : ByteArray} (h : ¬ (2 ≤ r ∧ r ≤ 36)) : parseQ r s = .error 1 := if_pos h
theorem parseQ_long {r : Int} {s : ByteArray} (h : 2 ≤ r ∧ r ≤ 36) (hl : 20000 < s.size) : parseQ r s = .error 14 := by unfold parseQ; rw [if_neg (fun x => x h), if_pos hl]
theorem parseQ_no {r : Int} {s : ByteArray} (h : 2 ≤ r ∧ r ≤ 36) (hl : ¬ 20000 < s.size) (hi : cutI s = -1) : parseQ r s = match parseR r (byl s) with
  | .ok n => .ok (n : Rat)
  | .error e => .error e := by unfold parseQ; rw [if_neg (fun x => x h), if_neg hl, if_pos hi]
theorem parseQ_yes {r : Int} {s : ByteArray} {i : Nat} (h : 2 ≤ r ∧ r ≤ 36) (hl : ¬ 20000 < s.size) (hi : cutI s = (i : Int)) : parseQ r s = match parseR r (byl (s.extract 0 i)) with
  | .error e => .error e
  | .ok n => if (0 < (s.extract (i + 1) s.size).size ∧ at0 (byl (s.extract (i + 1) s.size)) 0 = 43) ∨ (0 < (s.extract (i + 1) s.size).size ∧ at0 (byl (s.extract (i + 1) s.size)) 0 = 45) then .error 2
   else match parseR r (byl (s.extract (i + 1) s.size)) with
    | .error e => .error e
    | .ok d => if d = 0 then .error 6 else .ok (Rat.divInt n d) := by
 unfold parseQ
 rw [if_neg (fun x => x h), if_neg hl, if_neg (by omega), hi]
 rfl
theorem parseQ_n1 {r : Int} {s : ByteArray} {n : Int} (h : 2 ≤ r ∧ r ≤ 36) (hl : ¬ 20000 < s.size) (hi : cutI s = -1) (hn : parseR r (byl s) = .ok n) : parseQ r s = .ok (n : Rat) := (parseQ_no h hl hi).trans (by rw [hn])
theorem parseQ_n2 {r : Int} {s : ByteArray} {e : Int} (h : 2 ≤ r ∧ r ≤ 36) (hl : ¬ 20000 < s.size) (hi : cutI s = -1) (hn : parseR r (byl s) = .error e) : parseQ r s = .error e := (parseQ_no h hl hi).trans (by rw [hn])
theorem parseQ_y1 {r : Int} {s : ByteArray} {i : Nat} {e : Int} (h : 2 ≤ r ∧ r ≤ 36) (hl : ¬ 20000 < s.size) (hi : cutI s = (i : Int)) (hn : parseR r (byl (s.extract 0 i)) = .error e) : parseQ r s = .error e := (parseQ_yes h hl hi).trans (by rw [hn])
theorem parseQ_y2 {r : Int} {s : ByteArray} {i : Nat} {n : Int} (h : 2 ≤ r ∧ r ≤ 36) (hl : ¬ 20000 < s.size) (hi : cutI s = (i : Int)) (hn : parseR r (byl (s.extract 0 i)) = .ok n) (hs : (0 < (s.extract (i + 1) s.size).size ∧ at0 (byl (s.extract (i + 1) s.size)) 0 = 43) ∨ (0 < (s.extract (i + 1) s.size).size ∧ at0 (byl (s.extract (i + 1) s.size)) 0 = 45)) : parseQ r s = .error 2 := (parseQ_yes h hl hi).trans (by rw [hn]; exact if_pos hs)
theorem parseQ_y3 {r : Int} {s : ByteArray} {i : Nat} {n e : Int} (h : 2 ≤ r ∧ r ≤ 36) (hl : ¬ 20000 < s.size) (hi : cutI s = (i : Int)) (hn : parseR r (byl (s.extract 0 i)) = .ok n) (hs : ¬ ((0 < (s.extract (i + 1) s.size).size ∧ at0 (byl (s.extract (i + 1) s.size)) 0 = 43) ∨ (0 < (s.extract (i + 1) s.size).size ∧ at0 (byl (s.extract (i + 1) s.size)) 0 = 45))) (hd : parseR r (byl (s.extract (i + 1) s.size)) = .error e) : parseQ r s = .error e := (parseQ_yes h hl hi).trans (by rw [hn]; refine (if_neg hs).trans ?_; rw [hd])
theorem parseQ_y4 {r : Int} {s : ByteArray} {i : Nat} {n d : Int} (h : 2 ≤ r ∧ r ≤ 36) (hl : ¬ 20000 < s.size) (hi : cutI s = (i : Int)) (hn : parseR r (byl (s.extract 0 i)) = .ok n) (hs : ¬ ((0 < (s.extract (i + 1) s.size).size ∧ at0 (byl (s.extract (i + 1) s.size)) 0 = 43) ∨ (0 < (s.extract (i + 1) s.size).size ∧ at0 (byl (s.extract (i + 1) s.size)) 0 = 45))) (hd : parseR r (byl (s.extract (i + 1) s.size)) = .ok d) (h0 : d = 0) : parseQ r s = .error 6 := (parseQ_yes h hl hi).trans (by rw [hn]; refine (if_neg hs).trans ?_; rw [hd]; exact if_pos h0)
theorem parseQ_y5 {r : Int} {s : ByteArray} {i : Nat} {n d : Int} (h : 2 ≤ r ∧ r ≤ 36) (hl : ¬ 20000 < s.size) (hi : cutI s = (i : Int)) (hn : parseR r (byl (s.extract 0 i)) = .ok n) (hs : ¬ ((0 < (s.extract (i + 1) s.size).size ∧ at0 (byl (s.extract (i + 1) s.size)) 0 = 43) ∨ (0 < (s.extract (i + 1) s.size).size ∧ at0 (byl (s.extract (i + 1) s.size)) 0 = 45))) (hd : parseR r (byl (s.extract (i + 1) s.size)) = .ok d) (h0 : ¬ d = 0) : parseQ r s = .ok (Rat.divInt n d) := (parseQ_yes h hl hi).trans (by rw [hn]; refine (if_neg hs).trans ?_; rw [hd]; exact if_neg h0)
noncomputable def txq (r : Int) (x : Rat) : ByteArray := if x.den = 1 then tstr r x.num else tstr r x.num ++ ⟨#[47]⟩ ++ tstr r (x.den : Int)
theorem txq_whole {r : Int} {x : Rat} (h : x.den = 1) : txq r x = tstr r x.num := if_pos h
theorem txq_frac {r : Int} {x : Rat} (h : ¬ x.den = 1) : txq r x = tstr r x.num ++ ⟨#[47]⟩ ++ tstr r (x.den : Int) := if_neg h
theorem tstr_size {r z : Int} {a : Nat} (hr : 2 ≤ r) (h : bd a z) : (tstr r z).size ≤ 32 * a + 2 := by
 unfold tstr
 split
 ·rename_i hex
  obtain ⟨ds, d1, d2, d3, d4⟩ := Classical.choose_spec hex
  generalize Classical.choose hex = t at *
  have hl : t.size = (byl t).length := (byl_len t).symm
  have d4 : byl t = _ := d4
  have hd : ds.length ≤ 32 * a := by
   apply Classical.byContradiction
   intro hn
   have hne : ds ≠ [] := fun e => by rw [e] at hn; simp at hn
   have h1 := top_le (by omega) d1 d2 hne
   have h2 := pow_le_base (show (2 : Int) ≤ r by omega) (ds.length - 1)
   have h3 := pow_le (b := 2) (by decide) (show 32 * a ≤ ds.length - 1 by omega)
   have h4 := bd2.1 h
   omega
  rw [hl, d4]
  by_cases hz : z = 0
  ·rw [if_pos hz]; show 1 ≤ _; omega
  ·rw [if_neg hz]
   by_cases hn : z < 0
   ·rw [if_pos hn]; simp; omega
   ·rw [if_neg hn]; simp; omega
 ·exact Nat.zero_le _
theorem ce_Simplest : CE 32 := fun args W => by go_simp
set_option maxHeartbeats 3200000 in
set_option maxRecDepth 100000 in
theorem k_Simplest_ord {x y : Rat} {m : Nat} (X : bq m x) (Y : bq m y) (hm : m ≤ 1000) (h : ¬ x ≤ y) : CallOk 32 [KQ (x).num (((x).den : Int) - 1), KQ (y).num (((y).den : Int) - 1)] (K2 (KQ 0 0) (KV (.int .i64 7))) := by
 refine CallOk.enter (l := [.kw (KQ (x).num (((x).den : Int) - 1)), .kw (KQ (y).num (((y).den : Int) - 1))]) 35 ce_Simplest Tryz.func32 rfl Tryz.ntmps32 (by simp) ⟨(KQ.st _ _), rfl, (KQ.st _ _), rfl, trivial⟩ fun w => ?_
 refine SC.seq (SC.region ?_)
 refine PW.box (x := .tmp 0) (r := .kw (KQ (x).num (((x).den : Int) - 1))) (BQ 38) rfl rfl rfl rfl rfl bQ rfl sh_Q ?_
 refine PW.box (x := .tmp 1) (r := .kw (KQ (y).num (((y).den : Int) - 1))) (BQ 38) rfl rfl rfl rfl rfl bQ rfl sh_Q ?_
 refine PW.alloc (BQ 38) rfl rfl rfl rfl rfl bQ ?_
 refine PW.assign rfl rfl rfl rfl rfl (PW.nil (SX.then (SC.seq (SC.block (SC.seq (SC.region ?_))))))
 refine PW.load rfl rfl rfl rfl rfl rfl ?_
 refine PW.load rfl rfl rfl rfl rfl rfl ?_
 refine PW.call (r := .vl (.int .i64 (cmpq x y))) rfl rfl rfl rfl rfl rfl (KV.st _) rfl (k_rcmp X Y (by omega) (by omega)) ?_
 refine PW.q2 (x := .tmp 9) (y := .const (.int .i64 0)) (.bool true) rfl rfl rfl rfl rfl (fun ρ W h1 h2 => by exact r_gt h1 h2 (decide_eq_true (by have := mt cmpq_le.1 h; omega))) ?_
 refine PW.assign rfl rfl rfl rfl rfl (PW.nil (SX.then (SC.cond (t := true) rfl (SC.seq (SC.region ?_)))))
 refine PW.val (r := .kw (KQ (0) (0))) rfl rfl rfl rfl (fun a W hf => ⟨_, r_bldQ0, zeroQ W, KQ.st _ _⟩) ?_
 refine PW.store (x := .tmp 11) (r := .kw (KQ (0) (0))) rfl rfl rfl rfl rfl rfl sh_Q ?_
 refine PW.assign rfl rfl rfl rfl rfl (PW.nil (SX.then (SC.ret (SX.blockR (SX.thenR ?_)))))
 exact SX.done2 (s := 4) (t := 5) (r := .vl (.int .i64 7)) (.inl rfl) rfl rfl rfl rfl
set_option maxHeartbeats 3200000 in
set_option maxRecDepth 100000 in
theorem k_Simplest_zero {x y : Rat} {m : Nat} (X : bq m x) (Y : bq m y) (hm : m ≤ 1000) (h : x ≤ y) (hx : sgq x ≤ 0) (hy : 0 ≤ sgq y) : CallOk 32 [KQ (x).num (((x).den : Int) - 1), KQ (y).num (((y).den : Int) - 1)] (K2 (KQ 0 0) (KV (.int .i64 0))) := by
 refine CallOk.enter (l := [.kw (KQ (x).num (((x).den : Int) - 1)), .kw (KQ (y).num (((y).den : Int) - 1))]) 35 ce_Simplest Tryz.func32 rfl Tryz.ntmps32 (by simp) ⟨(KQ.st _ _), rfl, (KQ.st _ _), rfl, trivial⟩ fun w => ?_
 refine SC.seq (SC.region ?_)
 refine PW.box (x := .tmp 0) (r := .kw (KQ (x).num (((x).den : Int) - 1))) (BQ 38) rfl rfl rfl rfl rfl bQ rfl sh_Q ?_
 refine PW.box (x := .tmp 1) (r := .kw (KQ (y).num (((y).den : Int) - 1))) (BQ 38) rfl rfl rfl rfl rfl bQ rfl sh_Q ?_
 refine PW.alloc (BQ 38) rfl rfl rfl rfl rfl bQ ?_
 refine PW.assign rfl rfl rfl rfl rfl (PW.nil (SX.then (SC.seq (SC.block (SC.seq (SC.region ?_))))))
 refine PW.load rfl rfl rfl rfl rfl rfl ?_
 refine PW.load rfl rfl rfl rfl rfl rfl ?_
 refine PW.call (r := .vl (.int .i64 (cmpq x y))) rfl rfl rfl rfl rfl rfl (KV.st _) rfl (k_rcmp X Y (by omega) (by omega)) ?_
 refine PW.q2 (x := .tmp 9) (y := .const (.int .i64 0)) (.bool false) rfl rfl rfl rfl rfl (fun ρ W h1 h2 => by exact r_gt h1 h2 (decide_eq_false (by have := cmpq_le.2 h; omega))) ?_
 refine PW.assign rfl rfl rfl rfl rfl (PW.nil (SX.then (SC.cond (t := false) rfl (SC.seq (SC.region ?_)))))
 refine PW.load rfl rfl rfl rfl rfl rfl ?_
 refine PW.call (r := .vl (.int .i64 (sgq x))) rfl rfl rfl rfl rfl rfl (KV.st _) rfl (k_rsign) ?_
 refine PW.q2 (x := .tmp 14) (y := .const (.int .i64 0)) (.bool true) rfl rfl rfl rfl rfl (fun ρ W h1 h2 => by exact r_le h1 h2 (decide_eq_true (hx))) ?_
 refine PW.move rfl rfl rfl rfl rfl ?_
 refine PW.load rfl rfl rfl rfl rfl rfl ?_
 refine PW.call (r := .vl (.int .i64 (sgq y))) rfl rfl rfl rfl rfl rfl (KV.st _) rfl (k_rsign) ?_
 refine PW.q2 (x := .tmp 18) (y := .const (.int .i64 0)) (.bool true) rfl rfl rfl rfl rfl (fun ρ W h1 h2 => by exact r_ge h1 h2 (decide_eq_true (by omega))) ?_
 refine PW.pick (t := true) rfl rfl rfl rfl rfl rfl ?_
 refine PW.assign rfl rfl rfl rfl rfl (PW.nil (SX.then (SC.cond (t := true) rfl (SC.seq (SC.region ?_)))))
 refine PW.val (r := .kw (KQ (0) (0))) rfl rfl rfl rfl (fun a W hf => ⟨_, r_bldQ0, zeroQ W, KQ.st _ _⟩) ?_
 refine PW.store (x := .tmp 21) (r := .kw (KQ (0) (0))) rfl rfl rfl rfl rfl rfl sh_Q ?_
 refine PW.assign rfl rfl rfl rfl rfl (PW.nil (SX.then (SC.ret (SX.blockR (SX.thenR ?_)))))
 exact SX.done2 (s := 4) (t := 5) (r := .vl (.int .i64 0)) (.inl rfl) rfl rfl rfl rfl
set_option maxHeartbeats 3200000 in
set_option maxRecDepth 100000 in
theorem k_Simplest_pos {x y : Rat} {m : Nat} (X : bq m x) (Y : bq m y) (hm : m ≤ 1000) (h : x ≤ y) (hx : 0 < sgq x) {z : Rat} {L : List Int} (hb : ∀ i, bd (m + 1) (at0 L i)) (hT : (m + 4) * L.length ≤ 40000) (hl : L.length ≤ 1000000) (hc0 : ctrR L = .ok z) (hS : Smp x y L) : CallOk 32 [KQ (x).num (((x).den : Int) - 1), KQ (y).num (((y).den : Int) - 1)] (K2 (KQ (z).num (((z).den : Int) - 1)) (KV (.int .i64 0))) := by
 refine CallOk.enter (l := [.kw (KQ (x).num (((x).den : Int) - 1)), .kw (KQ (y).num (((y).den : Int) - 1))]) 35 ce_Simplest Tryz.func32 rfl Tryz.ntmps32 (by simp) ⟨(KQ.st _ _), rfl, (KQ.st _ _), rfl, trivial⟩ fun w => ?_
 refine SC.seq (SC.region ?_)
 refine PW.box (x := .tmp 0) (r := .kw (KQ (x).num (((x).den : Int) - 1))) (BQ 38) rfl rfl rfl rfl rfl bQ rfl sh_Q ?_
 refine PW.box (x := .tmp 1) (r := .kw (KQ (y).num (((y).den : Int) - 1))) (BQ 38) rfl rfl rfl rfl rfl bQ rfl sh_Q ?_
 refine PW.alloc (BQ 38) rfl rfl rfl rfl rfl bQ ?_
 refine PW.assign rfl rfl rfl rfl rfl (PW.nil (SX.then (SC.seq (SC.block (SC.seq (SC.region ?_))))))
 refine PW.load rfl rfl rfl rfl rfl rfl ?_
 refine PW.load rfl rfl rfl rfl rfl rfl ?_
 refine PW.call (r := .vl (.int .i64 (cmpq x y))) rfl rfl rfl rfl rfl rfl (KV.st _) rfl (k_rcmp X Y (by omega) (by omega)) ?_
 refine PW.q2 (x := .tmp 9) (y := .const (.int .i64 0)) (.bool false) rfl rfl rfl rfl rfl (fun ρ W h1 h2 => by exact r_gt h1 h2 (decide_eq_false (by have := cmpq_le.2 h; omega))) ?_
 refine PW.assign rfl rfl rfl rfl rfl (PW.nil (SX.then (SC.cond (t := false) rfl (SC.seq (SC.region ?_)))))
 refine PW.load rfl rfl rfl rfl rfl rfl ?_
 refine PW.call (r := .vl (.int .i64 (sgq x))) rfl rfl rfl rfl rfl rfl (KV.st _) rfl (k_rsign) ?_
 refine PW.q2 (x := .tmp 14) (y := .const (.int .i64 0)) (.bool false) rfl rfl rfl rfl rfl (fun ρ W h1 h2 => by exact r_le h1 h2 (decide_eq_false (by omega))) ?_
 refine PW.move rfl rfl rfl rfl rfl ?_
 refine PW.skip rfl rfl rfl ?_
 refine PW.skip rfl rfl rfl ?_
 refine PW.skip rfl rfl rfl ?_
 refine PW.pick (t := false) rfl rfl rfl rfl rfl rfl ?_
 refine PW.assign rfl rfl rfl rfl rfl (PW.nil (SX.then (SC.cond (t := false) rfl (SC.seq (SC.region ?_)))))
 refine PW.load rfl rfl rfl rfl rfl rfl ?_
 refine PW.call (r := .vl (.int .i64 (sgq x))) rfl rfl rfl rfl rfl rfl (KV.st _) rfl (k_rsign) ?_
 refine PW.q2 (x := .tmp 24) (y := .const (.int .i64 0)) (.bool false) rfl rfl rfl rfl rfl (fun ρ W h1 h2 => by exact r_lt h1 h2 (decide_eq_false (by omega))) ?_
 refine PW.assign rfl rfl rfl rfl rfl (PW.nil (SX.then (SC.cond (t := false) rfl (SC.skip ?_))))
 refine SX.blockN ?_
 refine SX.then (SC.seq (SC.region ?_))
 refine PW.load rfl rfl rfl rfl rfl rfl ?_
 refine PW.load rfl rfl rfl rfl rfl rfl ?_
 refine PW.call (r := .kw (KQ (z).num (((z).den : Int) - 1))) rfl rfl rfl rfl rfl rfl (KQ.st _ _) rfl (k_simplest X Y h hS hb hT hm hl hc0) ?_
 refine PW.store (x := .tmp 34) (r := .kw (KQ (z).num (((z).den : Int) - 1))) rfl rfl rfl rfl rfl rfl sh_Q ?_
 refine PW.assign rfl rfl rfl rfl rfl (PW.nil (SX.then (SC.ret ?_)))
 exact SX.done2 (s := 4) (t := 5) (r := .vl (.int .i64 0)) (.inl rfl) rfl rfl rfl rfl
set_option maxHeartbeats 3200000 in
set_option maxRecDepth 100000 in
theorem k_Simplest_neg {x y : Rat} {m : Nat} (X : bq m x) (Y : bq m y) (hm : m ≤ 1000) (h : x ≤ y) (hx : sgq x < 0) (hy : sgq y < 0) {z : Rat} {L : List Int} (hb : ∀ i, bd (m + 1) (at0 L i)) (hT : (m + 4) * L.length ≤ 40000) (hl : L.length ≤ 1000000) (hc0 : ctrR L = .ok z) (hS : Smp (-y) (-x) L) : CallOk 32 [KQ (x).num (((x).den : Int) - 1), KQ (y).num (((y).den : Int) - 1)] (K2 (KQ (-z).num (((-z).den : Int) - 1)) (KV (.int .i64 0))) := by
 refine CallOk.enter (l := [.kw (KQ (x).num (((x).den : Int) - 1)), .kw (KQ (y).num (((y).den : Int) - 1))]) 35 ce_Simplest Tryz.func32 rfl Tryz.ntmps32 (by simp) ⟨(KQ.st _ _), rfl, (KQ.st _ _), rfl, trivial⟩ fun w => ?_
 refine SC.seq (SC.region ?_)
 refine PW.box (x := .tmp 0) (r := .kw (KQ (x).num (((x).den : Int) - 1))) (BQ 38) rfl rfl rfl rfl rfl bQ rfl sh_Q ?_
 refine PW.box (x := .tmp 1) (r := .kw (KQ (y).num (((y).den : Int) - 1))) (BQ 38) rfl rfl rfl rfl rfl bQ rfl sh_Q ?_
 refine PW.alloc (BQ 38) rfl rfl rfl rfl rfl bQ ?_
 refine PW.assign rfl rfl rfl rfl rfl (PW.nil (SX.then (SC.seq (SC.block (SC.seq (SC.region ?_))))))
 refine PW.load rfl rfl rfl rfl rfl rfl ?_
 refine PW.load rfl rfl rfl rfl rfl rfl ?_
 refine PW.call (r := .vl (.int .i64 (cmpq x y))) rfl rfl rfl rfl rfl rfl (KV.st _) rfl (k_rcmp X Y (by omega) (by omega)) ?_
 refine PW.q2 (x := .tmp 9) (y := .const (.int .i64 0)) (.bool false) rfl rfl rfl rfl rfl (fun ρ W h1 h2 => by exact r_gt h1 h2 (decide_eq_false (by have := cmpq_le.2 h; omega))) ?_
 refine PW.assign rfl rfl rfl rfl rfl (PW.nil (SX.then (SC.cond (t := false) rfl (SC.seq (SC.region ?_)))))
 refine PW.load rfl rfl rfl rfl rfl rfl ?_
 refine PW.call (r := .vl (.int .i64 (sgq x))) rfl rfl rfl rfl rfl rfl (KV.st _) rfl (k_rsign) ?_
 refine PW.q2 (x := .tmp 14) (y := .const (.int .i64 0)) (.bool true) rfl rfl rfl rfl rfl (fun ρ W h1 h2 => by exact r_le h1 h2 (decide_eq_true (by omega))) ?_
 refine PW.move rfl rfl rfl rfl rfl ?_
 refine PW.load rfl rfl rfl rfl rfl rfl ?_
 refine PW.call (r := .vl (.int .i64 (sgq y))) rfl rfl rfl rfl rfl rfl (KV.st _) rfl (k_rsign) ?_
 refine PW.q2 (x := .tmp 18) (y := .const (.int .i64 0)) (.bool false) rfl rfl rfl rfl rfl (fun ρ W h1 h2 => by exact r_ge h1 h2 (decide_eq_false (by omega))) ?_
 refine PW.pick (t := true) rfl rfl rfl rfl rfl rfl ?_
 refine PW.assign rfl rfl rfl rfl rfl (PW.nil (SX.then (SC.cond (t := false) rfl (SC.seq (SC.region ?_)))))
 refine PW.load rfl rfl rfl rfl rfl rfl ?_
 refine PW.call (r := .vl (.int .i64 (sgq x))) rfl rfl rfl rfl rfl rfl (KV.st _) rfl (k_rsign) ?_
 refine PW.q2 (x := .tmp 24) (y := .const (.int .i64 0)) (.bool true) rfl rfl rfl rfl rfl (fun ρ W h1 h2 => by exact r_lt h1 h2 (decide_eq_true (hx))) ?_
 refine PW.assign rfl rfl rfl rfl rfl (PW.nil (SX.then (SC.cond (t := true) rfl (SC.seq ?_))))
 refine SC.dx [.val 26 (.kw (KQ (y).num (((y).den : Int) - 1))), .val 27 (.kw (KQ (-y).num (((-y).den : Int) - 1))), .val 28 (.kw (KQ (x).num (((x).den : Int) - 1))), .val 29 (.kw (KQ (-x).num (((-x).den : Int) - 1))), .val 30 (.kw (KQ (z).num (((z).den : Int) - 1))), .val 31 (.kw (KQ (-z).num (((-z).den : Int) - 1))), .put 4 (BQ 38) (.kw (KQ (-z).num (((-z).den : Int) - 1))), .val 5 (.vl (.int .i64 0))] [([], [3]), ([0], []), ([], [2]), ([2], []), ([1, 3], []), ([4], []), ([5], [4]), ([], [])] rfl (by kernel_rfl) (by kernel_rfl) (by kernel_rfl) rfl ⟨?_, ?_, ?_, ?_, ?_, ?_, ?_, ?_, trivial⟩ ?_
 ·exact DX.load rfl rfl rfl rfl rfl rfl
 ·exact DX.call (r := .kw (KQ (-y).num (((-y).den : Int) - 1))) rfl rfl rfl rfl rfl rfl (KQ.st _ _) rfl (k_rneg)
 ·exact DX.load rfl rfl rfl rfl rfl rfl
 ·exact DX.call (r := .kw (KQ (-x).num (((-x).den : Int) - 1))) rfl rfl rfl rfl rfl rfl (KQ.st _ _) rfl (k_rneg)
 ·exact DX.call (r := .kw (KQ (z).num (((z).den : Int) - 1))) rfl rfl rfl rfl rfl rfl (KQ.st _ _) rfl (k_simplest Y.neg X.neg (Rat.neg_le_neg h) hS hb hT hm hl hc0)
 ·exact DX.call (r := .kw (KQ (-z).num (((-z).den : Int) - 1))) rfl rfl rfl rfl rfl rfl (KQ.st _ _) rfl (k_rneg)
 ·exact DX.store (x := .tmp 31) (r := .kw (KQ (-z).num (((-z).den : Int) - 1))) rfl rfl rfl rfl rfl rfl sh_Q
 ·exact DX.assign rfl rfl rfl rfl rfl rfl
 refine SX.then (SC.ret (SX.blockR (SX.thenR ?_)))
 exact SX.done2 (s := 4) (t := 5) (r := .vl (.int .i64 0)) (.inl rfl) rfl rfl rfl rfl
theorem ce_slcut : CE 127 := fun args W => by go_simp
theorem ce_cut : CE 87 := fun args W => by go_simp
set_option maxHeartbeats 3200000 in
set_option maxRecDepth 100000 in
theorem k_slcut_yes {s : ByteArray} {i : Nat} (hi : cutI s = (i : Int)) (hs : i < s.size) (hz : s.size ≤ 20000) : CallOk 127 [KV (.string s), KV (.string ⟨#[47]⟩)] (K3 (KV (.string (s.extract 0 i))) (KV (.string (s.extract (i + 1) s.size))) (KV (.bool true))) := by
 refine CallOk.enter (l := [.vl (.string s), .vl (.string ⟨#[47]⟩)]) 23 ce_slcut Tryz.func127 rfl Tryz.ntmps127 (by simp) ⟨(KV.st _), rfl, (KV.st _), rfl, trivial⟩ fun w => ?_
 refine SC.seq (SC.region (PW.assign rfl rfl rfl rfl rfl (PW.assign rfl rfl rfl rfl rfl (PW.assign rfl rfl rfl rfl rfl (PW.nil (SX.then (SC.seq (SC.seq (SC.region (PW.move rfl rfl rfl rfl rfl ?_))))))))))
 refine PW.move rfl rfl rfl rfl rfl ?_
 refine PW.call (r := .vl (.int .i64 ((i : Int)))) rfl rfl rfl rfl rfl rfl (KV.st _) rfl (k_index1 hi) ?_
 refine PW.assign rfl rfl rfl rfl rfl (PW.nil (SX.then (SC.seq (SC.region (PW.move rfl rfl rfl rfl rfl ?_)))))
 refine PW.q2 (x := .tmp 11) (y := .const (.int .i64 0)) (.bool true) rfl rfl rfl rfl rfl (fun ρ W h1 h2 => by exact r_ge h1 h2 (decide_eq_true (by omega))) ?_
 refine PW.nil (SX.then (SC.cond (t := true) rfl (SC.seq ?_)))
 refine SC.dx [.val 13 (.vl (.string s)), .val 14 (.vl (.int .i64 ((i : Int)))), .val 15 (.vl (.string (s.extract 0 i))), .val 16 (.vl (.string s)), .val 17 (.vl (.int .i64 ((i : Int)))), .val 18 (.vl (.string ⟨#[47]⟩)), .val 19 (.vl (.int .i64 (1))), .val 20 (.vl (.int .i64 (((i + 1 : Nat) : Int)))), .val 21 (.vl (.string (s.extract (i + 1) s.size))), .val 4 (.vl (.string (s.extract 0 i))), .val 5 (.vl (.string (s.extract (i + 1) s.size))), .val 6 (.vl (.bool true))] [([], [0]), ([], [7]), ([0, 1], []), ([], [0]), ([], [7]), ([], [1]), ([5], []), ([4, 6], []), ([3, 7], []), ([2], []), ([8], []), ([], [])] rfl (by kernel_rfl) (by kernel_rfl) (by kernel_rfl) rfl ⟨?_, ?_, ?_, ?_, ?_, ?_, ?_, ?_, ?_, ?_, ?_, ?_, trivial⟩ ?_
 ·exact DX.move rfl rfl rfl rfl rfl rfl
 ·exact DX.move rfl rfl rfl rfl rfl rfl
 ·exact DX.qn [(.tmp 13, .string s), (.tmp 14, .int .i64 ((i : Int)))] (.string (s.extract 0 i)) rfl rfl rfl ⟨rfl, rfl, trivial⟩ (fun ρ W h => by obtain ⟨h1, h2, _⟩ := h; exact r_sto h1 h2 (by omega))
 ·exact DX.move rfl rfl rfl rfl rfl rfl
 ·exact DX.move rfl rfl rfl rfl rfl rfl
 ·exact DX.move rfl rfl rfl rfl rfl rfl
 ·exact DX.qn [(.tmp 18, .string ⟨#[47]⟩)] (.int .i64 (1)) rfl rfl rfl ⟨rfl, trivial⟩ (fun ρ W h => by obtain ⟨h1, _⟩ := h; first | (exact r_slen h1) | (go_simp; done) | (go_simp; rfl))
 ·exact DX.q2 (x := .tmp 17) (y := .tmp 19) (.int .i64 (((i + 1 : Nat) : Int))) rfl rfl rfl rfl rfl (fun ρ W h1 h2 => by exact r_add h1 h2 (by omega) (by omega))
 ·exact DX.qn [(.tmp 16, .string s), (.tmp 20, .int .i64 (((i + 1 : Nat) : Int)))] (.string (s.extract (i + 1) s.size)) rfl rfl rfl ⟨rfl, rfl, trivial⟩ (fun ρ W h => by obtain ⟨h1, h2, _⟩ := h; exact r_sfrom h1 h2 (by omega))
 ·exact DX.assign rfl rfl rfl rfl rfl rfl
 ·exact DX.assign rfl rfl rfl rfl rfl rfl
 ·exact DX.assign rfl rfl rfl rfl rfl rfl
 refine SX.then (SC.ret (SX.thenR ?_))
 exact SX.done3v (s := 4) (t := 5) (u := 6) (.inl rfl) rfl rfl rfl rfl rfl
set_option maxHeartbeats 3200000 in
set_option maxRecDepth 100000 in
theorem k_slcut_no {s : ByteArray} (hi : cutI s = -1) : CallOk 127 [KV (.string s), KV (.string ⟨#[47]⟩)] (K3 (KV (.string s)) (KV (.string ⟨#[]⟩)) (KV (.bool false))) := by
 refine CallOk.enter (l := [.vl (.string s), .vl (.string ⟨#[47]⟩)]) 23 ce_slcut Tryz.func127 rfl Tryz.ntmps127 (by simp) ⟨(KV.st _), rfl, (KV.st _), rfl, trivial⟩ fun w => ?_
 refine SC.seq (SC.region (PW.assign rfl rfl rfl rfl rfl (PW.assign rfl rfl rfl rfl rfl (PW.assign rfl rfl rfl rfl rfl (PW.nil (SX.then (SC.seq (SC.seq (SC.region (PW.move rfl rfl rfl rfl rfl ?_))))))))))
 refine PW.move rfl rfl rfl rfl rfl ?_
 refine PW.call (r := .vl (.int .i64 (-1))) rfl rfl rfl rfl rfl rfl (KV.st _) rfl (k_index1 hi) ?_
 refine PW.assign rfl rfl rfl rfl rfl (PW.nil (SX.then (SC.seq (SC.region (PW.move rfl rfl rfl rfl rfl ?_)))))
 refine PW.q2 (x := .tmp 11) (y := .const (.int .i64 0)) (.bool false) rfl rfl rfl rfl rfl (fun ρ W h1 h2 => by exact r_ge h1 h2 (decide_eq_false (by omega))) ?_
 refine PW.nil (SX.then (SC.cond (t := false) rfl (SC.skip (SX.then (SC.seq (SC.region (PW.move rfl rfl rfl rfl rfl (PW.assign rfl rfl rfl rfl rfl (PW.assign rfl rfl rfl rfl rfl (PW.assign rfl rfl rfl rfl rfl ?_))))))))))
 refine PW.nil (SX.then (SC.ret ?_))
 exact SX.done3v (s := 4) (t := 5) (u := 6) (.inl rfl) rfl rfl rfl rfl rfl
set_option maxHeartbeats 3200000 in
set_option maxRecDepth 100000 in
theorem k_cut_yes {s : ByteArray} {i : Nat} (hi : cutI s = (i : Int)) (hs : i < s.size) (hz : s.size ≤ 20000) : CallOk 87 [KV (.string s), KV (.string ⟨#[47]⟩)] (K3 (KV (.string (s.extract 0 i))) (KV (.string (s.extract (i + 1) s.size))) (KV (.bool true))) := by
 refine CallOk.enter (l := [.vl (.string s), .vl (.string ⟨#[47]⟩)]) 13 ce_cut Tryz.func87 rfl Tryz.ntmps87 (by simp) ⟨(KV.st _), rfl, (KV.st _), rfl, trivial⟩ fun w => ?_
 refine SC.seq (SC.region (PW.assign rfl rfl rfl rfl rfl (PW.assign rfl rfl rfl rfl rfl (PW.assign rfl rfl rfl rfl rfl (PW.nil (SX.then (SC.seq (SC.region (PW.move rfl rfl rfl rfl rfl (PW.move rfl rfl rfl rfl rfl ?_))))))))))
 refine PW.call (r := .kw (K3 (KV (.string (s.extract 0 i))) (KV (.string (s.extract (i + 1) s.size))) (KV (.bool true)))) rfl rfl rfl rfl rfl rfl (K3.st (KV.st _) (KV.st _) (KV.st _)) rfl (k_slcut_yes hi hs hz) ?_
 refine PW.ext (r := .vl (.string (s.extract 0 i))) rfl rfl rfl rfl rfl ex30v (KV.st _) rfl ?_
 refine PW.ext (r := .vl (.string (s.extract (i + 1) s.size))) rfl rfl rfl rfl rfl ex31v (KV.st _) rfl ?_
 refine PW.ext (r := .vl (.bool true)) rfl rfl rfl rfl rfl ex32v (KV.st _) rfl ?_
 refine PW.assign rfl rfl rfl rfl rfl (PW.assign rfl rfl rfl rfl rfl (PW.assign rfl rfl rfl rfl rfl (PW.nil (SX.then (SC.ret ?_)))))
 exact SX.done3v (s := 4) (t := 5) (u := 6) (.inl rfl) rfl rfl rfl rfl rfl
set_option maxHeartbeats 3200000 in
set_option maxRecDepth 100000 in
theorem k_cut_no {s : ByteArray} (hi : cutI s = -1) : CallOk 87 [KV (.string s), KV (.string ⟨#[47]⟩)] (K3 (KV (.string s)) (KV (.string ⟨#[]⟩)) (KV (.bool false))) := by
 refine CallOk.enter (l := [.vl (.string s), .vl (.string ⟨#[47]⟩)]) 13 ce_cut Tryz.func87 rfl Tryz.ntmps87 (by simp) ⟨(KV.st _), rfl, (KV.st _), rfl, trivial⟩ fun w => ?_
 refine SC.seq (SC.region (PW.assign rfl rfl rfl rfl rfl (PW.assign rfl rfl rfl rfl rfl (PW.assign rfl rfl rfl rfl rfl (PW.nil (SX.then (SC.seq (SC.region (PW.move rfl rfl rfl rfl rfl (PW.move rfl rfl rfl rfl rfl ?_))))))))))
 refine PW.call (r := .kw (K3 (KV (.string s)) (KV (.string ⟨#[]⟩)) (KV (.bool false)))) rfl rfl rfl rfl rfl rfl (K3.st (KV.st _) (KV.st _) (KV.st _)) rfl (k_slcut_no hi) ?_
 refine PW.ext (r := .vl (.string s)) rfl rfl rfl rfl rfl ex30v (KV.st _) rfl ?_
 refine PW.ext (r := .vl (.string ⟨#[]⟩)) rfl rfl rfl rfl rfl ex31v (KV.st _) rfl ?_
 refine PW.ext (r := .vl (.bool false)) rfl rfl rfl rfl rfl ex32v (KV.st _) rfl ?_
 refine PW.assign rfl rfl rfl rfl rfl (PW.assign rfl rfl rfl rfl rfl (PW.assign rfl rfl rfl rfl rfl (PW.nil (SX.then (SC.ret ?_)))))
 exact SX.done3v (s := 4) (t := 5) (u := 6) (.inl rfl) rfl rfl rfl rfl rfl
theorem ce_qparse : CE 29 := fun args W => by go_simp
set_option maxHeartbeats 6400000 in
set_option maxRecDepth 100000 in
theorem k_qparse_radix {s : ByteArray} {r : Int} (h : ¬ (2 ≤ r ∧ r ≤ 36)) : CallOk 29 [KV (.string s), KV (.int .i64 (r))] (KPR (parseQ r s)) := by
 refine CallOk.enter (l := [.vl (.string s), .vl (.int .i64 (r))]) 68 ce_qparse Tryz.func29 rfl Tryz.ntmps29 (by simp) ⟨(KV.st _), rfl, (KV.st _), rfl, trivial⟩ fun w => ?_
 refine SC.seq (SC.region ?_)
 refine PW.alloc (BQ 38) rfl rfl rfl rfl rfl bQ ?_
 refine PW.assign rfl rfl rfl rfl rfl (PW.nil (SX.then (SC.seq (SC.block (SC.seq ?_)))))
 by_cases hr2 : r < 2
 ·refine SC.region ?_
  refine PW.move rfl rfl rfl rfl rfl ?_
  refine PW.q2 (x := .tmp 13) (y := .const (.int .i64 2)) (.bool true) rfl rfl rfl rfl rfl (fun ρ W h1 h2 => by exact r_lt h1 h2 (decide_eq_true hr2)) ?_
  refine PW.move rfl rfl rfl rfl rfl ?_
  refine PW.skip rfl rfl rfl ?_
  refine PW.skip rfl rfl rfl ?_
  refine PW.pick (t := true) rfl rfl rfl rfl rfl rfl ?_
  refine PW.assign rfl rfl rfl rfl rfl (PW.nil (SX.then (SC.cond (t := true) rfl (SC.seq (SC.region ?_)))))
  refine PW.val (r := .kw (KQ (0) (0))) rfl rfl rfl rfl (fun a W hf => ⟨_, r_bldQ0, zeroQ W, KQ.st _ _⟩) ?_
  refine PW.store (x := .tmp 19) (r := .kw (KQ (0) (0))) rfl rfl rfl rfl rfl rfl sh_Q ?_
  refine PW.assign rfl rfl rfl rfl rfl (PW.nil (SX.then (SC.ret (SX.blockR (SX.thenR ?_)))))
  rw [parseQ_radix h]
  exact SX.done2 (s := 4) (t := 5) (r := .vl (.int .i64 1)) (.inl rfl) rfl rfl rfl rfl
 ·refine SC.region ?_
  refine PW.move rfl rfl rfl rfl rfl ?_
  refine PW.q2 (x := .tmp 13) (y := .const (.int .i64 2)) (.bool false) rfl rfl rfl rfl rfl (fun ρ W h1 h2 => by exact r_lt h1 h2 (decide_eq_false hr2)) ?_
  refine PW.move rfl rfl rfl rfl rfl (PW.move rfl rfl rfl rfl rfl ?_)
  refine PW.q2 (x := .tmp 16) (y := .const (.int .i64 36)) (.bool true) rfl rfl rfl rfl rfl (fun ρ W h1 h2 => by exact r_gt h1 h2 (decide_eq_true (by omega))) ?_
  refine PW.pick (t := false) rfl rfl rfl rfl rfl rfl ?_
  refine PW.assign rfl rfl rfl rfl rfl (PW.nil (SX.then (SC.cond (t := true) rfl (SC.seq (SC.region ?_)))))
  refine PW.val (r := .kw (KQ (0) (0))) rfl rfl rfl rfl (fun a W hf => ⟨_, r_bldQ0, zeroQ W, KQ.st _ _⟩) ?_
  refine PW.store (x := .tmp 19) (r := .kw (KQ (0) (0))) rfl rfl rfl rfl rfl rfl sh_Q ?_
  refine PW.assign rfl rfl rfl rfl rfl (PW.nil (SX.then (SC.ret (SX.blockR (SX.thenR ?_)))))
  rw [parseQ_radix h]
  exact SX.done2 (s := 4) (t := 5) (r := .vl (.int .i64 1)) (.inl rfl) rfl rfl rfl rfl
set_option maxHeartbeats 6400000 in
set_option maxRecDepth 100000 in
theorem k_qparse_long {s : ByteArray} {r : Int} (h : 2 ≤ r ∧ r ≤ 36) (hl : 20000 < s.size) : CallOk 29 [KV (.string s), KV (.int .i64 (r))] (KPR (parseQ r s)) := by
 refine CallOk.enter (l := [.vl (.string s), .vl (.int .i64 (r))]) 68 ce_qparse Tryz.func29 rfl Tryz.ntmps29 (by simp) ⟨(KV.st _), rfl, (KV.st _), rfl, trivial⟩ fun w => ?_
 refine SC.seq (SC.region ?_)
 refine PW.alloc (BQ 38) rfl rfl rfl rfl rfl bQ ?_
 refine PW.assign rfl rfl rfl rfl rfl (PW.nil (SX.then (SC.seq (SC.block (SC.seq (SC.region (PW.move rfl rfl rfl rfl rfl ?_)))))))
 refine PW.q2 (x := .tmp 13) (y := .const (.int .i64 2)) (.bool false) rfl rfl rfl rfl rfl (fun ρ W h1 h2 => by exact r_lt h1 h2 (decide_eq_false (by omega))) ?_
 refine PW.move rfl rfl rfl rfl rfl (PW.move rfl rfl rfl rfl rfl ?_)
 refine PW.q2 (x := .tmp 16) (y := .const (.int .i64 36)) (.bool false) rfl rfl rfl rfl rfl (fun ρ W h1 h2 => by exact r_gt h1 h2 (decide_eq_false (by omega))) ?_
 refine PW.pick (t := false) rfl rfl rfl rfl rfl rfl ?_
 refine PW.assign rfl rfl rfl rfl rfl (PW.nil (SX.then (SC.cond (t := false) rfl (SC.seq (SC.region (PW.move rfl rfl rfl rfl rfl ?_))))))
 refine PW.qn [(.tmp 21, .string s)] (.int .i64 (s.size : Int)) rfl rfl rfl ⟨rfl, trivial⟩ (fun ρ W h => by obtain ⟨h1, _⟩ := h; exact r_slen h1) ?_
 refine PW.q2 (x := .tmp 22) (y := .const (.int .i64 20000)) (.bool true) rfl rfl rfl rfl rfl (fun ρ W h1 h2 => by exact r_gt h1 h2 (decide_eq_true (by omega))) ?_
 refine PW.assign rfl rfl rfl rfl rfl (PW.nil (SX.then (SC.cond (t := true) rfl (SC.seq (SC.region ?_)))))
 refine PW.val (r := .kw (KQ (0) (0))) rfl rfl rfl rfl (fun a W hf => ⟨_, r_bldQ0, zeroQ W, KQ.st _ _⟩) ?_
 refine PW.store (x := .tmp 24) (r := .kw (KQ (0) (0))) rfl rfl rfl rfl rfl rfl sh_Q ?_
 refine PW.assign rfl rfl rfl rfl rfl (PW.nil (SX.then (SC.ret (SX.blockR (SX.thenR ?_)))))
 rw [parseQ_long h hl]
 exact SX.done2 (s := 4) (t := 5) (r := .vl (.int .i64 14)) (.inl rfl) rfl rfl rfl rfl
set_option maxHeartbeats 6400000 in
set_option maxRecDepth 100000 in
theorem k_qparse_no {s : ByteArray} {r : Int} (h : 2 ≤ r ∧ r ≤ 36) (hl : ¬ 20000 < s.size) (hi : cutI s = -1) : CallOk 29 [KV (.string s), KV (.int .i64 (r))] (KPR (parseQ r s)) := by
 refine CallOk.enter (l := [.vl (.string s), .vl (.int .i64 (r))]) 68 ce_qparse Tryz.func29 rfl Tryz.ntmps29 (by simp) ⟨(KV.st _), rfl, (KV.st _), rfl, trivial⟩ fun w => ?_
 refine SC.seq (SC.region ?_)
 refine PW.alloc (BQ 38) rfl rfl rfl rfl rfl bQ ?_
 refine PW.assign rfl rfl rfl rfl rfl (PW.nil (SX.then (SC.seq (SC.block (SC.seq (SC.region (PW.move rfl rfl rfl rfl rfl ?_)))))))
 refine PW.q2 (x := .tmp 13) (y := .const (.int .i64 2)) (.bool false) rfl rfl rfl rfl rfl (fun ρ W h1 h2 => by exact r_lt h1 h2 (decide_eq_false (by omega))) ?_
 refine PW.move rfl rfl rfl rfl rfl (PW.move rfl rfl rfl rfl rfl ?_)
 refine PW.q2 (x := .tmp 16) (y := .const (.int .i64 36)) (.bool false) rfl rfl rfl rfl rfl (fun ρ W h1 h2 => by exact r_gt h1 h2 (decide_eq_false (by omega))) ?_
 refine PW.pick (t := false) rfl rfl rfl rfl rfl rfl ?_
 refine PW.assign rfl rfl rfl rfl rfl (PW.nil (SX.then (SC.cond (t := false) rfl (SC.seq (SC.region (PW.move rfl rfl rfl rfl rfl ?_))))))
 refine PW.qn [(.tmp 21, .string s)] (.int .i64 (s.size : Int)) rfl rfl rfl ⟨rfl, trivial⟩ (fun ρ W h => by obtain ⟨h1, _⟩ := h; exact r_slen h1) ?_
 refine PW.q2 (x := .tmp 22) (y := .const (.int .i64 20000)) (.bool false) rfl rfl rfl rfl rfl (fun ρ W h1 h2 => by exact r_gt h1 h2 (decide_eq_false (by omega))) ?_
 refine PW.assign rfl rfl rfl rfl rfl (PW.nil (SX.then (SC.cond (t := false) rfl (SC.skip ?_))))
 refine SX.blockN ?_
 refine SX.then (SC.seq (SC.region (PW.move rfl rfl rfl rfl rfl ?_)))
 refine PW.call (r := .kw (K3 (KV (.string s)) (KV (.string ⟨#[]⟩)) (KV (.bool false)))) rfl rfl rfl rfl rfl rfl (K3.st (KV.st _) (KV.st _) (KV.st _)) rfl (k_cut_no hi) ?_
 refine PW.move rfl rfl rfl rfl rfl ?_
 refine PW.ext (r := .vl (.string s)) rfl rfl rfl rfl rfl ex30v (KV.st _) rfl ?_
 refine PW.ext (r := .vl (.string ⟨#[]⟩)) rfl rfl rfl rfl rfl ex31v (KV.st _) rfl ?_
 refine PW.ext (r := .vl (.bool false)) rfl rfl rfl rfl rfl ex32v (KV.st _) rfl ?_
 refine PW.assign rfl rfl rfl rfl rfl (PW.assign rfl rfl rfl rfl rfl (PW.assign rfl rfl rfl rfl rfl (PW.nil (SX.then (SC.seq ?_)))))
 by_cases hn : ∃ n, parseR r (byl (s)) = .ok n
 ·obtain ⟨n, hn⟩ := hn
  have NB := parse_bd9 (n := 20000) (m := 4000) hn (by omega) (by decide) (by decide)
  refine SC.region (PW.move rfl rfl rfl rfl rfl (PW.move rfl rfl rfl rfl rfl ?_))
  refine PW.call (r := .kw (K2 (KI (n)) (KV (.int .i64 0)))) rfl rfl rfl rfl rfl rfl (K2.st (KI.st _) (KV.st _)) rfl (callK k_parse (by rw [hn]; rfl)) ?_
  refine PW.move rfl rfl rfl rfl rfl ?_
  refine PW.ext (r := .kw (KI (n))) rfl rfl rfl rfl rfl ex20 (KI.st _) rfl ?_
  refine PW.ext (r := .vl (.int .i64 0)) rfl rfl rfl rfl rfl ex21v (KV.st _) rfl ?_
  refine PW.alloc (BI 31) rfl rfl rfl rfl rfl bI ?_
  refine PW.store (x := .tmp 35) (r := .kw (KI (n))) rfl rfl rfl rfl rfl rfl sh_I ?_
  refine PW.assign rfl rfl rfl rfl rfl (PW.nil (SX.then (SC.seq (SC.seq (SC.region (PW.move rfl rfl rfl rfl rfl ?_))))))
  refine PW.q2 (x := .tmp 37) (y := .const (.int .i64 0)) (.bool false) rfl rfl rfl rfl rfl (fun ρ W h1 h2 => by go_simp) ?_
  refine PW.move rfl rfl rfl rfl rfl (PW.move rfl rfl rfl rfl rfl ?_)
  refine PW.q1 (x := .tmp 40) (.bool true) rfl rfl rfl rfl (fun ρ W h1 => by go_simp) ?_
  refine PW.pick (t := false) rfl rfl rfl rfl rfl rfl ?_
  refine PW.nil (SX.then (SC.cond (t := true) rfl (SC.seq (SC.region ?_))))
  refine PW.load rfl rfl rfl rfl rfl rfl ?_
  refine PW.call (r := .kw (KQ (((n : Int) : Rat)).num (((((n : Int) : Rat)).den : Int) - 1))) rfl rfl rfl rfl rfl rfl (KQ.st _ _) rfl (k_rof) ?_
  refine PW.move rfl rfl rfl rfl rfl ?_
  refine PW.store (x := .tmp 44) (r := .kw (KQ (((n : Int) : Rat)).num (((((n : Int) : Rat)).den : Int) - 1))) rfl rfl rfl rfl rfl rfl sh_Q ?_
  refine PW.assign rfl rfl rfl rfl rfl (PW.nil (SX.then (SC.ret (SX.thenR ?_))))
  rw [parseQ_n1 h hl hi hn]
  exact SX.done2 (s := 4) (t := 5) (r := .vl (.int .i64 0)) (.inl rfl) rfl rfl rfl rfl
 ·obtain ⟨en, en0⟩ := parse_err hn
  refine SC.region (PW.move rfl rfl rfl rfl rfl (PW.move rfl rfl rfl rfl rfl ?_))
  refine PW.call (r := .kw (K2 (KI (0)) (KV (.int .i64 en)))) rfl rfl rfl rfl rfl rfl (K2.st (KI.st _) (KV.st _)) rfl (callK k_parse (by rw [en0]; rfl)) ?_
  refine PW.move rfl rfl rfl rfl rfl ?_
  refine PW.ext (r := .kw (KI (0))) rfl rfl rfl rfl rfl ex20 (KI.st _) rfl ?_
  refine PW.ext (r := .vl (.int .i64 en)) rfl rfl rfl rfl rfl ex21v (KV.st _) rfl ?_
  refine PW.alloc (BI 31) rfl rfl rfl rfl rfl bI ?_
  refine PW.store (x := .tmp 35) (r := .kw (KI (0))) rfl rfl rfl rfl rfl rfl sh_I ?_
  refine PW.assign rfl rfl rfl rfl rfl (PW.nil (SX.then (SC.seq (SC.seq (SC.region (PW.move rfl rfl rfl rfl rfl ?_))))))
  refine PW.q2 (x := .tmp 37) (y := .const (.int .i64 0)) (.bool true) rfl rfl rfl rfl rfl (fun ρ W h1 h2 => by exact r_neE h1 h2 (parse_ne en0)) ?_
  refine PW.move rfl rfl rfl rfl rfl ?_
  refine PW.skip rfl rfl rfl ?_
  refine PW.skip rfl rfl rfl ?_
  refine PW.pick (t := true) rfl rfl rfl rfl rfl rfl ?_
  refine PW.nil (SX.then (SC.cond (t := true) rfl (SC.seq (SC.region ?_))))
  refine PW.load rfl rfl rfl rfl rfl rfl ?_
  refine PW.call (r := .kw (KQ (((0 : Int) : Rat)).num (((((0 : Int) : Rat)).den : Int) - 1))) rfl rfl rfl rfl rfl rfl (KQ.st _ _) rfl (k_rof) ?_
  refine PW.move rfl rfl rfl rfl rfl ?_
  refine PW.store (x := .tmp 44) (r := .kw (KQ (((0 : Int) : Rat)).num (((((0 : Int) : Rat)).den : Int) - 1))) rfl rfl rfl rfl rfl rfl sh_Q ?_
  refine PW.assign rfl rfl rfl rfl rfl (PW.nil (SX.then (SC.ret (SX.thenR ?_))))
  rw [parseQ_n2 h hl hi en0]
  exact SX.done2 (s := 4) (t := 5) (r := .vl (.int .i64 en)) (.inl rfl) rfl rfl rfl rfl
set_option maxHeartbeats 6400000 in
set_option maxRecDepth 100000 in
theorem k_qparse_yes {s : ByteArray} {r : Int} (h : 2 ≤ r ∧ r ≤ 36) (hl : ¬ 20000 < s.size) {i : Nat} (hi : cutI s = (i : Int)) (hs : i < s.size) : CallOk 29 [KV (.string s), KV (.int .i64 (r))] (KPR (parseQ r s)) := by
 refine CallOk.enter (l := [.vl (.string s), .vl (.int .i64 (r))]) 68 ce_qparse Tryz.func29 rfl Tryz.ntmps29 (by simp) ⟨(KV.st _), rfl, (KV.st _), rfl, trivial⟩ fun w => ?_
 refine SC.seq (SC.region ?_)
 refine PW.alloc (BQ 38) rfl rfl rfl rfl rfl bQ ?_
 refine PW.assign rfl rfl rfl rfl rfl (PW.nil (SX.then (SC.seq (SC.block (SC.seq (SC.region (PW.move rfl rfl rfl rfl rfl ?_)))))))
 refine PW.q2 (x := .tmp 13) (y := .const (.int .i64 2)) (.bool false) rfl rfl rfl rfl rfl (fun ρ W h1 h2 => by exact r_lt h1 h2 (decide_eq_false (by omega))) ?_
 refine PW.move rfl rfl rfl rfl rfl (PW.move rfl rfl rfl rfl rfl ?_)
 refine PW.q2 (x := .tmp 16) (y := .const (.int .i64 36)) (.bool false) rfl rfl rfl rfl rfl (fun ρ W h1 h2 => by exact r_gt h1 h2 (decide_eq_false (by omega))) ?_
 refine PW.pick (t := false) rfl rfl rfl rfl rfl rfl ?_
 refine PW.assign rfl rfl rfl rfl rfl (PW.nil (SX.then (SC.cond (t := false) rfl (SC.seq (SC.region (PW.move rfl rfl rfl rfl rfl ?_))))))
 refine PW.qn [(.tmp 21, .string s)] (.int .i64 (s.size : Int)) rfl rfl rfl ⟨rfl, trivial⟩ (fun ρ W h => by obtain ⟨h1, _⟩ := h; exact r_slen h1) ?_
 refine PW.q2 (x := .tmp 22) (y := .const (.int .i64 20000)) (.bool false) rfl rfl rfl rfl rfl (fun ρ W h1 h2 => by exact r_gt h1 h2 (decide_eq_false (by omega))) ?_
 refine PW.assign rfl rfl rfl rfl rfl (PW.nil (SX.then (SC.cond (t := false) rfl (SC.skip ?_))))
 refine SX.blockN ?_
 refine SX.then (SC.seq (SC.region (PW.move rfl rfl rfl rfl rfl ?_)))
 refine PW.call (r := .kw (K3 (KV (.string (s.extract 0 i))) (KV (.string (s.extract (i + 1) s.size))) (KV (.bool true)))) rfl rfl rfl rfl rfl rfl (K3.st (KV.st _) (KV.st _) (KV.st _)) rfl (k_cut_yes hi hs (by omega)) ?_
 refine PW.move rfl rfl rfl rfl rfl ?_
 refine PW.ext (r := .vl (.string (s.extract 0 i))) rfl rfl rfl rfl rfl ex30v (KV.st _) rfl ?_
 refine PW.ext (r := .vl (.string (s.extract (i + 1) s.size))) rfl rfl rfl rfl rfl ex31v (KV.st _) rfl ?_
 refine PW.ext (r := .vl (.bool true)) rfl rfl rfl rfl rfl ex32v (KV.st _) rfl ?_
 refine PW.assign rfl rfl rfl rfl rfl (PW.assign rfl rfl rfl rfl rfl (PW.assign rfl rfl rfl rfl rfl (PW.nil (SX.then (SC.seq ?_)))))
 by_cases hn : ∃ n, parseR r (byl (s.extract 0 i)) = .ok n
 ·obtain ⟨n, hn⟩ := hn
  have NB := parse_bd9 (n := 20000) (m := 4000) hn (by rw [ext_size]; omega) (by decide) (by decide)
  refine SC.region (PW.move rfl rfl rfl rfl rfl (PW.move rfl rfl rfl rfl rfl ?_))
  refine PW.call (r := .kw (K2 (KI (n)) (KV (.int .i64 0)))) rfl rfl rfl rfl rfl rfl (K2.st (KI.st _) (KV.st _)) rfl (callK k_parse (by rw [hn]; rfl)) ?_
  refine PW.move rfl rfl rfl rfl rfl ?_
  refine PW.ext (r := .kw (KI (n))) rfl rfl rfl rfl rfl ex20 (KI.st _) rfl ?_
  refine PW.ext (r := .vl (.int .i64 0)) rfl rfl rfl rfl rfl ex21v (KV.st _) rfl ?_
  refine PW.alloc (BI 31) rfl rfl rfl rfl rfl bI ?_
  refine PW.store (x := .tmp 35) (r := .kw (KI (n))) rfl rfl rfl rfl rfl rfl sh_I ?_
  refine PW.assign rfl rfl rfl rfl rfl (PW.nil (SX.then (SC.seq (SC.seq (SC.region (PW.move rfl rfl rfl rfl rfl ?_))))))
  refine PW.q2 (x := .tmp 37) (y := .const (.int .i64 0)) (.bool false) rfl rfl rfl rfl rfl (fun ρ W h1 h2 => by go_simp) ?_
  refine PW.move rfl rfl rfl rfl rfl (PW.move rfl rfl rfl rfl rfl ?_)
  refine PW.q1 (x := .tmp 40) (.bool false) rfl rfl rfl rfl (fun ρ W h1 => by go_simp) ?_
  refine PW.pick (t := false) rfl rfl rfl rfl rfl rfl ?_
  refine PW.nil (SX.then (SC.cond (t := false) rfl (SC.skip (SX.then (SC.seq (SC.seq ?_))))))
  by_cases hp : 0 < (s.extract (i + 1) s.size).size ∧ at0 (byl (s.extract (i + 1) s.size)) 0 = 43
  ·refine SC.region ?_
   refine PW.move rfl rfl rfl rfl rfl ?_
   refine PW.call (r := .vl (.bool true)) rfl rfl rfl rfl rfl rfl (KV.st _) rfl (k_hasPrefix (s.extract (i + 1) s.size) ⟨#[43]⟩ ((pre_one _ 43).trans (decide_eq_true hp))) ?_
   refine PW.move rfl rfl rfl rfl rfl ?_
   refine PW.skip rfl rfl rfl ?_
   refine PW.skip rfl rfl rfl ?_
   refine PW.pick (t := true) rfl rfl rfl rfl rfl rfl ?_
   refine PW.nil (SX.then (SC.cond (t := true) rfl (SC.seq (SC.region ?_))))
   refine PW.val (r := .kw (KQ (0) (0))) rfl rfl rfl rfl (fun a W hf => ⟨_, r_bldQ0, zeroQ W, KQ.st _ _⟩) ?_
   refine PW.store (x := .tmp 52) (r := .kw (KQ (0) (0))) rfl rfl rfl rfl rfl rfl sh_Q ?_
   refine PW.assign rfl rfl rfl rfl rfl (PW.nil (SX.then (SC.ret (SX.thenR ?_))))
   rw [parseQ_y2 h hl hi hn (.inl hp)]
   exact SX.done2 (s := 4) (t := 5) (r := .vl (.int .i64 2)) (.inl rfl) rfl rfl rfl rfl
  ·by_cases hq : 0 < (s.extract (i + 1) s.size).size ∧ at0 (byl (s.extract (i + 1) s.size)) 0 = 45
   ·refine SC.region ?_
    refine PW.move rfl rfl rfl rfl rfl ?_
    refine PW.call (r := .vl (.bool false)) rfl rfl rfl rfl rfl rfl (KV.st _) rfl (k_hasPrefix (s.extract (i + 1) s.size) ⟨#[43]⟩ ((pre_one _ 43).trans (decide_eq_false hp))) ?_
    refine PW.move rfl rfl rfl rfl rfl (PW.move rfl rfl rfl rfl rfl ?_)
    refine PW.call (r := .vl (.bool true)) rfl rfl rfl rfl rfl rfl (KV.st _) rfl (k_hasPrefix (s.extract (i + 1) s.size) ⟨#[45]⟩ ((pre_one _ 45).trans (decide_eq_true hq))) ?_
    refine PW.pick (t := false) rfl rfl rfl rfl rfl rfl ?_
    refine PW.nil (SX.then (SC.cond (t := true) rfl (SC.seq (SC.region ?_))))
    refine PW.val (r := .kw (KQ (0) (0))) rfl rfl rfl rfl (fun a W hf => ⟨_, r_bldQ0, zeroQ W, KQ.st _ _⟩) ?_
    refine PW.store (x := .tmp 52) (r := .kw (KQ (0) (0))) rfl rfl rfl rfl rfl rfl sh_Q ?_
    refine PW.assign rfl rfl rfl rfl rfl (PW.nil (SX.then (SC.ret (SX.thenR ?_))))
    rw [parseQ_y2 h hl hi hn (.inr hq)]
    exact SX.done2 (s := 4) (t := 5) (r := .vl (.int .i64 2)) (.inl rfl) rfl rfl rfl rfl
   ·refine SC.region ?_
    refine PW.move rfl rfl rfl rfl rfl ?_
    refine PW.call (r := .vl (.bool false)) rfl rfl rfl rfl rfl rfl (KV.st _) rfl (k_hasPrefix (s.extract (i + 1) s.size) ⟨#[43]⟩ ((pre_one _ 43).trans (decide_eq_false hp))) ?_
    refine PW.move rfl rfl rfl rfl rfl (PW.move rfl rfl rfl rfl rfl ?_)
    refine PW.call (r := .vl (.bool false)) rfl rfl rfl rfl rfl rfl (KV.st _) rfl (k_hasPrefix (s.extract (i + 1) s.size) ⟨#[45]⟩ ((pre_one _ 45).trans (decide_eq_false hq))) ?_
    refine PW.pick (t := false) rfl rfl rfl rfl rfl rfl ?_
    refine PW.nil (SX.then (SC.cond (t := false) rfl (SC.skip (SX.then (SC.seq ?_)))))
    by_cases hd : ∃ d, parseR r (byl (s.extract (i + 1) s.size)) = .ok d
    ·obtain ⟨d, hd⟩ := hd
     have DB := parse_bd9 (n := 20000) (m := 4000) hd (by rw [ext_size]; omega) (by decide) (by decide)
     refine SC.region (PW.move rfl rfl rfl rfl rfl (PW.move rfl rfl rfl rfl rfl ?_))
     refine PW.call (r := .kw (K2 (KI (d)) (KV (.int .i64 0)))) rfl rfl rfl rfl rfl rfl (K2.st (KI.st _) (KV.st _)) rfl (callK k_parse (by rw [hd]; rfl)) ?_
     refine PW.move rfl rfl rfl rfl rfl ?_
     refine PW.ext (r := .kw (KI (d))) rfl rfl rfl rfl rfl ex20 (KI.st _) rfl ?_
     refine PW.ext (r := .vl (.int .i64 0)) rfl rfl rfl rfl rfl ex21v (KV.st _) rfl ?_
     refine PW.alloc (BI 31) rfl rfl rfl rfl rfl bI ?_
     refine PW.store (x := .tmp 57) (r := .kw (KI (d))) rfl rfl rfl rfl rfl rfl sh_I ?_
     refine PW.assign rfl rfl rfl rfl rfl (PW.nil (SX.then (SC.seq (SC.seq (SC.region (PW.move rfl rfl rfl rfl rfl ?_))))))
     refine PW.q2 (x := .tmp 59) (y := .const (.int .i64 0)) (.bool false) rfl rfl rfl rfl rfl (fun ρ W h1 h2 => by go_simp) ?_
     refine PW.nil (SX.then (SC.cond (t := false) rfl (SC.skip (SX.then (SC.seq ?_)))))
     by_cases h0 : d = 0
     ·refine SC.region ?_
      refine PW.load rfl rfl rfl rfl rfl rfl ?_
      refine PW.load rfl rfl rfl rfl rfl rfl ?_
      refine PW.call (r := .kw (K2 (KQ (0) (0)) (KV (.int .i64 6)))) rfl rfl rfl rfl rfl rfl (K2.st (KQ.st _ _) (KV.st _)) rfl (k_rnew0 h0) ?_
      refine PW.ext (r := .kw (KQ (0) (0))) rfl rfl rfl rfl rfl ex20 (KQ.st _ _) rfl ?_
      refine PW.ext (r := .vl (.int .i64 6)) rfl rfl rfl rfl rfl ex21v (KV.st _) rfl ?_
      refine PW.store (x := .tmp 66) (r := .kw (KQ (0) (0))) rfl rfl rfl rfl rfl rfl sh_Q ?_
      refine PW.assign rfl rfl rfl rfl rfl (PW.nil (SX.then (SC.ret ?_)))
      rw [parseQ_y4 h hl hi hn (fun h9 => h9.elim hp hq) hd h0]
      exact SX.done2 (s := 4) (t := 5) (r := .vl (.int .i64 6)) (.inl rfl) rfl rfl rfl rfl
     ·refine SC.region ?_
      refine PW.load rfl rfl rfl rfl rfl rfl ?_
      refine PW.load rfl rfl rfl rfl rfl rfl ?_
      refine PW.call (r := .kw (K2 (KQ (Rat.divInt (n) (d)).num (((Rat.divInt (n) (d)).den : Int) - 1)) (KV (.int .i64 0)))) rfl rfl rfl rfl rfl rfl (K2.st (KQ.st _ _) (KV.st _)) rfl (k_rnew NB DB h0 (by omega) (by omega)) ?_
      refine PW.ext (r := .kw (KQ (Rat.divInt (n) (d)).num (((Rat.divInt (n) (d)).den : Int) - 1))) rfl rfl rfl rfl rfl ex20 (KQ.st _ _) rfl ?_
      refine PW.ext (r := .vl (.int .i64 0)) rfl rfl rfl rfl rfl ex21v (KV.st _) rfl ?_
      refine PW.store (x := .tmp 66) (r := .kw (KQ (Rat.divInt (n) (d)).num (((Rat.divInt (n) (d)).den : Int) - 1))) rfl rfl rfl rfl rfl rfl sh_Q ?_
      refine PW.assign rfl rfl rfl rfl rfl (PW.nil (SX.then (SC.ret ?_)))
      rw [parseQ_y5 h hl hi hn (fun h9 => h9.elim hp hq) hd h0]
      exact SX.done2 (s := 4) (t := 5) (r := .vl (.int .i64 0)) (.inl rfl) rfl rfl rfl rfl
    ·obtain ⟨ed, ed0⟩ := parse_err hd
     refine SC.region (PW.move rfl rfl rfl rfl rfl (PW.move rfl rfl rfl rfl rfl ?_))
     refine PW.call (r := .kw (K2 (KI (0)) (KV (.int .i64 ed)))) rfl rfl rfl rfl rfl rfl (K2.st (KI.st _) (KV.st _)) rfl (callK k_parse (by rw [ed0]; rfl)) ?_
     refine PW.move rfl rfl rfl rfl rfl ?_
     refine PW.ext (r := .kw (KI (0))) rfl rfl rfl rfl rfl ex20 (KI.st _) rfl ?_
     refine PW.ext (r := .vl (.int .i64 ed)) rfl rfl rfl rfl rfl ex21v (KV.st _) rfl ?_
     refine PW.alloc (BI 31) rfl rfl rfl rfl rfl bI ?_
     refine PW.store (x := .tmp 57) (r := .kw (KI (0))) rfl rfl rfl rfl rfl rfl sh_I ?_
     refine PW.assign rfl rfl rfl rfl rfl (PW.nil (SX.then (SC.seq (SC.seq (SC.region (PW.move rfl rfl rfl rfl rfl ?_))))))
     refine PW.q2 (x := .tmp 59) (y := .const (.int .i64 0)) (.bool true) rfl rfl rfl rfl rfl (fun ρ W h1 h2 => by exact r_neE h1 h2 (parse_ne ed0)) ?_
     refine PW.nil (SX.then (SC.cond (t := true) rfl (SC.seq (SC.region ?_))))
     refine PW.val (r := .kw (KQ (0) (0))) rfl rfl rfl rfl (fun a W hf => ⟨_, r_bldQ0, zeroQ W, KQ.st _ _⟩) ?_
     refine PW.move rfl rfl rfl rfl rfl ?_
     refine PW.store (x := .tmp 61) (r := .kw (KQ (0) (0))) rfl rfl rfl rfl rfl rfl sh_Q ?_
     refine PW.assign rfl rfl rfl rfl rfl (PW.nil (SX.then (SC.ret (SX.thenR ?_))))
     rw [parseQ_y3 h hl hi hn (fun h9 => h9.elim hp hq) ed0]
     exact SX.done2 (s := 4) (t := 5) (r := .vl (.int .i64 ed)) (.inl rfl) rfl rfl rfl rfl
 ·obtain ⟨en, en0⟩ := parse_err hn
  refine SC.region (PW.move rfl rfl rfl rfl rfl (PW.move rfl rfl rfl rfl rfl ?_))
  refine PW.call (r := .kw (K2 (KI (0)) (KV (.int .i64 en)))) rfl rfl rfl rfl rfl rfl (K2.st (KI.st _) (KV.st _)) rfl (callK k_parse (by rw [en0]; rfl)) ?_
  refine PW.move rfl rfl rfl rfl rfl ?_
  refine PW.ext (r := .kw (KI (0))) rfl rfl rfl rfl rfl ex20 (KI.st _) rfl ?_
  refine PW.ext (r := .vl (.int .i64 en)) rfl rfl rfl rfl rfl ex21v (KV.st _) rfl ?_
  refine PW.alloc (BI 31) rfl rfl rfl rfl rfl bI ?_
  refine PW.store (x := .tmp 35) (r := .kw (KI (0))) rfl rfl rfl rfl rfl rfl sh_I ?_
  refine PW.assign rfl rfl rfl rfl rfl (PW.nil (SX.then (SC.seq (SC.seq (SC.region (PW.move rfl rfl rfl rfl rfl ?_))))))
  refine PW.q2 (x := .tmp 37) (y := .const (.int .i64 0)) (.bool true) rfl rfl rfl rfl rfl (fun ρ W h1 h2 => by exact r_neE h1 h2 (parse_ne en0)) ?_
  refine PW.move rfl rfl rfl rfl rfl ?_
  refine PW.skip rfl rfl rfl ?_
  refine PW.skip rfl rfl rfl ?_
  refine PW.pick (t := true) rfl rfl rfl rfl rfl rfl ?_
  refine PW.nil (SX.then (SC.cond (t := true) rfl (SC.seq (SC.region ?_))))
  refine PW.load rfl rfl rfl rfl rfl rfl ?_
  refine PW.call (r := .kw (KQ (((0 : Int) : Rat)).num (((((0 : Int) : Rat)).den : Int) - 1))) rfl rfl rfl rfl rfl rfl (KQ.st _ _) rfl (k_rof) ?_
  refine PW.move rfl rfl rfl rfl rfl ?_
  refine PW.store (x := .tmp 44) (r := .kw (KQ (((0 : Int) : Rat)).num (((((0 : Int) : Rat)).den : Int) - 1))) rfl rfl rfl rfl rfl rfl sh_Q ?_
  refine PW.assign rfl rfl rfl rfl rfl (PW.nil (SX.then (SC.ret (SX.thenR ?_))))
  rw [parseQ_y1 h hl hi en0]
  exact SX.done2 (s := 4) (t := 5) (r := .vl (.int .i64 en)) (.inl rfl) rfl rfl rfl rfl
theorem k_qparse {s : ByteArray} {r : Int} : CallOk 29 [KV (.string s), KV (.int .i64 (r))] (KPR (parseQ r s)) := by
 by_cases h : 2 ≤ r ∧ r ≤ 36
 ·by_cases hl : 20000 < s.size
  ·exact k_qparse_long h hl
  ·rcases cut_cases s with hi | ⟨i, hi, hs⟩
   ·exact k_qparse_no h hl hi
   ·exact k_qparse_yes h hl hi hs
 ·exact k_qparse_radix h
theorem ce_qtext : CE 27 := fun args W => by go_simp
set_option maxHeartbeats 3200000 in
set_option maxRecDepth 100000 in
theorem k_qtext_w {x : Rat} {r : Int} {m : Nat} (X : bq m x) (hm : m ≤ 50000) (h : 2 ≤ r ∧ r ≤ 36) (hd : x.den = 1) : CallOk 27 [KQ (x).num (((x).den : Int) - 1), KV (.int .i64 (r))] (K2 (KV (.string (txq r x))) (KV (.int .i64 0))) := by
 refine CallOk.enter (l := [.kw (KQ (x).num (((x).den : Int) - 1)), .vl (.int .i64 (r))]) 36 ce_qtext Tryz.func27 rfl Tryz.ntmps27 (by simp) ⟨(KQ.st _ _), rfl, (KV.st _), rfl, trivial⟩ fun w => ?_
 refine SC.seq (SC.region ?_)
 refine PW.box (x := .tmp 0) (r := .kw (KQ (x).num (((x).den : Int) - 1))) (BQ 38) rfl rfl rfl rfl rfl bQ rfl sh_Q ?_
 refine PW.assign rfl rfl rfl rfl rfl (PW.assign rfl rfl rfl rfl rfl (PW.nil (SX.then (SC.seq (SC.region ?_)))))
 refine PW.fld (r := .kw (KI ((x).num))) rfl rfl rfl rfl rfl rfl rfl rfl rfl rfl rfl fldQ0 (KI.st _) ?_
 refine PW.move rfl rfl rfl rfl rfl ?_
 refine PW.call (r := .kw (K2 (KV (.string (tstr r ((x).num)))) (KV (.int .i64 0)))) rfl rfl rfl rfl rfl rfl (K2.st (KV.st _) (KV.st _)) rfl (k_text ((X).1) (by omega) h) ?_
 refine PW.move rfl rfl rfl rfl rfl ?_
 refine PW.ext (r := .vl (.string (tstr r ((x).num)))) rfl rfl rfl rfl rfl ex20v (KV.st _) rfl ?_
 refine PW.ext (r := .vl (.int .i64 0)) rfl rfl rfl rfl rfl ex21v (KV.st _) rfl ?_
 refine PW.assign rfl rfl rfl rfl rfl (PW.assign rfl rfl rfl rfl rfl (PW.nil (SX.then (SC.seq (SC.seq (SC.region (PW.move rfl rfl rfl rfl rfl ?_)))))))
 refine PW.q2 (x := .tmp 16) (y := .const (.int .i64 0)) (.bool false) rfl rfl rfl rfl rfl (fun ρ W h1 h2 => by go_simp) ?_
 refine PW.move rfl rfl rfl rfl rfl ?_
 refine PW.load rfl rfl rfl rfl rfl rfl ?_
 refine PW.call (r := .vl (.bool true)) rfl rfl rfl rfl rfl rfl (KV.st _) rfl (callK k_rwhole (by rw [decide_eq_true hd]; rfl)) ?_
 refine PW.pick (t := false) rfl rfl rfl rfl rfl rfl ?_
 refine PW.nil (SX.then (SC.cond (t := true) rfl (SC.seq (SC.region (PW.move rfl rfl rfl rfl rfl (PW.move rfl rfl rfl rfl rfl (PW.assign rfl rfl rfl rfl rfl (PW.assign rfl rfl rfl rfl rfl (PW.nil ?_)))))))))
 refine SX.then (SC.ret (SX.thenR ?_))
 rw [txq_whole hd]
 exact SX.done2v (s := 4) (t := 5) (.inl rfl) rfl rfl rfl rfl
set_option maxHeartbeats 3200000 in
set_option maxRecDepth 100000 in
theorem k_qtext_f {x : Rat} {r : Int} {m : Nat} (X : bq m x) (hm : m ≤ 50000) (h : 2 ≤ r ∧ r ≤ 36) (hd : ¬ x.den = 1) : CallOk 27 [KQ (x).num (((x).den : Int) - 1), KV (.int .i64 (r))] (K2 (KV (.string (txq r x))) (KV (.int .i64 0))) := by
 refine CallOk.enter (l := [.kw (KQ (x).num (((x).den : Int) - 1)), .vl (.int .i64 (r))]) 36 ce_qtext Tryz.func27 rfl Tryz.ntmps27 (by simp) ⟨(KQ.st _ _), rfl, (KV.st _), rfl, trivial⟩ fun w => ?_
 refine SC.seq (SC.region ?_)
 refine PW.box (x := .tmp 0) (r := .kw (KQ (x).num (((x).den : Int) - 1))) (BQ 38) rfl rfl rfl rfl rfl bQ rfl sh_Q ?_
 refine PW.assign rfl rfl rfl rfl rfl (PW.assign rfl rfl rfl rfl rfl (PW.nil (SX.then (SC.seq (SC.region ?_)))))
 refine PW.fld (r := .kw (KI ((x).num))) rfl rfl rfl rfl rfl rfl rfl rfl rfl rfl rfl fldQ0 (KI.st _) ?_
 refine PW.move rfl rfl rfl rfl rfl ?_
 refine PW.call (r := .kw (K2 (KV (.string (tstr r ((x).num)))) (KV (.int .i64 0)))) rfl rfl rfl rfl rfl rfl (K2.st (KV.st _) (KV.st _)) rfl (k_text ((X).1) (by omega) h) ?_
 refine PW.move rfl rfl rfl rfl rfl ?_
 refine PW.ext (r := .vl (.string (tstr r ((x).num)))) rfl rfl rfl rfl rfl ex20v (KV.st _) rfl ?_
 refine PW.ext (r := .vl (.int .i64 0)) rfl rfl rfl rfl rfl ex21v (KV.st _) rfl ?_
 refine PW.assign rfl rfl rfl rfl rfl (PW.assign rfl rfl rfl rfl rfl (PW.nil (SX.then (SC.seq (SC.seq (SC.region (PW.move rfl rfl rfl rfl rfl ?_)))))))
 refine PW.q2 (x := .tmp 16) (y := .const (.int .i64 0)) (.bool false) rfl rfl rfl rfl rfl (fun ρ W h1 h2 => by go_simp) ?_
 refine PW.move rfl rfl rfl rfl rfl ?_
 refine PW.load rfl rfl rfl rfl rfl rfl ?_
 refine PW.call (r := .vl (.bool false)) rfl rfl rfl rfl rfl rfl (KV.st _) rfl (callK k_rwhole (by rw [decide_eq_false hd]; rfl)) ?_
 refine PW.pick (t := false) rfl rfl rfl rfl rfl rfl ?_
 refine PW.nil (SX.then (SC.cond (t := false) rfl (SC.skip (SX.then (SC.seq (SC.region ?_))))))
 refine PW.load rfl rfl rfl rfl rfl rfl ?_
 refine PW.call (r := .kw (KI ((x.den : Int)))) rfl rfl rfl rfl rfl rfl (KI.st _) rfl (k_rden X (by omega)) ?_
 refine PW.move rfl rfl rfl rfl rfl ?_
 refine PW.call (r := .kw (K2 (KV (.string (tstr r ((x.den : Int))))) (KV (.int .i64 0)))) rfl rfl rfl rfl rfl rfl (K2.st (KV.st _) (KV.st _)) rfl (k_text X.2 (by omega) h) ?_
 refine PW.move rfl rfl rfl rfl rfl ?_
 refine PW.ext (r := .vl (.string (tstr r ((x.den : Int))))) rfl rfl rfl rfl rfl ex20v (KV.st _) rfl ?_
 refine PW.ext (r := .vl (.int .i64 0)) rfl rfl rfl rfl rfl ex21v (KV.st _) rfl ?_
 refine PW.assign rfl rfl rfl rfl rfl (PW.assign rfl rfl rfl rfl rfl (PW.nil (SX.then (SC.seq (SC.region (PW.move rfl rfl rfl rfl rfl ?_))))))
 refine PW.q2 (x := .tmp 31) (y := .const (.string ⟨#[47]⟩)) (.string (tstr r x.num ++ ⟨#[47]⟩)) rfl rfl rfl rfl rfl (fun ρ W h1 h2 => by exact r_sadd h1 h2 (by have q1 := tstr_size (r := r) h.1 X.1; have q2 := tstr_size (r := r) h.1 X.2; simp only [ByteArray.size_append, bsz1]; omega)) ?_
 refine PW.move rfl rfl rfl rfl rfl ?_
 refine PW.q2 (x := .tmp 32) (y := .tmp 33) (.string (tstr r x.num ++ ⟨#[47]⟩ ++ tstr r (x.den : Int))) rfl rfl rfl rfl rfl (fun ρ W h1 h2 => by exact r_sadd h1 h2 (by have q1 := tstr_size (r := r) h.1 X.1; have q2 := tstr_size (r := r) h.1 X.2; simp only [ByteArray.size_append, bsz1]; omega)) ?_
 refine PW.move rfl rfl rfl rfl rfl (PW.assign rfl rfl rfl rfl rfl (PW.assign rfl rfl rfl rfl rfl (PW.nil (SX.then (SC.ret ?_)))))
 rw [txq_frac hd]
 exact SX.done2v (s := 4) (t := 5) (.inl rfl) rfl rfl rfl rfl
theorem k_qtext {x : Rat} {r : Int} {m : Nat} (X : bq m x) (hm : m ≤ 50000) (h : 2 ≤ r ∧ r ≤ 36) : CallOk 27 [KQ (x).num (((x).den : Int) - 1), KV (.int .i64 (r))] (K2 (KV (.string (txq r x))) (KV (.int .i64 0))) := by
 by_cases hd : x.den = 1
 ·exact k_qtext_w X hm h hd
 ·exact k_qtext_f X hm h hd
end Go.Proofs.YthpjmhhfcechmaaGreat.Sy
/- The awake of chapter 03, by rules. -/
namespace Go.Proofs.YthpjmhhfcechmaaGreat.Sy
open Go Go.RowKit Ma
theorem aw_b14 : bq 1 (Rat.divInt 6 4) := ⟨bd.lit (by decide +kernel), bd.lit (by decide +kernel)⟩
theorem aw_b23 : bq 1 (Rat.divInt 31 100) := ⟨bd.lit (by decide +kernel), bd.lit (by decide +kernel)⟩
theorem aw_b27 : bq 1 (Rat.divInt 32 100) := ⟨bd.lit (by decide +kernel), bd.lit (by decide +kernel)⟩
theorem aw_b33 : bq 1 (Rat.divInt 5 16) := ⟨bd.lit (by decide +kernel), bd.lit (by decide +kernel)⟩
theorem aw_p14 : parseQ 10 ⟨#[43, 48, 54, 47, 52]⟩ = .ok (Rat.divInt 6 4) := by kernel_rfl
theorem aw_p23 : parseQ 10 ⟨#[51, 49, 47, 49, 48, 48]⟩ = .ok (Rat.divInt 31 100) := by kernel_rfl
theorem aw_p27 : parseQ 10 ⟨#[51, 50, 47, 49, 48, 48]⟩ = .ok (Rat.divInt 32 100) := by kernel_rfl
theorem tstr_of {r x : Int} {s : ByteArray} (hr : 2 ≤ r) (h : Txt r x s) : tstr r x = s := (tstr_eq hr h).symm
theorem aw_t19 : txq 10 (Rat.divInt 6 4) = ⟨#[51, 47, 50]⟩ := by
 rw [txq_frac (by decide +kernel), show (Rat.divInt 6 4).num = 3 by decide +kernel, show (((Rat.divInt 6 4).den : Nat) : Int) = 2 by decide +kernel]
 rw [tstr_of (s := ⟨#[51]⟩) (by decide) ⟨[3], fun x hx => by simp at hx; omega, by rw [top_at (by decide)]; decide, by decide, by decide⟩, tstr_of (s := ⟨#[50]⟩) (by decide) ⟨[2], fun x hx => by simp at hx; omega, by rw [top_at (by decide)]; decide, by decide, by decide⟩]
 rfl
theorem aw_t38 : txq 10 (Rat.divInt 5 16) = ⟨#[53, 47, 49, 54]⟩ := by
 rw [txq_frac (by decide +kernel), show (Rat.divInt 5 16).num = 5 by decide +kernel, show (((Rat.divInt 5 16).den : Nat) : Int) = 16 by decide +kernel]
 rw [tstr_of (s := ⟨#[53]⟩) (by decide) ⟨[5], fun x hx => by simp at hx; omega, by rw [top_at (by decide)]; decide, by decide, by decide⟩, tstr_of (s := ⟨#[49, 54]⟩) (by decide) ⟨[6, 1], fun x hx => by simp at hx; omega, by rw [top_at (by decide)]; decide, by decide, by decide⟩]
 rfl
theorem aw_le : Rat.divInt 31 100 ≤ Rat.divInt 32 100 := by decide +kernel
theorem aw_pos : 0 < sgq (Rat.divInt 31 100) := by decide +kernel
theorem aw_hb : ∀ i, bd (1 + 1) (at0 [0, 3, 5] i) := fun i => bd.mono (k := 1) (bd.lit (by
 match i with
 | 0 => decide
 | 1 => decide
 | 2 => decide
 | n + 3 => exact (by decide : -4294967296 < (0 : Int) ∧ (0 : Int) < 4294967296))) (by decide)
theorem aw_c : ctrR [0, 3, 5] = .ok (Rat.divInt 5 16) := by kernel_rfl
theorem Smp.cast {x y : Rat} {l l' : List Int} (h : Smp x y l) (e : l = l') : Smp x y l' := e ▸ h
theorem aw_s : Smp (Rat.divInt 31 100) (Rat.divInt 32 100) [0, 3, 5] := by
 refine Smp.cast (Smp.step (by decide +kernel) (by decide +kernel) (Smp.step (by decide +kernel) (by decide +kernel) (Smp.next (by decide +kernel) (by decide +kernel)))) ?_
 decide +kernel
set_option maxHeartbeats 3200000 in
theorem k_awake3 : CallOk 13 [] (KV (.bool true)) := by
 refine CallOk.enter (l := []) 57 (fun args W => by go_simp) Tryz.func13 rfl Tryz.ntmps13 (by simp) trivial fun w => ?_
 refine SC.seq (SC.region (PW.assign rfl rfl rfl rfl rfl (PW.nil (SX.then (SC.seq (SC.region ?_))))))
 refine PW.call (r := .kw (K2 (KQ (Rat.divInt 6 4).num (((Rat.divInt 6 4).den : Int) - 1)) (KV (.int .i64 0)))) rfl rfl rfl rfl rfl rfl (K2.st (KQ.st _ _) (KV.st _)) rfl (callK k_qparse (by rw [aw_p14]; rfl)) ?_
 refine PW.move rfl rfl rfl rfl rfl ?_
 refine PW.ext (r := .kw (KQ (Rat.divInt 6 4).num (((Rat.divInt 6 4).den : Int) - 1))) rfl rfl rfl rfl rfl ex20 (KQ.st _ _) rfl ?_
 refine PW.ext (r := .vl (.int .i64 0)) rfl rfl rfl rfl rfl ex21v (KV.st _) rfl ?_
 refine PW.alloc (BQ 38) rfl rfl rfl rfl rfl bQ ?_
 refine PW.store (x := .tmp 15) (r := .kw (KQ (Rat.divInt 6 4).num (((Rat.divInt 6 4).den : Int) - 1))) rfl rfl rfl rfl rfl rfl sh_Q ?_
 refine PW.assign rfl rfl rfl rfl rfl (PW.nil (SX.then (SC.seq (SC.region ?_))))
 refine PW.load rfl rfl rfl rfl rfl rfl ?_
 refine PW.call (r := .kw (K2 (KV (.string ⟨#[51, 47, 50]⟩)) (KV (.int .i64 0)))) rfl rfl rfl rfl rfl rfl (K2.st (KV.st _) (KV.st _)) rfl (callK (k_qtext aw_b14 (by decide) (by decide)) (by rw [aw_t19]; rfl)) ?_
 refine PW.move rfl rfl rfl rfl rfl ?_
 refine PW.ext (r := .vl (.string ⟨#[51, 47, 50]⟩)) rfl rfl rfl rfl rfl ex20v (KV.st _) rfl ?_
 refine PW.ext (r := .vl (.int .i64 0)) rfl rfl rfl rfl rfl ex21v (KV.st _) rfl ?_
 refine PW.assign rfl rfl rfl rfl rfl (PW.assign rfl rfl rfl rfl rfl (PW.nil (SX.then (SC.seq (SC.region ?_)))))
 refine PW.call (r := .kw (K2 (KQ (Rat.divInt 31 100).num (((Rat.divInt 31 100).den : Int) - 1)) (KV (.int .i64 0)))) rfl rfl rfl rfl rfl rfl (K2.st (KQ.st _ _) (KV.st _)) rfl (callK k_qparse (by rw [aw_p23]; rfl)) ?_
 refine PW.move rfl rfl rfl rfl rfl ?_
 refine PW.ext (r := .kw (KQ (Rat.divInt 31 100).num (((Rat.divInt 31 100).den : Int) - 1))) rfl rfl rfl rfl rfl ex20 (KQ.st _ _) rfl ?_
 refine PW.ext (r := .vl (.int .i64 0)) rfl rfl rfl rfl rfl ex21v (KV.st _) rfl ?_
 refine PW.alloc (BQ 38) rfl rfl rfl rfl rfl bQ ?_
 refine PW.store (x := .tmp 24) (r := .kw (KQ (Rat.divInt 31 100).num (((Rat.divInt 31 100).den : Int) - 1))) rfl rfl rfl rfl rfl rfl sh_Q ?_
 refine PW.assign rfl rfl rfl rfl rfl (PW.nil (SX.then (SC.seq (SC.region ?_))))
 refine PW.call (r := .kw (K2 (KQ (Rat.divInt 32 100).num (((Rat.divInt 32 100).den : Int) - 1)) (KV (.int .i64 0)))) rfl rfl rfl rfl rfl rfl (K2.st (KQ.st _ _) (KV.st _)) rfl (callK k_qparse (by rw [aw_p27]; rfl)) ?_
 refine PW.move rfl rfl rfl rfl rfl ?_
 refine PW.ext (r := .kw (KQ (Rat.divInt 32 100).num (((Rat.divInt 32 100).den : Int) - 1))) rfl rfl rfl rfl rfl ex20 (KQ.st _ _) rfl ?_
 refine PW.ext (r := .vl (.int .i64 0)) rfl rfl rfl rfl rfl ex21v (KV.st _) rfl ?_
 refine PW.alloc (BQ 38) rfl rfl rfl rfl rfl bQ ?_
 refine PW.store (x := .tmp 28) (r := .kw (KQ (Rat.divInt 32 100).num (((Rat.divInt 32 100).den : Int) - 1))) rfl rfl rfl rfl rfl rfl sh_Q ?_
 refine PW.assign rfl rfl rfl rfl rfl (PW.nil (SX.then (SC.seq (SC.region ?_))))
 refine PW.load rfl rfl rfl rfl rfl rfl ?_
 refine PW.load rfl rfl rfl rfl rfl rfl ?_
 refine PW.call (r := .kw (K2 (KQ (Rat.divInt 5 16).num (((Rat.divInt 5 16).den : Int) - 1)) (KV (.int .i64 0)))) rfl rfl rfl rfl rfl rfl (K2.st (KQ.st _ _) (KV.st _)) rfl (k_Simplest_pos aw_b23 aw_b27 (by decide) aw_le aw_pos aw_hb (by decide) (by decide) aw_c aw_s) ?_
 refine PW.move rfl rfl rfl rfl rfl ?_
 refine PW.ext (r := .kw (KQ (Rat.divInt 5 16).num (((Rat.divInt 5 16).den : Int) - 1))) rfl rfl rfl rfl rfl ex20 (KQ.st _ _) rfl ?_
 refine PW.ext (r := .vl (.int .i64 0)) rfl rfl rfl rfl rfl ex21v (KV.st _) rfl ?_
 refine PW.alloc (BQ 38) rfl rfl rfl rfl rfl bQ ?_
 refine PW.store (x := .tmp 34) (r := .kw (KQ (Rat.divInt 5 16).num (((Rat.divInt 5 16).den : Int) - 1))) rfl rfl rfl rfl rfl rfl sh_Q ?_
 refine PW.assign rfl rfl rfl rfl rfl (PW.nil (SX.then (SC.seq (SC.region ?_))))
 refine PW.load rfl rfl rfl rfl rfl rfl ?_
 refine PW.call (r := .kw (K2 (KV (.string ⟨#[53, 47, 49, 54]⟩)) (KV (.int .i64 0)))) rfl rfl rfl rfl rfl rfl (K2.st (KV.st _) (KV.st _)) rfl (callK (k_qtext aw_b33 (by decide) (by decide)) (by rw [aw_t38]; rfl)) ?_
 refine PW.move rfl rfl rfl rfl rfl ?_
 refine PW.ext (r := .vl (.string ⟨#[53, 47, 49, 54]⟩)) rfl rfl rfl rfl rfl ex20v (KV.st _) rfl ?_
 refine PW.ext (r := .vl (.int .i64 0)) rfl rfl rfl rfl rfl ex21v (KV.st _) rfl ?_
 refine PW.assign rfl rfl rfl rfl rfl (PW.assign rfl rfl rfl rfl rfl (PW.nil (SX.then (SC.seq (SC.region (PW.move rfl rfl rfl rfl rfl (PW.move rfl rfl rfl rfl rfl (PW.move rfl rfl rfl rfl rfl ?_))))))))
 refine PW.move rfl rfl rfl rfl rfl (PW.move rfl rfl rfl rfl rfl (PW.move rfl rfl rfl rfl rfl ?_))
 refine PW.qn [(.tmp 41, .int .i64 0), (.tmp 42, .int .i64 0), (.tmp 43, .int .i64 0), (.tmp 44, .int .i64 0), (.tmp 45, .int .i64 0), (.tmp 46, .int .i64 0)] (.int .i64 0) rfl rfl rfl ⟨rfl, rfl, rfl, rfl, rfl, rfl, trivial⟩ (fun ρ W h => by obtain ⟨h1, h2, h3, h4, h5, h6, _⟩ := h; go_simp; kernel_rfl) ?_
 refine PW.q2 (x := .tmp 47) (y := .const (.int .i64 0)) (.bool true) rfl rfl rfl rfl rfl (fun ρ W h1 h2 => by go_simp) ?_
 refine PW.move rfl rfl rfl rfl rfl (PW.move rfl rfl rfl rfl rfl ?_)
 refine PW.q2 (x := .tmp 50) (y := .const (.string ⟨#[51, 47, 50]⟩)) (.bool true) rfl rfl rfl rfl rfl (fun ρ W h1 h2 => by exact r_seq h1 h2 (by simp)) ?_
 refine PW.pick (t := true) rfl rfl rfl rfl rfl rfl ?_
 refine PW.move rfl rfl rfl rfl rfl (PW.move rfl rfl rfl rfl rfl ?_)
 refine PW.q2 (x := .tmp 54) (y := .const (.string ⟨#[53, 47, 49, 54]⟩)) (.bool true) rfl rfl rfl rfl rfl (fun ρ W h1 h2 => by exact r_seq h1 h2 (by simp)) ?_
 refine PW.pick (t := true) rfl rfl rfl rfl rfl rfl ?_
 refine PW.assign rfl rfl rfl rfl rfl (PW.nil (SX.then (SC.ret ?_)))
 exact SX.done (s := 0) (r := .vl (.bool true)) rfl rfl rfl
end Go.Proofs.YthpjmhhfcechmaaGreat.Sy
/- The reference's fractions, by rules. -/
namespace Go.Proofs.YthpjmhhfcechmaaGreat.Sy
open Go Go.RowKit Ma
theorem cmp_den1 {x : Rat} : cmp (x.den : Int) 1 = 0 ↔ x.den = 1 := by unfold cmp; have := den_pos x; split <;> (try split) <;> omega
theorem k_jone : CallOk 81 [] (KJ 1) := by
 refine CallOk.enter (l := []) 2 (fun args W => by go_simp) Tryz.func81 rfl Tryz.ntmps81 (by simp) trivial fun w => ?_
 refine SC.seq (SC.region ?_)
 refine PW.alloc (BI 34) rfl rfl rfl rfl rfl bJ ?_
 refine PW.nil (SX.then (SC.seq (SC.region ?_)))
 refine PW.call (r := .kw (KJ (1))) rfl rfl rfl rfl rfl rfl (KJ.st _) rfl (k_jnew (by decide)) ?_
 refine PW.store (x := .tmp 1) (r := .kw (KJ (1))) rfl rfl rfl rfl rfl rfl sh_J ?_
 refine PW.nil (SX.then (SC.ret ?_))
 exact SX.doneC (s := 0) (.inl rfl) rfl rfl rfl
theorem ce_k_jrof : CE 20 := fun args W => by go_simp
set_option maxHeartbeats 3200000 in
set_option maxRecDepth 100000 in
theorem k_jrof {n : Int} : CallOk 20 [KJ (n)] (KR3 (((n : Int) : Rat)).num ((((n : Int) : Rat)).den : Int)) := by
 refine CallOk.enter (l := [.kw (KJ (n))]) 6 ce_k_jrof Tryz.func20 rfl Tryz.ntmps20 (by simp) ⟨(KJ.st _), rfl, trivial⟩ fun w => ?_
 refine SC.seq (SC.region ?_)
 refine PW.box (x := .tmp 0) (r := .kw (KJ (n))) (BI 34) rfl rfl rfl rfl rfl bJ rfl sh_J ?_
 refine PW.alloc (BQ 43) rfl rfl rfl rfl rfl bQJ ?_
 refine PW.nil (SX.then (SC.seq ?_))
 refine SC.dx [.val 3 (.kw (KJ (n))), .val 4 (.kw (KJ (1))), .val 5 (.kw (KR3 (n) (1))), .put 2 (BQ 43) (.kw (KR3 (n) (1)))] [([], [1]), ([], []), ([0, 1], []), ([2], [2])] rfl (by kernel_rfl) (by kernel_rfl) (by kernel_rfl) rfl ⟨?_, ?_, ?_, ?_, trivial⟩ ?_
 ·exact DX.load rfl rfl rfl rfl rfl rfl
 ·exact DX.call (r := .kw (KJ (1))) rfl rfl rfl rfl rfl rfl (KJ.st _) rfl (k_jone)
 ·exact DX.bldR (x := .tmp 3) (y := .tmp 4) (n := n) (e := 1) rfl rfl rfl rfl rfl (fun ρ W m m2 A A2 l c l2 c2 h1 h2 => r_bldR h1 h2)
 ·exact DX.store (x := .tmp 5) (r := .kw (KR3 (n) (1))) rfl rfl rfl rfl rfl rfl sh_R3
 refine SX.then (SC.ret ?_)
 rw [Rat.num_intCast, Rat.den_intCast]
 exact SX.doneC (s := 2) (.inl rfl) rfl rfl rfl
theorem ce_k_jrint : CE 77 := fun args W => by go_simp
set_option maxHeartbeats 3200000 in
set_option maxRecDepth 100000 in
theorem k_jrint {n : Int} (h : -4294967296 < n ∧ n < 4294967296) : CallOk 77 [KV (.int .i64 (n))] (KR3 (((n : Int) : Rat)).num ((((n : Int) : Rat)).den : Int)) := by
 refine CallOk.enter (l := [.vl (.int .i64 (n))]) 6 ce_k_jrint Tryz.func77 rfl Tryz.ntmps77 (by simp) ⟨(KV.st _), rfl, trivial⟩ fun w => ?_
 refine SC.seq (SC.region ?_)
 refine PW.alloc (BQ 43) rfl rfl rfl rfl rfl bQJ ?_
 refine PW.nil (SX.then (SC.seq (SC.region (PW.move rfl rfl rfl rfl rfl ?_))))
 refine PW.call (r := .kw (KJ (n))) rfl rfl rfl rfl rfl rfl (KJ.st _) rfl (k_jnew (by omega)) ?_
 refine PW.call (r := .kw (KR3 (((n : Int) : Rat)).num ((((n : Int) : Rat)).den : Int))) rfl rfl rfl rfl rfl rfl (KR3.st _ _) rfl (k_jrof) ?_
 refine PW.store (x := .tmp 5) (r := .kw (KR3 (((n : Int) : Rat)).num ((((n : Int) : Rat)).den : Int))) rfl rfl rfl rfl rfl rfl sh_R3 ?_
 refine PW.nil (SX.then (SC.ret ?_))
 exact SX.doneC (s := 2) (.inl rfl) rfl rfl rfl
theorem ce_k_jrnew : CE 16 := fun args W => by go_simp
set_option maxHeartbeats 3200000 in
set_option maxRecDepth 100000 in
theorem k_jrnew {n d : Int} {a b : Nat} (N : bd a n) (D : bd b d) (h0 : d ≠ 0) (ha : a ≤ 150000) (hb : b ≤ 150000) : CallOk 16 [KJ (n), KJ (d)] (K2 (KR3 (Rat.divInt (n) (d)).num ((Rat.divInt (n) (d)).den : Int)) (KV (.int .i64 0))) := by
 refine CallOk.enter (l := [.kw (KJ (n)), .kw (KJ (d))]) 38 ce_k_jrnew Tryz.func16 rfl Tryz.ntmps16 (by simp) ⟨(KJ.st _), rfl, (KJ.st _), rfl, trivial⟩ fun w => ?_
 refine SC.seq (SC.region ?_)
 refine PW.box (x := .tmp 0) (r := .kw (KJ (n))) (BI 34) rfl rfl rfl rfl rfl bJ rfl sh_J ?_
 refine PW.box (x := .tmp 1) (r := .kw (KJ (d))) (BI 34) rfl rfl rfl rfl rfl bJ rfl sh_J ?_
 refine PW.alloc (BQ 43) rfl rfl rfl rfl rfl bQJ ?_
 refine PW.assign rfl rfl rfl rfl rfl (PW.nil (SX.then (SC.seq (SC.seq (SC.region ?_)))))
 refine PW.load rfl rfl rfl rfl rfl rfl ?_
 refine PW.call (r := .vl (.int .i64 (sgn d))) rfl rfl rfl rfl rfl rfl (KV.st _) rfl (k_jsign rfl) ?_
 refine PW.q2 (x := .tmp 8) (y := .const (.int .i64 0)) (.bool false) rfl rfl rfl rfl rfl (fun ρ W h1 h2 => by exact r_eqF h1 h2 (fun h => h0 (sgn_eq0.1 h))) ?_
 refine PW.nil (SX.then (SC.cond (t := false) rfl (SC.skip (SX.then (SC.seq (SC.seq ?_))))))
 by_cases hd : sgn d < 0
 ·have hd2 : d < 0 := sgn_lt.1 hd
  refine SC.region ?_
  refine PW.load rfl rfl rfl rfl rfl rfl ?_
  refine PW.call (r := .vl (.int .i64 (sgn d))) rfl rfl rfl rfl rfl rfl (KV.st _) rfl (k_jsign rfl) ?_
  refine PW.q2 (x := .tmp 12) (y := .const (.int .i64 0)) (.bool true) rfl rfl rfl rfl rfl (fun ρ W h1 h2 => by exact r_lt h1 h2 (decide_eq_true hd)) ?_
  refine PW.nil (SX.then (SC.cond (t := true) rfl ?_))
  refine SC.dx [.val 14 (.kw (KJ (n))), .val 15 (.kw (KJ (-n))), .val 16 (.kw (KJ (d))), .val 17 (.kw (KJ (-d))), .put 2 (BI 34) (.kw (KJ (-n))), .put 3 (BI 34) (.kw (KJ (-d)))] [([], [2]), ([0], []), ([], [3]), ([2], []), ([1], [2]), ([3], [3])] rfl (by kernel_rfl) (by kernel_rfl) (by kernel_rfl) rfl ⟨?_, ?_, ?_, ?_, ?_, ?_, trivial⟩ ?_
  ·exact DX.load rfl rfl rfl rfl rfl rfl
  ·exact DX.call (r := .kw (KJ (-n))) rfl rfl rfl rfl rfl rfl (KJ.st _) rfl (k_jneg)
  ·exact DX.load rfl rfl rfl rfl rfl rfl
  ·exact DX.call (r := .kw (KJ (-d))) rfl rfl rfl rfl rfl rfl (KJ.st _) rfl (k_jneg)
  ·exact DX.store (x := .tmp 15) (r := .kw (KJ (-n))) rfl rfl rfl rfl rfl rfl sh_J
  ·exact DX.store (x := .tmp 17) (r := .kw (KJ (-d))) rfl rfl rfl rfl rfl rfl sh_J
  refine SX.then (SC.seq (SC.region ?_))
  refine PW.load rfl rfl rfl rfl rfl rfl ?_
  refine PW.load rfl rfl rfl rfl rfl rfl ?_
  refine PW.call (r := .kw (KJ ((Int.gcd (-n) (-d) : Int)))) rfl rfl rfl rfl rfl rfl (KJ.st _) rfl (k_jgcd N.neg D.neg (by omega) (by omega)) ?_
  refine PW.alloc (BI 34) rfl rfl rfl rfl rfl bJ ?_
  refine PW.store (x := .tmp 20) (r := .kw (KJ ((Int.gcd (-n) (-d) : Int)))) rfl rfl rfl rfl rfl rfl sh_J ?_
  refine PW.nil (SX.then (SC.seq (SC.region ?_)))
  refine PW.load rfl rfl rfl rfl rfl rfl ?_
  refine PW.load rfl rfl rfl rfl rfl rfl ?_
  refine PW.call (r := .kw (K3 (KJ ((-n).tdiv ((Int.gcd (-n) (-d) : Int)))) (KJ ((-n).tmod ((Int.gcd (-n) (-d) : Int)))) (KV (.int .i64 0)))) rfl rfl rfl rfl rfl rfl (K3.st (KJ.st _) (KJ.st _) (KV.st _)) rfl (k_jdiv N.neg (bd.gcd N.neg D.neg) (by omega) (by omega) ((Int.ne_of_gt (gcd_pos (by omega))))) ?_
  refine PW.move rfl rfl rfl rfl rfl ?_
  refine PW.ext (r := .kw (KJ ((-n).tdiv ((Int.gcd (-n) (-d) : Int))))) rfl rfl rfl rfl rfl ex30 (KJ.st _) rfl ?_
  refine PW.ext (r := .kw (KJ ((-n).tmod ((Int.gcd (-n) (-d) : Int))))) rfl rfl rfl rfl rfl ex31 (KJ.st _) rfl ?_
  refine PW.ext (r := .vl (.int .i64 0)) rfl rfl rfl rfl rfl ex32v (KV.st _) rfl ?_
  refine PW.store (x := .tmp 25) (r := .kw (KJ ((-n).tdiv ((Int.gcd (-n) (-d) : Int))))) rfl rfl rfl rfl rfl rfl sh_J ?_
  refine PW.nil (SX.then (SC.seq (SC.region ?_)))
  refine PW.load rfl rfl rfl rfl rfl rfl ?_
  refine PW.load rfl rfl rfl rfl rfl rfl ?_
  refine PW.call (r := .kw (K3 (KJ ((-d).tdiv ((Int.gcd (-n) (-d) : Int)))) (KJ ((-d).tmod ((Int.gcd (-n) (-d) : Int)))) (KV (.int .i64 0)))) rfl rfl rfl rfl rfl rfl (K3.st (KJ.st _) (KJ.st _) (KV.st _)) rfl (k_jdiv D.neg (bd.gcd N.neg D.neg) (by omega) (by omega) ((Int.ne_of_gt (gcd_pos (by omega))))) ?_
  refine PW.move rfl rfl rfl rfl rfl ?_
  refine PW.ext (r := .kw (KJ ((-d).tdiv ((Int.gcd (-n) (-d) : Int))))) rfl rfl rfl rfl rfl ex30 (KJ.st _) rfl ?_
  refine PW.ext (r := .kw (KJ ((-d).tmod ((Int.gcd (-n) (-d) : Int))))) rfl rfl rfl rfl rfl ex31 (KJ.st _) rfl ?_
  refine PW.ext (r := .vl (.int .i64 0)) rfl rfl rfl rfl rfl ex32v (KV.st _) rfl ?_
  refine PW.store (x := .tmp 32) (r := .kw (KJ ((-d).tdiv ((Int.gcd (-n) (-d) : Int))))) rfl rfl rfl rfl rfl rfl sh_J ?_
  refine PW.nil (SX.then (SC.seq (SC.region ?_)))
  refine PW.load rfl rfl rfl rfl rfl rfl ?_
  refine PW.load rfl rfl rfl rfl rfl rfl ?_
  refine PW.bldR (x := .tmp 35) (y := .tmp 36) (n := (-n).tdiv ((Int.gcd (-n) (-d) : Int))) (e := (-d).tdiv ((Int.gcd (-n) (-d) : Int))) rfl rfl rfl rfl rfl (fun ρ W m m2 A A2 l c l2 c2 h1 h2 => r_bldR h1 h2) ?_
  refine PW.store (x := .tmp 37) (r := .kw (KR3 ((-n).tdiv ((Int.gcd (-n) (-d) : Int))) ((-d).tdiv ((Int.gcd (-n) (-d) : Int))))) rfl rfl rfl rfl rfl rfl sh_R3 ?_
  refine PW.assign rfl rfl rfl rfl rfl (PW.nil (SX.then (SC.ret ?_)))
  have eg : Int.gcd (-n) (-d) = Int.gcd n d := by simp
  rw [num_over h0, den_over h0, if_pos hd2, if_pos hd2, ← eg]
  exact SX.done2 (s := 4) (t := 5) (r := .vl (.int .i64 0)) (.inl rfl) rfl rfl rfl rfl
 ·have hd2 : ¬ d < 0 := fun h => hd (sgn_lt.2 h)
  refine SC.region ?_
  refine PW.load rfl rfl rfl rfl rfl rfl ?_
  refine PW.call (r := .vl (.int .i64 (sgn d))) rfl rfl rfl rfl rfl rfl (KV.st _) rfl (k_jsign rfl) ?_
  refine PW.q2 (x := .tmp 12) (y := .const (.int .i64 0)) (.bool false) rfl rfl rfl rfl rfl (fun ρ W h1 h2 => by exact r_lt h1 h2 (decide_eq_false hd)) ?_
  refine PW.nil (SX.then (SC.cond (t := false) rfl (SC.skip (SX.then (SC.seq (SC.region ?_))))))
  refine PW.load rfl rfl rfl rfl rfl rfl ?_
  refine PW.load rfl rfl rfl rfl rfl rfl ?_
  refine PW.call (r := .kw (KJ ((Int.gcd n d : Int)))) rfl rfl rfl rfl rfl rfl (KJ.st _) rfl (k_jgcd N D (by omega) (by omega)) ?_
  refine PW.alloc (BI 34) rfl rfl rfl rfl rfl bJ ?_
  refine PW.store (x := .tmp 20) (r := .kw (KJ ((Int.gcd n d : Int)))) rfl rfl rfl rfl rfl rfl sh_J ?_
  refine PW.nil (SX.then (SC.seq (SC.region ?_)))
  refine PW.load rfl rfl rfl rfl rfl rfl ?_
  refine PW.load rfl rfl rfl rfl rfl rfl ?_
  refine PW.call (r := .kw (K3 (KJ ((n).tdiv ((Int.gcd n d : Int)))) (KJ ((n).tmod ((Int.gcd n d : Int)))) (KV (.int .i64 0)))) rfl rfl rfl rfl rfl rfl (K3.st (KJ.st _) (KJ.st _) (KV.st _)) rfl (k_jdiv N (bd.gcd N D) (by omega) (by omega) ((Int.ne_of_gt (gcd_pos (by omega))))) ?_
  refine PW.move rfl rfl rfl rfl rfl ?_
  refine PW.ext (r := .kw (KJ ((n).tdiv ((Int.gcd n d : Int))))) rfl rfl rfl rfl rfl ex30 (KJ.st _) rfl ?_
  refine PW.ext (r := .kw (KJ ((n).tmod ((Int.gcd n d : Int))))) rfl rfl rfl rfl rfl ex31 (KJ.st _) rfl ?_
  refine PW.ext (r := .vl (.int .i64 0)) rfl rfl rfl rfl rfl ex32v (KV.st _) rfl ?_
  refine PW.store (x := .tmp 25) (r := .kw (KJ ((n).tdiv ((Int.gcd n d : Int))))) rfl rfl rfl rfl rfl rfl sh_J ?_
  refine PW.nil (SX.then (SC.seq (SC.region ?_)))
  refine PW.load rfl rfl rfl rfl rfl rfl ?_
  refine PW.load rfl rfl rfl rfl rfl rfl ?_
  refine PW.call (r := .kw (K3 (KJ ((d).tdiv ((Int.gcd n d : Int)))) (KJ ((d).tmod ((Int.gcd n d : Int)))) (KV (.int .i64 0)))) rfl rfl rfl rfl rfl rfl (K3.st (KJ.st _) (KJ.st _) (KV.st _)) rfl (k_jdiv D (bd.gcd N D) (by omega) (by omega) ((Int.ne_of_gt (gcd_pos (by omega))))) ?_
  refine PW.move rfl rfl rfl rfl rfl ?_
  refine PW.ext (r := .kw (KJ ((d).tdiv ((Int.gcd n d : Int))))) rfl rfl rfl rfl rfl ex30 (KJ.st _) rfl ?_
  refine PW.ext (r := .kw (KJ ((d).tmod ((Int.gcd n d : Int))))) rfl rfl rfl rfl rfl ex31 (KJ.st _) rfl ?_
  refine PW.ext (r := .vl (.int .i64 0)) rfl rfl rfl rfl rfl ex32v (KV.st _) rfl ?_
  refine PW.store (x := .tmp 32) (r := .kw (KJ ((d).tdiv ((Int.gcd n d : Int))))) rfl rfl rfl rfl rfl rfl sh_J ?_
  refine PW.nil (SX.then (SC.seq (SC.region ?_)))
  refine PW.load rfl rfl rfl rfl rfl rfl ?_
  refine PW.load rfl rfl rfl rfl rfl rfl ?_
  refine PW.bldR (x := .tmp 35) (y := .tmp 36) (n := (n).tdiv ((Int.gcd n d : Int))) (e := (d).tdiv ((Int.gcd n d : Int))) rfl rfl rfl rfl rfl (fun ρ W m m2 A A2 l c l2 c2 h1 h2 => r_bldR h1 h2) ?_
  refine PW.store (x := .tmp 37) (r := .kw (KR3 ((n).tdiv ((Int.gcd n d : Int))) ((d).tdiv ((Int.gcd n d : Int))))) rfl rfl rfl rfl rfl rfl sh_R3 ?_
  refine PW.assign rfl rfl rfl rfl rfl (PW.nil (SX.then (SC.ret ?_)))
  rw [num_over h0, den_over h0, if_neg hd2, if_neg hd2]
  exact SX.done2 (s := 4) (t := 5) (r := .vl (.int .i64 0)) (.inl rfl) rfl rfl rfl rfl
theorem ce_k_jover : CE 110 := fun args W => by go_simp
set_option maxHeartbeats 3200000 in
set_option maxRecDepth 100000 in
theorem k_jover {n d : Int} {a b : Nat} (N : bd a n) (D : bd b d) (h0 : d ≠ 0) (ha : a ≤ 150000) (hb : b ≤ 150000) : CallOk 110 [KJ (n), KJ (d)] (KR3 (Rat.divInt (n) (d)).num ((Rat.divInt (n) (d)).den : Int)) := by
 refine CallOk.enter (l := [.kw (KJ (n)), .kw (KJ (d))]) 14 ce_k_jover Tryz.func110 rfl Tryz.ntmps110 (by simp) ⟨(KJ.st _), rfl, (KJ.st _), rfl, trivial⟩ fun w => ?_
 refine SC.seq (SC.region ?_)
 refine PW.box (x := .tmp 0) (r := .kw (KJ (n))) (BI 34) rfl rfl rfl rfl rfl bJ rfl sh_J ?_
 refine PW.box (x := .tmp 1) (r := .kw (KJ (d))) (BI 34) rfl rfl rfl rfl rfl bJ rfl sh_J ?_
 refine PW.alloc (BQ 43) rfl rfl rfl rfl rfl bQJ ?_
 refine PW.nil (SX.then (SC.seq (SC.region ?_)))
 refine PW.load rfl rfl rfl rfl rfl rfl ?_
 refine PW.load rfl rfl rfl rfl rfl rfl ?_
 refine PW.call (r := .kw (K2 (KR3 (Rat.divInt (n) (d)).num ((Rat.divInt (n) (d)).den : Int)) (KV (.int .i64 0)))) rfl rfl rfl rfl rfl rfl (K2.st (KR3.st _ _) (KV.st _)) rfl (k_jrnew N D h0 ha hb) ?_
 refine PW.move rfl rfl rfl rfl rfl ?_
 refine PW.ext (r := .kw (KR3 (Rat.divInt (n) (d)).num ((Rat.divInt (n) (d)).den : Int))) rfl rfl rfl rfl rfl ex20 (KR3.st _ _) rfl ?_
 refine PW.ext (r := .vl (.int .i64 0)) rfl rfl rfl rfl rfl ex21v (KV.st _) rfl ?_
 refine PW.alloc (BQ 43) rfl rfl rfl rfl rfl bQJ ?_
 refine PW.store (x := .tmp 11) (r := .kw (KR3 (Rat.divInt (n) (d)).num ((Rat.divInt (n) (d)).den : Int))) rfl rfl rfl rfl rfl rfl sh_R3 ?_
 refine PW.assign rfl rfl rfl rfl rfl (PW.nil (SX.then (SC.seq (SC.region ?_))))
 refine PW.load rfl rfl rfl rfl rfl rfl ?_
 refine PW.store (x := .tmp 13) (r := .kw (KR3 (Rat.divInt (n) (d)).num ((Rat.divInt (n) (d)).den : Int))) rfl rfl rfl rfl rfl rfl sh_R3 ?_
 refine PW.nil (SX.then (SC.ret ?_))
 exact SX.doneC (s := 4) (.inl rfl) rfl rfl rfl
theorem ce_k_jrwhole : CE 22 := fun args W => by go_simp
set_option maxHeartbeats 3200000 in
set_option maxRecDepth 100000 in
theorem k_jrwhole {x : Rat} {a : Nat} (X : bq a x) (ha : a ≤ 50000) : CallOk 22 [KR3 (x).num ((x).den : Int)] (KV (.bool (decide (x.den = 1)))) := by
 refine CallOk.enter (l := [.kw (KR3 (x).num ((x).den : Int))]) 8 ce_k_jrwhole Tryz.func22 rfl Tryz.ntmps22 (by simp) ⟨(KR3.st _ _), rfl, trivial⟩ fun w => ?_
 refine SC.seq (SC.region ?_)
 refine PW.box (x := .tmp 0) (r := .kw (KR3 (x).num ((x).den : Int))) (BQ 43) rfl rfl rfl rfl rfl bQJ rfl sh_R3 ?_
 refine PW.assign rfl rfl rfl rfl rfl (PW.nil (SX.then (SC.seq ?_)))
 by_cases hw : x.den = 1
 ·refine SC.fix (s := 1) rfl fun p1 => ?_
  refine SC.dx [.val 3 (.vl (.pointer (some ⟨p1, 2, none⟩))), .val 4 (.kw (KJ (((x).den : Int)))), .val 5 (.kw (KJ (1))), .val 6 (.vl (.int .i64 (cmp (((x).den : Int)) 1))), .val 7 (.vl (.bool true)), .val 2 (.vl (.bool true))] [([], [1]), ([0], [1]), ([], []), ([1, 2], []), ([3], []), ([4], [])] rfl (by kernel_rfl) (by kernel_rfl) (by kernel_rfl) rfl ⟨?_, ?_, ?_, ?_, ?_, ?_, trivial⟩ ?_
  ·exact DX.fa ⟨p1, 2, none⟩ rfl rfl rfl rfl rfl faR1
  ·exact DX.fl (s := 1) (r := .kw (KJ (((x).den : Int)))) rfl rfl rfl rfl rfl rfl rfl (KJ.st _) flR1
  ·exact DX.call (r := .kw (KJ (1))) rfl rfl rfl rfl rfl rfl (KJ.st _) rfl (k_jone)
  ·exact DX.call (r := .vl (.int .i64 (cmp (((x).den : Int)) 1))) rfl rfl rfl rfl rfl rfl (KV.st _) rfl (k_jcmp ((X).2) bd.one (by omega) (by omega) rfl)
  ·exact DX.q2 (x := .tmp 6) (y := .const (.int .i64 0)) (.bool true) rfl rfl rfl rfl rfl (fun ρ W h1 h2 => by exact r_eqT h1 h2 (cmp_den1.2 hw))
  ·exact DX.assign rfl rfl rfl rfl rfl rfl
  refine SX.unfix (s := 1) rfl ?_
  refine SX.then (SC.ret ?_)
  rw [decide_eq_true hw]
  exact SX.done (s := 2) (r := .vl (.bool true)) rfl rfl rfl
 ·refine SC.fix (s := 1) rfl fun p1 => ?_
  refine SC.dx [.val 3 (.vl (.pointer (some ⟨p1, 2, none⟩))), .val 4 (.kw (KJ (((x).den : Int)))), .val 5 (.kw (KJ (1))), .val 6 (.vl (.int .i64 (cmp (((x).den : Int)) 1))), .val 7 (.vl (.bool false)), .val 2 (.vl (.bool false))] [([], [1]), ([0], [1]), ([], []), ([1, 2], []), ([3], []), ([4], [])] rfl (by kernel_rfl) (by kernel_rfl) (by kernel_rfl) rfl ⟨?_, ?_, ?_, ?_, ?_, ?_, trivial⟩ ?_
  ·exact DX.fa ⟨p1, 2, none⟩ rfl rfl rfl rfl rfl faR1
  ·exact DX.fl (s := 1) (r := .kw (KJ (((x).den : Int)))) rfl rfl rfl rfl rfl rfl rfl (KJ.st _) flR1
  ·exact DX.call (r := .kw (KJ (1))) rfl rfl rfl rfl rfl rfl (KJ.st _) rfl (k_jone)
  ·exact DX.call (r := .vl (.int .i64 (cmp (((x).den : Int)) 1))) rfl rfl rfl rfl rfl rfl (KV.st _) rfl (k_jcmp ((X).2) bd.one (by omega) (by omega) rfl)
  ·exact DX.q2 (x := .tmp 6) (y := .const (.int .i64 0)) (.bool false) rfl rfl rfl rfl rfl (fun ρ W h1 h2 => by exact r_eqF h1 h2 (fun h => hw (cmp_den1.1 h)))
  ·exact DX.assign rfl rfl rfl rfl rfl rfl
  refine SX.unfix (s := 1) rfl ?_
  refine SX.then (SC.ret ?_)
  rw [decide_eq_false hw]
  exact SX.done (s := 2) (r := .vl (.bool false)) rfl rfl rfl
theorem ce_k_jrsign : CE 24 := fun args W => by go_simp
set_option maxHeartbeats 3200000 in
set_option maxRecDepth 100000 in
theorem k_jrsign {x : Rat} : CallOk 24 [KR3 (x).num ((x).den : Int)] (KV (.int .i64 (sgq x))) := by
 refine CallOk.enter (l := [.kw (KR3 (x).num ((x).den : Int))]) 6 ce_k_jrsign Tryz.func24 rfl Tryz.ntmps24 (by simp) ⟨(KR3.st _ _), rfl, trivial⟩ fun w => ?_
 refine SC.seq (SC.region ?_)
 refine PW.box (x := .tmp 0) (r := .kw (KR3 (x).num ((x).den : Int))) (BQ 43) rfl rfl rfl rfl rfl bQJ rfl sh_R3 ?_
 refine PW.assign rfl rfl rfl rfl rfl (PW.nil (SX.then (SC.seq (SC.region ?_))))
 refine PW.fld (r := .kw (KJ ((x).num))) rfl rfl rfl rfl rfl rfl rfl rfl rfl rfl rfl fldR0 (KJ.st _) ?_
 refine PW.call (r := .vl (.int .i64 (sgn ((x).num)))) rfl rfl rfl rfl rfl rfl (KV.st _) rfl (k_jsign rfl) ?_
 refine PW.assign rfl rfl rfl rfl rfl (PW.nil (SX.then (SC.ret ?_)))
 exact SX.done (s := 2) (r := .vl (.int .i64 (sgn ((x).num)))) rfl rfl rfl
theorem ce_k_jrneg : CE 64 := fun args W => by go_simp
set_option maxHeartbeats 3200000 in
set_option maxRecDepth 100000 in
theorem k_jrneg {x : Rat} : CallOk 64 [KR3 (x).num ((x).den : Int)] (KR3 (-x).num ((-x).den : Int)) := by
 refine CallOk.enter (l := [.kw (KR3 (x).num ((x).den : Int))]) 9 ce_k_jrneg Tryz.func64 rfl Tryz.ntmps64 (by simp) ⟨(KR3.st _ _), rfl, trivial⟩ fun w => ?_
 refine SC.seq (SC.region ?_)
 refine PW.box (x := .tmp 0) (r := .kw (KR3 (x).num ((x).den : Int))) (BQ 43) rfl rfl rfl rfl rfl bQJ rfl sh_R3 ?_
 refine PW.alloc (BQ 43) rfl rfl rfl rfl rfl bQJ ?_
 refine PW.nil (SX.then (SC.seq ?_))
 refine SC.fix (s := 1) rfl fun p1 => ?_
 refine SC.dx [.val 3 (.vl (.pointer (some ⟨p1, 0, none⟩))), .val 4 (.kw (KJ ((x).num))), .val 5 (.kw (KJ (-((x).num)))), .val 6 (.vl (.pointer (some ⟨p1, 2, none⟩))), .val 7 (.kw (KJ (((x).den : Int)))), .val 8 (.kw (KR3 (-((x).num)) (((x).den : Int)))), .put 2 (BQ 43) (.kw (KR3 (-((x).num)) (((x).den : Int))))] [([], [1]), ([0], [1]), ([1], []), ([], [1]), ([3], [1]), ([2, 4], []), ([5], [2])] rfl (by kernel_rfl) (by kernel_rfl) (by kernel_rfl) rfl ⟨?_, ?_, ?_, ?_, ?_, ?_, ?_, trivial⟩ ?_
 ·exact DX.fa ⟨p1, 0, none⟩ rfl rfl rfl rfl rfl faR0
 ·exact DX.fl (s := 1) (r := .kw (KJ ((x).num))) rfl rfl rfl rfl rfl rfl rfl (KJ.st _) flR0
 ·exact DX.call (r := .kw (KJ (-((x).num)))) rfl rfl rfl rfl rfl rfl (KJ.st _) rfl (k_jneg)
 ·exact DX.fa ⟨p1, 2, none⟩ rfl rfl rfl rfl rfl faR1
 ·exact DX.fl (s := 1) (r := .kw (KJ (((x).den : Int)))) rfl rfl rfl rfl rfl rfl rfl (KJ.st _) flR1
 ·exact DX.bldR (x := .tmp 5) (y := .tmp 7) (n := -((x).num)) (e := ((x).den : Int)) rfl rfl rfl rfl rfl (fun ρ W m m2 A A2 l c l2 c2 h1 h2 => r_bldR h1 h2)
 ·exact DX.store (x := .tmp 8) (r := .kw (KR3 (-((x).num)) (((x).den : Int)))) rfl rfl rfl rfl rfl rfl sh_R3
 refine SX.unfix (s := 1) rfl ?_
 refine SX.then (SC.ret ?_)
 rw [Rat.neg_num, Rat.neg_den]
 exact SX.doneC (s := 2) (.inl rfl) rfl rfl rfl
theorem ce_k_jradd : CE 66 := fun args W => by go_simp
set_option maxHeartbeats 3200000 in
set_option maxRecDepth 100000 in
theorem k_jradd {x y : Rat} {a b : Nat} (X : bq a x) (Y : bq b y) (ha : a ≤ 50000) (hb : b ≤ 50000) : CallOk 66 [KR3 (x).num ((x).den : Int), KR3 (y).num ((y).den : Int)] (KR3 (x + y).num ((x + y).den : Int)) := by
 refine CallOk.enter (l := [.kw (KR3 (x).num ((x).den : Int)), .kw (KR3 (y).num ((y).den : Int))]) 22 ce_k_jradd Tryz.func66 rfl Tryz.ntmps66 (by simp) ⟨(KR3.st _ _), rfl, (KR3.st _ _), rfl, trivial⟩ fun w => ?_
 refine SC.seq (SC.region ?_)
 refine PW.box (x := .tmp 0) (r := .kw (KR3 (x).num ((x).den : Int))) (BQ 43) rfl rfl rfl rfl rfl bQJ rfl sh_R3 ?_
 refine PW.box (x := .tmp 1) (r := .kw (KR3 (y).num ((y).den : Int))) (BQ 43) rfl rfl rfl rfl rfl bQJ rfl sh_R3 ?_
 refine PW.alloc (BQ 43) rfl rfl rfl rfl rfl bQJ ?_
 refine PW.nil (SX.then (SC.seq ?_))
 refine SC.fix (s := 2) rfl fun p2 => ?_
 refine SC.fix (s := 3) rfl fun p3 => ?_
 refine SC.dx [.val 5 (.vl (.pointer (some ⟨p2, 0, none⟩))), .val 6 (.kw (KJ ((x).num))), .val 7 (.vl (.pointer (some ⟨p3, 2, none⟩))), .val 8 (.kw (KJ (((y).den : Int)))), .val 9 (.kw (KJ (((x).num) * (((y).den : Int))))), .val 10 (.vl (.pointer (some ⟨p3, 0, none⟩))), .val 11 (.kw (KJ ((y).num))), .val 12 (.vl (.pointer (some ⟨p2, 2, none⟩))), .val 13 (.kw (KJ (((x).den : Int)))), .val 14 (.kw (KJ (((y).num) * (((x).den : Int))))), .val 15 (.kw (KJ ((((x).num) * (((y).den : Int))) + (((y).num) * (((x).den : Int)))))), .val 16 (.vl (.pointer (some ⟨p2, 2, none⟩))), .val 17 (.kw (KJ (((x).den : Int)))), .val 18 (.vl (.pointer (some ⟨p3, 2, none⟩))), .val 19 (.kw (KJ (((y).den : Int)))), .val 20 (.kw (KJ ((((x).den : Int)) * (((y).den : Int))))), .val 21 (.kw (KR3 (Rat.divInt ((((x).num) * (((y).den : Int))) + (((y).num) * (((x).den : Int)))) ((((x).den : Int)) * (((y).den : Int)))).num ((Rat.divInt ((((x).num) * (((y).den : Int))) + (((y).num) * (((x).den : Int)))) ((((x).den : Int)) * (((y).den : Int)))).den : Int))), .put 4 (BQ 43) (.kw (KR3 (Rat.divInt ((((x).num) * (((y).den : Int))) + (((y).num) * (((x).den : Int)))) ((((x).den : Int)) * (((y).den : Int)))).num ((Rat.divInt ((((x).num) * (((y).den : Int))) + (((y).num) * (((x).den : Int)))) ((((x).den : Int)) * (((y).den : Int)))).den : Int)))] [([], [2]), ([0], [2]), ([], [3]), ([2], [3]), ([1, 3], []), ([], [3]), ([5], [3]), ([], [2]), ([7], [2]), ([6, 8], []), ([4, 9], []), ([], [2]), ([11], [2]), ([], [3]), ([13], [3]), ([12, 14], []), ([10, 15], []), ([16], [4])] rfl (by kernel_rfl) (by kernel_rfl) (by kernel_rfl) rfl ⟨?_, ?_, ?_, ?_, ?_, ?_, ?_, ?_, ?_, ?_, ?_, ?_, ?_, ?_, ?_, ?_, ?_, ?_, trivial⟩ ?_
 ·exact DX.fa ⟨p2, 0, none⟩ rfl rfl rfl rfl rfl faR0
 ·exact DX.fl (s := 2) (r := .kw (KJ ((x).num))) rfl rfl rfl rfl rfl rfl rfl (KJ.st _) flR0
 ·exact DX.fa ⟨p3, 2, none⟩ rfl rfl rfl rfl rfl faR1
 ·exact DX.fl (s := 3) (r := .kw (KJ (((y).den : Int)))) rfl rfl rfl rfl rfl rfl rfl (KJ.st _) flR1
 ·exact DX.call (r := .kw (KJ (((x).num) * (((y).den : Int))))) rfl rfl rfl rfl rfl rfl (KJ.st _) rfl (k_jmul ((X).1) ((Y).2) (by omega) (by omega))
 ·exact DX.fa ⟨p3, 0, none⟩ rfl rfl rfl rfl rfl faR0
 ·exact DX.fl (s := 3) (r := .kw (KJ ((y).num))) rfl rfl rfl rfl rfl rfl rfl (KJ.st _) flR0
 ·exact DX.fa ⟨p2, 2, none⟩ rfl rfl rfl rfl rfl faR1
 ·exact DX.fl (s := 2) (r := .kw (KJ (((x).den : Int)))) rfl rfl rfl rfl rfl rfl rfl (KJ.st _) flR1
 ·exact DX.call (r := .kw (KJ (((y).num) * (((x).den : Int))))) rfl rfl rfl rfl rfl rfl (KJ.st _) rfl (k_jmul ((Y).1) ((X).2) (by omega) (by omega))
 ·exact DX.call (r := .kw (KJ ((((x).num) * (((y).den : Int))) + (((y).num) * (((x).den : Int)))))) rfl rfl rfl rfl rfl rfl (KJ.st _) rfl (k_jadd (((X).1).mul ((Y).2)) (((Y).1).mul ((X).2)) (by omega) (by omega))
 ·exact DX.fa ⟨p2, 2, none⟩ rfl rfl rfl rfl rfl faR1
 ·exact DX.fl (s := 2) (r := .kw (KJ (((x).den : Int)))) rfl rfl rfl rfl rfl rfl rfl (KJ.st _) flR1
 ·exact DX.fa ⟨p3, 2, none⟩ rfl rfl rfl rfl rfl faR1
 ·exact DX.fl (s := 3) (r := .kw (KJ (((y).den : Int)))) rfl rfl rfl rfl rfl rfl rfl (KJ.st _) flR1
 ·exact DX.call (r := .kw (KJ ((((x).den : Int)) * (((y).den : Int))))) rfl rfl rfl rfl rfl rfl (KJ.st _) rfl (k_jmul ((X).2) ((Y).2) (by omega) (by omega))
 ·exact DX.call (r := .kw (KR3 (Rat.divInt ((((x).num) * (((y).den : Int))) + (((y).num) * (((x).den : Int)))) ((((x).den : Int)) * (((y).den : Int)))).num ((Rat.divInt ((((x).num) * (((y).den : Int))) + (((y).num) * (((x).den : Int)))) ((((x).den : Int)) * (((y).den : Int)))).den : Int))) rfl rfl rfl rfl rfl rfl (KR3.st _ _) rfl (k_jover ((((X).1).mul ((Y).2)).add (((Y).1).mul ((X).2))) (((X).2).mul ((Y).2)) (den_mul_ne x y) (by omega) (by omega))
 ·exact DX.store (x := .tmp 21) (r := .kw (KR3 (Rat.divInt ((((x).num) * (((y).den : Int))) + (((y).num) * (((x).den : Int)))) ((((x).den : Int)) * (((y).den : Int)))).num ((Rat.divInt ((((x).num) * (((y).den : Int))) + (((y).num) * (((x).den : Int)))) ((((x).den : Int)) * (((y).den : Int)))).den : Int))) rfl rfl rfl rfl rfl rfl sh_R3
 refine SX.unfix (s := 2) rfl ?_
 refine SX.unfix (s := 3) rfl ?_
 refine SX.then (SC.ret ?_)
 rw [add_over]
 exact SX.doneC (s := 4) (.inl rfl) rfl rfl rfl
theorem ce_k_jrsub : CE 67 := fun args W => by go_simp
set_option maxHeartbeats 3200000 in
set_option maxRecDepth 100000 in
theorem k_jrsub {x y : Rat} {a b : Nat} (X : bq a x) (Y : bq b y) (ha : a ≤ 50000) (hb : b ≤ 50000) : CallOk 67 [KR3 (x).num ((x).den : Int), KR3 (y).num ((y).den : Int)] (KR3 (x - y).num ((x - y).den : Int)) := by
 refine CallOk.enter (l := [.kw (KR3 (x).num ((x).den : Int)), .kw (KR3 (y).num ((y).den : Int))]) 9 ce_k_jrsub Tryz.func67 rfl Tryz.ntmps67 (by simp) ⟨(KR3.st _ _), rfl, (KR3.st _ _), rfl, trivial⟩ fun w => ?_
 refine SC.seq (SC.region ?_)
 refine PW.box (x := .tmp 0) (r := .kw (KR3 (x).num ((x).den : Int))) (BQ 43) rfl rfl rfl rfl rfl bQJ rfl sh_R3 ?_
 refine PW.box (x := .tmp 1) (r := .kw (KR3 (y).num ((y).den : Int))) (BQ 43) rfl rfl rfl rfl rfl bQJ rfl sh_R3 ?_
 refine PW.alloc (BQ 43) rfl rfl rfl rfl rfl bQJ ?_
 refine PW.nil (SX.then (SC.seq ?_))
 refine SC.dx [.val 5 (.kw (KR3 (x).num ((x).den : Int))), .val 6 (.kw (KR3 (y).num ((y).den : Int))), .val 7 (.kw (KR3 (-y).num ((-y).den : Int))), .val 8 (.kw (KR3 (x + (-y)).num ((x + (-y)).den : Int))), .put 4 (BQ 43) (.kw (KR3 (x + (-y)).num ((x + (-y)).den : Int)))] [([], [2]), ([], [3]), ([1], []), ([0, 2], []), ([3], [4])] rfl (by kernel_rfl) (by kernel_rfl) (by kernel_rfl) rfl ⟨?_, ?_, ?_, ?_, ?_, trivial⟩ ?_
 ·exact DX.load rfl rfl rfl rfl rfl rfl
 ·exact DX.load rfl rfl rfl rfl rfl rfl
 ·exact DX.call (r := .kw (KR3 (-y).num ((-y).den : Int))) rfl rfl rfl rfl rfl rfl (KR3.st _ _) rfl (k_jrneg)
 ·exact DX.call (r := .kw (KR3 (x + (-y)).num ((x + (-y)).den : Int))) rfl rfl rfl rfl rfl rfl (KR3.st _ _) rfl (k_jradd X Y.neg (by omega) (by omega))
 ·exact DX.store (x := .tmp 8) (r := .kw (KR3 (x + (-y)).num ((x + (-y)).den : Int))) rfl rfl rfl rfl rfl rfl sh_R3
 refine SX.then (SC.ret ?_)
 rw [Rat.sub_eq_add_neg]
 exact SX.doneC (s := 4) (.inl rfl) rfl rfl rfl
theorem ce_k_jrcmp : CE 26 := fun args W => by go_simp
set_option maxHeartbeats 3200000 in
set_option maxRecDepth 100000 in
theorem k_jrcmp {x y : Rat} {a b : Nat} (X : bq a x) (Y : bq b y) (ha : a ≤ 50000) (hb : b ≤ 50000) : CallOk 26 [KR3 (x).num ((x).den : Int), KR3 (y).num ((y).den : Int)] (KV (.int .i64 (cmpq x y))) := by
 refine CallOk.enter (l := [.kw (KR3 (x).num ((x).den : Int)), .kw (KR3 (y).num ((y).den : Int))]) 9 ce_k_jrcmp Tryz.func26 rfl Tryz.ntmps26 (by simp) ⟨(KR3.st _ _), rfl, (KR3.st _ _), rfl, trivial⟩ fun w => ?_
 refine SC.seq (SC.region ?_)
 refine PW.box (x := .tmp 0) (r := .kw (KR3 (x).num ((x).den : Int))) (BQ 43) rfl rfl rfl rfl rfl bQJ rfl sh_R3 ?_
 refine PW.box (x := .tmp 1) (r := .kw (KR3 (y).num ((y).den : Int))) (BQ 43) rfl rfl rfl rfl rfl bQJ rfl sh_R3 ?_
 refine PW.assign rfl rfl rfl rfl rfl (PW.nil (SX.then (SC.seq (SC.region ?_))))
 refine PW.load rfl rfl rfl rfl rfl rfl ?_
 refine PW.load rfl rfl rfl rfl rfl rfl ?_
 refine PW.call (r := .kw (KR3 (x - y).num ((x - y).den : Int))) rfl rfl rfl rfl rfl rfl (KR3.st _ _) rfl (k_jrsub X Y (by omega) (by omega)) ?_
 refine PW.call (r := .vl (.int .i64 (sgq (x - y)))) rfl rfl rfl rfl rfl rfl (KV.st _) rfl (k_jrsign) ?_
 refine PW.assign rfl rfl rfl rfl rfl (PW.nil (SX.then (SC.ret ?_)))
 rw [← cmpq_sub]
 exact SX.done (s := 4) (r := .vl (.int .i64 (sgq (x - y)))) rfl rfl rfl
theorem ce_k_jrdiv : CE 61 := fun args W => by go_simp
set_option maxHeartbeats 3200000 in
set_option maxRecDepth 100000 in
theorem k_jrdiv {x y : Rat} {a b : Nat} (X : bq a x) (Y : bq b y) (ha : a ≤ 50000) (hb : b ≤ 50000) (h0 : y ≠ 0) : CallOk 61 [KR3 (x).num ((x).den : Int), KR3 (y).num ((y).den : Int)] (K2 (KR3 (x / y).num ((x / y).den : Int)) (KV (.int .i64 0))) := by
 refine CallOk.enter (l := [.kw (KR3 (x).num ((x).den : Int)), .kw (KR3 (y).num ((y).den : Int))]) 21 ce_k_jrdiv Tryz.func61 rfl Tryz.ntmps61 (by simp) ⟨(KR3.st _ _), rfl, (KR3.st _ _), rfl, trivial⟩ fun w => ?_
 refine SC.seq (SC.region ?_)
 refine PW.box (x := .tmp 0) (r := .kw (KR3 (x).num ((x).den : Int))) (BQ 43) rfl rfl rfl rfl rfl bQJ rfl sh_R3 ?_
 refine PW.box (x := .tmp 1) (r := .kw (KR3 (y).num ((y).den : Int))) (BQ 43) rfl rfl rfl rfl rfl bQJ rfl sh_R3 ?_
 refine PW.alloc (BQ 43) rfl rfl rfl rfl rfl bQJ ?_
 refine PW.assign rfl rfl rfl rfl rfl (PW.nil (SX.then (SC.seq (SC.seq (SC.region ?_)))))
 refine PW.load rfl rfl rfl rfl rfl rfl ?_
 refine PW.call (r := .vl (.int .i64 (sgq y))) rfl rfl rfl rfl rfl rfl (KV.st _) rfl (k_jrsign) ?_
 refine PW.q2 (x := .tmp 7) (y := .const (.int .i64 0)) (.bool false) rfl rfl rfl rfl rfl (fun ρ W h1 h2 => by exact r_eqF h1 h2 (fun h => h0 (sgq_eq0.1 h))) ?_
 refine PW.nil (SX.then (SC.cond (t := false) rfl (SC.skip (SX.then (SC.seq ?_)))))
 refine SC.fix (s := 2) rfl fun p2 => ?_
 refine SC.fix (s := 3) rfl fun p3 => ?_
 refine SC.dx [.val 10 (.vl (.pointer (some ⟨p2, 0, none⟩))), .val 11 (.kw (KJ ((x).num))), .val 12 (.vl (.pointer (some ⟨p3, 2, none⟩))), .val 13 (.kw (KJ (((y).den : Int)))), .val 14 (.kw (KJ (((x).num) * (((y).den : Int))))), .val 15 (.vl (.pointer (some ⟨p2, 2, none⟩))), .val 16 (.kw (KJ (((x).den : Int)))), .val 17 (.vl (.pointer (some ⟨p3, 0, none⟩))), .val 18 (.kw (KJ ((y).num))), .val 19 (.kw (KJ ((((x).den : Int)) * ((y).num)))), .val 20 (.kw (KR3 (Rat.divInt (((x).num) * (((y).den : Int))) ((((x).den : Int)) * ((y).num))).num ((Rat.divInt (((x).num) * (((y).den : Int))) ((((x).den : Int)) * ((y).num))).den : Int))), .put 4 (BQ 43) (.kw (KR3 (Rat.divInt (((x).num) * (((y).den : Int))) ((((x).den : Int)) * ((y).num))).num ((Rat.divInt (((x).num) * (((y).den : Int))) ((((x).den : Int)) * ((y).num))).den : Int))), .val 5 (.vl (.int .i64 0))] [([], [2]), ([0], [2]), ([], [3]), ([2], [3]), ([1, 3], []), ([], [2]), ([5], [2]), ([], [3]), ([7], [3]), ([6, 8], []), ([4, 9], []), ([10], [4]), ([], [])] rfl (by kernel_rfl) (by kernel_rfl) (by kernel_rfl) rfl ⟨?_, ?_, ?_, ?_, ?_, ?_, ?_, ?_, ?_, ?_, ?_, ?_, ?_, trivial⟩ ?_
 ·exact DX.fa ⟨p2, 0, none⟩ rfl rfl rfl rfl rfl faR0
 ·exact DX.fl (s := 2) (r := .kw (KJ ((x).num))) rfl rfl rfl rfl rfl rfl rfl (KJ.st _) flR0
 ·exact DX.fa ⟨p3, 2, none⟩ rfl rfl rfl rfl rfl faR1
 ·exact DX.fl (s := 3) (r := .kw (KJ (((y).den : Int)))) rfl rfl rfl rfl rfl rfl rfl (KJ.st _) flR1
 ·exact DX.call (r := .kw (KJ (((x).num) * (((y).den : Int))))) rfl rfl rfl rfl rfl rfl (KJ.st _) rfl (k_jmul ((X).1) ((Y).2) (by omega) (by omega))
 ·exact DX.fa ⟨p2, 2, none⟩ rfl rfl rfl rfl rfl faR1
 ·exact DX.fl (s := 2) (r := .kw (KJ (((x).den : Int)))) rfl rfl rfl rfl rfl rfl rfl (KJ.st _) flR1
 ·exact DX.fa ⟨p3, 0, none⟩ rfl rfl rfl rfl rfl faR0
 ·exact DX.fl (s := 3) (r := .kw (KJ ((y).num))) rfl rfl rfl rfl rfl rfl rfl (KJ.st _) flR0
 ·exact DX.call (r := .kw (KJ ((((x).den : Int)) * ((y).num)))) rfl rfl rfl rfl rfl rfl (KJ.st _) rfl (k_jmul ((X).2) ((Y).1) (by omega) (by omega))
 ·exact DX.call (r := .kw (KR3 (Rat.divInt (((x).num) * (((y).den : Int))) ((((x).den : Int)) * ((y).num))).num ((Rat.divInt (((x).num) * (((y).den : Int))) ((((x).den : Int)) * ((y).num))).den : Int))) rfl rfl rfl rfl rfl rfl (KR3.st _ _) rfl (k_jover (((X).1).mul ((Y).2)) (((X).2).mul ((Y).1)) (den_num_ne x h0) (by omega) (by omega))
 ·exact DX.store (x := .tmp 20) (r := .kw (KR3 (Rat.divInt (((x).num) * (((y).den : Int))) ((((x).den : Int)) * ((y).num))).num ((Rat.divInt (((x).num) * (((y).den : Int))) ((((x).den : Int)) * ((y).num))).den : Int))) rfl rfl rfl rfl rfl rfl sh_R3
 ·exact DX.assign rfl rfl rfl rfl rfl rfl
 refine SX.unfix (s := 2) rfl ?_
 refine SX.unfix (s := 3) rfl ?_
 refine SX.then (SC.ret ?_)
 rw [div_over]
 exact SX.done2 (s := 4) (t := 5) (r := .vl (.int .i64 0)) (.inl rfl) rfl rfl rfl rfl
set_option maxHeartbeats 3200000 in
set_option maxRecDepth 100000 in
theorem k_jrdiv0 {x y : Rat} (h0 : y = 0) : CallOk 61 [KR3 (x).num ((x).den : Int), KR3 (y).num ((y).den : Int)] (K2 (KR3 ((0 : Int) : Rat).num (((0 : Int) : Rat).den : Int)) (KV (.int .i64 6))) := by
 refine CallOk.enter (l := [.kw (KR3 (x).num ((x).den : Int)), .kw (KR3 (y).num ((y).den : Int))]) 21 ce_k_jrdiv Tryz.func61 rfl Tryz.ntmps61 (by simp) ⟨(KR3.st _ _), rfl, (KR3.st _ _), rfl, trivial⟩ fun w => ?_
 refine SC.seq (SC.region ?_)
 refine PW.box (x := .tmp 0) (r := .kw (KR3 (x).num ((x).den : Int))) (BQ 43) rfl rfl rfl rfl rfl bQJ rfl sh_R3 ?_
 refine PW.box (x := .tmp 1) (r := .kw (KR3 (y).num ((y).den : Int))) (BQ 43) rfl rfl rfl rfl rfl bQJ rfl sh_R3 ?_
 refine PW.alloc (BQ 43) rfl rfl rfl rfl rfl bQJ ?_
 refine PW.assign rfl rfl rfl rfl rfl (PW.nil (SX.then (SC.seq (SC.seq (SC.region ?_)))))
 refine PW.load rfl rfl rfl rfl rfl rfl ?_
 refine PW.call (r := .vl (.int .i64 (sgq y))) rfl rfl rfl rfl rfl rfl (KV.st _) rfl (k_jrsign) ?_
 refine PW.q2 (x := .tmp 7) (y := .const (.int .i64 0)) (.bool true) rfl rfl rfl rfl rfl (fun ρ W h1 h2 => by exact r_eqT h1 h2 (sgq_eq0.2 h0)) ?_
 refine PW.nil (SX.then (SC.cond (t := true) rfl (SC.seq (SC.region ?_))))
 refine PW.call (r := .kw (KR3 (((0 : Int) : Rat)).num ((((0 : Int) : Rat)).den : Int))) rfl rfl rfl rfl rfl rfl (KR3.st _ _) rfl (k_jrint (by decide)) ?_
 refine PW.store (x := .tmp 9) (r := .kw (KR3 (((0 : Int) : Rat)).num ((((0 : Int) : Rat)).den : Int))) rfl rfl rfl rfl rfl rfl sh_R3 ?_
 refine PW.assign rfl rfl rfl rfl rfl (PW.nil (SX.then (SC.ret (SX.thenR ?_))))
 exact SX.done2 (s := 4) (t := 5) (r := .vl (.int .i64 6)) (.inl rfl) rfl rfl rfl rfl
end Go.Proofs.YthpjmhhfcechmaaGreat.Sy
/- Is, Of of the laws of chapter 03, by rules. -/
namespace Go.Proofs.YthpjmhhfcechmaaGreat.Sy
open Go Go.RowKit Ma
def ofq (n d : Int) : Rat := if d ≠ 0 then Rat.divInt n d else (n : Rat)
theorem ofq_over {n d : Int} (h : d ≠ 0) : ofq n d = Rat.divInt n d := if_pos h
theorem ofq_int {n d : Int} (h : ¬ d ≠ 0) : ofq n d = (n : Rat) := if_neg h
theorem bq.of {m : Nat} {n d : Int} (N : bd m n) (D : bd m d) : bq (m + 1) (ofq n d) := by
 by_cases h : d ≠ 0
 ·rw [ofq_over h]; exact (bq.over N D h).mono (by omega)
 ·rw [ofq_int h]; exact bq.int1 N
theorem ce_of3 : CE 17 := fun args W => by go_simp
section
variable {p : Nat} {x1 x2 : Bool} {A1 A2 : Option Addr} {l1 c1 l2 c2 : Nat}
theorem facQ0 (W : World) (hh : Holds (BQ 26) p (.agg #[.bool x1, .slice A1 l1 c1, .bool x2, .slice A2 l2 c2]) W) : (Instr.fieldAt 26 (ptr p) 0).run Tryz.prog W = .ok (.pointer (some ⟨p, 0, none⟩)) W := by
 obtain ⟨q0, q1, q2, q3⟩ := holdsQ hh rfl
 go_simp
theorem facQ1 (W : World) (hh : Holds (BQ 26) p (.agg #[.bool x1, .slice A1 l1 c1, .bool x2, .slice A2 l2 c2]) W) : (Instr.fieldAt 26 (ptr p) 1).run Tryz.prog W = .ok (.pointer (some ⟨p, 2, none⟩)) W := by
 obtain ⟨q0, q1, q2, q3⟩ := holdsQ hh rfl
 go_simp
theorem flcQ0 (W : World) (hh : Holds (BQ 26) p (.agg #[.bool x1, .slice A1 l1 c1, .bool x2, .slice A2 l2 c2]) W) : (Instr.loadAt 24 (.pointer (some ⟨p, 0, none⟩))).run Tryz.prog W = .ok (.agg #[.bool x1, .slice A1 l1 c1]) W := by
 obtain ⟨q0, q1, q2, q3⟩ := holdsQ hh rfl
 go_simp
theorem flcQ1 (W : World) (hh : Holds (BQ 26) p (.agg #[.bool x1, .slice A1 l1 c1, .bool x2, .slice A2 l2 c2]) W) : (Instr.loadAt 24 (.pointer (some ⟨p, 2, none⟩))).run Tryz.prog W = .ok (.agg #[.bool x2, .slice A2 l2 c2]) W := by
 obtain ⟨q0, q1, q2, q3⟩ := holdsQ hh rfl
 go_simp
end

theorem ce_k_is3 : CE 18 := fun args W => by go_simp
set_option maxHeartbeats 3200000 in
set_option maxRecDepth 100000 in
theorem k_is3 {x : Rat} {m : Nat} (X : bq m x) (hm : m ≤ 50000) : CallOk 18 [KQ (x).num (((x).den : Int) - 1), KR3 (x).num ((x).den : Int)] (KV (.bool true)) := by
 refine CallOk.enter (l := [.kw (KQ (x).num (((x).den : Int) - 1)), .kw (KR3 (x).num ((x).den : Int))]) 17 ce_k_is3 Tryz.func18 rfl Tryz.ntmps18 (by simp) ⟨(KQ.st _ _), rfl, (KR3.st _ _), rfl, trivial⟩ fun w => ?_
 refine SC.seq (SC.region ?_)
 refine PW.box (x := .tmp 0) (r := .kw (KQ (x).num (((x).den : Int) - 1))) (BQ 38) rfl rfl rfl rfl rfl bQ rfl sh_Q ?_
 refine PW.box (x := .tmp 1) (r := .kw (KR3 (x).num ((x).den : Int))) (BQ 43) rfl rfl rfl rfl rfl bQJ rfl sh_R3 ?_
 refine PW.assign rfl rfl rfl rfl rfl (PW.nil (SX.then (SC.seq ?_)))
 refine SC.fix (s := 3) rfl fun p3 => ?_
 refine SC.dx [.val 5 (.kw (KQ (x).num (((x).den : Int) - 1))), .val 6 (.kw (KI (x.num))), .val 7 (.vl (.pointer (some ⟨p3, 0, none⟩))), .val 8 (.kw (KJ ((x).num))), .val 9 (.vl (.bool true)), .val 10 (.vl (.bool true)), .val 11 (.kw (KQ (x).num (((x).den : Int) - 1))), .val 12 (.kw (KI ((x.den : Int)))), .val 13 (.vl (.pointer (some ⟨p3, 2, none⟩))), .val 14 (.kw (KJ (((x).den : Int)))), .val 15 (.vl (.bool true)), .val 16 (.vl (.bool true)), .val 4 (.vl (.bool true))] [([], [2]), ([0], []), ([], [3]), ([2], [3]), ([1, 3], []), ([4], []), ([5], [2]), ([6, 5], []), ([5], [3]), ([8, 5], [3]), ([7, 9, 5], []), ([5, 10], []), ([11], [])] rfl (by kernel_rfl) (by kernel_rfl) (by kernel_rfl) rfl ⟨?_, ?_, ?_, ?_, ?_, ?_, ?_, ?_, ?_, ?_, ?_, ?_, ?_, trivial⟩ ?_
 ·exact DX.load rfl rfl rfl rfl rfl rfl
 ·exact DX.call (r := .kw (KI (x.num))) rfl rfl rfl rfl rfl rfl (KI.st _) rfl (k_rNum)
 ·exact DX.fa ⟨p3, 0, none⟩ rfl rfl rfl rfl rfl faR0
 ·exact DX.fl (s := 3) (r := .kw (KJ ((x).num))) rfl rfl rfl rfl rfl rfl rfl (KJ.st _) flR0
 ·exact DX.call (r := .vl (.bool true)) rfl rfl rfl rfl rfl rfl (KV.st _) rfl (k_is X.1 (by omega) rfl)
 ·exact DX.move rfl rfl rfl rfl rfl rfl
 ·exact DX.load rfl rfl rfl rfl rfl rfl
 ·exact DX.call (r := .kw (KI ((x.den : Int)))) rfl rfl rfl rfl rfl rfl (KI.st _) rfl (k_rDen X (by omega))
 ·exact DX.fa ⟨p3, 2, none⟩ rfl rfl rfl rfl rfl faR1
 ·exact DX.fl (s := 3) (r := .kw (KJ (((x).den : Int)))) rfl rfl rfl rfl rfl rfl rfl (KJ.st _) flR1
 ·exact DX.call (r := .vl (.bool true)) rfl rfl rfl rfl rfl rfl (KV.st _) rfl (k_is X.2 (by omega) rfl)
 ·exact DX.pick (t := true) rfl rfl rfl rfl rfl rfl rfl
 ·exact DX.assign rfl rfl rfl rfl rfl rfl
 refine SX.unfix (s := 3) rfl ?_
 refine SX.then (SC.ret ?_)
 exact SX.done (s := 4) (r := .vl (.bool true)) rfl rfl rfl
set_option maxHeartbeats 3200000 in
set_option maxRecDepth 100000 in
theorem of3_c {x1 x2 : Bool} {A1 A2 : Option Addr} {l1 c1 l2 c2 m : Nat} {xs1 xs2 : List Int} {n d : Int} {w : World} (h1 : In w A1 l1 c1 xs1) (h2 : In w A2 l2 c2 xs2) (hz1 : n = sg x1 (lv b32 xs1)) (hz2 : d = sg x2 (lv b32 xs2)) (N : bd m n) (D : bd m d) (hle1 : l1 ≤ 1000) (hle2 : l2 ≤ 1000) (hm : m ≤ 1000) :
  Calls Tryz.prog 17 #[.agg #[.bool x1, .slice A1 l1 c1, .bool x2, .slice A2 l2 c2]] w (Ret w (K2 (KQ (ofq n d).num (((ofq n d).den : Int) - 1)) (KR3 (ofq n d).num ((ofq n d).den : Int)))) := by
 refine calls_sc (l := [.vl (.agg #[.bool x1, .slice A1 l1 c1, .bool x2, .slice A2 l2 c2])]) (us := [.agg #[.bool x1, .slice A1 l1 c1, .bool x2, .slice A2 l2 c2]]) 45 Tryz.func17 rfl Tryz.ntmps17 (by simp) ⟨rfl, rfl, trivial⟩ ?_
 refine SC.seq (SC.region ?_)
 refine PW.boxc (x := .tmp 0) (BQ 26) rfl rfl rfl rfl rfl bQN rfl ⟨_, _, _, _, _, _, _, _, _, rfl, rfl⟩ fun pb1 => ?_
 refine PW.alloc (BQ 38) rfl rfl rfl rfl rfl bQ ?_
 refine PW.alloc (BQ 43) rfl rfl rfl rfl rfl bQJ ?_
 refine PW.nil (SX.then (SC.seq (SC.region ?_)))
 refine PW.fac ⟨pb1, 0, none⟩ rfl rfl rfl rfl rfl facQ0 ?_
 refine PW.flc (s := 1) (.agg #[.bool x1, .slice A1 l1 c1]) rfl rfl rfl rfl rfl rfl flcQ0 ?_
 refine PW.callG (r := .kw (K2 (KI (n)) (KJ (n)))) ce_of rfl rfl rfl rfl rfl (K2.st (KI.st _) (KJ.st _)) rfl (fun a W hf => by have e1 := hf.vl (s := 14) rfl; show Calls Tryz.prog _ #[a.tmps.getD 14 undef] W _; rw [e1]; exact of_in h1 hf.be (by omega) hz1) ?_
 refine PW.move rfl rfl rfl rfl rfl ?_
 refine PW.ext (r := .kw (KI (n))) rfl rfl rfl rfl rfl ex20 (KI.st _) rfl ?_
 refine PW.ext (r := .kw (KJ (n))) rfl rfl rfl rfl rfl ex21 (KJ.st _) rfl ?_
 refine PW.alloc (BI 31) rfl rfl rfl rfl rfl bI ?_
 refine PW.alloc (BI 34) rfl rfl rfl rfl rfl bJ ?_
 refine PW.store (x := .tmp 16) (r := .kw (KI (n))) rfl rfl rfl rfl rfl rfl sh_I ?_
 refine PW.store (x := .tmp 17) (r := .kw (KJ (n))) rfl rfl rfl rfl rfl rfl sh_J ?_
 refine PW.nil (SX.then (SC.seq (SC.region ?_)))
 refine PW.fac ⟨pb1, 2, none⟩ rfl rfl rfl rfl rfl facQ1 ?_
 refine PW.flc (s := 1) (.agg #[.bool x2, .slice A2 l2 c2]) rfl rfl rfl rfl rfl rfl flcQ1 ?_
 refine PW.callG (r := .kw (K2 (KI (d)) (KJ (d)))) ce_of rfl rfl rfl rfl rfl (K2.st (KI.st _) (KJ.st _)) rfl (fun a W hf => by have e1 := hf.vl (s := 20) rfl; show Calls Tryz.prog _ #[a.tmps.getD 20 undef] W _; rw [e1]; exact of_in h2 hf.be (by omega) hz2) ?_
 refine PW.move rfl rfl rfl rfl rfl ?_
 refine PW.ext (r := .kw (KI (d))) rfl rfl rfl rfl rfl ex20 (KI.st _) rfl ?_
 refine PW.ext (r := .kw (KJ (d))) rfl rfl rfl rfl rfl ex21 (KJ.st _) rfl ?_
 refine PW.alloc (BI 31) rfl rfl rfl rfl rfl bI ?_
 refine PW.alloc (BI 34) rfl rfl rfl rfl rfl bJ ?_
 refine PW.store (x := .tmp 22) (r := .kw (KI (d))) rfl rfl rfl rfl rfl rfl sh_I ?_
 refine PW.store (x := .tmp 23) (r := .kw (KJ (d))) rfl rfl rfl rfl rfl rfl sh_J ?_
 refine PW.nil (SX.then (SC.seq (SC.seq ?_)))
 by_cases h0 : d ≠ 0
 ·refine SC.region ?_
  refine PW.load rfl rfl rfl rfl rfl rfl ?_
  refine PW.call (r := .vl (.int .i64 (sgn d))) rfl rfl rfl rfl rfl rfl (KV.st _) rfl (k_jsign rfl) ?_
  refine PW.q2 (x := .tmp 25) (y := .const (.int .i64 0)) (.bool false) rfl rfl rfl rfl rfl (fun ρ W h1 h2 => by exact r_eqF h1 h2 (fun h => h0 (sgn_eq0.1 h))) ?_
  refine PW.nil (SX.then (SC.cond (t := false) rfl (SC.skip (SX.then (SC.seq (SC.region ?_))))))
  refine PW.load rfl rfl rfl rfl rfl rfl ?_
  refine PW.load rfl rfl rfl rfl rfl rfl ?_
  refine PW.call (r := .kw (K2 (KQ (Rat.divInt (n) (d)).num (((Rat.divInt (n) (d)).den : Int) - 1)) (KV (.int .i64 0)))) rfl rfl rfl rfl rfl rfl (K2.st (KQ.st _ _) (KV.st _)) rfl (k_rnew N D h0 (by omega) (by omega)) ?_
  refine PW.move rfl rfl rfl rfl rfl ?_
  refine PW.ext (r := .kw (KQ (Rat.divInt (n) (d)).num (((Rat.divInt (n) (d)).den : Int) - 1))) rfl rfl rfl rfl rfl ex20 (KQ.st _ _) rfl ?_
  refine PW.ext (r := .vl (.int .i64 0)) rfl rfl rfl rfl rfl ex21v (KV.st _) rfl ?_
  refine PW.alloc (BQ 38) rfl rfl rfl rfl rfl bQ ?_
  refine PW.store (x := .tmp 35) (r := .kw (KQ (Rat.divInt (n) (d)).num (((Rat.divInt (n) (d)).den : Int) - 1))) rfl rfl rfl rfl rfl rfl sh_Q ?_
  refine PW.assign rfl rfl rfl rfl rfl (PW.nil (SX.then (SC.seq (SC.region ?_))))
  refine PW.load rfl rfl rfl rfl rfl rfl ?_
  refine PW.load rfl rfl rfl rfl rfl rfl ?_
  refine PW.call (r := .kw (K2 (KR3 (Rat.divInt (n) (d)).num ((Rat.divInt (n) (d)).den : Int)) (KV (.int .i64 0)))) rfl rfl rfl rfl rfl rfl (K2.st (KR3.st _ _) (KV.st _)) rfl (k_jrnew N D h0 (by omega) (by omega)) ?_
  refine PW.move rfl rfl rfl rfl rfl ?_
  refine PW.ext (r := .kw (KR3 (Rat.divInt (n) (d)).num ((Rat.divInt (n) (d)).den : Int))) rfl rfl rfl rfl rfl ex20 (KR3.st _ _) rfl ?_
  refine PW.ext (r := .vl (.int .i64 0)) rfl rfl rfl rfl rfl ex21v (KV.st _) rfl ?_
  refine PW.alloc (BQ 43) rfl rfl rfl rfl rfl bQJ ?_
  refine PW.store (x := .tmp 41) (r := .kw (KR3 (Rat.divInt (n) (d)).num ((Rat.divInt (n) (d)).den : Int))) rfl rfl rfl rfl rfl rfl sh_R3 ?_
  refine PW.assign rfl rfl rfl rfl rfl (PW.nil (SX.then (SC.seq ?_)))
  refine SC.dx [.val 43 (.kw (KQ (Rat.divInt (n) (d)).num (((Rat.divInt (n) (d)).den : Int) - 1))), .val 44 (.kw (KR3 (Rat.divInt (n) (d)).num ((Rat.divInt (n) (d)).den : Int))), .put 2 (BQ 38) (.kw (KQ (Rat.divInt (n) (d)).num (((Rat.divInt (n) (d)).den : Int) - 1))), .put 3 (BQ 43) (.kw (KR3 (Rat.divInt (n) (d)).num ((Rat.divInt (n) (d)).den : Int)))] [([], [8]), ([], [10]), ([0], [2]), ([1], [3])] rfl (by kernel_rfl) (by kernel_rfl) (by kernel_rfl) rfl ⟨?_, ?_, ?_, ?_, trivial⟩ ?_
  ·exact DX.load rfl rfl rfl rfl rfl rfl
  ·exact DX.load rfl rfl rfl rfl rfl rfl
  ·exact DX.store (x := .tmp 43) (r := .kw (KQ (Rat.divInt (n) (d)).num (((Rat.divInt (n) (d)).den : Int) - 1))) rfl rfl rfl rfl rfl rfl sh_Q
  ·exact DX.store (x := .tmp 44) (r := .kw (KR3 (Rat.divInt (n) (d)).num ((Rat.divInt (n) (d)).den : Int))) rfl rfl rfl rfl rfl rfl sh_R3
  refine SX.then (SC.ret ?_)
  rw [ofq_over h0]
  exact SX.done2C (s := 2) (s' := 3) (.inl rfl) rfl rfl rfl rfl
 ·refine SC.region ?_
  refine PW.load rfl rfl rfl rfl rfl rfl ?_
  refine PW.call (r := .vl (.int .i64 (sgn d))) rfl rfl rfl rfl rfl rfl (KV.st _) rfl (k_jsign rfl) ?_
  refine PW.q2 (x := .tmp 25) (y := .const (.int .i64 0)) (.bool true) rfl rfl rfl rfl rfl (fun ρ W h1 h2 => by exact r_eqT h1 h2 (sgn_eq0.2 (Classical.not_not.1 h0))) ?_
  refine PW.nil (SX.then (SC.cond (t := true) rfl (SC.seq ?_)))
  refine SC.dx [.val 27 (.kw (KI (n))), .val 28 (.kw (KQ (((n : Int) : Rat)).num (((((n : Int) : Rat)).den : Int) - 1))), .val 29 (.kw (KJ (n))), .val 30 (.kw (KR3 (((n : Int) : Rat)).num ((((n : Int) : Rat)).den : Int))), .put 2 (BQ 38) (.kw (KQ (((n : Int) : Rat)).num (((((n : Int) : Rat)).den : Int) - 1))), .put 3 (BQ 43) (.kw (KR3 (((n : Int) : Rat)).num ((((n : Int) : Rat)).den : Int)))] [([], [4]), ([0], []), ([], [5]), ([2], []), ([1], [2]), ([3], [3])] rfl (by kernel_rfl) (by kernel_rfl) (by kernel_rfl) rfl ⟨?_, ?_, ?_, ?_, ?_, ?_, trivial⟩ ?_
  ·exact DX.load rfl rfl rfl rfl rfl rfl
  ·exact DX.call (r := .kw (KQ (((n : Int) : Rat)).num (((((n : Int) : Rat)).den : Int) - 1))) rfl rfl rfl rfl rfl rfl (KQ.st _ _) rfl (k_rof)
  ·exact DX.load rfl rfl rfl rfl rfl rfl
  ·exact DX.call (r := .kw (KR3 (((n : Int) : Rat)).num ((((n : Int) : Rat)).den : Int))) rfl rfl rfl rfl rfl rfl (KR3.st _ _) rfl (k_jrof)
  ·exact DX.store (x := .tmp 28) (r := .kw (KQ (((n : Int) : Rat)).num (((((n : Int) : Rat)).den : Int) - 1))) rfl rfl rfl rfl rfl rfl sh_Q
  ·exact DX.store (x := .tmp 30) (r := .kw (KR3 (((n : Int) : Rat)).num ((((n : Int) : Rat)).den : Int))) rfl rfl rfl rfl rfl rfl sh_R3
  refine SX.then (SC.ret (SX.thenR ?_))
  rw [ofq_int h0]
  exact SX.done2C (s := 2) (s' := 3) (.inl rfl) rfl rfl rfl rfl
end Go.Proofs.YthpjmhhfcechmaaGreat.Sy
/- The contract of chapter 03's Short. -/
namespace Go.Proofs.YthpjmhhfcechmaaGreat
open Go.RowKit Ma

abbrev Qq := Nn × Nn
def Qs (w : World) (b : Nat) (qs : List Qq) : Prop := ∀ i n A l c m D k d, qs[i]? = some ((n, A, l, c), (m, D, k, d)) → w.cell? ⟨b, i * 4, none⟩ = some (.bool n) ∧ w.cell? ⟨b, i * 4 + 1, none⟩ = some (.slice A l c) ∧ w.cell? ⟨b, i * 4 + 2, none⟩ = some (.bool m) ∧ w.cell? ⟨b, i * 4 + 3, none⟩ = some (.slice D k d)
theorem Qs.nw {w W : World} {b : Nat} {qs : List Qq} (h : Qs w b qs) (k : Nw w W) : Qs W b qs := fun i n A l c m D j d e => have ⟨h1, h2, h3, h4⟩ := h i n A l c m D j d e; ⟨k.c h1, k.c h2, k.c h3, k.c h4⟩
def shQ (most : Nat) (qs : List Qq) : Bool := qs.all fun x => shB most [x.1, x.2]
set_option maxHeartbeats 1600000 in
set_option maxRecDepth 100000 in
theorem short31_c {n m : Bool} {A D : Option Addr} {l c k d p most : Nat} {w : World} (hc : w.cell? ⟨p, 0, none⟩ = some (.int .i64 most)) (hl : l ≤ 9223372036854775807) (hk : k ≤ 9223372036854775807) (hm : most ≤ 1000) {b : Bool} (hb : (!shB most [(n, A, l, c), (m, D, k, d)]) = b) :
  Calls Tryz.prog 72 #[.agg #[.bool n, .slice A l c, .bool m, .slice D k d], .pointer (some ⟨p, 0, none⟩)] w (Ret w (KV (.bool b))) := by
 subst hb
 have nw1 := (Nw.refl w).alloc (.cells #[.bool n, .slice A l c, .bool m, .slice D k d] 26)
 have hc2 := nw1.c hc
 have nw2 := nw1.alloc (.cells #[.bool n, .slice A l c, .bool m, .slice D k d] 24)
 have hns : Ns ((w.alloc (.cells #[.bool n, .slice A l c, .bool m, .slice D k d] 26)).alloc (.cells #[.bool n, .slice A l c, .bool m, .slice D k d] 24)) (w.heap.size + 1) [(n, A, l, c), (m, D, k, d)] := by
  have := Sy.ns_lit2 (n1 := n) (A1 := A) (l1 := l) (c1 := c) (n2 := m) (A2 := D) (l2 := k) (c2 := d) (w.alloc (.cells #[.bool n, .slice A l c, .bool m, .slice D k d] 26))
  simpa using this
 have hLL : ∀ x ∈ [(n, A, l, c), (m, D, k, d)], x.2.2.1 ≤ 9223372036854775807 := fun x hx => by simp at hx; rcases hx with rfl | rfl <;> assumption
 have HN := Lib.hid hns
 have HL := Lib.hid hLL
 clear hns hLL
 go_enter Tryz.func72, Tryz.ntmps72
 go_wp2_with (go_at_call 11; refine (short_l (b := w.heap.size + 1) most [(n, A, l, c), (m, D, k, d)] rfl rfl HN.out hm (by simp) HL.out).mono ?_; rintro e w1 ⟨_, rfl, rfl, hb1⟩)
 go_ret
 exact ⟨_, rfl, rfl, nw2.trans hb1⟩
set_option maxHeartbeats 1600000 in
set_option maxRecDepth 100000 in
theorem shortx3_c {b c p most : Nat} {qs : List Qq} {w : World} (hc : w.cell? ⟨p, 0, none⟩ = some (.int .i64 most)) (hn : Qs w b qs) (hm : most ≤ 1000) (hl : qs.length ≤ 1000) (hL : ∀ x ∈ qs, x.1.2.2.1 ≤ 9223372036854775807 ∧ x.2.2.2.1 ≤ 9223372036854775807) :
  Calls Tryz.prog 115 #[.slice (some ⟨b, 0, none⟩) qs.length c, .func (.func 72) #[] #[.pointer (some ⟨p, 0, none⟩)]] w (Ret w (KIx (shQ most qs))) := by
 have HN := Lib.hid hn
 have HL := Lib.hid hL
 clear hn hL
 go_enter Tryz.func115, Tryz.ntmps115
 go_wp2
 go_loopw [5, 8] (fun _ ci wr => ∃ k : Nat, ci = .int .i64 k ∧ k ≤ qs.length ∧ shQ most (qs.take k) = true ∧ Nw w wr)
  (fun _ ci _ => qs.length - (intOf ci).toNat)
 case atStart => exact ⟨0, rfl, by omega, rfl, Nw.refl w⟩
 case round =>
  obtain ⟨k, rfl, hk, hs, hn⟩ := hrel
  have HS := Lib.hid hs
  clear hs
  have hc2 := hn.c hc
  by_cases hlt : k < qs.length
  ·obtain ⟨⟨⟨n, A, l, cc⟩, ⟨m, D, j, dd⟩⟩, he⟩ : ∃ x, qs[k]? = some x := ⟨_, List.getElem?_eq_getElem hlt⟩
   obtain ⟨h1, h2, h3, h4⟩ := (HN.out.nw hn) k n A l cc m D j dd he
   obtain ⟨hll, hjj⟩ := HL.out _ (List.mem_of_getElem? he)
   simp only at hll hjj
   have hk0 : (0 : Int) ≤ (k : Int) := by omega
   have hki : (k : Int) < (qs.length : Int) := by omega
   have ht : shQ most (qs.take (k + 1)) = (shQ most (qs.take k) && shB most [(n, A, l, cc), (m, D, j, dd)]) := by
    unfold shQ
    rw [List.take_add_one, he]
    simp
   have HE := Lib.hid he
   have HT := Lib.hid ht
   clear he ht
   by_cases hlm : shB most [(n, A, l, cc), (m, D, j, dd)] = false
   ·have hb : (!shB most [(n, A, l, cc), (m, D, j, dd)]) = true := by rw [hlm]; rfl
    have HB := Lib.hid hb
    clear hb
    have HM := Lib.hid hlm
    clear hlm
    go_wp2_with (go_at_call 72; refine (short31_c hc2 hll hjj hm HB.out).mono ?_; rintro e w1 ⟨_, rfl, rfl, hb1⟩)
    go_ret
    have hf : shQ most qs = false := by
     unfold shQ
     rw [List.all_eq_false]
     exact ⟨_, List.mem_of_getElem? HE.out, by simp [HM.out]⟩
    exact ⟨_, rfl, ⟨k, rfl, by rw [hf]; simp⟩, hn.trans hb1⟩
   ·have hlm : shB most [(n, A, l, cc), (m, D, j, dd)] = true := by simpa using hlm
    have hb : (!shB most [(n, A, l, cc), (m, D, j, dd)]) = false := by rw [hlm]; rfl
    have HB := Lib.hid hb
    clear hb
    have HM := Lib.hid hlm
    clear hlm
    go_wp2_with (go_at_call 72; refine (short31_c hc2 hll hjj hm HB.out).mono ?_; rintro e w1 ⟨_, rfl, rfl, hb1⟩)
    go_roundw
    case rel => exact ⟨k + 1, by go_num, by omega, by rw [HT.out, HS.out, HM.out]; rfl, hn.trans hb1⟩
    case measure => simp [intOf]; omega
  ·have hke : k = qs.length := by omega
   have hf : shQ most qs = true := by
    have := HS.out
    rwa [hke, List.take_length] at this
   have HF := Lib.hid hf
   clear hke hf
   go_wp2
   go_ret
   exact ⟨_, rfl, ⟨-1, rfl, by rw [HF.out]; simp⟩, hn⟩
set_option maxHeartbeats 1600000 in
set_option maxRecDepth 100000 in
theorem shortc3_c {b c p most : Nat} {qs : List Qq} {w : World} (hc : w.cell? ⟨p, 0, none⟩ = some (.int .i64 most)) (hn : Qs w b qs) (hm : most ≤ 1000) (hl : qs.length ≤ 1000) (hL : ∀ x ∈ qs, x.1.2.2.1 ≤ 9223372036854775807 ∧ x.2.2.2.1 ≤ 9223372036854775807) :
    Calls Tryz.prog 71 #[.slice (some ⟨b, 0, none⟩) qs.length c, .func (.func 72) #[] #[.pointer (some ⟨p, 0, none⟩)]] w (Ret w (KV (.bool (!shQ most qs)))) := by
  have HN := Lib.hid hn
  have HL := Lib.hid hL
  clear hn hL
  by_cases hs : shQ most qs = true
  all_goals
    have HS := Lib.hid hs
    clear hs
    go_enter Tryz.func71, Tryz.ntmps71
    go_wp2_with (go_at_call 115; refine (shortx3_c hc HN.out hm hl HL.out).mono ?_; rintro e w1 ⟨_, rfl, ⟨r, rfl, hr⟩, hb1⟩)
    go_ret
    have h1 := HS.out
    first
      | (rw [h1] at hr ⊢; exact Ret.Veq (by simp at hr ⊢; omega) hb1)
      | (have h1 : shQ most qs = false := by simpa using h1
         rw [h1] at hr ⊢; exact Ret.Veq (by simp at hr ⊢; omega) hb1)
set_option maxHeartbeats 1600000 in
set_option maxRecDepth 100000 in
theorem short3_c {b c most : Nat} {qs : List Qq} {w : World} (hn : Qs w b qs) (hm : most ≤ 1000) (hl : qs.length ≤ 1000) (hL : ∀ x ∈ qs, x.1.2.2.1 ≤ 9223372036854775807 ∧ x.2.2.2.1 ≤ 9223372036854775807) :
  Calls Tryz.prog 12 #[.int .i64 most, .slice (some ⟨b, 0, none⟩) qs.length c] w (Ret w (KV (.bool (shQ most qs)))) := by
 have nw1 : Nw w (w.alloc (.cells #[.int .i64 most] 3)) := (Nw.refl w).alloc _
 have hc : (w.alloc (.cells #[.int .i64 most] 3)).cell? ⟨w.heap.size, 0, none⟩ = some (.int .i64 most) := by go_simp
 have HN := Lib.hid (hn.nw nw1)
 have HL := Lib.hid hL
 clear hn hL
 go_enter Tryz.func12, Tryz.ntmps12
 go_wp2_with (go_at_call 71; refine (shortc3_c hc HN.out hm hl HL.out).mono ?_; rintro e w1 ⟨_, rfl, rfl, hb1⟩)
 go_ret
 exact Ret.Veq (by simp) (nw1.trans hb1)
end Go.Proofs.YthpjmhhfcechmaaGreat
