/- Parts Rxp, D2, D3, D4, in one file. -/
import Derived.RowKit
import Derived.WalkKit
import Derived.ProofKit
import Derived.OpenShut
import Derived.ShutString
import Derived.ChangeOld
import Derived.Lib.SmallJoins
import Derived.Deep.SlicePairs
import Derived.Test.YthpjmhhfcechmaaGreatLRExpansions10
import Derived.Test.YthpjmhhfcechmaaGreatLRExpansions11
import Derived.Test.YthpjmhhfcechmaaGreatLRExpansions12
import Derived.Test.YthpjmhhfcechmaaGreatLRExpansions3
/- RationalExpansions: the walk, by rules. -/
set_option linter.unusedVariables false
set_option linter.unusedSimpArgs false
namespace Go.Proofs.YthpjmhhfcechmaaGreat
open Go.RowKit Ma Sy
theorem take_bd {m : Nat} {zs : List Int} (h : ∀ i, bd m (at0 zs i)) (k i : Nat) : bd m (at0 (zs.take k) i) := by
 by_cases hi : i < k
 ·have : at0 (zs.take k) i = at0 zs i := by unfold at0; rw [List.getD_eq_getElem?_getD, List.getD_eq_getElem?_getD, List.getElem?_take_of_lt hi]
  rw [this]; exact h i
 ·have : at0 (zs.take k) i = 0 := by unfold at0; rw [List.getD_eq_getElem?_getD, List.getElem?_eq_none (by rw [List.length_take]; omega)]; rfl
  rw [this]; exact bd.zero
theorem ctr_bq {m : Nat} : ∀ (zs : List Int) (q : Rat), (∀ i, bd (m + 1) (at0 zs i)) → ctrR zs = .ok q → bq ((m + 4) * zs.length) q
 | [], q, _, h => by cases h
 | [n], q, hb, h => by
  injection h with h
  subst h
  exact (bq.int (hb 0)).mono (by simp)
 | n :: k :: l, q, hb, h => by
  unfold ctrR at h
  split at h
  ·cases h
  ·rename_i q' h'
   split at h
   ·cases h
   ·rename_i hq
    injection h with h
    subst h
    have b0 := ctr_bq (k :: l) q' (fun i => hb (i + 1)) h'
    have b1 : bq (0 + 1) (((1 : Int) : Int) : Rat) := bq.int (bd.lit (by decide))
    refine ((bq.int (hb 0)).add (b1.div b0 hq)).mono ?_
    simp only [List.length_cons, Nat.mul_add]
    omega
theorem ctr_both {zs : List Int} {m : Nat} (hb : ∀ i, bd (m + 1) (at0 zs i)) (hl : (m + 4) * zs.length ≤ 40000) : ∃ (q : Rat) (e : Int), bq 40000 q ∧ KPR (ctrR zs) = K2 (KQ q.num ((q.den : Int) - 1)) (KV (.int .i64 e)) ∧ KPJq (ctrR zs) = K2 (KR3 q.num (q.den : Int)) (KV (.int .i64 e)) := by
 cases h : ctrR zs with
 | ok q => exact ⟨q, 0, (ctr_bq zs q hb h).mono hl, rfl, rfl⟩
 | error e => exact ⟨((0 : Int) : Rat), e, ⟨bd.zero, (bd.lit (by decide) : bd 1 1).mono (by decide)⟩, rfl, rfl⟩
theorem take_snoc {zs : List Int} {k : Nat} (h : k < zs.length) : zs.take k ++ [at0 zs k] = zs.take (k + 1) := by
 rw [List.take_add_one, at0_of_lt h, List.getElem?_eq_getElem h]; rfl
theorem ce_jcontract : CE 53 := fun args W => by go_simp
theorem look_base2 {L : Nat → Bool} {es : List Eff} {K K' : Nat} {v v' : AV} {f : List (Nat × AV)} {s : Nat} (h0 : ∀ e ∈ es, e.slot ≠ K) (h1 : ∀ e ∈ es, e.slot ≠ K') : Sy.look (cur 0 es L ((K, v) :: (K', v') :: f)) s = if K = s then some v else if K' = s then some v' else Sy.look (cur 0 es L f) s := by
 rw [look_cur_base _ _ _ h0, look_cons, look_cur_base _ _ _ h1, look_cons]
theorem ce_short : CE 11 := fun args W => by go_simp
theorem eq_rows {W : World} {B1 B2 m : Nat} {u v : Value} {L : List Int} (h1 : OwS W B1 31 2 u L.length (RsI L)) (h2 : OwS W B2 34 2 v L.length (RsJ L)) (hb : ∀ i, bd (m + 1) (at0 L i)) (hm : m ≤ 1000) (hl : L.length ≤ 1000000) :
  Calls Tryz.prog 50 #[u, v, fv 52] W (Ret W (KV (.bool true))) := by
 obtain ⟨A, c, e1, _⟩ := h1.form
 obtain ⟨D, d, e2, _⟩ := h2.form
 subst e1 e2
 exact Sy.equal_c (h1.lin rfl) (h2.linj rfl) hb hm hl
theorem ns_lim {w : World} {ns : List Nn} {zs : List Int} (hin : ∀ (i : Nat) (n : Bool) (D : Option Addr) (l c : Nat), ns[i]? = some (n, D, l, c) → ∃ xs, In w D l c xs ∧ at0 zs i = sg n (lv b32 xs)) : ∀ x ∈ ns, x.2.2.1 ≤ 9223372036854775807 := fun x hx => by
 obtain ⟨i, hi⟩ := List.mem_iff_getElem?.1 hx
 obtain ⟨n, D, l, c⟩ := x
 obtain ⟨xs, h1, _⟩ := hin i n D l c hi
 exact In.lim h1
theorem shB_le {m : Nat} {ns : List Nn} (h : shB m ns = true) : ∀ (i : Nat) (n : Bool) (D : Option Addr) (l c : Nat), ns[i]? = some (n, D, l, c) → l ≤ m := fun i n D l c e => by
 have := List.all_eq_true.1 h _ (List.mem_of_getElem? e)
 simpa using this
theorem zs_bd {w : World} {ns : List Nn} {zs : List Int} {m : Nat} (hzl : zs.length = ns.length) (hin : ∀ (i : Nat) (n : Bool) (D : Option Addr) (l c : Nat), ns[i]? = some (n, D, l, c) → ∃ xs, In w D l c xs ∧ at0 zs i = sg n (lv b32 xs)) (hm : ∀ (i : Nat) (n : Bool) (D : Option Addr) (l c : Nat), ns[i]? = some (n, D, l, c) → l ≤ m) : ∀ i, bd m (at0 zs i) := fun i => by
 by_cases hi : i < ns.length
 ·obtain ⟨⟨n, D, l, c⟩, he⟩ : ∃ x, ns[i]? = some x := ⟨_, List.getElem?_eq_getElem hi⟩
  obtain ⟨xs, h1, h2⟩ := hin i _ _ _ _ he
  rw [h2]
  exact bd_sg h1.2.2.2 (by have := h1.1; have := hm i _ _ _ _ he; omega)
 ·have : at0 zs i = 0 := by unfold at0; rw [List.getD_eq_getElem?_getD, List.getElem?_eq_none (by omega)]; rfl
  rw [this]; exact bd.zero
set_option maxHeartbeats 12800000 in
set_option maxRecDepth 100000 in
theorem rationalExpansions_walk {n1 n2 n3 n4 n5 n6 : Bool} {A1 A2 A3 A4 A5 A6 : Option Addr} {l1 l2 l3 l4 l5 l6 c1 c2 c3 c4 c5 c6 : Nat} {xs1 xs2 xs3 xs4 xs5 xs6 : List Int} {A7 : Option Addr} {c7 : Nat} {ns : List Nn} {zs : List Int} {w : World} (h1 : In w A1 l1 c1 xs1) (h2 : In w A2 l2 c2 xs2) (h3 : In w A3 l3 c3 xs3) (h4 : In w A4 l4 c4 xs4) (h5 : In w A5 l5 c5 xs5) (h6 : In w A6 l6 c6 xs6) (hl : LNs w A7 ns) (hzl : zs.length = ns.length) (hin : ∀ (i : Nat) (n : Bool) (D : Option Addr) (l c : Nat), ns[i]? = some (n, D, l, c) → ∃ xs, In w D l c xs ∧ at0 zs i = sg n (lv b32 xs)) :
  Calls Tryz.prog 7 #[.agg #[.bool n1, .slice A1 l1 c1, .bool n2, .slice A2 l2 c2], .agg #[.bool n3, .slice A3 l3 c3, .bool n4, .slice A4 l4 c4], .agg #[.bool n5, .slice A5 l5 c5, .bool n6, .slice A6 l6 c6], .slice A7 ns.length c7] w (Ret w (KV (.bool true))) := by
 obtain ⟨x, hz1⟩ : ∃ z, z = sg n1 (lv b32 xs1) := ⟨_, rfl⟩
 obtain ⟨y, hz2⟩ : ∃ z, z = sg n2 (lv b32 xs2) := ⟨_, rfl⟩
 obtain ⟨z, hz3⟩ : ∃ z, z = sg n3 (lv b32 xs3) := ⟨_, rfl⟩
 obtain ⟨u, hz4⟩ : ∃ z, z = sg n4 (lv b32 xs4) := ⟨_, rfl⟩
 obtain ⟨v, hz5⟩ : ∃ z, z = sg n5 (lv b32 xs5) := ⟨_, rfl⟩
 obtain ⟨p, hz6⟩ : ∃ z, z = sg n6 (lv b32 xs6) := ⟨_, rfl⟩
 have hlim := ns_lim hin
 refine calls_sc (l := [.vl (.agg #[.bool n1, .slice A1 l1 c1, .bool n2, .slice A2 l2 c2]), .vl (.agg #[.bool n3, .slice A3 l3 c3, .bool n4, .slice A4 l4 c4]), .vl (.agg #[.bool n5, .slice A5 l5 c5, .bool n6, .slice A6 l6 c6]), .vl (.slice A7 ns.length c7)]) (us := [.agg #[.bool n1, .slice A1 l1 c1, .bool n2, .slice A2 l2 c2], .agg #[.bool n3, .slice A3 l3 c3, .bool n4, .slice A4 l4 c4], .agg #[.bool n5, .slice A5 l5 c5, .bool n6, .slice A6 l6 c6], .slice A7 ns.length c7]) 130 Tryz.func7 rfl Tryz.ntmps7 (by simp) ⟨rfl, rfl, rfl, rfl, rfl, rfl, rfl, rfl, trivial⟩ ?_
 refine SC.seq (SC.region ?_)
 refine PW.box (x := .tmp 0) (r := .vl (.agg #[.bool n1, .slice A1 l1 c1, .bool n2, .slice A2 l2 c2])) (BQ 26) rfl rfl rfl rfl rfl bQN rfl sh_VQ ?_
 refine PW.box (x := .tmp 1) (r := .vl (.agg #[.bool n3, .slice A3 l3 c3, .bool n4, .slice A4 l4 c4])) (BQ 26) rfl rfl rfl rfl rfl bQN rfl sh_VQ ?_
 refine PW.box (x := .tmp 2) (r := .vl (.agg #[.bool n5, .slice A5 l5 c5, .bool n6, .slice A6 l6 c6])) (BQ 26) rfl rfl rfl rfl rfl bQN rfl sh_VQ ?_
 refine PW.assign rfl rfl rfl rfl rfl (PW.nil (SX.then (SC.seq (SC.seq ?_))))
 by_cases hq : shQ 3 [((n1, A1, l1, c1), (n2, A2, l2, c2)), ((n3, A3, l3, c3), (n4, A4, l4, c4)), ((n5, A5, l5, c5), (n6, A6, l6, c6))] = true
 ·have hlehq : (l1 ≤ 3 ∧ l2 ≤ 3) ∧ (l3 ≤ 3 ∧ l4 ≤ 3) ∧ (l5 ≤ 3 ∧ l6 ≤ 3) := by simpa [shB, shQ] using hq
  have X : bd 3 x := hz1 ▸ bd_sg h1.2.2.2 (by have := h1.1; omega)
  have Y : bd 3 y := hz2 ▸ bd_sg h2.2.2.2 (by have := h2.1; omega)
  have Z : bd 3 z := hz3 ▸ bd_sg h3.2.2.2 (by have := h3.1; omega)
  have U : bd 3 u := hz4 ▸ bd_sg h4.2.2.2 (by have := h4.1; omega)
  have V : bd 3 v := hz5 ▸ bd_sg h5.2.2.2 (by have := h5.1; omega)
  have P : bd 3 p := hz6 ▸ bd_sg h6.2.2.2 (by have := h6.1; omega)
  have hl1 : l1 ≤ 3 := by omega
  have hl2 : l2 ≤ 3 := by omega
  have hl3 : l3 ≤ 3 := by omega
  have hl4 : l4 ≤ 3 := by omega
  have hl5 : l5 ≤ 3 := by omega
  have hl6 : l6 ≤ 3 := by omega
  by_cases h12 : ns.length ≤ 12
  ·by_cases hs1 : shB 1 ns = true
   ·have hlim1 := shB_le hs1
    have hzb := zs_bd hzl hin hlim1
    have XA : bq 4 (ofq x y) := bq.of X Y
    obtain ⟨L, hL⟩ := cf_ex XA
    have hLb : ∀ i, bd (4 + 1) (at0 L i) := cf_bd hL
    have hLl : L.length ≤ 1000000 := by have := hL.len; omega
    refine SC.region ?_
    refine PW.loadV rfl rfl rfl rfl rfl rfl ?_
    refine PW.loadV rfl rfl rfl rfl rfl rfl ?_
    refine PW.loadV rfl rfl rfl rfl rfl rfl ?_
    refine PW.short3 3 [((n1, A1, l1, c1), (n2, A2, l2, c2)), ((n3, A3, l3, c3), (n4, A4, l4, c4)), ((n5, A5, l5, c5), (n6, A6, l6, c6))] _ rfl rfl rfl (fun a W hf => r_bQ3 (hf.vl (s := 29) rfl) (hf.vl (s := 30) rfl) (hf.vl (s := 31) rfl)) (fun W => qs_lit3 W) (by simp; exact ⟨⟨In.lim h1, In.lim h2⟩, ⟨In.lim h3, In.lim h4⟩, ⟨In.lim h5, In.lim h6⟩⟩) rfl rfl hq rfl rfl rfl rfl rfl rfl ?_
    refine PW.q1 (x := .tmp 33) (.bool false) rfl rfl rfl rfl (fun ρ W h1 => by go_simp) ?_
    refine PW.move rfl rfl rfl rfl rfl (PW.move rfl rfl rfl rfl rfl ?_)
    refine PW.qn [(.tmp 36, .slice A7 ns.length c7)] (.int .i64 ((ns.length : Int))) rfl rfl rfl ⟨rfl, trivial⟩ (fun ρ W h => by obtain ⟨h1, _⟩ := h; exact r_lenN h1) ?_
    refine PW.q2 (x := .tmp 37) (y := .const (.int .i64 12)) (.bool false) rfl rfl rfl rfl rfl (fun ρ W h1 h2 => by exact r_gt h1 h2 (decide_eq_false (by omega))) ?_
    refine PW.pick (t := false) rfl rfl rfl rfl rfl rfl ?_
    refine PW.move rfl rfl rfl rfl rfl (PW.move rfl rfl rfl rfl rfl ?_)
    refine PW.callG (r := .vl (.bool true)) ce_short rfl rfl rfl rfl rfl (KV.st _) rfl (fun a W hf => by have h1 := hf.vl (s := 41) rfl; show Calls Tryz.prog _ #[.int .i64 1, a.tmps.getD 41 undef] W _; rw [h1]; have := shortL_c (c := c7) (most := 1) (hl.nw hf.be) (by decide) (by omega) hlim; rw [hs1] at this; exact this) ?_
    refine PW.q1 (x := .tmp 42) (.bool false) rfl rfl rfl rfl (fun ρ W h1 => by go_simp) ?_
    refine PW.pick (t := false) rfl rfl rfl rfl rfl rfl ?_
    refine PW.nil (SX.then (SC.cond (t := false) rfl (SC.skip (SX.then (SC.seq (SC.region ?_))))))
    refine PW.loadV rfl rfl rfl rfl rfl rfl ?_
    refine PW.callG (r := .kw (K2 (KQ (ofq x y).num (((ofq x y).den : Int) - 1)) (KR3 (ofq x y).num ((ofq x y).den : Int)))) ce_of3 rfl rfl rfl rfl rfl (K2.st (KQ.st _ _) (KR3.st _ _)) rfl (fun a W hf => by have e1 := hf.vl (s := 47) rfl; show Calls Tryz.prog _ #[a.tmps.getD 47 undef] W _; rw [e1]; exact of3_c (in_be h1 hf.be) (in_be h2 hf.be) hz1 hz2 X Y (by omega) (by omega) (by decide)) ?_
    refine PW.move rfl rfl rfl rfl rfl ?_
    refine PW.ext (r := .kw (KQ (ofq x y).num (((ofq x y).den : Int) - 1))) rfl rfl rfl rfl rfl ex20 (KQ.st _ _) rfl ?_
    refine PW.ext (r := .kw (KR3 (ofq x y).num ((ofq x y).den : Int))) rfl rfl rfl rfl rfl ex21 (KR3.st _ _) rfl ?_
    refine PW.alloc (BQ 38) rfl rfl rfl rfl rfl bQ ?_
    refine PW.alloc (BQ 43) rfl rfl rfl rfl rfl bQJ ?_
    refine PW.store (x := .tmp 49) (r := .kw (KQ (ofq x y).num (((ofq x y).den : Int) - 1))) rfl rfl rfl rfl rfl rfl sh_Q ?_
    refine PW.store (x := .tmp 50) (r := .kw (KR3 (ofq x y).num ((ofq x y).den : Int))) rfl rfl rfl rfl rfl rfl sh_R3 ?_
    refine PW.nil (SX.then (SC.seq (SC.seq ?_)))
    refine SC.dx [.val 51 (.kw (KQ (ofq x y).num (((ofq x y).den : Int) - 1))), .gs 52 31 2 L.length (RsI L), .val 53 (.kw (KR3 (ofq x y).num ((ofq x y).den : Int))), .gs 54 34 2 L.length (RsJ L), .val 55 (.vl (.bool true)), .val 56 (.vl (.bool false))] [([], [9]), ([0], []), ([], [10]), ([2], []), ([1, 3], []), ([4], [])] rfl (by kernel_rfl) (by kernel_rfl) (by kernel_rfl) rfl ⟨?_, ?_, ?_, ?_, ?_, ?_, trivial⟩ ?_
    ·exact DX.load rfl rfl rfl rfl rfl rfl
    ·exact DX.callE ce_exp rfl rfl rfl rfl rfl rfl rfl (fun v W hv => exp_c hL XA (by decide) (by decide) hv)
    ·exact DX.load rfl rfl rfl rfl rfl rfl
    ·exact DX.callE ce_jexp rfl rfl rfl rfl rfl rfl rfl (fun v W hv => jexp_c hL XA (by decide) (by decide) hv)
    ·exact DX.callG (r := .vl (.bool true)) ce_equal rfl rfl rfl rfl rfl (KV.st _) rfl (fun a W hf => eq_rows (hf.ho 52 _ rfl) (hf.ho 54 _ rfl) hLb (by decide) hLl)
    ·exact DX.q1 (x := .tmp 55) (.bool false) rfl rfl rfl rfl (fun ρ W h1 => by go_simp)
    refine SX.then (SC.cond (t := false) rfl (SC.skip (SX.then (SC.seq (SC.region (PW.assign rfl rfl rfl rfl rfl (PW.nil (SX.then (SC.seq (SC.region (PW.assign rfl rfl rfl rfl rfl (PW.nil ?_))))))))))))
    refine SX.then (SC.seq (SC.seq (SC.region (PW.move rfl rfl rfl rfl rfl ?_))))
    refine PW.qn [(.tmp 57, .slice A7 ns.length c7)] (.int .i64 ((ns.length : Int))) rfl rfl rfl ⟨rfl, trivial⟩ (fun ρ W h => by obtain ⟨h1, _⟩ := h; exact r_lenN h1) ?_
    refine PW.move rfl rfl rfl rfl rfl (PW.nil (SX.then (SC.block ?_)))
    refine SC.weak (fun a W hf => Fr.nilz 130 hf) ?_
    refine SC.weak (fun a W hf => Fr.nilzj 131 hf) ?_
    refine SC.loop (S := Nat × Value × Value) (fun ⟨k, va, vb⟩ => [(5, .bx (BQ 26) (KV (.agg #[.bool n3, .slice A3 l3 c3, .bool n4, .slice A4 l4 c4]))), (6, .bx (BQ 26) (KV (.agg #[.bool n5, .slice A5 l5 c5, .bool n6, .slice A6 l6 c6]))), (8, .vl (.bool false)), (11, .vl (va)), (12, .vl (vb)), (57, .vl (.slice A7 ns.length c7)), (58, .vl (.int .i64 ((ns.length : Int)))), (59, .vl (.int .i64 (k : Int))), (130, .rs (va) 31 2 (zs.take k : List Int).length (RsI (zs.take k))), (131, .rs (vb) 34 2 (zs.take k : List Int).length (RsJ (zs.take k)))]) (fun ⟨k, va, vb⟩ => k ≤ ns.length) (fun ⟨k, va, vb⟩ => ns.length - k) (0, .slice none 0 0, .slice none 0 0) (Nat.zero_le _) ⟨rfl, rfl, rfl, rfl, rfl, rfl, rfl, rfl, rfl, rfl, trivial⟩ ?_
    rintro ⟨k, va, vb⟩ hk0
    show SC _ _ _ _ [(5, .bx (BQ 26) (KV (.agg #[.bool n3, .slice A3 l3 c3, .bool n4, .slice A4 l4 c4]))), (6, .bx (BQ 26) (KV (.agg #[.bool n5, .slice A5 l5 c5, .bool n6, .slice A6 l6 c6]))), (8, .vl (.bool false)), (11, .vl (va)), (12, .vl (vb)), (57, .vl (.slice A7 ns.length c7)), (58, .vl (.int .i64 ((ns.length : Int)))), (59, .vl (.int .i64 (k : Int))), (130, .rs (va) 31 2 (zs.take k : List Int).length (RsI (zs.take k))), (131, .rs (vb) 34 2 (zs.take k : List Int).length (RsJ (zs.take k)))] _
    refine SC.seq ?_
    by_cases hk : k < ns.length
    ·obtain ⟨⟨n0, D0, l0, c0⟩, he⟩ : ∃ x, ns[k]? = some x := ⟨_, List.getElem?_eq_getElem hk⟩
     obtain ⟨xs0, hi0, hz0⟩ := hin k _ _ _ _ he
     have hl0 := hlim1 k _ _ _ _ he
     refine SC.region ?_
     refine PW.q2 (x := .tmp 59) (y := .tmp 58) (.bool true) rfl rfl rfl rfl rfl (fun ρ W h1 h2 => by exact r_lt h1 h2 (decide_eq_true (by omega))) ?_
     refine PW.nil (SX.then (SC.seq (SC.cond (t := true) rfl (SC.skip (SX.then (SC.seq (SC.block (SC.seq (SC.region ?_)))))))))
     refine PW.q2 (x := .tmp 57) (y := .tmp 59) (.pointer (padd A7 (k * 2))) rfl rfl rfl rfl rfl (fun ρ W h1 h2 => r_idxNA hl he h1 h2) ?_
     refine PW.ldN hl he rfl rfl rfl rfl ?_
     refine PW.alloc (BI 24) rfl rfl rfl rfl rfl bN ?_
     refine PW.store (x := .tmp 62) (r := .vl (.agg #[.bool n0, .slice D0 l0 c0])) rfl rfl rfl rfl rfl rfl sh_V ?_
     refine PW.nil (SX.then (SC.seq (SC.region ?_)))
     refine PW.loadV rfl rfl rfl rfl rfl rfl ?_
     refine PW.callG (r := .kw (K2 (KI (at0 zs k)) (KJ (at0 zs k)))) ce_of rfl rfl rfl rfl rfl (K2.st (KI.st _) (KJ.st _)) rfl (fun a W hf => by have e1 := hf.vl (s := 64) rfl; show Calls Tryz.prog _ #[a.tmps.getD 64 undef] W _; rw [e1]; exact of_in hi0 hf.be (by omega) hz0) ?_
     refine PW.move rfl rfl rfl rfl rfl ?_
     refine PW.ext (r := .kw (KI (at0 zs k))) rfl rfl rfl rfl rfl ex20 (KI.st _) rfl ?_
     refine PW.ext (r := .kw (KJ (at0 zs k))) rfl rfl rfl rfl rfl ex21 (KJ.st _) rfl ?_
     refine PW.alloc (BI 31) rfl rfl rfl rfl rfl bI ?_
     refine PW.alloc (BI 34) rfl rfl rfl rfl rfl bJ ?_
     refine PW.store (x := .tmp 66) (r := .kw (KI (at0 zs k))) rfl rfl rfl rfl rfl rfl sh_I ?_
     refine PW.store (x := .tmp 67) (r := .kw (KJ (at0 zs k))) rfl rfl rfl rfl rfl rfl sh_J ?_
     refine PW.nil (SX.then ?_)
     refine SC.keep ((130, .rs (va) 31 2 (zs.take k : List Int).length (RsI (zs.take k))) :: (131, .rs (vb) 34 2 (zs.take k : List Int).length (RsJ (zs.take k))) :: [(5, .bx (BQ 26) (KV (.agg #[.bool n3, .slice A3 l3 c3, .bool n4, .slice A4 l4 c4]))), (6, .bx (BQ 26) (KV (.agg #[.bool n5, .slice A5 l5 c5, .bool n6, .slice A6 l6 c6]))), (8, .vl (.bool false)), (11, .vl (va)), (12, .vl (vb)), (15, .bx (BI 31) (KI (at0 zs k))), (16, .bx (BI 34) (KJ (at0 zs k))), (57, .vl (.slice A7 ns.length c7)), (58, .vl (.int .i64 ((ns.length : Int)))), (59, .vl (.int .i64 (k : Int)))]) ⟨rfl, rfl, rfl, rfl, rfl, rfl, rfl, rfl, rfl, rfl, rfl, rfl, trivial⟩ ?_
     obtain ⟨es, hes⟩ : ∃ es : Value → Value → List Eff, es = fun v1 v2 => [.val 68 (.vl (va)), .val 69 (.kw (KI (at0 zs k))), .gs 70 31 2 1 (RsI [at0 zs k]), .val 71 (.vl v1), .val 72 (.vl (vb)), .val 73 (.kw (KJ (at0 zs k))), .gs 74 34 2 1 (RsJ [at0 zs k]), .val 75 (.vl v2)] := ⟨_, rfl⟩
     refine SC.inv 8 (fun L a W => ∃ v1 v2, Fr w.heap.size 130 w (cur 0 ([.val 68 (.vl (va)), .val 69 (.kw (KI (at0 zs k))), .gs 70 31 2 1 (RsI [at0 zs k]), .val 71 (.vl v1), .val 72 (.vl (vb)), .val 73 (.kw (KJ (at0 zs k))), .gs 74 34 2 1 (RsJ [at0 zs k]), .val 75 (.vl v2)]) L ((130, bif L 3 then .rs (v1) 31 2 (zs.take k ++ [at0 zs k] : List Int).length (RsI (zs.take k ++ [at0 zs k])) else .rs (va) 31 2 (zs.take k : List Int).length (RsI (zs.take k))) :: (131, bif L 7 then .rs (v2) 34 2 (zs.take k ++ [at0 zs k] : List Int).length (RsJ (zs.take k ++ [at0 zs k])) else .rs (vb) 34 2 (zs.take k : List Int).length (RsJ (zs.take k))) :: [(5, .bx (BQ 26) (KV (.agg #[.bool n3, .slice A3 l3 c3, .bool n4, .slice A4 l4 c4]))), (6, .bx (BQ 26) (KV (.agg #[.bool n5, .slice A5 l5 c5, .bool n6, .slice A6 l6 c6]))), (8, .vl (.bool false)), (11, .vl (va)), (12, .vl (vb)), (15, .bx (BI 31) (KI (at0 zs k))), (16, .bx (BI 34) (KJ (at0 zs k))), (57, .vl (.slice A7 ns.length c7)), (58, .vl (.int .i64 ((ns.length : Int)))), (59, .vl (.int .i64 (k : Int)))])) a W) rfl (by kernel_rfl) (by kernel_rfl) ?_ ?_ ?_ ?_
     ·exact fun a W hf => ⟨undef, undef, hf⟩
     ·intro L L' a W e hI
      obtain rfl : L = L' := funext e
      exact hI
     ·intro i o hi ho L a W hD hL hw hI K hK
      obtain ⟨v1, v2, hf⟩ := hI
      obtain rfl | rfl | rfl | rfl | rfl | rfl | rfl | rfl : i = 0 ∨ i = 1 ∨ i = 2 ∨ i = 3 ∨ i = 4 ∨ i = 5 ∨ i = 6 ∨ i = 7 := by omega
      ·injection ho with ho
       subst ho
       cases h3 : L 3 <;> cases h7 : L 7 <;> (rw [h3, h7] at hf; simp only [cond_false, cond_true] at hf; exact step_see (i := 0) rfl (es := [.val 68 (.vl (va)), .val 69 (.kw (KI (at0 zs k))), .gs 70 31 2 1 (RsI [at0 zs k]), .val 71 (.vl v1), .val 72 (.vl (vb)), .val 73 (.kw (KJ (at0 zs k))), .gs 74 34 2 1 (RsJ [at0 zs k]), .val 75 (.vl v2)]) rfl (by kernel_rfl) [] [11] (by kernel_rfl) (by exact DX.move rfl rfl rfl rfl rfl rfl) rfl hD hL hw hf fun a' W' h => hK _ _ ⟨v1, v2, by rw [show add L 0 3 = L 3 from rfl, h3, show add L 0 7 = L 7 from rfl, h7]; exact h⟩)
      ·injection ho with ho
       subst ho
       cases h3 : L 3 <;> cases h7 : L 7 <;> (rw [h3, h7] at hf; simp only [cond_false, cond_true] at hf; exact step_see (i := 1) rfl (es := [.val 68 (.vl (va)), .val 69 (.kw (KI (at0 zs k))), .gs 70 31 2 1 (RsI [at0 zs k]), .val 71 (.vl v1), .val 72 (.vl (vb)), .val 73 (.kw (KJ (at0 zs k))), .gs 74 34 2 1 (RsJ [at0 zs k]), .val 75 (.vl v2)]) rfl (by kernel_rfl) [] [15] (by kernel_rfl) (by exact DX.load rfl rfl rfl rfl rfl rfl) rfl hD hL hw hf fun a' W' h => hK _ _ ⟨v1, v2, by rw [show add L 1 3 = L 3 from rfl, h3, show add L 1 7 = L 7 from rfl, h7]; exact h⟩)
      ·injection ho with ho
       subst ho
       cases h3 : L 3 <;> cases h7 : L 7 <;> (rw [h3, h7] at hf; simp only [cond_false, cond_true] at hf; exact step_see (i := 2) rfl (es := [.val 68 (.vl (va)), .val 69 (.kw (KI (at0 zs k))), .gs 70 31 2 1 (RsI [at0 zs k]), .val 71 (.vl v1), .val 72 (.vl (vb)), .val 73 (.kw (KJ (at0 zs k))), .gs 74 34 2 1 (RsJ [at0 zs k]), .val 75 (.vl v2)]) rfl (by kernel_rfl) [1] [] (by kernel_rfl) (by exact DX.bz (x := .tmp 69) rfl rfl rfl rfl (fun ρ W m A l c h1 => r_bz h1)) rfl hD hL hw hf fun a' W' h => hK _ _ ⟨v1, v2, by rw [show add L 2 3 = L 3 from rfl, h3, show add L 2 7 = L 7 from rfl, h7]; exact h⟩)
      ·unfold wpOp
       rw [ho]
       simp only []
       have hoo := Option.some.inj ho
       rw [if_pos (by subst hoo; rfl)]
       cases h7 : L 7
       ·rw [hL, h7] at hf
        simp only [cond_false, cond_true] at hf
        obtain ⟨v', W2, e2, hf2⟩ := apz_run (K := 130) (d := 71) (s := 68) (x := 70) (v := va) (zs := zs.take k) (z := at0 zs k) (o := o) hf (by subst hoo; rfl) rfl (by subst hoo; rfl) (see_spec hD hL hw [0, 2] [130] (by kernel_rfl) 68 _ rfl) (see_spec hD hL hw [0, 2] [130] (by kernel_rfl) 70 _ rfl) (see_spec hD hL hw [0, 2] [130] (by kernel_rfl) 130 _ rfl) Tryz.underlying66 (by rw [List.length_take]; omega) rfl
        refine .inl ?_
        unfold Oper.wp
        rw [e2, Oper.upon_value, show o.dst = some 71 by subst hoo; rfl]
        refine hK _ _ ⟨v', v2, ?_⟩
        rw [show add L 3 3 = true from rfl, show add L 3 7 = L 7 from rfl, h7]
        simp only [cond_true, cond_false]
        have e1 : ∀ bs, cur 0 ([.val 68 (.vl (va)), .val 69 (.kw (KI (at0 zs k))), .gs 70 31 2 1 (RsI [at0 zs k]), .val 71 (.vl v1), .val 72 (.vl (vb)), .val 73 (.kw (KJ (at0 zs k))), .gs 74 34 2 1 (RsJ [at0 zs k]), .val 75 (.vl v2)]) L bs = cur 0 ([.val 68 (.vl (va)), .val 69 (.kw (KI (at0 zs k))), .gs 70 31 2 1 (RsI [at0 zs k]), .val 71 (.vl v'), .val 72 (.vl (vb)), .val 73 (.kw (KJ (at0 zs k))), .gs 74 34 2 1 (RsJ [at0 zs k]), .val 75 (.vl v2)]) L bs := fun bs => by simp only [cur, hL, Nat.zero_add, Nat.reduceAdd, Bool.false_eq_true, if_false]
        rw [e1] at hf2
        refine hf2.ext fun s => ?_
        have hn0 : ∀ e ∈ ([.val 68 (.vl (va)), .val 69 (.kw (KI (at0 zs k))), .gs 70 31 2 1 (RsI [at0 zs k]), .val 71 (.vl v'), .val 72 (.vl (vb)), .val 73 (.kw (KJ (at0 zs k))), .gs 74 34 2 1 (RsJ [at0 zs k]), .val 75 (.vl v2)] : List Eff), e.slot ≠ 130 := by intro e he; simp only [List.mem_cons, List.not_mem_nil, or_false] at he; rcases he with rfl | rfl | rfl | rfl | rfl | rfl | rfl | rfl <;> simp [Eff.slot]
        have hn1 : ∀ e ∈ ([.val 68 (.vl (va)), .val 69 (.kw (KI (at0 zs k))), .gs 70 31 2 1 (RsI [at0 zs k]), .val 71 (.vl v'), .val 72 (.vl (vb)), .val 73 (.kw (KJ (at0 zs k))), .gs 74 34 2 1 (RsJ [at0 zs k]), .val 75 (.vl v2)] : List Eff), e.slot ≠ 131 := by intro e he; simp only [List.mem_cons, List.not_mem_nil, or_false] at he; rcases he with rfl | rfl | rfl | rfl | rfl | rfl | rfl | rfl <;> simp [Eff.slot]
        rw [look_add (i := 3) (e := .val 71 (.vl v')) rfl hL (twice_off (by kernel_rfl) hD rfl hL) s]
        show Sy.look ((71, .vl v') :: cur 0 ([.val 68 (.vl (va)), .val 69 (.kw (KI (at0 zs k))), .gs 70 31 2 1 (RsI [at0 zs k]), .val 71 (.vl v'), .val 72 (.vl (vb)), .val 73 (.kw (KJ (at0 zs k))), .gs 74 34 2 1 (RsJ [at0 zs k]), .val 75 (.vl v2)]) L _) s = _
        simp only [look_cons, look_base2 hn0 hn1]
        repeat (first | rfl | omega | split)
       ·rw [hL, h7] at hf
        simp only [cond_false, cond_true] at hf
        obtain ⟨v', W2, e2, hf2⟩ := apz_run (K := 130) (d := 71) (s := 68) (x := 70) (v := va) (zs := zs.take k) (z := at0 zs k) (o := o) hf (by subst hoo; rfl) rfl (by subst hoo; rfl) (see_spec hD hL hw [0, 2] [130] (by kernel_rfl) 68 _ rfl) (see_spec hD hL hw [0, 2] [130] (by kernel_rfl) 70 _ rfl) (see_spec hD hL hw [0, 2] [130] (by kernel_rfl) 130 _ rfl) Tryz.underlying66 (by rw [List.length_take]; omega) rfl
        refine .inl ?_
        unfold Oper.wp
        rw [e2, Oper.upon_value, show o.dst = some 71 by subst hoo; rfl]
        refine hK _ _ ⟨v', v2, ?_⟩
        rw [show add L 3 3 = true from rfl, show add L 3 7 = L 7 from rfl, h7]
        simp only [cond_true, cond_false]
        have e1 : ∀ bs, cur 0 ([.val 68 (.vl (va)), .val 69 (.kw (KI (at0 zs k))), .gs 70 31 2 1 (RsI [at0 zs k]), .val 71 (.vl v1), .val 72 (.vl (vb)), .val 73 (.kw (KJ (at0 zs k))), .gs 74 34 2 1 (RsJ [at0 zs k]), .val 75 (.vl v2)]) L bs = cur 0 ([.val 68 (.vl (va)), .val 69 (.kw (KI (at0 zs k))), .gs 70 31 2 1 (RsI [at0 zs k]), .val 71 (.vl v'), .val 72 (.vl (vb)), .val 73 (.kw (KJ (at0 zs k))), .gs 74 34 2 1 (RsJ [at0 zs k]), .val 75 (.vl v2)]) L bs := fun bs => by simp only [cur, hL, Nat.zero_add, Nat.reduceAdd, Bool.false_eq_true, if_false]
        rw [e1] at hf2
        refine hf2.ext fun s => ?_
        have hn0 : ∀ e ∈ ([.val 68 (.vl (va)), .val 69 (.kw (KI (at0 zs k))), .gs 70 31 2 1 (RsI [at0 zs k]), .val 71 (.vl v'), .val 72 (.vl (vb)), .val 73 (.kw (KJ (at0 zs k))), .gs 74 34 2 1 (RsJ [at0 zs k]), .val 75 (.vl v2)] : List Eff), e.slot ≠ 130 := by intro e he; simp only [List.mem_cons, List.not_mem_nil, or_false] at he; rcases he with rfl | rfl | rfl | rfl | rfl | rfl | rfl | rfl <;> simp [Eff.slot]
        have hn1 : ∀ e ∈ ([.val 68 (.vl (va)), .val 69 (.kw (KI (at0 zs k))), .gs 70 31 2 1 (RsI [at0 zs k]), .val 71 (.vl v'), .val 72 (.vl (vb)), .val 73 (.kw (KJ (at0 zs k))), .gs 74 34 2 1 (RsJ [at0 zs k]), .val 75 (.vl v2)] : List Eff), e.slot ≠ 131 := by intro e he; simp only [List.mem_cons, List.not_mem_nil, or_false] at he; rcases he with rfl | rfl | rfl | rfl | rfl | rfl | rfl | rfl <;> simp [Eff.slot]
        rw [look_add (i := 3) (e := .val 71 (.vl v')) rfl hL (twice_off (by kernel_rfl) hD rfl hL) s]
        show Sy.look ((71, .vl v') :: cur 0 ([.val 68 (.vl (va)), .val 69 (.kw (KI (at0 zs k))), .gs 70 31 2 1 (RsI [at0 zs k]), .val 71 (.vl v'), .val 72 (.vl (vb)), .val 73 (.kw (KJ (at0 zs k))), .gs 74 34 2 1 (RsJ [at0 zs k]), .val 75 (.vl v2)]) L _) s = _
        simp only [look_cons, look_base2 hn0 hn1]
        repeat (first | rfl | omega | split)
      ·injection ho with ho
       subst ho
       cases h3 : L 3 <;> cases h7 : L 7 <;> (rw [h3, h7] at hf; simp only [cond_false, cond_true] at hf; exact step_see (i := 4) rfl (es := [.val 68 (.vl (va)), .val 69 (.kw (KI (at0 zs k))), .gs 70 31 2 1 (RsI [at0 zs k]), .val 71 (.vl v1), .val 72 (.vl (vb)), .val 73 (.kw (KJ (at0 zs k))), .gs 74 34 2 1 (RsJ [at0 zs k]), .val 75 (.vl v2)]) rfl (by kernel_rfl) [] [12] (by kernel_rfl) (by exact DX.move rfl rfl rfl rfl rfl rfl) rfl hD hL hw hf fun a' W' h => hK _ _ ⟨v1, v2, by rw [show add L 4 3 = L 3 from rfl, h3, show add L 4 7 = L 7 from rfl, h7]; exact h⟩)
      ·injection ho with ho
       subst ho
       cases h3 : L 3 <;> cases h7 : L 7 <;> (rw [h3, h7] at hf; simp only [cond_false, cond_true] at hf; exact step_see (i := 5) rfl (es := [.val 68 (.vl (va)), .val 69 (.kw (KI (at0 zs k))), .gs 70 31 2 1 (RsI [at0 zs k]), .val 71 (.vl v1), .val 72 (.vl (vb)), .val 73 (.kw (KJ (at0 zs k))), .gs 74 34 2 1 (RsJ [at0 zs k]), .val 75 (.vl v2)]) rfl (by kernel_rfl) [] [16] (by kernel_rfl) (by exact DX.load rfl rfl rfl rfl rfl rfl) rfl hD hL hw hf fun a' W' h => hK _ _ ⟨v1, v2, by rw [show add L 5 3 = L 3 from rfl, h3, show add L 5 7 = L 7 from rfl, h7]; exact h⟩)
      ·injection ho with ho
       subst ho
       cases h3 : L 3 <;> cases h7 : L 7 <;> (rw [h3, h7] at hf; simp only [cond_false, cond_true] at hf; exact step_see (i := 6) rfl (es := [.val 68 (.vl (va)), .val 69 (.kw (KI (at0 zs k))), .gs 70 31 2 1 (RsI [at0 zs k]), .val 71 (.vl v1), .val 72 (.vl (vb)), .val 73 (.kw (KJ (at0 zs k))), .gs 74 34 2 1 (RsJ [at0 zs k]), .val 75 (.vl v2)]) rfl (by kernel_rfl) [5] [] (by kernel_rfl) (by exact DX.bzj (x := .tmp 73) rfl rfl rfl rfl (fun ρ W m A l c h1 => r_bzj h1)) rfl hD hL hw hf fun a' W' h => hK _ _ ⟨v1, v2, by rw [show add L 6 3 = L 3 from rfl, h3, show add L 6 7 = L 7 from rfl, h7]; exact h⟩)
      ·unfold wpOp
       rw [ho]
       simp only []
       have hoo := Option.some.inj ho
       rw [if_pos (by subst hoo; rfl)]
       cases h7 : L 3
       ·rw [hL, h7] at hf
        simp only [cond_false, cond_true] at hf
        obtain ⟨v', W2, e2, hf2⟩ := apzj_run (K := 131) (d := 75) (s := 72) (x := 74) (v := vb) (zs := zs.take k) (z := at0 zs k) (o := o) hf (by subst hoo; rfl) rfl (by subst hoo; rfl) (see_spec hD hL hw [4, 6] [131] (by kernel_rfl) 72 _ rfl) (see_spec hD hL hw [4, 6] [131] (by kernel_rfl) 74 _ rfl) (see_spec hD hL hw [4, 6] [131] (by kernel_rfl) 131 _ rfl) Tryz.underlying82 (by rw [List.length_take]; omega) rfl
        refine .inl ?_
        unfold Oper.wp
        rw [e2, Oper.upon_value, show o.dst = some 75 by subst hoo; rfl]
        refine hK _ _ ⟨v1, v', ?_⟩
        rw [show add L 7 7 = true from rfl, show add L 7 3 = L 3 from rfl, h7]
        simp only [cond_true, cond_false]
        have e1 : ∀ bs, cur 0 ([.val 68 (.vl (va)), .val 69 (.kw (KI (at0 zs k))), .gs 70 31 2 1 (RsI [at0 zs k]), .val 71 (.vl v1), .val 72 (.vl (vb)), .val 73 (.kw (KJ (at0 zs k))), .gs 74 34 2 1 (RsJ [at0 zs k]), .val 75 (.vl v2)]) L bs = cur 0 ([.val 68 (.vl (va)), .val 69 (.kw (KI (at0 zs k))), .gs 70 31 2 1 (RsI [at0 zs k]), .val 71 (.vl v1), .val 72 (.vl (vb)), .val 73 (.kw (KJ (at0 zs k))), .gs 74 34 2 1 (RsJ [at0 zs k]), .val 75 (.vl v')]) L bs := fun bs => by simp only [cur, hL, Nat.zero_add, Nat.reduceAdd, Bool.false_eq_true, if_false]
        rw [e1] at hf2
        refine hf2.ext fun s => ?_
        have hn0 : ∀ e ∈ ([.val 68 (.vl (va)), .val 69 (.kw (KI (at0 zs k))), .gs 70 31 2 1 (RsI [at0 zs k]), .val 71 (.vl v1), .val 72 (.vl (vb)), .val 73 (.kw (KJ (at0 zs k))), .gs 74 34 2 1 (RsJ [at0 zs k]), .val 75 (.vl v')] : List Eff), e.slot ≠ 130 := by intro e he; simp only [List.mem_cons, List.not_mem_nil, or_false] at he; rcases he with rfl | rfl | rfl | rfl | rfl | rfl | rfl | rfl <;> simp [Eff.slot]
        have hn1 : ∀ e ∈ ([.val 68 (.vl (va)), .val 69 (.kw (KI (at0 zs k))), .gs 70 31 2 1 (RsI [at0 zs k]), .val 71 (.vl v1), .val 72 (.vl (vb)), .val 73 (.kw (KJ (at0 zs k))), .gs 74 34 2 1 (RsJ [at0 zs k]), .val 75 (.vl v')] : List Eff), e.slot ≠ 131 := by intro e he; simp only [List.mem_cons, List.not_mem_nil, or_false] at he; rcases he with rfl | rfl | rfl | rfl | rfl | rfl | rfl | rfl <;> simp [Eff.slot]
        rw [look_add (i := 7) (e := .val 75 (.vl v')) rfl hL (twice_off (by kernel_rfl) hD rfl hL) s]
        show Sy.look ((75, .vl v') :: cur 0 ([.val 68 (.vl (va)), .val 69 (.kw (KI (at0 zs k))), .gs 70 31 2 1 (RsI [at0 zs k]), .val 71 (.vl v1), .val 72 (.vl (vb)), .val 73 (.kw (KJ (at0 zs k))), .gs 74 34 2 1 (RsJ [at0 zs k]), .val 75 (.vl v')]) L _) s = _
        simp only [look_cons, look_base2 hn0 hn1]
        repeat (first | rfl | omega | split)
       ·rw [hL, h7] at hf
        simp only [cond_false, cond_true] at hf
        obtain ⟨v', W2, e2, hf2⟩ := apzj_run (K := 131) (d := 75) (s := 72) (x := 74) (v := vb) (zs := zs.take k) (z := at0 zs k) (o := o) hf (by subst hoo; rfl) rfl (by subst hoo; rfl) (see_spec hD hL hw [4, 6] [131] (by kernel_rfl) 72 _ rfl) (see_spec hD hL hw [4, 6] [131] (by kernel_rfl) 74 _ rfl) (see_spec hD hL hw [4, 6] [131] (by kernel_rfl) 131 _ rfl) Tryz.underlying82 (by rw [List.length_take]; omega) rfl
        refine .inl ?_
        unfold Oper.wp
        rw [e2, Oper.upon_value, show o.dst = some 75 by subst hoo; rfl]
        refine hK _ _ ⟨v1, v', ?_⟩
        rw [show add L 7 7 = true from rfl, show add L 7 3 = L 3 from rfl, h7]
        simp only [cond_true, cond_false]
        have e1 : ∀ bs, cur 0 ([.val 68 (.vl (va)), .val 69 (.kw (KI (at0 zs k))), .gs 70 31 2 1 (RsI [at0 zs k]), .val 71 (.vl v1), .val 72 (.vl (vb)), .val 73 (.kw (KJ (at0 zs k))), .gs 74 34 2 1 (RsJ [at0 zs k]), .val 75 (.vl v2)]) L bs = cur 0 ([.val 68 (.vl (va)), .val 69 (.kw (KI (at0 zs k))), .gs 70 31 2 1 (RsI [at0 zs k]), .val 71 (.vl v1), .val 72 (.vl (vb)), .val 73 (.kw (KJ (at0 zs k))), .gs 74 34 2 1 (RsJ [at0 zs k]), .val 75 (.vl v')]) L bs := fun bs => by simp only [cur, hL, Nat.zero_add, Nat.reduceAdd, Bool.false_eq_true, if_false]
        rw [e1] at hf2
        refine hf2.ext fun s => ?_
        have hn0 : ∀ e ∈ ([.val 68 (.vl (va)), .val 69 (.kw (KI (at0 zs k))), .gs 70 31 2 1 (RsI [at0 zs k]), .val 71 (.vl v1), .val 72 (.vl (vb)), .val 73 (.kw (KJ (at0 zs k))), .gs 74 34 2 1 (RsJ [at0 zs k]), .val 75 (.vl v')] : List Eff), e.slot ≠ 130 := by intro e he; simp only [List.mem_cons, List.not_mem_nil, or_false] at he; rcases he with rfl | rfl | rfl | rfl | rfl | rfl | rfl | rfl <;> simp [Eff.slot]
        have hn1 : ∀ e ∈ ([.val 68 (.vl (va)), .val 69 (.kw (KI (at0 zs k))), .gs 70 31 2 1 (RsI [at0 zs k]), .val 71 (.vl v1), .val 72 (.vl (vb)), .val 73 (.kw (KJ (at0 zs k))), .gs 74 34 2 1 (RsJ [at0 zs k]), .val 75 (.vl v')] : List Eff), e.slot ≠ 131 := by intro e he; simp only [List.mem_cons, List.not_mem_nil, or_false] at he; rcases he with rfl | rfl | rfl | rfl | rfl | rfl | rfl | rfl <;> simp [Eff.slot]
        rw [look_add (i := 7) (e := .val 75 (.vl v')) rfl hL (twice_off (by kernel_rfl) hD rfl hL) s]
        show Sy.look ((75, .vl v') :: cur 0 ([.val 68 (.vl (va)), .val 69 (.kw (KI (at0 zs k))), .gs 70 31 2 1 (RsI [at0 zs k]), .val 71 (.vl v1), .val 72 (.vl (vb)), .val 73 (.kw (KJ (at0 zs k))), .gs 74 34 2 1 (RsJ [at0 zs k]), .val 75 (.vl v')]) L _) s = _
        simp only [look_cons, look_base2 hn0 hn1]
        repeat (first | rfl | omega | split)
     intro L a W hall hI
     obtain ⟨v1, v2, hf⟩ := hI
     rw [hall 3 (by decide), hall 7 (by decide), cur_all _ 0 _ (fun k _ hk => hall k (by simpa using hk))] at hf
     simp only [cond_true] at hf
     refine PW.go hf ?_
     refine PW.assign rfl rfl rfl rfl rfl (PW.assign rfl rfl rfl rfl rfl (PW.nil ?_))
     refine SX.blockN ?_
     refine SX.then ?_
     have hts := take_snoc (zs := zs) (k := k) (by omega)
     rw [hts]
     refine SC.region ?_
     refine PW.q2 (x := .tmp 59) (y := .const (.int .i64 1)) (.int .i64 ((k + 1 : Nat))) rfl rfl rfl rfl rfl (fun ρ W h1 h2 => by exact r_add h1 h2 (by omega) (by omega)) ?_
     refine PW.move rfl rfl rfl rfl rfl (PW.nil ?_)
     refine SX.back (k + 1, v1, v2) ?_ ?_ ?_
     ·exact (show k + 1 ≤ ns.length by omega)
     ·exact (show ns.length - (k + 1) < ns.length - k by omega)
     ·exact ⟨rfl, rfl, rfl, rfl, rfl, rfl, rfl, rfl, rfl, rfl, trivial⟩
    ·refine SC.region ?_
     refine PW.q2 (x := .tmp 59) (y := .tmp 58) (.bool false) rfl rfl rfl rfl rfl (fun ρ W h1 h2 => by exact r_lt h1 h2 (decide_eq_false (by omega))) ?_
     refine PW.nil (SX.then (SC.seq (SC.cond (t := false) rfl (SC.exit (SX.thenE (SX.thenE (SX.blockE (SX.then (SC.seq ?_)))))))))
     have htl0 : (zs.take k).length ≤ 12 := by rw [List.length_take]; omega
     have htb : ∀ i, bd (1 + 1) (at0 (zs.take k) i) := fun i => (take_bd hzb k i).mono (by omega)
     have htT : (1 + 4) * (zs.take k).length ≤ 40000 := by omega
     have htl : (zs.take k).length ≤ 1000000 := by omega
     obtain ⟨cq, ce1, hcq, hKP, hKJ⟩ := ctr_both (zs := zs.take k) (m := 1) htb (by omega)
     obtain ⟨sq, se1, hsq, hS1, hS2⟩ := simp_both (bq.of Z U) (bq.of V P) (by decide) (by decide)
     refine SC.region (PW.move rfl rfl rfl rfl rfl ?_)
     refine PW.callG (r := .kw (K2 (KQ (cq).num (((cq).den : Int) - 1)) (KV (.int .i64 ce1)))) ce_contract rfl rfl rfl rfl rfl (K2.st (KQ.st _ _) (KV.st _)) rfl (fun a W hf => by have h1 := hf.vl (s := 78) rfl; have own : OwS W _ _ 2 (va) (zs.take k : List Int).length (RsI (zs.take k)) := hf.ho 130 _ rfl; obtain ⟨A, c, e1, hc, _⟩ := own.form; rw [e1] at own; show Calls Tryz.prog _ #[a.tmps.getD 78 undef] W _; rw [h1, e1]; have := contract_c (c := c) (own.lin rfl) htb htT (by decide) htl; rw [hKP] at this; exact this) ?_
     refine PW.move rfl rfl rfl rfl rfl ?_
     refine PW.ext (r := .kw (KQ (cq).num (((cq).den : Int) - 1))) rfl rfl rfl rfl rfl ex20 (KQ.st _ _) rfl ?_
     refine PW.ext (r := .vl (.int .i64 ce1)) rfl rfl rfl rfl rfl ex21v (KV.st _) rfl ?_
     refine PW.alloc (BQ 38) rfl rfl rfl rfl rfl bQ ?_
     refine PW.store (x := .tmp 80) (r := .kw (KQ (cq).num (((cq).den : Int) - 1))) rfl rfl rfl rfl rfl rfl sh_Q ?_
     refine PW.assign rfl rfl rfl rfl rfl (PW.nil (SX.then (SC.seq (SC.region (PW.move rfl rfl rfl rfl rfl ?_)))))
     refine PW.callG (r := .kw (K2 (KR3 (cq).num ((cq).den : Int)) (KV (.int .i64 ce1)))) ce_jcontract rfl rfl rfl rfl rfl (K2.st (KR3.st _ _) (KV.st _)) rfl (fun a W hf => by have h1 := hf.vl (s := 83) rfl; have own : OwS W _ _ 2 (vb) (zs.take k : List Int).length (RsJ (zs.take k)) := hf.ho 131 _ rfl; obtain ⟨A, c, e1, hc, _⟩ := own.form; rw [e1] at own; show Calls Tryz.prog _ #[a.tmps.getD 83 undef] W _; rw [h1, e1]; have := jcontract_c (c := c) (own.linj rfl) htb htT (by decide) htl; rw [hKJ] at this; exact this) ?_
     refine PW.move rfl rfl rfl rfl rfl ?_
     refine PW.ext (r := .kw (KR3 (cq).num ((cq).den : Int))) rfl rfl rfl rfl rfl ex20 (KR3.st _ _) rfl ?_
     refine PW.ext (r := .vl (.int .i64 ce1)) rfl rfl rfl rfl rfl ex21v (KV.st _) rfl ?_
     refine PW.alloc (BQ 43) rfl rfl rfl rfl rfl bQJ ?_
     refine PW.store (x := .tmp 85) (r := .kw (KR3 (cq).num ((cq).den : Int))) rfl rfl rfl rfl rfl rfl sh_R3 ?_
     refine PW.assign rfl rfl rfl rfl rfl (PW.nil (SX.then (SC.seq (SC.region ?_))))
     refine PW.loadV rfl rfl rfl rfl rfl rfl ?_
     refine PW.callG (r := .kw (K2 (KQ (ofq z u).num (((ofq z u).den : Int) - 1)) (KR3 (ofq z u).num ((ofq z u).den : Int)))) ce_of3 rfl rfl rfl rfl rfl (K2.st (KQ.st _ _) (KR3.st _ _)) rfl (fun a W hf => by have e1 := hf.vl (s := 88) rfl; show Calls Tryz.prog _ #[a.tmps.getD 88 undef] W _; rw [e1]; exact of3_c (in_be h3 hf.be) (in_be h4 hf.be) hz3 hz4 Z U (by omega) (by omega) (by decide)) ?_
     refine PW.move rfl rfl rfl rfl rfl ?_
     refine PW.ext (r := .kw (KQ (ofq z u).num (((ofq z u).den : Int) - 1))) rfl rfl rfl rfl rfl ex20 (KQ.st _ _) rfl ?_
     refine PW.ext (r := .kw (KR3 (ofq z u).num ((ofq z u).den : Int))) rfl rfl rfl rfl rfl ex21 (KR3.st _ _) rfl ?_
     refine PW.alloc (BQ 38) rfl rfl rfl rfl rfl bQ ?_
     refine PW.alloc (BQ 43) rfl rfl rfl rfl rfl bQJ ?_
     refine PW.store (x := .tmp 90) (r := .kw (KQ (ofq z u).num (((ofq z u).den : Int) - 1))) rfl rfl rfl rfl rfl rfl sh_Q ?_
     refine PW.store (x := .tmp 91) (r := .kw (KR3 (ofq z u).num ((ofq z u).den : Int))) rfl rfl rfl rfl rfl rfl sh_R3 ?_
     refine PW.nil (SX.then (SC.seq (SC.region ?_)))
     refine PW.loadV rfl rfl rfl rfl rfl rfl ?_
     refine PW.callG (r := .kw (K2 (KQ (ofq v p).num (((ofq v p).den : Int) - 1)) (KR3 (ofq v p).num ((ofq v p).den : Int)))) ce_of3 rfl rfl rfl rfl rfl (K2.st (KQ.st _ _) (KR3.st _ _)) rfl (fun a W hf => by have e1 := hf.vl (s := 93) rfl; show Calls Tryz.prog _ #[a.tmps.getD 93 undef] W _; rw [e1]; exact of3_c (in_be h5 hf.be) (in_be h6 hf.be) hz5 hz6 V P (by omega) (by omega) (by decide)) ?_
     refine PW.move rfl rfl rfl rfl rfl ?_
     refine PW.ext (r := .kw (KQ (ofq v p).num (((ofq v p).den : Int) - 1))) rfl rfl rfl rfl rfl ex20 (KQ.st _ _) rfl ?_
     refine PW.ext (r := .kw (KR3 (ofq v p).num ((ofq v p).den : Int))) rfl rfl rfl rfl rfl ex21 (KR3.st _ _) rfl ?_
     refine PW.alloc (BQ 38) rfl rfl rfl rfl rfl bQ ?_
     refine PW.alloc (BQ 43) rfl rfl rfl rfl rfl bQJ ?_
     refine PW.store (x := .tmp 95) (r := .kw (KQ (ofq v p).num (((ofq v p).den : Int) - 1))) rfl rfl rfl rfl rfl rfl sh_Q ?_
     refine PW.store (x := .tmp 96) (r := .kw (KR3 (ofq v p).num ((ofq v p).den : Int))) rfl rfl rfl rfl rfl rfl sh_R3 ?_
     refine PW.nil (SX.then (SC.seq (SC.region ?_)))
     refine PW.load rfl rfl rfl rfl rfl rfl ?_
     refine PW.load rfl rfl rfl rfl rfl rfl ?_
     refine PW.call (r := .kw (K2 (KQ (sq).num (((sq).den : Int) - 1)) (KV (.int .i64 se1)))) rfl rfl rfl rfl rfl rfl (K2.st (KQ.st _ _) (KV.st _)) rfl (hS1) ?_
     refine PW.move rfl rfl rfl rfl rfl ?_
     refine PW.ext (r := .kw (KQ (sq).num (((sq).den : Int) - 1))) rfl rfl rfl rfl rfl ex20 (KQ.st _ _) rfl ?_
     refine PW.ext (r := .vl (.int .i64 se1)) rfl rfl rfl rfl rfl ex21v (KV.st _) rfl ?_
     refine PW.alloc (BQ 38) rfl rfl rfl rfl rfl bQ ?_
     refine PW.store (x := .tmp 101) (r := .kw (KQ (sq).num (((sq).den : Int) - 1))) rfl rfl rfl rfl rfl rfl sh_Q ?_
     refine PW.assign rfl rfl rfl rfl rfl (PW.nil (SX.then (SC.seq (SC.region ?_))))
     refine PW.load rfl rfl rfl rfl rfl rfl ?_
     refine PW.load rfl rfl rfl rfl rfl rfl ?_
     refine PW.call (r := .kw (K2 (KR3 (sq).num ((sq).den : Int)) (KV (.int .i64 se1)))) rfl rfl rfl rfl rfl rfl (K2.st (KR3.st _ _) (KV.st _)) rfl (hS2) ?_
     refine PW.move rfl rfl rfl rfl rfl ?_
     refine PW.ext (r := .kw (KR3 (sq).num ((sq).den : Int))) rfl rfl rfl rfl rfl ex20 (KR3.st _ _) rfl ?_
     refine PW.ext (r := .vl (.int .i64 se1)) rfl rfl rfl rfl rfl ex21v (KV.st _) rfl ?_
     refine PW.alloc (BQ 43) rfl rfl rfl rfl rfl bQJ ?_
     refine PW.store (x := .tmp 107) (r := .kw (KR3 (sq).num ((sq).den : Int))) rfl rfl rfl rfl rfl rfl sh_R3 ?_
     refine PW.assign rfl rfl rfl rfl rfl (PW.nil (SX.then (SC.seq (SC.region (PW.move rfl rfl rfl rfl rfl (PW.move rfl rfl rfl rfl rfl ?_))))))
     refine PW.q2 (x := .tmp 109) (y := .tmp 110) (.bool true) rfl rfl rfl rfl rfl (fun ρ W h1 h2 => by go_simp) ?_
     refine PW.move rfl rfl rfl rfl rfl ?_
     refine PW.load rfl rfl rfl rfl rfl rfl ?_
     refine PW.load rfl rfl rfl rfl rfl rfl ?_
     refine PW.call (r := .vl (.bool true)) rfl rfl rfl rfl rfl rfl (KV.st _) rfl (k_is3 hcq (by omega)) ?_
     refine PW.pick (t := true) rfl rfl rfl rfl rfl rfl ?_
     refine PW.move rfl rfl rfl rfl rfl (PW.move rfl rfl rfl rfl rfl (PW.move rfl rfl rfl rfl rfl ?_))
     refine PW.q2 (x := .tmp 118) (y := .tmp 119) (.bool true) rfl rfl rfl rfl rfl (fun ρ W h1 h2 => by go_simp) ?_
     refine PW.pick (t := true) rfl rfl rfl rfl rfl rfl ?_
     refine PW.move rfl rfl rfl rfl rfl ?_
     refine PW.load rfl rfl rfl rfl rfl rfl ?_
     refine PW.load rfl rfl rfl rfl rfl rfl ?_
     refine PW.call (r := .vl (.bool true)) rfl rfl rfl rfl rfl rfl (KV.st _) rfl (k_is3 hsq (by omega)) ?_
     refine PW.pick (t := true) rfl rfl rfl rfl rfl rfl ?_
     refine PW.move rfl rfl rfl rfl rfl ?_
     refine PW.call (r := .vl (.bool true)) rfl rfl rfl rfl rfl rfl (KV.st _) rfl (k_awake3) ?_
     refine PW.pick (t := true) rfl rfl rfl rfl rfl rfl ?_
     refine PW.assign rfl rfl rfl rfl rfl (PW.nil (SX.then (SC.ret ?_)))
     exact SX.done (r := .vl (.bool true)) rfl rfl rfl
   ·have hs1 : shB 1 ns = false := by simpa using hs1
    refine SC.region ?_
    refine PW.loadV rfl rfl rfl rfl rfl rfl ?_
    refine PW.loadV rfl rfl rfl rfl rfl rfl ?_
    refine PW.loadV rfl rfl rfl rfl rfl rfl ?_
    refine PW.short3 3 [((n1, A1, l1, c1), (n2, A2, l2, c2)), ((n3, A3, l3, c3), (n4, A4, l4, c4)), ((n5, A5, l5, c5), (n6, A6, l6, c6))] _ rfl rfl rfl (fun a W hf => r_bQ3 (hf.vl (s := 29) rfl) (hf.vl (s := 30) rfl) (hf.vl (s := 31) rfl)) (fun W => qs_lit3 W) (by simp; exact ⟨⟨In.lim h1, In.lim h2⟩, ⟨In.lim h3, In.lim h4⟩, ⟨In.lim h5, In.lim h6⟩⟩) rfl rfl hq rfl rfl rfl rfl rfl rfl ?_
    refine PW.q1 (x := .tmp 33) (.bool false) rfl rfl rfl rfl (fun ρ W h1 => by go_simp) ?_
    refine PW.move rfl rfl rfl rfl rfl (PW.move rfl rfl rfl rfl rfl ?_)
    refine PW.qn [(.tmp 36, .slice A7 ns.length c7)] (.int .i64 ((ns.length : Int))) rfl rfl rfl ⟨rfl, trivial⟩ (fun ρ W h => by obtain ⟨h1, _⟩ := h; exact r_lenN h1) ?_
    refine PW.q2 (x := .tmp 37) (y := .const (.int .i64 12)) (.bool false) rfl rfl rfl rfl rfl (fun ρ W h1 h2 => by exact r_gt h1 h2 (decide_eq_false (by omega))) ?_
    refine PW.pick (t := false) rfl rfl rfl rfl rfl rfl ?_
    refine PW.move rfl rfl rfl rfl rfl (PW.move rfl rfl rfl rfl rfl ?_)
    refine PW.callG (r := .vl (.bool false)) ce_short rfl rfl rfl rfl rfl (KV.st _) rfl (fun a W hf => by have h1 := hf.vl (s := 41) rfl; show Calls Tryz.prog _ #[.int .i64 1, a.tmps.getD 41 undef] W _; rw [h1]; have := shortL_c (c := c7) (most := 1) (hl.nw hf.be) (by decide) (by omega) hlim; rw [hs1] at this; exact this) ?_
    refine PW.q1 (x := .tmp 42) (.bool true) rfl rfl rfl rfl (fun ρ W h1 => by go_simp) ?_
    refine PW.pick (t := false) rfl rfl rfl rfl rfl rfl ?_
    refine PW.nil (SX.then (SC.cond (t := true) rfl (SC.seq (SC.region ?_))))
    refine PW.call (r := .vl (.bool true)) rfl rfl rfl rfl rfl rfl (KV.st _) rfl (k_awake3) ?_
    refine PW.assign rfl rfl rfl rfl rfl (PW.nil (SX.then (SC.ret (SX.thenR ?_))))
    exact SX.done (r := .vl (.bool true)) rfl rfl rfl
  ·refine SC.region ?_
   refine PW.loadV rfl rfl rfl rfl rfl rfl ?_
   refine PW.loadV rfl rfl rfl rfl rfl rfl ?_
   refine PW.loadV rfl rfl rfl rfl rfl rfl ?_
   refine PW.short3 3 [((n1, A1, l1, c1), (n2, A2, l2, c2)), ((n3, A3, l3, c3), (n4, A4, l4, c4)), ((n5, A5, l5, c5), (n6, A6, l6, c6))] _ rfl rfl rfl (fun a W hf => r_bQ3 (hf.vl (s := 29) rfl) (hf.vl (s := 30) rfl) (hf.vl (s := 31) rfl)) (fun W => qs_lit3 W) (by simp; exact ⟨⟨In.lim h1, In.lim h2⟩, ⟨In.lim h3, In.lim h4⟩, ⟨In.lim h5, In.lim h6⟩⟩) rfl rfl hq rfl rfl rfl rfl rfl rfl ?_
   refine PW.q1 (x := .tmp 33) (.bool false) rfl rfl rfl rfl (fun ρ W h1 => by go_simp) ?_
   refine PW.move rfl rfl rfl rfl rfl (PW.move rfl rfl rfl rfl rfl ?_)
   refine PW.qn [(.tmp 36, .slice A7 ns.length c7)] (.int .i64 ((ns.length : Int))) rfl rfl rfl ⟨rfl, trivial⟩ (fun ρ W h => by obtain ⟨h1, _⟩ := h; exact r_lenN h1) ?_
   refine PW.q2 (x := .tmp 37) (y := .const (.int .i64 12)) (.bool true) rfl rfl rfl rfl rfl (fun ρ W h1 h2 => by exact r_gt h1 h2 (decide_eq_true (by omega))) ?_
   refine PW.pick (t := false) rfl rfl rfl rfl rfl rfl ?_
   refine PW.move rfl rfl rfl rfl rfl ?_
   refine PW.skip rfl rfl rfl ?_
   refine PW.skip rfl rfl rfl ?_
   refine PW.skip rfl rfl rfl ?_
   refine PW.pick (t := true) rfl rfl rfl rfl rfl rfl ?_
   refine PW.nil (SX.then (SC.cond (t := true) rfl (SC.seq (SC.region ?_))))
   refine PW.call (r := .vl (.bool true)) rfl rfl rfl rfl rfl rfl (KV.st _) rfl (k_awake3) ?_
   refine PW.assign rfl rfl rfl rfl rfl (PW.nil (SX.then (SC.ret (SX.thenR ?_))))
   exact SX.done (r := .vl (.bool true)) rfl rfl rfl
 ·have hq : shQ 3 [((n1, A1, l1, c1), (n2, A2, l2, c2)), ((n3, A3, l3, c3), (n4, A4, l4, c4)), ((n5, A5, l5, c5), (n6, A6, l6, c6))] = false := by simpa using hq
  refine SC.region ?_
  refine PW.loadV rfl rfl rfl rfl rfl rfl ?_
  refine PW.loadV rfl rfl rfl rfl rfl rfl ?_
  refine PW.loadV rfl rfl rfl rfl rfl rfl ?_
  refine PW.short3 3 [((n1, A1, l1, c1), (n2, A2, l2, c2)), ((n3, A3, l3, c3), (n4, A4, l4, c4)), ((n5, A5, l5, c5), (n6, A6, l6, c6))] _ rfl rfl rfl (fun a W hf => r_bQ3 (hf.vl (s := 29) rfl) (hf.vl (s := 30) rfl) (hf.vl (s := 31) rfl)) (fun W => qs_lit3 W) (by simp; exact ⟨⟨In.lim h1, In.lim h2⟩, ⟨In.lim h3, In.lim h4⟩, ⟨In.lim h5, In.lim h6⟩⟩) rfl rfl hq rfl rfl rfl rfl rfl rfl ?_
  refine PW.q1 (x := .tmp 33) (.bool true) rfl rfl rfl rfl (fun ρ W h1 => by go_simp) ?_
  refine PW.move rfl rfl rfl rfl rfl ?_
  refine PW.skip rfl rfl rfl ?_
  refine PW.skip rfl rfl rfl ?_
  refine PW.skip rfl rfl rfl ?_
  refine PW.pick (t := true) rfl rfl rfl rfl rfl rfl ?_
  refine PW.move rfl rfl rfl rfl rfl ?_
  refine PW.skip rfl rfl rfl ?_
  refine PW.skip rfl rfl rfl ?_
  refine PW.skip rfl rfl rfl ?_
  refine PW.pick (t := true) rfl rfl rfl rfl rfl rfl ?_
  refine PW.nil (SX.then (SC.cond (t := true) rfl (SC.seq (SC.region ?_))))
  refine PW.call (r := .vl (.bool true)) rfl rfl rfl rfl rfl rfl (KV.st _) rfl (k_awake3) ?_
  refine PW.assign rfl rfl rfl rfl rfl (PW.nil (SX.then (SC.ret (SX.thenR ?_))))
  exact SX.done (r := .vl (.bool true)) rfl rfl rfl
end Go.Proofs.YthpjmhhfcechmaaGreat
/- How plain data that came in read. -/
namespace Go.Proofs.YthpjmhhfcechmaaGreat
open Go.RowKit Ma
theorem In.nil (W : World) : In W none 0 0 [] := ⟨rfl, Nat.le_refl _, Rd.nil _ _ _, dg_nil _⟩
theorem In.of {W : World} {x : Addr} {l c : Nat} {zs : List Int} (hl : l ≤ c) (hm : c ≤ maxLen) (hz : zs.length = c) (hcell : ∀ i, i < zs.length → W.cell? (x.add i) = some (.int .u32 (zs.getD i 0))) (hw : ∀ n ∈ zs, (Lit.int .u32 n).wf = true) : In W (some x) l c (zs.take l) := by
 have h1 : (zs.take l).length = l := by rw [List.length_take]; omega
 refine ⟨h1.symm, hl, ⟨by rw [h1]; unfold maxLen at hm; omega, fun i hi => ⟨x, rfl, ?_⟩⟩, fun n hn => ?_⟩
 ·rw [h1] at hi
  rw [hcell i (by omega)]
  simp only [at0, List.getD_eq_getElem?_getD, List.getElem?_take, hi, if_true]
 ·have h2 := hw n (List.mem_of_mem_take hn)
  simp only [Lit.wf, Bool.and_eq_true, decide_eq_true_eq] at h2
  have hm : IntKind.u32.max = 4294967295 := by simp [IntKind.max, IntKind.bits, IntKind.signed]
  have hn : IntKind.u32.min = 0 := by simp [IntKind.min, IntKind.signed]
  rw [hm, hn] at h2
  rw [b32_eq]
  omega
end Go.Proofs.YthpjmhhfcechmaaGreat
/- A fraction as plain data that came in, opened: two signs, two slices. -/
namespace Go.Proofs.YthpjmhhfcechmaaGreat
open Go.ChangeShapes Go.WideShapes Go.ChangeAt Go.RowKit Go.Joins
set_option maxHeartbeats 1600000 in
set_option maxRecDepth 100000 in
theorem open_Q {H : Type} {enc : TypeId × Value → H} {w : World} {base : Nat} {spare : Nat → Bool} {held : Bool} {r : Reach} {b0 : Nat} {v : Value} {d : DataW H} {p : List MemPlace} (hv : Value.okWide Tryz.prog w r b0 26 v) (h : DataW.Trod enc Tryz.prog w base spare held 26 v d p) :
  ∃ (q0 q1 q2 q3 : Value) (y0 y1 y2 y3 : DataW H × List MemPlace) (n m : Nat), v = .agg #[q0, q1, q2, q3] ∧ DataW.trod enc Tryz.prog w base spare held n 4 [q0] = some y0 ∧ DataW.trod enc Tryz.prog w base spare held n 22 [q1] = some y1 ∧ DataW.trod enc Tryz.prog w base spare held m 4 [q2] = some y2 ∧ DataW.trod enc Tryz.prog w base spare held m 22 [q3] = some y3 := by
 obtain ⟨cs, rfl, hsz⟩ := okWide_struct Tryz.underlying26 hv
 have k4 : Tryz.prog.cellsOf 26 = 4 := by kernel_rfl
 have k2 : Tryz.prog.cellsOf 24 = 2 := by kernel_rfl
 have kb : Tryz.prog.cellsOf 4 = 1 := by kernel_rfl
 have ks : Tryz.prog.cellsOf 22 = 1 := by kernel_rfl
 obtain ⟨q0, q1, q2, q3, rfl⟩ := array4 (hsz.trans k4)
 obtain ⟨fuel, hf⟩ := h
 obtain ⟨y0, y1, n, hx, _, h0, h1⟩ := trod_struct2 Tryz.underlying26 hf
 have g0 : DataW.trod enc Tryz.prog w base spare held n 24 [q0, q1] = some y0 := by simpa [Value.cells, k2] using h0
 have g1 : DataW.trod enc Tryz.prog w base spare held n 24 [q2, q3] = some y1 := by simpa [Value.cells, k2] using h1
 obtain ⟨a0, a1, i, _, _, e0, e1⟩ := trod_struct2 Tryz.underlying24 g0
 obtain ⟨b0, b1, j, _, _, f0, f1⟩ := trod_struct2 Tryz.underlying24 g1
 exact ⟨q0, q1, q2, q3, a0, a1, b0, b1, i, j, rfl, by simpa [kb] using e0, by simpa [ks] using e1, by simpa [kb] using f0, by simpa [ks] using f1⟩
end Go.Proofs.YthpjmhhfcechmaaGreat
/- A row of signs and limbs as plain data that came in, opened. -/
namespace Go.Proofs.YthpjmhhfcechmaaGreat
open Go.ChangeShapes Go.WideShapes Go.ChangeAt Go.RowKit Go.Joins Ma Sy
set_option maxHeartbeats 1600000 in
set_option maxRecDepth 100000 in
theorem open_Ns {H : Type} {enc : TypeId × Value → H} {w : World} {base : Nat} {spare : Nat → Bool} {held : Bool} {r : Reach} {b0 : Nat} {v : Value} {d : DataW H} {p : List MemPlace} (hs : ∀ b, spare b = true) (hv : Value.okWide Tryz.prog w r b0 80 v) (h : DataW.Trod enc Tryz.prog w base spare held 80 v d p) :
  ∃ (A : Option Addr) (c : Nat) (ns : List Nn) (zs : List Int), v = .slice A ns.length c ∧ LNs w A ns ∧ zs.length = ns.length ∧ ∀ (i : Nat) (n : Bool) (D : Option Addr) (l c : Nat), ns[i]? = some (n, D, l, c) → ∃ xs, In w D l c xs ∧ at0 zs i = sg n (lv b32 xs) := by
 obtain ⟨a0, len, cap, rfl⟩ := okWide_slice Tryz.underlying80 hv
 obtain ⟨fuel, hf⟩ := h
 rcases Go.Deep.open_slice_pairs Tryz.underlying80 Tryz.underlying24 (by kernel_rfl) rfl rfl (by kernel_rfl) (by kernel_rfl) hf with ⟨h0, _⟩ | ⟨a, len', cap', m, n, V0, V1, D0, D1, P0, P1, hcs, hb, hl, hcm, hm, _, hx⟩
 ·simp only [Value.cells] at h0
  obtain ⟨rfl, rfl, rfl⟩ : a0 = none ∧ len = 0 ∧ cap = 0 := by simpa using h0
  exact ⟨none, 0, [], [], rfl, fun i n D l c e => by simp at e, rfl, fun i n D l c e => by simp at e⟩
 ·simp only [Value.cells] at hcs
  obtain ⟨rfl, rfl, rfl⟩ : a0 = some a ∧ len = len' ∧ cap = cap' := by simpa using hcs
  have hlm : len ≤ m := by rw [hm]; split <;> omega
  have each : ∀ i, i < len → ∃ q : Nn × Int, (∃ b o, (some a : Option Addr) = some ⟨b, o, none⟩ ∧ w.cell? ⟨b, o + i * 2, none⟩ = some (.bool q.1.1) ∧ w.cell? ⟨b, o + i * 2 + 1, none⟩ = some (.slice q.1.2.1 q.1.2.2.1 q.1.2.2.2)) ∧ ∃ xs, In w q.1.2.1 q.1.2.2.1 q.1.2.2.2 xs ∧ q.2 = sg q.1.1 (lv b32 xs) := by
   intro i hi
   obtain ⟨e0, e1, g0, g1⟩ := hx i (by omega)
   obtain ⟨b, o, spot⟩ := a
   have hspot : spot = none := by simpa [Addr.add] using World.cell?_spot (hx 0 (by omega)).1
   subst hspot
   rw [add_plain] at e0
   rw [add_plain, ← Nat.add_assoc] at e1
   obtain ⟨bb, f0, _⟩ := DataW.trod_bool Tryz.underlying4 g0
   have f0' : V0 i = .bool bb := by simpa using f0
   rw [f0'] at e0
   rcases open_ints Tryz.underlying22 Tryz.underlying140 (by kernel_rfl) g1 with ⟨hcs, _⟩ | ⟨x, l, c, zs, hcs, _, hl, hm, hz, _, hcell, hwz⟩
   ·have f1 : V1 i = .slice none 0 0 := by simpa using hcs
    rw [f1] at e1
    exact ⟨((bb, none, 0, 0), sg bb (lv b32 [])), ⟨b, o, rfl, e0, e1⟩, [], In.nil w, rfl⟩
   ·have f1 : V1 i = .slice (some x) l c := by simpa using hcs
    rw [f1] at e1
    rw [hs] at hz
    exact ⟨((bb, some x, l, c), sg bb (lv b32 (zs.take l))), ⟨b, o, rfl, e0, e1⟩, zs.take l, In.of hl hm hz hcell hwz, rfl⟩
  obtain ⟨q, hq⟩ := Go.Deep.choose_lt each
  refine ⟨some a, cap, (List.range len).map fun i => (q i).1, (List.range len).map fun i => (q i).2, by simp, ?_, by simp, ?_⟩
  ·intro i n D l c e
   rw [List.getElem?_map, Option.map_eq_some_iff] at e
   obtain ⟨j, hj, he⟩ := e
   obtain ⟨hj1, hj2⟩ := List.getElem?_eq_some_iff.1 hj
   rw [List.getElem_range] at hj2
   subst hj2
   have := (hq i (by simpa using hj1)).1
   rw [he] at this
   exact this
  ·intro i n D l c e
   rw [List.getElem?_map, Option.map_eq_some_iff] at e
   obtain ⟨j, hj, he⟩ := e
   obtain ⟨hj1, hj2⟩ := List.getElem?_eq_some_iff.1 hj
   rw [List.getElem_range] at hj2
   subst hj2
   obtain ⟨xs, h1, h2⟩ := (hq i (by simpa using hj1)).2
   rw [he] at h1 h2
   refine ⟨xs, h1, ?_⟩
   rw [← h2]
   unfold at0
   rw [List.getD_eq_getElem?_getD, List.getElem?_map, hj]
   rfl
end Go.Proofs.YthpjmhhfcechmaaGreat
