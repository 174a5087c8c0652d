/- Parts Ltx, Rz2, Sm, Rfi, D2, D3, in one file. -/
import Derived.RowKit
import Derived.WalkKit
import Derived.ProofKit
import Derived.OpenShut
import Derived.ShutString
import Derived.ChangeOld
import Derived.Lib.SmallJoins
import Derived.Test.YthpjmhhfcechmaaLRField10
import Derived.Test.YthpjmhhfcechmaaLRField3
import Derived.Test.YthpjmhhfcechmaaLRField4
import Derived.Test.YthpjmhhfcechmaaLRField9
/- Plain laws: a text that is read again is the number; of fractions too. -/
set_option linter.unusedVariables false
set_option linter.unusedSimpArgs false
namespace Go.Proofs.Ythpjmhhfcechmaa.Sy
open Go Go.RowKit Ma
theorem dv_dch {d : Int} (h0 : 0 ≤ d) (h1 : d < 36) : dv (dch d) = d := by
 unfold dch
 split
 ·unfold dv; rw [if_pos (by omega)]; omega
 ·unfold dv; rw [if_neg (by omega), if_pos (by omega)]; omega
theorem dch_ge {d : Int} (h0 : 0 ≤ d) : 48 ≤ dch d := by unfold dch; split <;> omega
theorem dch_lt {d : Int} (h0 : 0 ≤ d) (h1 : d < 36) : dch d < 256 := by unfold dch; split <;> omega
theorem pv_rev {r : Int} (hr : r ≤ 36) : ∀ ds : List Int, dg r ds → pv r 0 ((ds.map dch).reverse) = lv r ds
 | [], _ => rfl
 | x :: ds, h => by
  have ⟨h1, h2⟩ := dg_cons.1 h
  rw [List.map_cons, List.reverse_cons, pv_app, pv_rev hr ds h2, dv_dch h1.1 (by omega), Int.mul_comm]
  simp only [lv]
  omega
theorem digits_ex {r : Int} (hr : 2 ≤ r) : ∀ n : Nat, ∃ ds, dg r ds ∧ top ds ∧ lv r ds = (n : Int) := by
 intro n
 induction n using Nat.strongRecOn with
 | _ n ih =>
  by_cases h0 : n = 0
  ·subst h0; exact ⟨[], dg_nil _, top_nil, rfl⟩
  ·obtain ⟨m, hm⟩ : ∃ m : Nat, (m : Int) = (n : Int) / r := ⟨((n : Int) / r).toNat, Int.toNat_of_nonneg (Int.ediv_nonneg (by omega) (by omega))⟩
   have e1 := Int.emod_add_mul_ediv (n : Int) r
   have b0 := Int.emod_nonneg (n : Int) (show r ≠ 0 by omega)
   have b1 := Int.emod_lt_of_pos (n : Int) (show 0 < r by omega)
   have hmn : m < n := by
    have : (m : Int) < n := by rw [hm]; exact Int.ediv_lt_of_lt_mul (by omega) (by have := Int.mul_le_mul_of_nonneg_left hr (show (0 : Int) ≤ n by omega); omega)
    omega
   obtain ⟨ds, d1, d2, d3⟩ := ih m hmn
   refine ⟨(n : Int) % r :: ds, dg_cons.2 ⟨⟨b0, b1⟩, d1⟩, ?_, by simp only [lv]; rw [d3, hm]; exact e1⟩
   cases ds with
   | nil =>
    unfold top
    simp only [lv] at d3
    rw [← hm, ← d3] at e1
    simp
    omega
   | cons y ds =>
    unfold top at d2 ⊢
    rwa [List.getLast?_cons_cons]
theorem bytes_ex : ∀ l : List Int, (∀ x ∈ l, 0 ≤ x ∧ x < 256) → ∃ s : ByteArray, byl s = l := by
 intro l h
 refine ⟨⟨(l.map fun x => x.toNat.toUInt8).toArray⟩, ?_⟩
 unfold byl
 simp only [List.map_map]
 conv => rhs; rw [← List.map_id l]
 refine List.map_congr_left fun x hx => ?_
 have := h x hx
 simp only [Function.comp, id]
 rw [Nat.toUInt8_eq, UInt8.toNat_ofNat']
 omega
theorem txt_ex {r z : Int} (hr : 2 ≤ r ∧ r ≤ 36) : ∃ s, Txt r z s := by
 obtain ⟨ds, d1, d2, d3⟩ := digits_ex hr.1 z.natAbs
 obtain ⟨s, hs⟩ := bytes_ex (if z = 0 then [48] else (if z < 0 then [45] else []) ++ (ds.map dch).reverse) (by
  intro x hx
  have hd : ∀ y ∈ (ds.map dch).reverse, 0 ≤ y ∧ y < 256 := fun y hy => by
   simp only [List.mem_reverse, List.mem_map] at hy
   obtain ⟨d, hd, rfl⟩ := hy
   have := d1 d hd
   exact ⟨by have := dch_ge this.1; omega, dch_lt this.1 (by omega)⟩
  split at hx
  ·simp at hx; omega
  ·rw [List.mem_append] at hx
   rcases hx with hx | hx
   ·split at hx
    ·simp at hx; omega
    ·cases hx
   ·exact hd x hx)
 exact ⟨s, ds, d1, d2, d3, hs⟩
theorem tstr_txt {r z : Int} (hr : 2 ≤ r ∧ r ≤ 36) : Txt r z (tstr r z) := by
 obtain ⟨s, h⟩ := txt_ex (z := z) hr
 rw [← tstr_eq hr.1 h]
 exact h
theorem rev_head {ds : List Int} (h : ds ≠ []) (f : Int → Int) : ∃ d ∈ ds, at0 ((ds.map f).reverse) 0 = f d := by
 have hl : 0 < ((ds.map f).reverse).length := by have := List.length_pos_iff.2 h; simp; exact this
 rw [at0_of_lt hl]
 have hm := List.getElem_mem hl
 rw [List.mem_reverse, List.mem_map] at hm
 obtain ⟨d, hd, e⟩ := hm
 exact ⟨d, hd, e.symm⟩
theorem all_dch {r : Int} (hr : r ≤ 36) {ds : List Int} (h : dg r ds) : ((ds.map dch).reverse.all fun c => decide (dv c < r)) = true := by
 rw [List.all_eq_true]
 intro c hc
 rw [List.mem_reverse, List.mem_map] at hc
 obtain ⟨d, hd, rfl⟩ := hc
 have := h d hd
 rw [dv_dch this.1 (by omega)]
 exact decide_eq_true this.2
theorem parse_digits {r : Int} {l b : List Int} {m : Bool} (hr : 2 ≤ r ∧ r ≤ 36) (hl : l.length ≤ 20000) (hb : (if at0 l 0 = 45 ∨ at0 l 0 = 43 then l.drop 1 else l) = b) (hm : decide (at0 l 0 = 45) = m) (h0 : b ≠ []) (ha : (b.all fun c => decide (dv c < r)) = true) : parseR r l = .ok (sg m (pv r 0 b)) := by
 unfold parseR
 rw [if_neg (fun x => x hr), if_neg (by omega)]
 dsimp only
 rw [hb, if_neg h0, if_pos ha, hm]
theorem parse_txt {r z : Int} {s : ByteArray} (hr : 2 ≤ r ∧ r ≤ 36) (h : Txt r z s) (hl : s.size ≤ 20000) : parseR r (byl s) = .ok z := by
 obtain ⟨ds, d1, d2, d3, d4⟩ := h
 have d4 : byl s = _ := d4
 have hl2 : (byl s).length ≤ 20000 := by rw [byl_len]; exact hl
 by_cases hz : z = 0
 ·rw [if_pos hz] at d4
  rw [d4]
  rw [parse_digits (b := [48]) (m := false) hr (by simp) rfl rfl (by simp) (by simp [dv]; omega)]
  subst hz
  have e : pv r 0 [48] = 0 := by simp only [pv, Int.zero_mul]; decide
  rw [e]
  rfl
 ·rw [if_neg hz] at d4
  have hne : ds ≠ [] := fun e => by rw [e] at d3; simp only [lv] at d3; omega
  have hne2 : (ds.map dch).reverse ≠ [] := by simpa using hne
  by_cases hn : z < 0
  ·rw [if_pos hn] at d4
   rw [parse_digits (b := (ds.map dch).reverse) (m := true) hr hl2 (by rw [d4]; rfl) (by rw [d4]; rfl) hne2 (all_dch hr.2 d1), pv_rev hr.2 ds d1, d3]
   unfold sg
   rw [if_pos rfl]
   congr 1
   omega
  ·rw [if_neg hn, List.nil_append] at d4
   obtain ⟨d, hd, e⟩ := rev_head hne dch
   have := dch_ge (d1 d hd).1
   rw [parse_digits (b := (ds.map dch).reverse) (m := false) hr hl2 (by rw [d4, if_neg (by omega)]) (by rw [d4]; exact decide_eq_false (by omega)) hne2 (all_dch hr.2 d1), pv_rev hr.2 ds d1, d3]
   unfold sg
   congr 1
   simp
   omega
theorem txt_byte {r z : Int} {s : ByteArray} (hr : 2 ≤ r ∧ r ≤ 36) (h : Txt r z s) {c : Int} (hc : c ∈ byl s) : c = 45 ∨ 48 ≤ c := by
 obtain ⟨ds, d1, d2, d3, d4⟩ := h
 have d4 : byl s = _ := d4
 rw [d4] at hc
 have hd : ∀ y ∈ (ds.map dch).reverse, 48 ≤ y := fun y hy => by
  simp only [List.mem_reverse, List.mem_map] at hy
  obtain ⟨d, hd, rfl⟩ := hy
  exact dch_ge (d1 d hd).1
 split at hc
 ·simp at hc; omega
 ·rw [List.mem_append] at hc
  rcases hc with hc | hc
  ·split at hc
   ·simp at hc; omega
   ·cases hc
  ·exact .inr (hd c hc)
theorem txt_pos {r z : Int} {s : ByteArray} (hr : 2 ≤ r ∧ r ≤ 36) (h : Txt r z s) (hz : 0 ≤ z) : 0 < s.size ∧ 48 ≤ at0 (byl s) 0 := by
 obtain ⟨ds, d1, d2, d3, d4⟩ := h
 have d4 : byl s = _ := d4
 have e := byl_len s
 rw [if_neg (show ¬ z < 0 by omega), List.nil_append] at d4
 by_cases h0 : z = 0
 ·rw [if_pos h0] at d4
  rw [d4] at e ⊢
  exact ⟨by rw [← e]; decide, by decide⟩
 ·rw [if_neg h0] at d4
  have hne : ds ≠ [] := fun e => by rw [e] at d3; simp only [lv] at d3; omega
  obtain ⟨d, hd, e2⟩ := rev_head hne dch
  rw [d4] at e ⊢
  refine ⟨by rw [← e]; have := List.length_pos_iff.2 hne; simp; exact this, by rw [e2]; exact dch_ge (d1 d hd).1⟩
theorem at0_mem {l : List Int} {i : Nat} (h : i < l.length) : at0 l i ∈ l := by rw [at0_of_lt h]; exact List.getElem_mem h
theorem txt_47 {r z : Int} {s : ByteArray} (hr : 2 ≤ r ∧ r ≤ 36) (h : Txt r z s) {i : Nat} (hi : i < s.size) : at0 (byl s) i ≠ 47 := fun e => by
 have := txt_byte hr h (at0_mem (i := i) (by rw [byl_len]; exact hi))
 omega
theorem byl_app (s t : ByteArray) : byl (s ++ t) = byl s ++ byl t := byl_append s t
theorem ext_left (s t : ByteArray) : (s ++ t).extract 0 s.size = s := by
 apply byl_inj
 unfold byl
 rw [ByteArray.data_extract, Array.toList_extract, ByteArray.data_append, Array.toList_append]
 simp only [List.extract_eq_take_drop, List.drop_zero, Nat.sub_zero]
 rw [show s.size = s.data.toList.length by simp, List.take_left]
theorem parseQ_txq {r : Int} {x : Rat} {a : Nat} (hr : 2 ≤ r ∧ r ≤ 36) (X : bq a x) (ha : a ≤ 300) : parseQ r (txq r x) = .ok x := by
 have hs1 := tstr_size hr.1 X.1
 have hs2 := tstr_size hr.1 X.2
 have t1 := tstr_txt (z := x.num) hr
 have t2 := tstr_txt (z := (x.den : Int)) hr
 by_cases hd : x.den = 1
 ·rw [txq_whole hd]
  have hi : cutI (tstr r x.num) = -1 := by
   rcases cut_cases (tstr r x.num) with h | ⟨i, h, hi⟩
   ·exact h
   ·exact absurd (cut_at h).1 (txt_47 hr t1 hi)
  rw [parseQ_n1 hr (by omega) hi (parse_txt hr t1 (by omega))]
  congr 1
  exact Rat.ext (by simp) (by simp [hd])
 ·rw [txq_frac hd]
  generalize hA : tstr r x.num = A at *
  generalize hB : tstr r (x.den : Int) = D at *
  have hz : (A ++ ⟨#[47]⟩ ++ D).size = A.size + 1 + D.size := by rw [ByteArray.size_append, ByteArray.size_append]; rfl
  have hb : byl (A ++ ⟨#[47]⟩ ++ D) = byl A ++ [47] ++ byl D := by rw [byl_app, byl_app]; rfl
  have hk2 : at0 (byl (A ++ ⟨#[47]⟩ ++ D)) A.size = 47 := by
   rw [hb, at0, List.append_assoc, List.getD_eq_getElem?_getD, List.getElem?_append_right (by rw [byl_len]; exact Nat.le_refl _), byl_len, Nat.sub_self]
   rfl
  obtain ⟨i, h1, h2, h3⟩ := cut_first (s := A ++ ⟨#[47]⟩ ++ D) (k := A.size) (by omega) hk2
  have hi : i = A.size := by
   apply Classical.byContradiction
   intro hn
   have hlt : i < A.size := by omega
   rw [hb, at0, List.append_assoc, List.getD_eq_getElem?_getD, List.getElem?_append_left (by rw [byl_len]; exact hlt), ← List.getD_eq_getElem?_getD] at h3
   exact txt_47 hr t1 hlt h3
  subst hi
  have e1 : (A ++ ⟨#[47]⟩ ++ D).extract 0 A.size = A := by rw [ByteArray.append_assoc]; exact ext_left _ _
  have e2 : (A ++ ⟨#[47]⟩ ++ D).extract (A.size + 1) (A ++ ⟨#[47]⟩ ++ D).size = D := by
   apply byl_inj
   rw [byl_drop, hb]
   rw [show A.size + 1 = (byl A ++ [47]).length by simp [byl_len], List.drop_left]
  have p := txt_pos hr t2 (by omega)
  rw [parseQ_y5 (i := A.size) (n := x.num) (d := (x.den : Int)) hr (by omega) h1 (by rw [e1]; exact parse_txt hr t1 (by omega)) (by rw [e2]; omega) (by rw [e2]; exact parse_txt hr t2 (by omega)) (by have := x.den_nz; omega), Rat.num_divInt_den]
theorem txq_inj {r : Int} {x y : Rat} {a b : Nat} (hr : 2 ≤ r ∧ r ≤ 36) (X : bq a x) (Y : bq b y) (ha : a ≤ 300) (hb : b ≤ 300) : txq r x = txq r y ↔ x = y := by
 constructor
 ·intro h
  have h1 := parseQ_txq hr X ha
  rw [h, parseQ_txq hr Y hb] at h1
  injection h1 with h1
  exact h1.symm
 ·rintro rfl
  rfl
end Go.Proofs.Ythpjmhhfcechmaa.Sy
/- Words for the law of the field of fractions. -/
namespace Go.Proofs.Ythpjmhhfcechmaa.Sy
open Go Go.RowKit Ma
theorem cmpq_flip (x y : Rat) : cmpq x y = -(cmpq y x) := by
 unfold cmpq
 by_cases h : x < y
 ·have h1 : ¬ y < x := fun k => (Rat.lt_iff_le_and_not_ge.1 h).2 (Rat.lt_iff_le_and_not_ge.1 k).1
  have h2 : ¬ y = x := fun e => Rat.lt_irrefl (e ▸ h)
  rw [if_pos h, if_neg h1, if_neg h2]
 ·rw [if_neg h]
  by_cases e : x = y
  ·subst e; rw [if_pos rfl, if_neg Rat.lt_irrefl]; rfl
  ·rw [if_neg e]
   have h2 : y < x := Rat.lt_iff_le_and_ne.2 ⟨Rat.not_lt.1 h, fun e2 => e e2.symm⟩
   rw [if_pos h2]; rfl
theorem cmpq_addr (x y z : Rat) : cmpq (x + z) (y + z) = cmpq x y := by
 unfold cmpq
 by_cases h : x < y
 ·rw [if_pos h, if_pos (Rat.add_lt_add_right.2 h)]
 ·rw [if_neg h, if_neg (fun k => h (Rat.add_lt_add_right.1 k))]
  by_cases e : x = y
  ·subst e; rw [if_pos rfl, if_pos rfl]
  ·rw [if_neg e, if_neg (fun k => e (Rat.add_right_cancel z k))]
theorem cmpq_mulr {x y z : Rat} (hz : 0 < z) : cmpq (x * z) (y * z) = cmpq x y := by
 unfold cmpq
 by_cases h : x < y
 ·rw [if_pos h, if_pos ((Rat.mul_lt_mul_right hz).2 h)]
 ·rw [if_neg h, if_neg (fun k => h ((Rat.mul_lt_mul_right hz).1 k))]
  by_cases e : x = y
  ·subst e; rw [if_pos rfl, if_pos rfl]
  ·have hz0 : z ≠ 0 := fun e2 => Rat.lt_irrefl (e2 ▸ hz)
   rw [if_neg e, if_neg (fun k => e (by have := congrArg (· / z) k; simpa [Rat.mul_div_cancel hz0] using this))]
theorem sgq_pos {x : Rat} : sgq x > 0 ↔ 0 < x := by
 unfold sgq
 rw [← num_pos_iff]
 unfold sgn
 split <;> (try split) <;> omega
theorem ezq_ne {y : Rat} (h : y ≠ 0) : ezq y = 0 := if_neg h
theorem ezq_eq {y : Rat} (h : y = 0) : ezq y = 6 := if_pos h
theorem cmpq_range (x y : Rat) : -1 ≤ cmpq x y ∧ cmpq x y ≤ 1 := by unfold cmpq; split <;> (try split) <;> omega
section
variable {x y : Operand} {dst : Option Tmp} {ty : TypeId} {pos : String} {after : Array Edge} {guard : Option (Nat × Bool)} {ρ : Operand → Value} {W : World} {a : Int}
theorem r_negq (h1 : ρ x = .int .i64 a) (h : -9223372036854775808 < a ∧ a ≤ 9223372036854775807) : (execOp ρ ⟨dst, .unOp .neg 3 x, ty, pos, after, guard⟩).run Try.prog W = .ok (.value (.int .i64 (-a))) W := by
 have e : IntKind.i64.wrap (-a) = -a := IntWalk.i64_in _ (by omega)
 go_simp
theorem r_u8 (h1 : ρ x = .int .u8 a) (h : 0 ≤ a ∧ a ≤ 255) : (execOp ρ ⟨dst, .convert 5 3 x, ty, pos, after, guard⟩).run Try.prog W = .ok (.value (.int .i64 a)) W := by
 have e : IntKind.i64.wrap a = a := IntWalk.i64_in _ (by omega)
 go_simp
theorem r_eN {b : Int} (h1 : ρ x = .int .i64 a) (h2 : ρ y = .int .i64 b) (e : a = b) : (execOp ρ ⟨dst, .binOp .neq 34 x y 34, ty, pos, after, guard⟩).run Try.prog W = .ok (.value (.bool false)) W := by
 subst e
 go_simp
end
section
variable {B N : Nat} {w0 : World} {ops : Array Oper} {fr : List (Nat × AV)} {d : Nat}
theorem DX.ldq {K s g c i : Nat} {zs : List Rat} {ty : TypeId} {pos : String} {after : Array Edge} {guard : Option (Nat × Bool)} (hi : i < zs.length) (hw : wantB ops fr ⟨some d, .load 93 (.tmp s), ty, pos, after, guard⟩ = some true) (hN : Nat.blt d N = true) (hs : look fr s = some (.vl (.pointer (some ⟨g, i * 4, none⟩)))) (hK : look fr K = some (.rs (.slice (some ⟨g, 0, none⟩) zs.length c) 93 4 zs.length (RsQ zs))) :
  Eo B N w0 ops ⟨some d, .load 93 (.tmp s), ty, pos, after, guard⟩ fr (.val d (.kw (KQ (atq zs i).num (((atq zs i).den : Int) - 1)))) :=
 DX.val (r := .kw (KQ (atq zs i).num (((atq zs i).den : Int) - 1))) hw rfl hN rfl (fun a W hf => by
  have h1 : a.eval (.tmp s) = .pointer (some ⟨g, i * 4, none⟩) := hf.ho s _ hs
  have own : OwS W B 93 4 (.slice (some ⟨g, 0, none⟩) zs.length c) zs.length (RsQ zs) := hf.ho K _ hK
  obtain ⟨⟨xs, p1, rs, rfl, hr1, hr2⟩, _⟩ := own
  have hcells : ∀ j u, (flatq rs)[j]? = some u → W.cell? ((⟨g, 0, none⟩ : Addr).add j) = some u := p1.cells (g := g) rfl
  obtain ⟨⟨⟨n, A, l, c1⟩, ⟨m, D, k, d1⟩⟩, he⟩ : ∃ x, rs[i]? = some x := ⟨_, List.getElem?_eq_getElem (by omega)⟩
  obtain ⟨f1, f2, f3, f4⟩ := flatq_at rs i n A l c1 m D k d1 he
  have c0 := hcells _ _ f1
  have c1' := hcells _ _ f2
  have c2 := hcells _ _ f3
  have c3 := hcells _ _ f4
  rw [addq, Nat.zero_add] at c0 c1' c2 c3
  obtain ⟨q1, q2⟩ := hr2 i n A l c1 m D k d1 he
  exact ⟨.agg #[.bool n, .slice A l c1, .bool m, .slice D k d1], r_ldR h1 c0 c1' c2 c3, ⟨n, A, l, c1, m, D, k, d1, rfl, q1, q2⟩, KQ.st _ _⟩)
end
end Go.Proofs.Ythpjmhhfcechmaa.Sy
/- A walk by rules: roads that join. -/
namespace Go.Proofs.Ythpjmhhfcechmaa.Sy
open Go Go.RowKit Ma
section
variable {B N : Nat} {w0 : World} {fr : List (Nat × AV)} {Q : Exit → Act → World → Prop}
def Md {S : Type} (B N : Nat) (w0 : World) (F : S → List (Nat × AV)) (P : S → Prop) (a : Act) (W : World) : Prop := ∃ s, P s ∧ Fr B N w0 (F s) a W
theorem SC.mid1 {x z : Code} {S : Type} (F : S → List (Nat × AV)) (P : S → Prop) (h1 : SC B N w0 x fr (Exit.then (Md B N w0 F P) Q)) (h2 : ∀ s, P s → SC B N w0 z (F s) Q) : SC B N w0 (.seq x z) fr Q := fun a W hf => by
 refine wp_seq (wp_mono (h1 a W hf) fun e a' w' hq => ?_)
 cases e with
 | normal => obtain ⟨s, hp, hf2⟩ := hq; exact h2 s hp a' w' hf2
 | exit id => exact hq
 | goto l => exact hq
 | ret => exact hq
 | panic ch => exact hq
 | outgrown => exact hq
theorem SX.mid {S : Type} {F : S → List (Nat × AV)} {P : S → Prop} (s : S) (hp : P s) (hk : Sub (F s) fr) : SX B N w0 .normal fr (Exit.then (Md B N w0 F P) Q) := fun a W hf => ⟨s, hp, hf.sub hk.spec⟩
end
end Go.Proofs.Ythpjmhhfcechmaa.Sy
/- RationalField: the walk, by rules. -/
namespace Go.Proofs.Ythpjmhhfcechmaa
open Go.RowKit Ma Sy
theorem str_eq (s t : ByteArray) : (s.toList == t.toList) = decide (s = t) := by
 by_cases h : s = t
 ·subst h; simp
 ·rw [decide_eq_false h]
  exact beq_eq_false_iff_ne.2 (fun e => h (by rw [ByteArray.toList_eq, ByteArray.toList_eq] at e; exact ByteArray.ext (Array.ext' e)))
theorem lit_u8 {n : Int} (h : (Lit.int .u8 n).wf = true) : 0 ≤ n ∧ n ≤ 255 := by
 simp only [Lit.wf, Bool.and_eq_true, decide_eq_true_eq] at h
 have hm : IntKind.u8.max = 255 := by simp [IntKind.max, IntKind.bits, IntKind.signed]
 have hn : IntKind.u8.min = 0 := by simp [IntKind.min, IntKind.bits, IntKind.signed]
 rw [hm, hn] at h
 exact h
set_option maxHeartbeats 12800000 in
set_option maxRecDepth 100000 in
theorem rationalField_walk {n1 n2 n3 n4 n5 n6 : Bool} {A1 A2 A3 A4 A5 A6 : Option Addr} {l1 l2 l3 l4 l5 l6 c1 c2 c3 c4 c5 c6 : Nat} {xs1 xs2 xs3 xs4 xs5 xs6 : List Int} {r : Int} {w : World} (h1 : In w A1 l1 c1 xs1) (h2 : In w A2 l2 c2 xs2) (h3 : In w A3 l3 c3 xs3) (h4 : In w A4 l4 c4 xs4) (h5 : In w A5 l5 c5 xs5) (h6 : In w A6 l6 c6 xs6) (hv : (Lit.int .u8 r).wf = true) :
  Calls Try.prog 14 #[.agg #[.bool n1, .slice A1 l1 c1, .bool n2, .slice A2 l2 c2], .agg #[.bool n3, .slice A3 l3 c3, .bool n4, .slice A4 l4 c4], .agg #[.bool n5, .slice A5 l5 c5, .bool n6, .slice A6 l6 c6], .int .u8 r] w (Ret w (KV (.bool true))) := by
 obtain ⟨x, hz1⟩ : ∃ z, z = sg n1 (lv b32 xs1) := ⟨_, rfl⟩
 obtain ⟨y, hz2⟩ : ∃ z, z = sg n2 (lv b32 xs2) := ⟨_, rfl⟩
 obtain ⟨z, hz3⟩ : ∃ z, z = sg n3 (lv b32 xs3) := ⟨_, rfl⟩
 obtain ⟨u, hz4⟩ : ∃ z, z = sg n4 (lv b32 xs4) := ⟨_, rfl⟩
 obtain ⟨v, hz5⟩ : ∃ z, z = sg n5 (lv b32 xs5) := ⟨_, rfl⟩
 obtain ⟨p, hz6⟩ : ∃ z, z = sg n6 (lv b32 xs6) := ⟨_, rfl⟩
 have hrr : 0 ≤ r ∧ r ≤ 255 := lit_u8 hv
 obtain ⟨k, hkr⟩ : ∃ k, 2 + r % 35 = k := ⟨_, rfl⟩
 have hk : 2 ≤ k ∧ k ≤ 36 := by omega
 refine calls_sc (l := [.vl (.agg #[.bool n1, .slice A1 l1 c1, .bool n2, .slice A2 l2 c2]), .vl (.agg #[.bool n3, .slice A3 l3 c3, .bool n4, .slice A4 l4 c4]), .vl (.agg #[.bool n5, .slice A5 l5 c5, .bool n6, .slice A6 l6 c6]), .vl (.int .u8 r)]) (us := [.agg #[.bool n1, .slice A1 l1 c1, .bool n2, .slice A2 l2 c2], .agg #[.bool n3, .slice A3 l3 c3, .bool n4, .slice A4 l4 c4], .agg #[.bool n5, .slice A5 l5 c5, .bool n6, .slice A6 l6 c6], .int .u8 r]) 228 Try.func14 rfl Try.ntmps14 (by simp) ⟨rfl, rfl, rfl, rfl, rfl, rfl, rfl, rfl, trivial⟩ ?_
 refine SC.seq (SC.region ?_)
 refine PW.box (x := .tmp 0) (r := .vl (.agg #[.bool n1, .slice A1 l1 c1, .bool n2, .slice A2 l2 c2])) (BQ 88) rfl rfl rfl rfl rfl bQN rfl sh_VQ ?_
 refine PW.box (x := .tmp 1) (r := .vl (.agg #[.bool n3, .slice A3 l3 c3, .bool n4, .slice A4 l4 c4])) (BQ 88) rfl rfl rfl rfl rfl bQN rfl sh_VQ ?_
 refine PW.box (x := .tmp 2) (r := .vl (.agg #[.bool n5, .slice A5 l5 c5, .bool n6, .slice A6 l6 c6])) (BQ 88) rfl rfl rfl rfl rfl bQN rfl sh_VQ ?_
 refine PW.assign rfl rfl rfl rfl rfl (PW.nil (SX.then (SC.seq (SC.seq ?_))))
 by_cases hq : shQ 3 [((n1, A1, l1, c1), (n2, A2, l2, c2)), ((n3, A3, l3, c3), (n4, A4, l4, c4)), ((n5, A5, l5, c5), (n6, A6, l6, c6))] = true
 ·have hlehq : (l1 ≤ 3 ∧ l2 ≤ 3) ∧ (l3 ≤ 3 ∧ l4 ≤ 3) ∧ (l5 ≤ 3 ∧ l6 ≤ 3) := by simpa [shB, shQ] using hq
  have X : bd 3 x := hz1 ▸ bd_sg h1.2.2.2 (by have := h1.1; omega)
  have Y : bd 3 y := hz2 ▸ bd_sg h2.2.2.2 (by have := h2.1; omega)
  have Z : bd 3 z := hz3 ▸ bd_sg h3.2.2.2 (by have := h3.1; omega)
  have U : bd 3 u := hz4 ▸ bd_sg h4.2.2.2 (by have := h4.1; omega)
  have V : bd 3 v := hz5 ▸ bd_sg h5.2.2.2 (by have := h5.1; omega)
  have P : bd 3 p := hz6 ▸ bd_sg h6.2.2.2 (by have := h6.1; omega)
  have hl1 : l1 ≤ 3 := by omega
  have hl2 : l2 ≤ 3 := by omega
  have hl3 : l3 ≤ 3 := by omega
  have hl4 : l4 ≤ 3 := by omega
  have hl5 : l5 ≤ 3 := by omega
  have hl6 : l6 ≤ 3 := by omega
  refine SC.region ?_
  refine PW.loadV rfl rfl rfl rfl rfl rfl ?_
  refine PW.loadV rfl rfl rfl rfl rfl rfl ?_
  refine PW.loadV rfl rfl rfl rfl rfl rfl ?_
  refine PW.short3 3 [((n1, A1, l1, c1), (n2, A2, l2, c2)), ((n3, A3, l3, c3), (n4, A4, l4, c4)), ((n5, A5, l5, c5), (n6, A6, l6, c6))] _ rfl rfl rfl (fun a W hf => r_bQ3 (hf.vl (s := 22) rfl) (hf.vl (s := 23) rfl) (hf.vl (s := 24) rfl)) (fun W => qs_lit3 W) (by simp; exact ⟨⟨In.lim h1, In.lim h2⟩, ⟨In.lim h3, In.lim h4⟩, ⟨In.lim h5, In.lim h6⟩⟩) rfl rfl hq rfl rfl rfl rfl rfl rfl ?_
  refine PW.q1 (x := .tmp 26) (.bool false) rfl rfl rfl rfl (fun ρ W h1 => by go_simp) ?_
  refine PW.nil (SX.then (SC.cond (t := false) rfl (SC.skip (SX.then (SC.seq (SC.region ?_))))))
  refine PW.loadV rfl rfl rfl rfl rfl rfl ?_
  refine PW.loadV rfl rfl rfl rfl rfl rfl ?_
  refine PW.loadV rfl rfl rfl rfl rfl rfl ?_
  refine PW.callS (n := ([ofq x y, ofq z u, ofq v p] : List Rat).length) (R := RsQ [ofq x y, ofq z u, ofq v p]) 228 _ ce_ofl rfl rfl rfl (fun a W hf => r_bQ3 (hf.vl (s := 29) rfl) (hf.vl (s := 30) rfl) (hf.vl (s := 31) rfl)) rfl rfl rfl rfl rfl rfl rfl rfl (fun a W hf => ofl_l (b := W.heap.size) (zs := [ofq x y, ofq z u, ofq v p]) (by rfl) (qs_lit3 W) (Zqs.cons (in_al h1 hf.be) (in_al h2 hf.be) hz1 hz2 X Y (by omega) (by omega) (Zqs.cons (in_al h3 hf.be) (in_al h4 hf.be) hz3 hz4 Z U (by omega) (by omega) (Zqs.cons (in_al h5 hf.be) (in_al h6 hf.be) hz5 hz6 V P (by omega) (by omega) (Zqs.nil _ _)))) (by decide) (by simp)) fun gq cq => ?_
  refine PW.assign rfl rfl rfl rfl rfl (PW.nil (SX.then (SC.seq ?_)))
  refine SC.dx [.val 34 (.vl (.slice (some ⟨gq, 0, none⟩) 3 cq)), .val 35 (.vl (.pointer (some ⟨gq, 0 * 4, none⟩))), .val 36 (.kw (KQ (ofq x y).num (((ofq x y).den : Int) - 1))), .val 37 (.vl (.slice (some ⟨gq, 0, none⟩) 3 cq)), .val 38 (.vl (.pointer (some ⟨gq, 1 * 4, none⟩))), .val 39 (.kw (KQ (ofq z u).num (((ofq z u).den : Int) - 1))), .val 40 (.vl (.slice (some ⟨gq, 0, none⟩) 3 cq)), .val 41 (.vl (.pointer (some ⟨gq, 2 * 4, none⟩))), .val 42 (.kw (KQ (ofq v p).num (((ofq v p).den : Int) - 1))), .new 10 (BQ 93), .new 11 (BQ 93), .new 12 (BQ 93), .put 10 (BQ 93) (.kw (KQ (ofq x y).num (((ofq x y).den : Int) - 1))), .put 11 (BQ 93) (.kw (KQ (ofq z u).num (((ofq z u).den : Int) - 1))), .put 12 (BQ 93) (.kw (KQ (ofq v p).num (((ofq v p).den : Int) - 1)))] [([], [9]), ([0], []), ([1], [228]), ([], [9]), ([3], []), ([4], [228]), ([], [9]), ([6], []), ([7], [228]), ([], []), ([], []), ([], []), ([9, 2], []), ([10, 5], []), ([11, 8], [])] rfl (by kernel_rfl) (by kernel_rfl) (by kernel_rfl) rfl ⟨?_, ?_, ?_, ?_, ?_, ?_, ?_, ?_, ?_, ?_, ?_, ?_, ?_, ?_, ?_, trivial⟩ ?_
  ·exact DX.move rfl rfl rfl rfl rfl rfl
  ·exact DX.q2 (x := .tmp 34) (y := .const (.int .i64 0)) (.pointer (some ⟨gq, 0 * 4, none⟩)) rfl rfl rfl rfl rfl (fun ρ W h1 h2 => r_idxq (i := 0) h1 h2 (by simp))
  ·exact DX.ldq (zs := [ofq x y, ofq z u, ofq v p]) (K := 228) (i := 0) (by simp) rfl rfl rfl rfl
  ·exact DX.move rfl rfl rfl rfl rfl rfl
  ·exact DX.q2 (x := .tmp 37) (y := .const (.int .i64 1)) (.pointer (some ⟨gq, 1 * 4, none⟩)) rfl rfl rfl rfl rfl (fun ρ W h1 h2 => r_idxq (i := 1) h1 h2 (by simp))
  ·exact DX.ldq (zs := [ofq x y, ofq z u, ofq v p]) (K := 228) (i := 1) (by simp) rfl rfl rfl rfl
  ·exact DX.move rfl rfl rfl rfl rfl rfl
  ·exact DX.q2 (x := .tmp 40) (y := .const (.int .i64 2)) (.pointer (some ⟨gq, 2 * 4, none⟩)) rfl rfl rfl rfl rfl (fun ρ W h1 h2 => r_idxq (i := 2) h1 h2 (by simp))
  ·exact DX.ldq (zs := [ofq x y, ofq z u, ofq v p]) (K := 228) (i := 2) (by simp) rfl rfl rfl rfl
  ·exact DX.alloc (BQ 93) rfl rfl rfl rfl bQ rfl
  ·exact DX.alloc (BQ 93) rfl rfl rfl rfl bQ rfl
  ·exact DX.alloc (BQ 93) rfl rfl rfl rfl bQ rfl
  ·exact DX.store (x := .tmp 36) (r := .kw (KQ (ofq x y).num (((ofq x y).den : Int) - 1))) rfl rfl rfl rfl rfl rfl sh_Q
  ·exact DX.store (x := .tmp 39) (r := .kw (KQ (ofq z u).num (((ofq z u).den : Int) - 1))) rfl rfl rfl rfl rfl rfl sh_Q
  ·exact DX.store (x := .tmp 42) (r := .kw (KQ (ofq v p).num (((ofq v p).den : Int) - 1))) rfl rfl rfl rfl rfl rfl sh_Q
  refine SX.then (SC.seq (SC.seq ?_))
  refine SC.dx [.val 43 (.kw (KQ (ofq x y).num (((ofq x y).den : Int) - 1))), .val 44 (.kw (KQ (ofq z u).num (((ofq z u).den : Int) - 1))), .val 45 (.kw (KQ ((ofq x y) + (ofq z u)).num ((((ofq x y) + (ofq z u)).den : Int) - 1))), .val 46 (.kw (KQ (ofq z u).num (((ofq z u).den : Int) - 1))), .val 47 (.kw (KQ (ofq x y).num (((ofq x y).den : Int) - 1))), .val 48 (.kw (KQ ((ofq z u) + (ofq x y)).num ((((ofq z u) + (ofq x y)).den : Int) - 1))), .val 49 (.vl (.bool true)), .val 50 (.vl (.bool false)), .val 51 (.vl (.bool false)), .val 52 (.kw (KQ (ofq x y).num (((ofq x y).den : Int) - 1))), .val 53 (.kw (KQ (ofq z u).num (((ofq z u).den : Int) - 1))), .val 54 (.kw (KQ ((ofq x y) * (ofq z u)).num ((((ofq x y) * (ofq z u)).den : Int) - 1))), .val 55 (.kw (KQ (ofq z u).num (((ofq z u).den : Int) - 1))), .val 56 (.kw (KQ (ofq x y).num (((ofq x y).den : Int) - 1))), .val 57 (.kw (KQ ((ofq z u) * (ofq x y)).num ((((ofq z u) * (ofq x y)).den : Int) - 1))), .val 58 (.vl (.bool true)), .val 59 (.vl (.bool false)), .val 60 (.vl (.bool false)), .val 61 (.vl (.bool false)), .val 62 (.kw (KQ (ofq x y).num (((ofq x y).den : Int) - 1))), .val 63 (.kw (KQ (ofq z u).num (((ofq z u).den : Int) - 1))), .val 64 (.kw (KQ ((ofq x y) + (ofq z u)).num ((((ofq x y) + (ofq z u)).den : Int) - 1))), .val 65 (.kw (KQ (ofq v p).num (((ofq v p).den : Int) - 1))), .val 66 (.kw (KQ (((ofq x y) + (ofq z u)) + (ofq v p)).num (((((ofq x y) + (ofq z u)) + (ofq v p)).den : Int) - 1))), .val 67 (.kw (KQ (ofq x y).num (((ofq x y).den : Int) - 1))), .val 68 (.kw (KQ (ofq z u).num (((ofq z u).den : Int) - 1))), .val 69 (.kw (KQ (ofq v p).num (((ofq v p).den : Int) - 1))), .val 70 (.kw (KQ ((ofq z u) + (ofq v p)).num ((((ofq z u) + (ofq v p)).den : Int) - 1))), .val 71 (.kw (KQ ((ofq x y) + ((ofq z u) + (ofq v p))).num ((((ofq x y) + ((ofq z u) + (ofq v p))).den : Int) - 1))), .val 72 (.vl (.bool true)), .val 73 (.vl (.bool false)), .val 74 (.vl (.bool false)), .val 75 (.vl (.bool false)), .val 76 (.kw (KQ (ofq x y).num (((ofq x y).den : Int) - 1))), .val 77 (.kw (KQ (ofq z u).num (((ofq z u).den : Int) - 1))), .val 78 (.kw (KQ ((ofq x y) * (ofq z u)).num ((((ofq x y) * (ofq z u)).den : Int) - 1))), .val 79 (.kw (KQ (ofq v p).num (((ofq v p).den : Int) - 1))), .val 80 (.kw (KQ (((ofq x y) * (ofq z u)) * (ofq v p)).num (((((ofq x y) * (ofq z u)) * (ofq v p)).den : Int) - 1))), .val 81 (.kw (KQ (ofq x y).num (((ofq x y).den : Int) - 1))), .val 82 (.kw (KQ (ofq z u).num (((ofq z u).den : Int) - 1))), .val 83 (.kw (KQ (ofq v p).num (((ofq v p).den : Int) - 1))), .val 84 (.kw (KQ ((ofq z u) * (ofq v p)).num ((((ofq z u) * (ofq v p)).den : Int) - 1))), .val 85 (.kw (KQ ((ofq x y) * ((ofq z u) * (ofq v p))).num ((((ofq x y) * ((ofq z u) * (ofq v p))).den : Int) - 1))), .val 86 (.vl (.bool true)), .val 87 (.vl (.bool false)), .val 88 (.vl (.bool false)), .val 89 (.vl (.bool false)), .val 90 (.kw (KQ (ofq x y).num (((ofq x y).den : Int) - 1))), .val 91 (.kw (KQ (ofq z u).num (((ofq z u).den : Int) - 1))), .val 92 (.kw (KQ (ofq v p).num (((ofq v p).den : Int) - 1))), .val 93 (.kw (KQ ((ofq z u) + (ofq v p)).num ((((ofq z u) + (ofq v p)).den : Int) - 1))), .val 94 (.kw (KQ ((ofq x y) * ((ofq z u) + (ofq v p))).num ((((ofq x y) * ((ofq z u) + (ofq v p))).den : Int) - 1))), .val 95 (.kw (KQ (ofq x y).num (((ofq x y).den : Int) - 1))), .val 96 (.kw (KQ (ofq z u).num (((ofq z u).den : Int) - 1))), .val 97 (.kw (KQ ((ofq x y) * (ofq z u)).num ((((ofq x y) * (ofq z u)).den : Int) - 1))), .val 98 (.kw (KQ (ofq x y).num (((ofq x y).den : Int) - 1))), .val 99 (.kw (KQ (ofq v p).num (((ofq v p).den : Int) - 1))), .val 100 (.kw (KQ ((ofq x y) * (ofq v p)).num ((((ofq x y) * (ofq v p)).den : Int) - 1))), .val 101 (.kw (KQ (((ofq x y) * (ofq z u)) + ((ofq x y) * (ofq v p))).num (((((ofq x y) * (ofq z u)) + ((ofq x y) * (ofq v p))).den : Int) - 1))), .val 102 (.vl (.bool true)), .val 103 (.vl (.bool false)), .val 104 (.vl (.bool false)), .val 105 (.vl (.bool false)), .val 106 (.kw (KQ (ofq x y).num (((ofq x y).den : Int) - 1))), .val 107 (.kw (KQ (ofq z u).num (((ofq z u).den : Int) - 1))), .val 108 (.kw (KQ ((ofq x y) + (ofq z u)).num ((((ofq x y) + (ofq z u)).den : Int) - 1))), .val 109 (.kw (KQ (ofq z u).num (((ofq z u).den : Int) - 1))), .val 110 (.kw (KQ (((ofq x y) + (ofq z u)) - (ofq z u)).num (((((ofq x y) + (ofq z u)) - (ofq z u)).den : Int) - 1))), .val 111 (.kw (KQ (ofq x y).num (((ofq x y).den : Int) - 1))), .val 112 (.vl (.bool true)), .val 113 (.vl (.bool false)), .val 114 (.vl (.bool false))] [([], [10]), ([], [11]), ([0, 1], []), ([], [11]), ([], [10]), ([3, 4], []), ([2, 5], []), ([6], []), ([7], []), ([8], [10]), ([8], [11]), ([9, 10, 8], []), ([8], [11]), ([8], [10]), ([12, 13, 8], []), ([11, 14, 8], []), ([15, 8], []), ([8, 16], []), ([17], []), ([18], [10]), ([18], [11]), ([19, 20, 18], []), ([18], [12]), ([21, 22, 18], []), ([18], [10]), ([18], [11]), ([18], [12]), ([25, 26, 18], []), ([24, 27, 18], []), ([23, 28, 18], []), ([29, 18], []), ([18, 30], []), ([31], []), ([32], [10]), ([32], [11]), ([33, 34, 32], []), ([32], [12]), ([35, 36, 32], []), ([32], [10]), ([32], [11]), ([32], [12]), ([39, 40, 32], []), ([38, 41, 32], []), ([37, 42, 32], []), ([43, 32], []), ([32, 44], []), ([45], []), ([46], [10]), ([46], [11]), ([46], [12]), ([48, 49, 46], []), ([47, 50, 46], []), ([46], [10]), ([46], [11]), ([52, 53, 46], []), ([46], [10]), ([46], [12]), ([55, 56, 46], []), ([54, 57, 46], []), ([51, 58, 46], []), ([59, 46], []), ([46, 60], []), ([61], []), ([62], [10]), ([62], [11]), ([63, 64, 62], []), ([62], [11]), ([65, 66, 62], []), ([62], [10]), ([67, 68, 62], []), ([69, 62], []), ([62, 70], [])] rfl (by kernel_rfl) (by kernel_rfl) (by kernel_rfl) rfl ⟨?_, ?_, ?_, ?_, ?_, ?_, ?_, ?_, ?_, ?_, ?_, ?_, ?_, ?_, ?_, ?_, ?_, ?_, ?_, ?_, ?_, ?_, ?_, ?_, ?_, ?_, ?_, ?_, ?_, ?_, ?_, ?_, ?_, ?_, ?_, ?_, ?_, ?_, ?_, ?_, ?_, ?_, ?_, ?_, ?_, ?_, ?_, ?_, ?_, ?_, ?_, ?_, ?_, ?_, ?_, ?_, ?_, ?_, ?_, ?_, ?_, ?_, ?_, ?_, ?_, ?_, ?_, ?_, ?_, ?_, ?_, ?_, trivial⟩ ?_
  ·exact DX.load rfl rfl rfl rfl rfl rfl
  ·exact DX.load rfl rfl rfl rfl rfl rfl
  ·exact DX.call (r := .kw (KQ ((ofq x y) + (ofq z u)).num ((((ofq x y) + (ofq z u)).den : Int) - 1))) rfl rfl rfl rfl rfl rfl (KQ.st _ _) rfl (k_radd ((bq.of X Y)) ((bq.of Z U)) (by omega) (by omega))
  ·exact DX.load rfl rfl rfl rfl rfl rfl
  ·exact DX.load rfl rfl rfl rfl rfl rfl
  ·exact DX.call (r := .kw (KQ ((ofq z u) + (ofq x y)).num ((((ofq z u) + (ofq x y)).den : Int) - 1))) rfl rfl rfl rfl rfl rfl (KQ.st _ _) rfl (k_radd ((bq.of Z U)) ((bq.of X Y)) (by omega) (by omega))
  ·exact DX.call (r := .vl (.bool true)) rfl rfl rfl rfl rfl rfl (KV.st _) rfl (k_sameT (((bq.of X Y)).add ((bq.of Z U))) (((bq.of Z U)).add ((bq.of X Y))) (by omega) (by omega) (Rat.add_comm _ _))
  ·exact DX.q1 (x := .tmp 49) (.bool false) rfl rfl rfl rfl (fun ρ W h1 => by go_simp)
  ·exact DX.move rfl rfl rfl rfl rfl rfl
  ·exact DX.load rfl rfl rfl rfl rfl rfl
  ·exact DX.load rfl rfl rfl rfl rfl rfl
  ·exact DX.call (r := .kw (KQ ((ofq x y) * (ofq z u)).num ((((ofq x y) * (ofq z u)).den : Int) - 1))) rfl rfl rfl rfl rfl rfl (KQ.st _ _) rfl (k_rmul ((bq.of X Y)) ((bq.of Z U)) (by omega) (by omega))
  ·exact DX.load rfl rfl rfl rfl rfl rfl
  ·exact DX.load rfl rfl rfl rfl rfl rfl
  ·exact DX.call (r := .kw (KQ ((ofq z u) * (ofq x y)).num ((((ofq z u) * (ofq x y)).den : Int) - 1))) rfl rfl rfl rfl rfl rfl (KQ.st _ _) rfl (k_rmul ((bq.of Z U)) ((bq.of X Y)) (by omega) (by omega))
  ·exact DX.call (r := .vl (.bool true)) rfl rfl rfl rfl rfl rfl (KV.st _) rfl (k_sameT (((bq.of X Y)).mul ((bq.of Z U))) (((bq.of Z U)).mul ((bq.of X Y))) (by omega) (by omega) (Rat.mul_comm _ _))
  ·exact DX.q1 (x := .tmp 58) (.bool false) rfl rfl rfl rfl (fun ρ W h1 => by go_simp)
  ·exact DX.pick (t := false) rfl rfl rfl rfl rfl rfl rfl
  ·exact DX.move rfl rfl rfl rfl rfl rfl
  ·exact DX.load rfl rfl rfl rfl rfl rfl
  ·exact DX.load rfl rfl rfl rfl rfl rfl
  ·exact DX.call (r := .kw (KQ ((ofq x y) + (ofq z u)).num ((((ofq x y) + (ofq z u)).den : Int) - 1))) rfl rfl rfl rfl rfl rfl (KQ.st _ _) rfl (k_radd ((bq.of X Y)) ((bq.of Z U)) (by omega) (by omega))
  ·exact DX.load rfl rfl rfl rfl rfl rfl
  ·exact DX.call (r := .kw (KQ (((ofq x y) + (ofq z u)) + (ofq v p)).num (((((ofq x y) + (ofq z u)) + (ofq v p)).den : Int) - 1))) rfl rfl rfl rfl rfl rfl (KQ.st _ _) rfl (k_radd (((bq.of X Y)).add ((bq.of Z U))) ((bq.of V P)) (by omega) (by omega))
  ·exact DX.load rfl rfl rfl rfl rfl rfl
  ·exact DX.load rfl rfl rfl rfl rfl rfl
  ·exact DX.load rfl rfl rfl rfl rfl rfl
  ·exact DX.call (r := .kw (KQ ((ofq z u) + (ofq v p)).num ((((ofq z u) + (ofq v p)).den : Int) - 1))) rfl rfl rfl rfl rfl rfl (KQ.st _ _) rfl (k_radd ((bq.of Z U)) ((bq.of V P)) (by omega) (by omega))
  ·exact DX.call (r := .kw (KQ ((ofq x y) + ((ofq z u) + (ofq v p))).num ((((ofq x y) + ((ofq z u) + (ofq v p))).den : Int) - 1))) rfl rfl rfl rfl rfl rfl (KQ.st _ _) rfl (k_radd ((bq.of X Y)) (((bq.of Z U)).add ((bq.of V P))) (by omega) (by omega))
  ·exact DX.call (r := .vl (.bool true)) rfl rfl rfl rfl rfl rfl (KV.st _) rfl (k_sameT ((((bq.of X Y)).add ((bq.of Z U))).add ((bq.of V P))) (((bq.of X Y)).add (((bq.of Z U)).add ((bq.of V P)))) (by omega) (by omega) (Rat.add_assoc _ _ _))
  ·exact DX.q1 (x := .tmp 72) (.bool false) rfl rfl rfl rfl (fun ρ W h1 => by go_simp)
  ·exact DX.pick (t := false) rfl rfl rfl rfl rfl rfl rfl
  ·exact DX.move rfl rfl rfl rfl rfl rfl
  ·exact DX.load rfl rfl rfl rfl rfl rfl
  ·exact DX.load rfl rfl rfl rfl rfl rfl
  ·exact DX.call (r := .kw (KQ ((ofq x y) * (ofq z u)).num ((((ofq x y) * (ofq z u)).den : Int) - 1))) rfl rfl rfl rfl rfl rfl (KQ.st _ _) rfl (k_rmul ((bq.of X Y)) ((bq.of Z U)) (by omega) (by omega))
  ·exact DX.load rfl rfl rfl rfl rfl rfl
  ·exact DX.call (r := .kw (KQ (((ofq x y) * (ofq z u)) * (ofq v p)).num (((((ofq x y) * (ofq z u)) * (ofq v p)).den : Int) - 1))) rfl rfl rfl rfl rfl rfl (KQ.st _ _) rfl (k_rmul (((bq.of X Y)).mul ((bq.of Z U))) ((bq.of V P)) (by omega) (by omega))
  ·exact DX.load rfl rfl rfl rfl rfl rfl
  ·exact DX.load rfl rfl rfl rfl rfl rfl
  ·exact DX.load rfl rfl rfl rfl rfl rfl
  ·exact DX.call (r := .kw (KQ ((ofq z u) * (ofq v p)).num ((((ofq z u) * (ofq v p)).den : Int) - 1))) rfl rfl rfl rfl rfl rfl (KQ.st _ _) rfl (k_rmul ((bq.of Z U)) ((bq.of V P)) (by omega) (by omega))
  ·exact DX.call (r := .kw (KQ ((ofq x y) * ((ofq z u) * (ofq v p))).num ((((ofq x y) * ((ofq z u) * (ofq v p))).den : Int) - 1))) rfl rfl rfl rfl rfl rfl (KQ.st _ _) rfl (k_rmul ((bq.of X Y)) (((bq.of Z U)).mul ((bq.of V P))) (by omega) (by omega))
  ·exact DX.call (r := .vl (.bool true)) rfl rfl rfl rfl rfl rfl (KV.st _) rfl (k_sameT ((((bq.of X Y)).mul ((bq.of Z U))).mul ((bq.of V P))) (((bq.of X Y)).mul (((bq.of Z U)).mul ((bq.of V P)))) (by omega) (by omega) (Rat.mul_assoc _ _ _))
  ·exact DX.q1 (x := .tmp 86) (.bool false) rfl rfl rfl rfl (fun ρ W h1 => by go_simp)
  ·exact DX.pick (t := false) rfl rfl rfl rfl rfl rfl rfl
  ·exact DX.move rfl rfl rfl rfl rfl rfl
  ·exact DX.load rfl rfl rfl rfl rfl rfl
  ·exact DX.load rfl rfl rfl rfl rfl rfl
  ·exact DX.load rfl rfl rfl rfl rfl rfl
  ·exact DX.call (r := .kw (KQ ((ofq z u) + (ofq v p)).num ((((ofq z u) + (ofq v p)).den : Int) - 1))) rfl rfl rfl rfl rfl rfl (KQ.st _ _) rfl (k_radd ((bq.of Z U)) ((bq.of V P)) (by omega) (by omega))
  ·exact DX.call (r := .kw (KQ ((ofq x y) * ((ofq z u) + (ofq v p))).num ((((ofq x y) * ((ofq z u) + (ofq v p))).den : Int) - 1))) rfl rfl rfl rfl rfl rfl (KQ.st _ _) rfl (k_rmul ((bq.of X Y)) (((bq.of Z U)).add ((bq.of V P))) (by omega) (by omega))
  ·exact DX.load rfl rfl rfl rfl rfl rfl
  ·exact DX.load rfl rfl rfl rfl rfl rfl
  ·exact DX.call (r := .kw (KQ ((ofq x y) * (ofq z u)).num ((((ofq x y) * (ofq z u)).den : Int) - 1))) rfl rfl rfl rfl rfl rfl (KQ.st _ _) rfl (k_rmul ((bq.of X Y)) ((bq.of Z U)) (by omega) (by omega))
  ·exact DX.load rfl rfl rfl rfl rfl rfl
  ·exact DX.load rfl rfl rfl rfl rfl rfl
  ·exact DX.call (r := .kw (KQ ((ofq x y) * (ofq v p)).num ((((ofq x y) * (ofq v p)).den : Int) - 1))) rfl rfl rfl rfl rfl rfl (KQ.st _ _) rfl (k_rmul ((bq.of X Y)) ((bq.of V P)) (by omega) (by omega))
  ·exact DX.call (r := .kw (KQ (((ofq x y) * (ofq z u)) + ((ofq x y) * (ofq v p))).num (((((ofq x y) * (ofq z u)) + ((ofq x y) * (ofq v p))).den : Int) - 1))) rfl rfl rfl rfl rfl rfl (KQ.st _ _) rfl (k_radd (((bq.of X Y)).mul ((bq.of Z U))) (((bq.of X Y)).mul ((bq.of V P))) (by omega) (by omega))
  ·exact DX.call (r := .vl (.bool true)) rfl rfl rfl rfl rfl rfl (KV.st _) rfl (k_sameT (((bq.of X Y)).mul (((bq.of Z U)).add ((bq.of V P)))) ((((bq.of X Y)).mul ((bq.of Z U))).add (((bq.of X Y)).mul ((bq.of V P)))) (by omega) (by omega) (Rat.mul_add _ _ _))
  ·exact DX.q1 (x := .tmp 102) (.bool false) rfl rfl rfl rfl (fun ρ W h1 => by go_simp)
  ·exact DX.pick (t := false) rfl rfl rfl rfl rfl rfl rfl
  ·exact DX.move rfl rfl rfl rfl rfl rfl
  ·exact DX.load rfl rfl rfl rfl rfl rfl
  ·exact DX.load rfl rfl rfl rfl rfl rfl
  ·exact DX.call (r := .kw (KQ ((ofq x y) + (ofq z u)).num ((((ofq x y) + (ofq z u)).den : Int) - 1))) rfl rfl rfl rfl rfl rfl (KQ.st _ _) rfl (k_radd ((bq.of X Y)) ((bq.of Z U)) (by omega) (by omega))
  ·exact DX.load rfl rfl rfl rfl rfl rfl
  ·exact DX.call (r := .kw (KQ (((ofq x y) + (ofq z u)) - (ofq z u)).num (((((ofq x y) + (ofq z u)) - (ofq z u)).den : Int) - 1))) rfl rfl rfl rfl rfl rfl (KQ.st _ _) rfl (k_rsub (((bq.of X Y)).add ((bq.of Z U))) ((bq.of Z U)) (by omega) (by omega))
  ·exact DX.load rfl rfl rfl rfl rfl rfl
  ·exact DX.call (r := .vl (.bool true)) rfl rfl rfl rfl rfl rfl (KV.st _) rfl (k_sameT ((((bq.of X Y)).add ((bq.of Z U))).sub ((bq.of Z U))) ((bq.of X Y)) (by omega) (by omega) Rat.add_sub_cancel)
  ·exact DX.q1 (x := .tmp 112) (.bool false) rfl rfl rfl rfl (fun ρ W h1 => by go_simp)
  ·exact DX.pick (t := false) rfl rfl rfl rfl rfl rfl rfl
  refine SX.then (SC.cond (t := false) rfl (SC.skip (SX.then ?_)))
  refine SC.mid1 (S := Unit) (fun _ => [(3, .vl (.int .u8 r)), (4, .bx (BQ 88) (KV (.agg #[.bool n1, .slice A1 l1 c1, .bool n2, .slice A2 l2 c2]))), (5, .bx (BQ 88) (KV (.agg #[.bool n3, .slice A3 l3 c3, .bool n4, .slice A4 l4 c4]))), (6, .bx (BQ 88) (KV (.agg #[.bool n5, .slice A5 l5 c5, .bool n6, .slice A6 l6 c6]))), (8, .vl (.bool false)), (10, .bx (BQ 93) (KQ (ofq x y).num (((ofq x y).den : Int) - 1))), (11, .bx (BQ 93) (KQ (ofq z u).num (((ofq z u).den : Int) - 1))), (12, .bx (BQ 93) (KQ (ofq v p).num (((ofq v p).den : Int) - 1)))]) (fun _ => True) ?_ ?_
  ·refine SC.seq ?_
   refine SC.dx [.val 116 (.kw (KQ (ofq x y).num (((ofq x y).den : Int) - 1))), .val 117 (.kw (KQ (ofq z u).num (((ofq z u).den : Int) - 1))), .val 118 (.kw (KQ ((ofq x y) * (ofq z u)).num ((((ofq x y) * (ofq z u)).den : Int) - 1))), .val 119 (.kw (KQ (ofq z u).num (((ofq z u).den : Int) - 1))), .val 120 (.kw (K2 (KQ (((ofq x y) * (ofq z u)) / (ofq z u)).num (((((ofq x y) * (ofq z u)) / (ofq z u)).den : Int) - 1)) (KV (.int .i64 (ezq (ofq z u)))))), .val 115 (.kw (K2 (KQ (((ofq x y) * (ofq z u)) / (ofq z u)).num (((((ofq x y) * (ofq z u)) / (ofq z u)).den : Int) - 1)) (KV (.int .i64 (ezq (ofq z u)))))), .val 121 (.kw (KQ (((ofq x y) * (ofq z u)) / (ofq z u)).num (((((ofq x y) * (ofq z u)) / (ofq z u)).den : Int) - 1))), .val 122 (.vl (.int .i64 (ezq (ofq z u)))), .new 13 (BQ 93), .put 13 (BQ 93) (.kw (KQ (((ofq x y) * (ofq z u)) / (ofq z u)).num (((((ofq x y) * (ofq z u)) / (ofq z u)).den : Int) - 1))), .val 14 (.vl (.int .i64 (ezq (ofq z u))))] [([], [10]), ([], [11]), ([0, 1], []), ([], [11]), ([2, 3], []), ([4], []), ([5], []), ([5], []), ([], []), ([8, 6], []), ([7], [])] rfl (by kernel_rfl) (by kernel_rfl) (by kernel_rfl) rfl ⟨?_, ?_, ?_, ?_, ?_, ?_, ?_, ?_, ?_, ?_, ?_, trivial⟩ ?_
   ·exact DX.load rfl rfl rfl rfl rfl rfl
   ·exact DX.load rfl rfl rfl rfl rfl rfl
   ·exact DX.call (r := .kw (KQ ((ofq x y) * (ofq z u)).num ((((ofq x y) * (ofq z u)).den : Int) - 1))) rfl rfl rfl rfl rfl rfl (KQ.st _ _) rfl (k_rmul ((bq.of X Y)) ((bq.of Z U)) (by omega) (by omega))
   ·exact DX.load rfl rfl rfl rfl rfl rfl
   ·exact DX.call (r := .kw (K2 (KQ (((ofq x y) * (ofq z u)) / (ofq z u)).num (((((ofq x y) * (ofq z u)) / (ofq z u)).den : Int) - 1)) (KV (.int .i64 (ezq (ofq z u)))))) rfl rfl rfl rfl rfl rfl (K2.st (KQ.st _ _) (KV.st _)) rfl (k_rdivt (((bq.of X Y)).mul ((bq.of Z U))) ((bq.of Z U)) (by omega) (by omega))
   ·exact DX.move rfl rfl rfl rfl rfl rfl
   ·exact DX.ext (r := .kw (KQ (((ofq x y) * (ofq z u)) / (ofq z u)).num (((((ofq x y) * (ofq z u)) / (ofq z u)).den : Int) - 1))) rfl rfl rfl rfl rfl ex20 (KQ.st _ _) rfl
   ·exact DX.ext (r := .vl (.int .i64 (ezq (ofq z u)))) rfl rfl rfl rfl rfl ex21v (KV.st _) rfl
   ·exact DX.alloc (BQ 93) rfl rfl rfl rfl bQ rfl
   ·exact DX.store (x := .tmp 121) (r := .kw (KQ (((ofq x y) * (ofq z u)) / (ofq z u)).num (((((ofq x y) * (ofq z u)) / (ofq z u)).den : Int) - 1))) rfl rfl rfl rfl rfl rfl sh_Q
   ·exact DX.assign rfl rfl rfl rfl rfl rfl
   refine SX.then (SC.seq ?_)
   by_cases hy : ofq z u = 0
   ·refine SC.region ?_
    refine PW.load rfl rfl rfl rfl rfl rfl ?_
    refine PW.call (r := .vl (.int .i64 (sgq (ofq z u)))) rfl rfl rfl rfl rfl rfl (KV.st _) rfl (k_rsign) ?_
    refine PW.q2 (x := .tmp 124) (y := .const (.int .i64 0)) (.bool true) rfl rfl rfl rfl rfl (fun ρ W h1 h2 => by exact r_eqT h1 h2 (sgq_eq0.2 hy)) ?_
    refine PW.move rfl rfl rfl rfl rfl (PW.move rfl rfl rfl rfl rfl ?_)
    refine PW.q2 (x := .tmp 127) (y := .const (.int .i64 6)) (.bool false) rfl rfl rfl rfl rfl (fun ρ W h1 h2 => by exact r_eN h1 h2 (ezq_eq hy)) ?_
    refine PW.pick (t := true) rfl rfl rfl rfl rfl rfl ?_
    refine PW.move rfl rfl rfl rfl rfl ?_
    refine PW.load rfl rfl rfl rfl rfl rfl ?_
    refine PW.call (r := .vl (.int .i64 (sgq (ofq z u)))) rfl rfl rfl rfl rfl rfl (KV.st _) rfl (k_rsign) ?_
    refine PW.q2 (x := .tmp 132) (y := .const (.int .i64 0)) (.bool false) rfl rfl rfl rfl rfl (fun ρ W h1 h2 => by exact r_neF h1 h2 (sgq_eq0.2 hy)) ?_
    refine PW.move rfl rfl rfl rfl rfl ?_
    refine PW.skip rfl rfl rfl ?_
    refine PW.skip rfl rfl rfl ?_
    refine PW.skip rfl rfl rfl ?_
    refine PW.skip rfl rfl rfl ?_
    refine PW.skip rfl rfl rfl ?_
    refine PW.skip rfl rfl rfl ?_
    refine PW.skip rfl rfl rfl ?_
    refine PW.skip rfl rfl rfl ?_
    refine PW.pick (t := false) rfl rfl rfl rfl rfl rfl ?_
    refine PW.pick (t := false) rfl rfl rfl rfl rfl rfl ?_
    refine PW.nil (SX.then (SC.cond (t := false) rfl (SC.skip ?_)))
    exact SX.mid () trivial ⟨rfl, rfl, rfl, rfl, rfl, rfl, rfl, rfl, trivial⟩
   ·refine SC.region ?_
    refine PW.load rfl rfl rfl rfl rfl rfl ?_
    refine PW.call (r := .vl (.int .i64 (sgq (ofq z u)))) rfl rfl rfl rfl rfl rfl (KV.st _) rfl (k_rsign) ?_
    refine PW.q2 (x := .tmp 124) (y := .const (.int .i64 0)) (.bool false) rfl rfl rfl rfl rfl (fun ρ W h1 h2 => by exact r_eqF h1 h2 (fun h => hy (sgq_eq0.1 h))) ?_
    refine PW.move rfl rfl rfl rfl rfl ?_
    refine PW.skip rfl rfl rfl ?_
    refine PW.skip rfl rfl rfl ?_
    refine PW.pick (t := false) rfl rfl rfl rfl rfl rfl ?_
    refine PW.move rfl rfl rfl rfl rfl ?_
    refine PW.load rfl rfl rfl rfl rfl rfl ?_
    refine PW.call (r := .vl (.int .i64 (sgq (ofq z u)))) rfl rfl rfl rfl rfl rfl (KV.st _) rfl (k_rsign) ?_
    refine PW.q2 (x := .tmp 132) (y := .const (.int .i64 0)) (.bool true) rfl rfl rfl rfl rfl (fun ρ W h1 h2 => by exact r_neT h1 h2 (fun h => hy (sgq_eq0.1 h))) ?_
    refine PW.move rfl rfl rfl rfl rfl (PW.move rfl rfl rfl rfl rfl ?_)
    refine PW.q2 (x := .tmp 135) (y := .const (.int .i64 0)) (.bool false) rfl rfl rfl rfl rfl (fun ρ W h1 h2 => by exact r_eN h1 h2 (ezq_ne hy)) ?_
    refine PW.move rfl rfl rfl rfl rfl ?_
    refine PW.load rfl rfl rfl rfl rfl rfl ?_
    refine PW.load rfl rfl rfl rfl rfl rfl ?_
    refine PW.call (r := .vl (.bool true)) rfl rfl rfl rfl rfl rfl (KV.st _) rfl (k_sameT ((bq.divt (((bq.of X Y)).mul ((bq.of Z U))) ((bq.of Z U)))) ((bq.of X Y)) (by omega) (by omega) (Rat.mul_div_cancel hy)) ?_
    refine PW.q1 (x := .tmp 140) (.bool false) rfl rfl rfl rfl (fun ρ W h1 => by go_simp) ?_
    refine PW.pick (t := false) rfl rfl rfl rfl rfl rfl ?_
    refine PW.pick (t := true) rfl rfl rfl rfl rfl rfl ?_
    refine PW.pick (t := false) rfl rfl rfl rfl rfl rfl ?_
    refine PW.nil (SX.then (SC.cond (t := false) rfl (SC.skip ?_)))
    exact SX.mid () trivial ⟨rfl, rfl, rfl, rfl, rfl, rfl, rfl, rfl, trivial⟩
  ·rintro _ _
   show SC _ _ _ _ [(3, .vl (.int .u8 r)), (4, .bx (BQ 88) (KV (.agg #[.bool n1, .slice A1 l1 c1, .bool n2, .slice A2 l2 c2]))), (5, .bx (BQ 88) (KV (.agg #[.bool n3, .slice A3 l3 c3, .bool n4, .slice A4 l4 c4]))), (6, .bx (BQ 88) (KV (.agg #[.bool n5, .slice A5 l5 c5, .bool n6, .slice A6 l6 c6]))), (8, .vl (.bool false)), (10, .bx (BQ 93) (KQ (ofq x y).num (((ofq x y).den : Int) - 1))), (11, .bx (BQ 93) (KQ (ofq z u).num (((ofq z u).den : Int) - 1))), (12, .bx (BQ 93) (KQ (ofq v p).num (((ofq v p).den : Int) - 1)))] _
   refine SC.mid1 (S := Unit) (fun _ => [(3, .vl (.int .u8 r)), (4, .bx (BQ 88) (KV (.agg #[.bool n1, .slice A1 l1 c1, .bool n2, .slice A2 l2 c2]))), (5, .bx (BQ 88) (KV (.agg #[.bool n3, .slice A3 l3 c3, .bool n4, .slice A4 l4 c4]))), (6, .bx (BQ 88) (KV (.agg #[.bool n5, .slice A5 l5 c5, .bool n6, .slice A6 l6 c6]))), (8, .vl (.bool false)), (10, .bx (BQ 93) (KQ (ofq x y).num (((ofq x y).den : Int) - 1))), (11, .bx (BQ 93) (KQ (ofq z u).num (((ofq z u).den : Int) - 1))), (12, .bx (BQ 93) (KQ (ofq v p).num (((ofq v p).den : Int) - 1)))]) (fun _ => True) ?_ ?_
   ·refine SC.seq ?_
    by_cases hz : 0 < ofq v p
    ·refine SC.dx [.val 145 (.kw (KQ (ofq x y).num (((ofq x y).den : Int) - 1))), .val 146 (.kw (KQ (ofq z u).num (((ofq z u).den : Int) - 1))), .val 147 (.vl (.int .i64 (cmpq (ofq x y) (ofq z u)))), .val 148 (.kw (KQ (ofq z u).num (((ofq z u).den : Int) - 1))), .val 149 (.kw (KQ (ofq x y).num (((ofq x y).den : Int) - 1))), .val 150 (.vl (.int .i64 (cmpq (ofq z u) (ofq x y)))), .val 151 (.vl (.int .i64 (-(cmpq (ofq z u) (ofq x y))))), .val 152 (.vl (.bool false)), .val 153 (.vl (.bool false)), .val 154 (.kw (KQ (ofq x y).num (((ofq x y).den : Int) - 1))), .val 155 (.kw (KQ (ofq v p).num (((ofq v p).den : Int) - 1))), .val 156 (.kw (KQ ((ofq x y) + (ofq v p)).num ((((ofq x y) + (ofq v p)).den : Int) - 1))), .val 157 (.kw (KQ (ofq z u).num (((ofq z u).den : Int) - 1))), .val 158 (.kw (KQ (ofq v p).num (((ofq v p).den : Int) - 1))), .val 159 (.kw (KQ ((ofq z u) + (ofq v p)).num ((((ofq z u) + (ofq v p)).den : Int) - 1))), .val 160 (.vl (.int .i64 (cmpq ((ofq x y) + (ofq v p)) ((ofq z u) + (ofq v p))))), .val 161 (.kw (KQ (ofq x y).num (((ofq x y).den : Int) - 1))), .val 162 (.kw (KQ (ofq z u).num (((ofq z u).den : Int) - 1))), .val 163 (.vl (.int .i64 (cmpq (ofq x y) (ofq z u)))), .val 164 (.vl (.bool false)), .val 165 (.vl (.bool false)), .val 166 (.vl (.bool false)), .val 167 (.kw (KQ (ofq v p).num (((ofq v p).den : Int) - 1))), .val 168 (.vl (.int .i64 (sgq (ofq v p)))), .val 169 (.vl (.bool true)), .val 170 (.vl (.bool true)), .val 171 (.kw (KQ (ofq x y).num (((ofq x y).den : Int) - 1))), .val 172 (.kw (KQ (ofq v p).num (((ofq v p).den : Int) - 1))), .val 173 (.kw (KQ ((ofq x y) * (ofq v p)).num ((((ofq x y) * (ofq v p)).den : Int) - 1))), .val 174 (.kw (KQ (ofq z u).num (((ofq z u).den : Int) - 1))), .val 175 (.kw (KQ (ofq v p).num (((ofq v p).den : Int) - 1))), .val 176 (.kw (KQ ((ofq z u) * (ofq v p)).num ((((ofq z u) * (ofq v p)).den : Int) - 1))), .val 177 (.vl (.int .i64 (cmpq ((ofq x y) * (ofq v p)) ((ofq z u) * (ofq v p))))), .val 178 (.kw (KQ (ofq x y).num (((ofq x y).den : Int) - 1))), .val 179 (.kw (KQ (ofq z u).num (((ofq z u).den : Int) - 1))), .val 180 (.vl (.int .i64 (cmpq (ofq x y) (ofq z u)))), .val 181 (.vl (.bool false)), .val 182 (.vl (.bool false)), .val 183 (.vl (.bool false))] [([], [10]), ([], [11]), ([0, 1], []), ([], [11]), ([], [10]), ([3, 4], []), ([5], []), ([2, 6], []), ([7], []), ([8], [10]), ([8], [12]), ([9, 10, 8], []), ([8], [11]), ([8], [12]), ([12, 13, 8], []), ([11, 14, 8], []), ([8], [10]), ([8], [11]), ([16, 17, 8], []), ([15, 18, 8], []), ([8, 19], []), ([20], []), ([21], [12]), ([22, 21], []), ([23, 21], []), ([24, 21], []), ([25], [10]), ([25], [12]), ([26, 27, 25], []), ([25], [11]), ([25], [12]), ([29, 30, 25], []), ([28, 31, 25], []), ([25], [10]), ([25], [11]), ([33, 34, 25], []), ([32, 35, 25], []), ([25, 36, 21], []), ([21, 37], [])] rfl (by kernel_rfl) (by kernel_rfl) (by kernel_rfl) rfl ⟨?_, ?_, ?_, ?_, ?_, ?_, ?_, ?_, ?_, ?_, ?_, ?_, ?_, ?_, ?_, ?_, ?_, ?_, ?_, ?_, ?_, ?_, ?_, ?_, ?_, ?_, ?_, ?_, ?_, ?_, ?_, ?_, ?_, ?_, ?_, ?_, ?_, ?_, ?_, trivial⟩ ?_
     ·exact DX.load rfl rfl rfl rfl rfl rfl
     ·exact DX.load rfl rfl rfl rfl rfl rfl
     ·exact DX.call (r := .vl (.int .i64 (cmpq (ofq x y) (ofq z u)))) rfl rfl rfl rfl rfl rfl (KV.st _) rfl (k_rcmp ((bq.of X Y)) ((bq.of Z U)) (by omega) (by omega))
     ·exact DX.load rfl rfl rfl rfl rfl rfl
     ·exact DX.load rfl rfl rfl rfl rfl rfl
     ·exact DX.call (r := .vl (.int .i64 (cmpq (ofq z u) (ofq x y)))) rfl rfl rfl rfl rfl rfl (KV.st _) rfl (k_rcmp ((bq.of Z U)) ((bq.of X Y)) (by omega) (by omega))
     ·exact DX.q1 (x := .tmp 150) (.int .i64 (-(cmpq (ofq z u) (ofq x y)))) rfl rfl rfl rfl (fun ρ W h1 => by exact r_negq h1 (by have := cmpq_range (ofq z u) (ofq x y); omega))
     ·exact DX.q2 (x := .tmp 147) (y := .tmp 151) (.bool false) rfl rfl rfl rfl rfl (fun ρ W h1 h2 => by exact r_neF h1 h2 (cmpq_flip _ _))
     ·exact DX.move rfl rfl rfl rfl rfl rfl
     ·exact DX.load rfl rfl rfl rfl rfl rfl
     ·exact DX.load rfl rfl rfl rfl rfl rfl
     ·exact DX.call (r := .kw (KQ ((ofq x y) + (ofq v p)).num ((((ofq x y) + (ofq v p)).den : Int) - 1))) rfl rfl rfl rfl rfl rfl (KQ.st _ _) rfl (k_radd ((bq.of X Y)) ((bq.of V P)) (by omega) (by omega))
     ·exact DX.load rfl rfl rfl rfl rfl rfl
     ·exact DX.load rfl rfl rfl rfl rfl rfl
     ·exact DX.call (r := .kw (KQ ((ofq z u) + (ofq v p)).num ((((ofq z u) + (ofq v p)).den : Int) - 1))) rfl rfl rfl rfl rfl rfl (KQ.st _ _) rfl (k_radd ((bq.of Z U)) ((bq.of V P)) (by omega) (by omega))
     ·exact DX.call (r := .vl (.int .i64 (cmpq ((ofq x y) + (ofq v p)) ((ofq z u) + (ofq v p))))) rfl rfl rfl rfl rfl rfl (KV.st _) rfl (k_rcmp (((bq.of X Y)).add ((bq.of V P))) (((bq.of Z U)).add ((bq.of V P))) (by omega) (by omega))
     ·exact DX.load rfl rfl rfl rfl rfl rfl
     ·exact DX.load rfl rfl rfl rfl rfl rfl
     ·exact DX.call (r := .vl (.int .i64 (cmpq (ofq x y) (ofq z u)))) rfl rfl rfl rfl rfl rfl (KV.st _) rfl (k_rcmp ((bq.of X Y)) ((bq.of Z U)) (by omega) (by omega))
     ·exact DX.q2 (x := .tmp 160) (y := .tmp 163) (.bool false) rfl rfl rfl rfl rfl (fun ρ W h1 h2 => by exact r_neF h1 h2 (cmpq_addr _ _ _))
     ·exact DX.pick (t := false) rfl rfl rfl rfl rfl rfl rfl
     ·exact DX.move rfl rfl rfl rfl rfl rfl
     ·exact DX.load rfl rfl rfl rfl rfl rfl
     ·exact DX.call (r := .vl (.int .i64 (sgq (ofq v p)))) rfl rfl rfl rfl rfl rfl (KV.st _) rfl (k_rsign)
     ·exact DX.q2 (x := .tmp 168) (y := .const (.int .i64 0)) (.bool true) rfl rfl rfl rfl rfl (fun ρ W h1 h2 => by exact r_gt h1 h2 (decide_eq_true (sgq_pos.2 hz)))
     ·exact DX.move rfl rfl rfl rfl rfl rfl
     ·exact DX.load rfl rfl rfl rfl rfl rfl
     ·exact DX.load rfl rfl rfl rfl rfl rfl
     ·exact DX.call (r := .kw (KQ ((ofq x y) * (ofq v p)).num ((((ofq x y) * (ofq v p)).den : Int) - 1))) rfl rfl rfl rfl rfl rfl (KQ.st _ _) rfl (k_rmul ((bq.of X Y)) ((bq.of V P)) (by omega) (by omega))
     ·exact DX.load rfl rfl rfl rfl rfl rfl
     ·exact DX.load rfl rfl rfl rfl rfl rfl
     ·exact DX.call (r := .kw (KQ ((ofq z u) * (ofq v p)).num ((((ofq z u) * (ofq v p)).den : Int) - 1))) rfl rfl rfl rfl rfl rfl (KQ.st _ _) rfl (k_rmul ((bq.of Z U)) ((bq.of V P)) (by omega) (by omega))
     ·exact DX.call (r := .vl (.int .i64 (cmpq ((ofq x y) * (ofq v p)) ((ofq z u) * (ofq v p))))) rfl rfl rfl rfl rfl rfl (KV.st _) rfl (k_rcmp (((bq.of X Y)).mul ((bq.of V P))) (((bq.of Z U)).mul ((bq.of V P))) (by omega) (by omega))
     ·exact DX.load rfl rfl rfl rfl rfl rfl
     ·exact DX.load rfl rfl rfl rfl rfl rfl
     ·exact DX.call (r := .vl (.int .i64 (cmpq (ofq x y) (ofq z u)))) rfl rfl rfl rfl rfl rfl (KV.st _) rfl (k_rcmp ((bq.of X Y)) ((bq.of Z U)) (by omega) (by omega))
     ·exact DX.q2 (x := .tmp 177) (y := .tmp 180) (.bool false) rfl rfl rfl rfl rfl (fun ρ W h1 h2 => by exact r_neF h1 h2 (cmpq_mulr hz))
     ·exact DX.pick (t := true) rfl rfl rfl rfl rfl rfl rfl
     ·exact DX.pick (t := false) rfl rfl rfl rfl rfl rfl rfl
     refine SX.then (SC.cond (t := false) rfl (SC.skip ?_))
     exact SX.mid () trivial ⟨rfl, rfl, rfl, rfl, rfl, rfl, rfl, rfl, trivial⟩
    ·refine SC.dx [.val 145 (.kw (KQ (ofq x y).num (((ofq x y).den : Int) - 1))), .val 146 (.kw (KQ (ofq z u).num (((ofq z u).den : Int) - 1))), .val 147 (.vl (.int .i64 (cmpq (ofq x y) (ofq z u)))), .val 148 (.kw (KQ (ofq z u).num (((ofq z u).den : Int) - 1))), .val 149 (.kw (KQ (ofq x y).num (((ofq x y).den : Int) - 1))), .val 150 (.vl (.int .i64 (cmpq (ofq z u) (ofq x y)))), .val 151 (.vl (.int .i64 (-(cmpq (ofq z u) (ofq x y))))), .val 152 (.vl (.bool false)), .val 153 (.vl (.bool false)), .val 154 (.kw (KQ (ofq x y).num (((ofq x y).den : Int) - 1))), .val 155 (.kw (KQ (ofq v p).num (((ofq v p).den : Int) - 1))), .val 156 (.kw (KQ ((ofq x y) + (ofq v p)).num ((((ofq x y) + (ofq v p)).den : Int) - 1))), .val 157 (.kw (KQ (ofq z u).num (((ofq z u).den : Int) - 1))), .val 158 (.kw (KQ (ofq v p).num (((ofq v p).den : Int) - 1))), .val 159 (.kw (KQ ((ofq z u) + (ofq v p)).num ((((ofq z u) + (ofq v p)).den : Int) - 1))), .val 160 (.vl (.int .i64 (cmpq ((ofq x y) + (ofq v p)) ((ofq z u) + (ofq v p))))), .val 161 (.kw (KQ (ofq x y).num (((ofq x y).den : Int) - 1))), .val 162 (.kw (KQ (ofq z u).num (((ofq z u).den : Int) - 1))), .val 163 (.vl (.int .i64 (cmpq (ofq x y) (ofq z u)))), .val 164 (.vl (.bool false)), .val 165 (.vl (.bool false)), .val 166 (.vl (.bool false)), .val 167 (.kw (KQ (ofq v p).num (((ofq v p).den : Int) - 1))), .val 168 (.vl (.int .i64 (sgq (ofq v p)))), .val 169 (.vl (.bool false)), .val 170 (.vl (.bool false)), .val 171 (.vl (undef)), .val 172 (.vl (undef)), .val 173 (.vl (undef)), .val 174 (.vl (undef)), .val 175 (.vl (undef)), .val 176 (.vl (undef)), .val 177 (.vl (undef)), .val 178 (.vl (undef)), .val 179 (.vl (undef)), .val 180 (.vl (undef)), .val 181 (.vl (undef)), .val 182 (.vl (.bool false)), .val 183 (.vl (.bool false))] [([], [10]), ([], [11]), ([0, 1], []), ([], [11]), ([], [10]), ([3, 4], []), ([5], []), ([2, 6], []), ([7], []), ([8], [10]), ([8], [12]), ([9, 10, 8], []), ([8], [11]), ([8], [12]), ([12, 13, 8], []), ([11, 14, 8], []), ([8], [10]), ([8], [11]), ([16, 17, 8], []), ([15, 18, 8], []), ([8, 19], []), ([20], []), ([21], [12]), ([22, 21], []), ([23, 21], []), ([24, 21], []), ([25], []), ([25], []), ([25], []), ([25], []), ([25], []), ([25], []), ([25], []), ([25], []), ([25], []), ([25], []), ([25], []), ([25, 21], []), ([21, 37], [])] rfl (by kernel_rfl) (by kernel_rfl) (by kernel_rfl) rfl ⟨?_, ?_, ?_, ?_, ?_, ?_, ?_, ?_, ?_, ?_, ?_, ?_, ?_, ?_, ?_, ?_, ?_, ?_, ?_, ?_, ?_, ?_, ?_, ?_, ?_, ?_, ?_, ?_, ?_, ?_, ?_, ?_, ?_, ?_, ?_, ?_, ?_, ?_, ?_, trivial⟩ ?_
     ·exact DX.load rfl rfl rfl rfl rfl rfl
     ·exact DX.load rfl rfl rfl rfl rfl rfl
     ·exact DX.call (r := .vl (.int .i64 (cmpq (ofq x y) (ofq z u)))) rfl rfl rfl rfl rfl rfl (KV.st _) rfl (k_rcmp ((bq.of X Y)) ((bq.of Z U)) (by omega) (by omega))
     ·exact DX.load rfl rfl rfl rfl rfl rfl
     ·exact DX.load rfl rfl rfl rfl rfl rfl
     ·exact DX.call (r := .vl (.int .i64 (cmpq (ofq z u) (ofq x y)))) rfl rfl rfl rfl rfl rfl (KV.st _) rfl (k_rcmp ((bq.of Z U)) ((bq.of X Y)) (by omega) (by omega))
     ·exact DX.q1 (x := .tmp 150) (.int .i64 (-(cmpq (ofq z u) (ofq x y)))) rfl rfl rfl rfl (fun ρ W h1 => by exact r_negq h1 (by have := cmpq_range (ofq z u) (ofq x y); omega))
     ·exact DX.q2 (x := .tmp 147) (y := .tmp 151) (.bool false) rfl rfl rfl rfl rfl (fun ρ W h1 h2 => by exact r_neF h1 h2 (cmpq_flip _ _))
     ·exact DX.move rfl rfl rfl rfl rfl rfl
     ·exact DX.load rfl rfl rfl rfl rfl rfl
     ·exact DX.load rfl rfl rfl rfl rfl rfl
     ·exact DX.call (r := .kw (KQ ((ofq x y) + (ofq v p)).num ((((ofq x y) + (ofq v p)).den : Int) - 1))) rfl rfl rfl rfl rfl rfl (KQ.st _ _) rfl (k_radd ((bq.of X Y)) ((bq.of V P)) (by omega) (by omega))
     ·exact DX.load rfl rfl rfl rfl rfl rfl
     ·exact DX.load rfl rfl rfl rfl rfl rfl
     ·exact DX.call (r := .kw (KQ ((ofq z u) + (ofq v p)).num ((((ofq z u) + (ofq v p)).den : Int) - 1))) rfl rfl rfl rfl rfl rfl (KQ.st _ _) rfl (k_radd ((bq.of Z U)) ((bq.of V P)) (by omega) (by omega))
     ·exact DX.call (r := .vl (.int .i64 (cmpq ((ofq x y) + (ofq v p)) ((ofq z u) + (ofq v p))))) rfl rfl rfl rfl rfl rfl (KV.st _) rfl (k_rcmp (((bq.of X Y)).add ((bq.of V P))) (((bq.of Z U)).add ((bq.of V P))) (by omega) (by omega))
     ·exact DX.load rfl rfl rfl rfl rfl rfl
     ·exact DX.load rfl rfl rfl rfl rfl rfl
     ·exact DX.call (r := .vl (.int .i64 (cmpq (ofq x y) (ofq z u)))) rfl rfl rfl rfl rfl rfl (KV.st _) rfl (k_rcmp ((bq.of X Y)) ((bq.of Z U)) (by omega) (by omega))
     ·exact DX.q2 (x := .tmp 160) (y := .tmp 163) (.bool false) rfl rfl rfl rfl rfl (fun ρ W h1 h2 => by exact r_neF h1 h2 (cmpq_addr _ _ _))
     ·exact DX.pick (t := false) rfl rfl rfl rfl rfl rfl rfl
     ·exact DX.move rfl rfl rfl rfl rfl rfl
     ·exact DX.load rfl rfl rfl rfl rfl rfl
     ·exact DX.call (r := .vl (.int .i64 (sgq (ofq v p)))) rfl rfl rfl rfl rfl rfl (KV.st _) rfl (k_rsign)
     ·exact DX.q2 (x := .tmp 168) (y := .const (.int .i64 0)) (.bool false) rfl rfl rfl rfl rfl (fun ρ W h1 h2 => by exact r_gt h1 h2 (decide_eq_false (fun h => hz (sgq_pos.1 h))))
     ·exact DX.move rfl rfl rfl rfl rfl rfl
     ·exact DX.skip rfl rfl rfl
     ·exact DX.skip rfl rfl rfl
     ·exact DX.skip rfl rfl rfl
     ·exact DX.skip rfl rfl rfl
     ·exact DX.skip rfl rfl rfl
     ·exact DX.skip rfl rfl rfl
     ·exact DX.skip rfl rfl rfl
     ·exact DX.skip rfl rfl rfl
     ·exact DX.skip rfl rfl rfl
     ·exact DX.skip rfl rfl rfl
     ·exact DX.skip rfl rfl rfl
     ·exact DX.pick (t := false) rfl rfl rfl rfl rfl rfl rfl
     ·exact DX.pick (t := false) rfl rfl rfl rfl rfl rfl rfl
     refine SX.then (SC.cond (t := false) rfl (SC.skip ?_))
     exact SX.mid () trivial ⟨rfl, rfl, rfl, rfl, rfl, rfl, rfl, rfl, trivial⟩
   ·rintro _ _
    show SC _ _ _ _ [(3, .vl (.int .u8 r)), (4, .bx (BQ 88) (KV (.agg #[.bool n1, .slice A1 l1 c1, .bool n2, .slice A2 l2 c2]))), (5, .bx (BQ 88) (KV (.agg #[.bool n3, .slice A3 l3 c3, .bool n4, .slice A4 l4 c4]))), (6, .bx (BQ 88) (KV (.agg #[.bool n5, .slice A5 l5 c5, .bool n6, .slice A6 l6 c6]))), (8, .vl (.bool false)), (10, .bx (BQ 93) (KQ (ofq x y).num (((ofq x y).den : Int) - 1))), (11, .bx (BQ 93) (KQ (ofq z u).num (((ofq z u).den : Int) - 1))), (12, .bx (BQ 93) (KQ (ofq v p).num (((ofq v p).den : Int) - 1)))] _
    refine SC.seq (SC.region (PW.move rfl rfl rfl rfl rfl ?_))
    refine PW.q1 (x := .tmp 184) (.int .i64 (r)) rfl rfl rfl rfl (fun ρ W h1 => by exact r_u8 h1 hrr) ?_
    refine PW.q2 (x := .tmp 185) (y := .const (.int .i64 35)) (.int .i64 (r % 35)) rfl rfl rfl rfl rfl (fun ρ W h1 h2 => by exact r_rem h1 h2 (rfl) (by omega) (by decide)) ?_
    refine PW.q2 (x := .const (.int .i64 2)) (y := .tmp 186) (.int .i64 (k)) rfl rfl rfl rfl rfl (fun ρ W h1 h2 => by exact r_add h1 h2 (hkr) (by omega)) ?_
    refine PW.assign rfl rfl rfl rfl rfl (PW.nil (SX.then (SC.seq (SC.region ?_))))
    refine PW.load rfl rfl rfl rfl rfl rfl (PW.move rfl rfl rfl rfl rfl ?_)
    refine PW.call (r := .kw (K2 (KV (.string (txq k (ofq x y)))) (KV (.int .i64 0)))) rfl rfl rfl rfl rfl rfl (K2.st (KV.st _) (KV.st _)) rfl (k_qtext ((bq.of X Y)) (by decide) hk) ?_
    refine PW.move rfl rfl rfl rfl rfl ?_
    refine PW.ext (r := .vl (.string (txq k (ofq x y)))) rfl rfl rfl rfl rfl ex20v (KV.st _) rfl ?_
    refine PW.ext (r := .vl (.int .i64 0)) rfl rfl rfl rfl rfl ex21v (KV.st _) rfl ?_
    refine PW.assign rfl rfl rfl rfl rfl (PW.assign rfl rfl rfl rfl rfl (PW.nil (SX.then (SC.seq (SC.region ?_)))))
    refine PW.load rfl rfl rfl rfl rfl rfl (PW.move rfl rfl rfl rfl rfl ?_)
    refine PW.call (r := .kw (K2 (KV (.string (txq k (ofq z u)))) (KV (.int .i64 0)))) rfl rfl rfl rfl rfl rfl (K2.st (KV.st _) (KV.st _)) rfl (k_qtext ((bq.of Z U)) (by decide) hk) ?_
    refine PW.move rfl rfl rfl rfl rfl ?_
    refine PW.ext (r := .vl (.string (txq k (ofq z u)))) rfl rfl rfl rfl rfl ex20v (KV.st _) rfl ?_
    refine PW.ext (r := .vl (.int .i64 0)) rfl rfl rfl rfl rfl ex21v (KV.st _) rfl ?_
    refine PW.assign rfl rfl rfl rfl rfl (PW.assign rfl rfl rfl rfl rfl (PW.nil (SX.then (SC.seq (SC.region (PW.move rfl rfl rfl rfl rfl (PW.move rfl rfl rfl rfl rfl ?_)))))))
    refine PW.call (r := .kw (K2 (KQ (ofq x y).num (((ofq x y).den : Int) - 1)) (KV (.int .i64 0)))) rfl rfl rfl rfl rfl rfl (K2.st (KQ.st _ _) (KV.st _)) rfl (callK k_qparse (by rw [parseQ_txq hk (bq.of X Y) (by decide)]; rfl)) ?_
    refine PW.move rfl rfl rfl rfl rfl ?_
    refine PW.ext (r := .kw (KQ (ofq x y).num (((ofq x y).den : Int) - 1))) rfl rfl rfl rfl rfl ex20 (KQ.st _ _) rfl ?_
    refine PW.ext (r := .vl (.int .i64 0)) rfl rfl rfl rfl rfl ex21v (KV.st _) rfl ?_
    refine PW.alloc (BQ 93) rfl rfl rfl rfl rfl bQ ?_
    refine PW.store (x := .tmp 204) (r := .kw (KQ (ofq x y).num (((ofq x y).den : Int) - 1))) rfl rfl rfl rfl rfl rfl sh_Q ?_
    refine PW.assign rfl rfl rfl rfl rfl (PW.nil (SX.then (SC.seq ?_)))
    by_cases he : ofq x y = ofq z u
    ·refine SC.region ?_
     refine PW.move rfl rfl rfl rfl rfl (PW.move rfl rfl rfl rfl rfl (PW.move rfl rfl rfl rfl rfl ?_))
     refine PW.qn [(.tmp 206, .int .i64 0), (.tmp 207, .int .i64 0), (.tmp 208, .int .i64 0)] (.int .i64 (0)) rfl rfl rfl ⟨rfl, rfl, rfl, trivial⟩ (fun ρ W h => by obtain ⟨h1, h2, h3, _⟩ := h; go_simp) ?_
     refine PW.q2 (x := .tmp 209) (y := .const (.int .i64 0)) (.bool true) rfl rfl rfl rfl rfl (fun ρ W h1 h2 => by go_simp) ?_
     refine PW.move rfl rfl rfl rfl rfl (PW.move rfl rfl rfl rfl rfl (PW.move rfl rfl rfl rfl rfl ?_))
     refine PW.q2 (x := .tmp 212) (y := .tmp 213) (.bool true) rfl rfl rfl rfl rfl (fun ρ W h1 h2 => by exact r_seq h1 h2 ((str_eq _ _).trans (decide_eq_true (by rw [he])))) ?_
     refine PW.load rfl rfl rfl rfl rfl rfl ?_
     refine PW.load rfl rfl rfl rfl rfl rfl ?_
     refine PW.call (r := .vl (.bool true)) rfl rfl rfl rfl rfl rfl (KV.st _) rfl (k_sameT ((bq.of X Y)) ((bq.of Z U)) (by omega) (by omega) he) ?_
     refine PW.q2 (x := .tmp 214) (y := .tmp 217) (.bool true) rfl rfl rfl rfl rfl (fun ρ W h1 h2 => by go_simp) ?_
     refine PW.pick (t := true) rfl rfl rfl rfl rfl rfl ?_
     refine PW.move rfl rfl rfl rfl rfl ?_
     refine PW.load rfl rfl rfl rfl rfl rfl ?_
     refine PW.load rfl rfl rfl rfl rfl rfl ?_
     refine PW.call (r := .vl (.bool true)) rfl rfl rfl rfl rfl rfl (KV.st _) rfl (k_sameT ((bq.of X Y)) ((bq.of X Y)) (by omega) (by omega) rfl) ?_
     refine PW.pick (t := true) rfl rfl rfl rfl rfl rfl ?_
     refine PW.move rfl rfl rfl rfl rfl ?_
     refine PW.call (r := .vl (.bool true)) rfl rfl rfl rfl rfl rfl (KV.st _) rfl (k_awake3) ?_
     refine PW.pick (t := true) rfl rfl rfl rfl rfl rfl ?_
     refine PW.assign rfl rfl rfl rfl rfl (PW.nil (SX.then (SC.ret ?_)))
     exact SX.done (r := .vl (.bool true)) rfl rfl rfl
    ·refine SC.region ?_
     refine PW.move rfl rfl rfl rfl rfl (PW.move rfl rfl rfl rfl rfl (PW.move rfl rfl rfl rfl rfl ?_))
     refine PW.qn [(.tmp 206, .int .i64 0), (.tmp 207, .int .i64 0), (.tmp 208, .int .i64 0)] (.int .i64 (0)) rfl rfl rfl ⟨rfl, rfl, rfl, trivial⟩ (fun ρ W h => by obtain ⟨h1, h2, h3, _⟩ := h; go_simp) ?_
     refine PW.q2 (x := .tmp 209) (y := .const (.int .i64 0)) (.bool true) rfl rfl rfl rfl rfl (fun ρ W h1 h2 => by go_simp) ?_
     refine PW.move rfl rfl rfl rfl rfl (PW.move rfl rfl rfl rfl rfl (PW.move rfl rfl rfl rfl rfl ?_))
     refine PW.q2 (x := .tmp 212) (y := .tmp 213) (.bool false) rfl rfl rfl rfl rfl (fun ρ W h1 h2 => by exact r_seq h1 h2 ((str_eq _ _).trans (decide_eq_false (fun h => he ((txq_inj hk (bq.of X Y) (bq.of Z U) (by decide) (by decide)).1 h))))) ?_
     refine PW.load rfl rfl rfl rfl rfl rfl ?_
     refine PW.load rfl rfl rfl rfl rfl rfl ?_
     refine PW.call (r := .vl (.bool false)) rfl rfl rfl rfl rfl rfl (KV.st _) rfl (k_sameF ((bq.of X Y)) ((bq.of Z U)) (by omega) (by omega) he) ?_
     refine PW.q2 (x := .tmp 214) (y := .tmp 217) (.bool true) rfl rfl rfl rfl rfl (fun ρ W h1 h2 => by go_simp) ?_
     refine PW.pick (t := true) rfl rfl rfl rfl rfl rfl ?_
     refine PW.move rfl rfl rfl rfl rfl ?_
     refine PW.load rfl rfl rfl rfl rfl rfl ?_
     refine PW.load rfl rfl rfl rfl rfl rfl ?_
     refine PW.call (r := .vl (.bool true)) rfl rfl rfl rfl rfl rfl (KV.st _) rfl (k_sameT ((bq.of X Y)) ((bq.of X Y)) (by omega) (by omega) rfl) ?_
     refine PW.pick (t := true) rfl rfl rfl rfl rfl rfl ?_
     refine PW.move rfl rfl rfl rfl rfl ?_
     refine PW.call (r := .vl (.bool true)) rfl rfl rfl rfl rfl rfl (KV.st _) rfl (k_awake3) ?_
     refine PW.pick (t := true) rfl rfl rfl rfl rfl rfl ?_
     refine PW.assign rfl rfl rfl rfl rfl (PW.nil (SX.then (SC.ret ?_)))
     exact SX.done (r := .vl (.bool true)) rfl rfl rfl
 ·have hq : shQ 3 [((n1, A1, l1, c1), (n2, A2, l2, c2)), ((n3, A3, l3, c3), (n4, A4, l4, c4)), ((n5, A5, l5, c5), (n6, A6, l6, c6))] = false := by simpa using hq
  refine SC.region ?_
  refine PW.loadV rfl rfl rfl rfl rfl rfl ?_
  refine PW.loadV rfl rfl rfl rfl rfl rfl ?_
  refine PW.loadV rfl rfl rfl rfl rfl rfl ?_
  refine PW.short3 3 [((n1, A1, l1, c1), (n2, A2, l2, c2)), ((n3, A3, l3, c3), (n4, A4, l4, c4)), ((n5, A5, l5, c5), (n6, A6, l6, c6))] _ rfl rfl rfl (fun a W hf => r_bQ3 (hf.vl (s := 22) rfl) (hf.vl (s := 23) rfl) (hf.vl (s := 24) rfl)) (fun W => qs_lit3 W) (by simp; exact ⟨⟨In.lim h1, In.lim h2⟩, ⟨In.lim h3, In.lim h4⟩, ⟨In.lim h5, In.lim h6⟩⟩) rfl rfl hq rfl rfl rfl rfl rfl rfl ?_
  refine PW.q1 (x := .tmp 26) (.bool true) rfl rfl rfl rfl (fun ρ W h1 => by go_simp) ?_
  refine PW.nil (SX.then (SC.cond (t := true) rfl (SC.seq (SC.region ?_))))
  refine PW.call (r := .vl (.bool true)) rfl rfl rfl rfl rfl rfl (KV.st _) rfl (k_awake3) ?_
  refine PW.assign rfl rfl rfl rfl rfl (PW.nil (SX.then (SC.ret (SX.thenR ?_))))
  exact SX.done (r := .vl (.bool true)) rfl rfl rfl
end Go.Proofs.Ythpjmhhfcechmaa
/- How plain data that came in read. -/
namespace Go.Proofs.Ythpjmhhfcechmaa
open Go.RowKit Ma
theorem In.nil (W : World) : In W none 0 0 [] := ⟨rfl, Nat.le_refl _, Rd.nil _ _ _, dg_nil _⟩
theorem In.of {W : World} {x : Addr} {l c : Nat} {zs : List Int} (hl : l ≤ c) (hm : c ≤ maxLen) (hz : zs.length = c) (hcell : ∀ i, i < zs.length → W.cell? (x.add i) = some (.int .u32 (zs.getD i 0))) (hw : ∀ n ∈ zs, (Lit.int .u32 n).wf = true) : In W (some x) l c (zs.take l) := by
 have h1 : (zs.take l).length = l := by rw [List.length_take]; omega
 refine ⟨h1.symm, hl, ⟨by rw [h1]; unfold maxLen at hm; omega, fun i hi => ⟨x, rfl, ?_⟩⟩, fun n hn => ?_⟩
 ·rw [h1] at hi
  rw [hcell i (by omega)]
  simp only [at0, List.getD_eq_getElem?_getD, List.getElem?_take, hi, if_true]
 ·have h2 := hw n (List.mem_of_mem_take hn)
  simp only [Lit.wf, Bool.and_eq_true, decide_eq_true_eq] at h2
  have hm : IntKind.u32.max = 4294967295 := by simp [IntKind.max, IntKind.bits, IntKind.signed]
  have hn : IntKind.u32.min = 0 := by simp [IntKind.min, IntKind.signed]
  rw [hm, hn] at h2
  rw [b32_eq]
  omega
end Go.Proofs.Ythpjmhhfcechmaa
/- A fraction as plain data that came in, opened: two signs, two slices. -/
namespace Go.Proofs.Ythpjmhhfcechmaa
open Go.ChangeShapes Go.WideShapes Go.ChangeAt Go.RowKit Go.Joins
set_option maxHeartbeats 1600000 in
set_option maxRecDepth 100000 in
theorem open_Q {H : Type} {enc : TypeId × Value → H} {w : World} {base : Nat} {spare : Nat → Bool} {held : Bool} {r : Reach} {b0 : Nat} {v : Value} {d : DataW H} {p : List MemPlace} (hv : Value.okWide Try.prog w r b0 88 v) (h : DataW.Trod enc Try.prog w base spare held 88 v d p) :
  ∃ (q0 q1 q2 q3 : Value) (y0 y1 y2 y3 : DataW H × List MemPlace) (n m : Nat), v = .agg #[q0, q1, q2, q3] ∧ DataW.trod enc Try.prog w base spare held n 4 [q0] = some y0 ∧ DataW.trod enc Try.prog w base spare held n 22 [q1] = some y1 ∧ DataW.trod enc Try.prog w base spare held m 4 [q2] = some y2 ∧ DataW.trod enc Try.prog w base spare held m 22 [q3] = some y3 := by
 obtain ⟨cs, rfl, hsz⟩ := okWide_struct Try.underlying88 hv
 have k4 : Try.prog.cellsOf 88 = 4 := by kernel_rfl
 have k2 : Try.prog.cellsOf 24 = 2 := by kernel_rfl
 have kb : Try.prog.cellsOf 4 = 1 := by kernel_rfl
 have ks : Try.prog.cellsOf 22 = 1 := by kernel_rfl
 obtain ⟨q0, q1, q2, q3, rfl⟩ := array4 (hsz.trans k4)
 obtain ⟨fuel, hf⟩ := h
 obtain ⟨y0, y1, n, hx, _, h0, h1⟩ := trod_struct2 Try.underlying88 hf
 have g0 : DataW.trod enc Try.prog w base spare held n 24 [q0, q1] = some y0 := by simpa [Value.cells, k2] using h0
 have g1 : DataW.trod enc Try.prog w base spare held n 24 [q2, q3] = some y1 := by simpa [Value.cells, k2] using h1
 obtain ⟨a0, a1, i, _, _, e0, e1⟩ := trod_struct2 Try.underlying24 g0
 obtain ⟨b0, b1, j, _, _, f0, f1⟩ := trod_struct2 Try.underlying24 g1
 exact ⟨q0, q1, q2, q3, a0, a1, b0, b1, i, j, rfl, by simpa [kb] using e0, by simpa [ks] using e1, by simpa [kb] using f0, by simpa [ks] using f1⟩
end Go.Proofs.Ythpjmhhfcechmaa
