/- Parts Ry, Szq, Rof, Lpw, Rs, Rs2, Rz, Lc, Ltx, Rz2, Lrd, Lcf, Rex0, Rex1, Rex, Rsi, Rsm, Szr, Rk0, Sj, Ru, Rsx, Rsl, Szj, in one file. -/
import Derived.RangeFuncNested
import Derived.RangeFuncRecord
import Derived.RangeFuncLeaves
import Derived.OwnWalkIn
import Derived.TacticsInMore
import Derived.WalkKit
import Derived.RangeFuncBound
import Derived.Test.YthpjmhhfcechmaaGreatLRExpansions10
import Derived.Test.YthpjmhhfcechmaaGreatLRExpansions2
import Derived.Test.YthpjmhhfcechmaaGreatLRExpansions5
import Derived.Test.YthpjmhhfcechmaaGreatLRExpansions8
import Derived.Test.YthpjmhhfcechmaaGreatLRExpansions9
/- Words for the laws of chapter 03: their Short, what came in. -/
set_option linter.unusedVariables false
set_option linter.unusedSimpArgs false
namespace Go.Proofs.YthpjmhhfcechmaaGreat.Sy
open Go Go.RowKit Ma
theorem in_be {w W : World} {A : Option Addr} {l c : Nat} {xs : List Int} (h : In w A l c xs) (k : Below w.heap.size w W) : In W A l c xs := ⟨h.1, h.2.1, h.2.2.1.kept (IntK.of_below k), h.2.2.2⟩
theorem sh_VQ {T : TypeId} {x1 x2 : Bool} {A1 A2 : Option Addr} {l1 c1 l2 c2 : Nat} (v : Value) (W : World) (h : KV (.agg #[.bool x1, .slice A1 l1 c1, .bool x2, .slice A2 l2 c2]) v W) : ∃ cs, (BQ T).sh v cs := by
 obtain rfl : v = _ := h
 exact ⟨_, _, _, _, _, _, _, _, _, rfl, rfl⟩
section
variable {B N : Nat} {w0 : World} {ops : Array Oper} {o : Oper} {rest : List Oper} {fr : List (Nat × AV)} {Q : Exit → Act → World → Prop} {d : Nat}
theorem PW.short3 {o2 : Oper} {d2 : Nat} {c : Call} (most : Nat) (ns : List Qq) {t : Bool} (ob : Obj) (hw : wantB ops fr o = some true) (hd : o.dst = some d) (hN : Nat.blt d N = true)
  (hq : ∀ a W, Fr B N w0 fr a W → (execOp a.eval o).run Tryz.prog W = .ok (.value (.slice (some ⟨W.heap.size, 0, none⟩) ns.length ns.length)) (W.alloc ob)) (hns : ∀ W : World, Qs (W.alloc ob) W.heap.size ns) (hL : ∀ x ∈ ns, x.1.2.2.1 ≤ 9223372036854775807 ∧ x.2.2.2.1 ≤ 9223372036854775807) (hm : Nat.ble most 1000 = true) (hl : Nat.ble ns.length 1000 = true) (ht : shQ most ns = t)
  (hw2 : wantB ops ((d, .kw KT) :: fr) o2 = some true) (hd2 : o2.dst = some d2) (hN2 : Nat.blt d2 N = true) (ho : o2.op = .call c) (hc : c.callee = .value (.func 12)) (ha : c.args = #[.const (.int .i64 (most : Int)), .tmp d])
  (hk : PW B N w0 ops rest ((d2, .vl (.bool t)) :: (d, .kw KT) :: fr) Q) : PW B N w0 ops (o :: o2 :: rest) fr Q :=
 PW.step hw fun a W hf K' hK' => by
  unfold Oper.wp
  rw [hq a W hf, Oper.upon_value, hd]
  have hf1 := (hf.nw ((Nw.refl W).alloc ob)).set (v := .vl (.slice (some ⟨W.heap.size, 0, none⟩) ns.length ns.length)) hN (u := .slice (some ⟨W.heap.size, 0, none⟩) ns.length ns.length) rfl rfl
  have hf2 := (hf.nw ((Nw.refl W).alloc ob)).set (v := .kw KT) hN (u := .slice (some ⟨W.heap.size, 0, none⟩) ns.length ns.length) ⟨trivial, KT.st⟩ rfl
  refine hK' _ _ (wpList_step fun K2 hK2 => ?_)
  rw [if_pos (wantB_spec hf2 hw2)]
  have s1 : (a.put (some d) (.slice (some ⟨W.heap.size, 0, none⟩) ns.length ns.length)).eval (.tmp d) = .slice (some ⟨W.heap.size, 0, none⟩) ns.length ns.length := hf1.vl (s := d) (by rw [look_cons, if_pos rfl])
  obtain ⟨dst, op, ty, pos, after, guard⟩ := o2
  simp only at ho hd2
  subst ho
  subst hd2
  unfold Oper.wp
  have ce : CE 12 := fun args W => by go_simp
  rw [run_call ce hc _ rfl ty _]
  simp only [Oper.upon]
  have e0 : c.args.map (a.put (some d) (.slice (some ⟨W.heap.size, 0, none⟩) ns.length ns.length)).eval = #[.int .i64 (most : Int), .slice (some ⟨W.heap.size, 0, none⟩) ns.length ns.length] := by
   rw [ha, List.map_toArray]; exact congrArg (fun z => #[Value.int .i64 (most : Int), z]) s1
  rw [e0]
  refine (short3_c (b := W.heap.size) (c := ns.length) (hns W) (Nat.le_of_ble_eq_true hm) (Nat.le_of_ble_eq_true hl) hL).mono fun e W' ⟨v, he, hv, hn⟩ => ?_
  subst he
  obtain rfl : v = _ := hv
  exact hK2 _ _ (hk _ _ ((hf2.nw hn).set hN2 (v := .vl (.bool t)) (by show Value.bool _ = _; rw [ht]) rfl))
end
section
variable {x y z : Operand} {dst : Option Tmp} {ty : TypeId} {pos : String} {after : Array Edge} {guard : Option (Nat × Bool)} {ρ : Operand → Value} {W : World}
variable {n1 n2 n3 n4 : Bool} {A1 A2 A3 A4 : Option Addr} {l1 l2 l3 l4 c1 c2 c3 c4 : Nat}
end
section
variable {n1 n2 n3 n4 : Bool} {A1 A2 A3 A4 : Option Addr} {l1 l2 l3 l4 c1 c2 c3 c4 : Nat}
end
end Go.Proofs.YthpjmhhfcechmaaGreat.Sy
/- A walk by rules: rows of the program's fractions. -/
namespace Go.Proofs.YthpjmhhfcechmaaGreat.Sy
open Go Go.RowKit Ma
section
variable {B N : Nat} {w0 : World} {ops : Array Oper} {o : Oper} {rest : List Oper} {fr : List (Nat × AV)} {Q : Exit → Act → World → Prop} {d : Nat}
def KS (b : Nat) (e : TypeId) (s n : Nat) (R : List Value → World → Prop) : Know := fun v W => OwS W b e s v n R
theorem SX.doneS {fn : Func} {e : Exit} {s K1 : Nat} {v1 : Value} {et : TypeId} {sz n : Nat} {R : List Value → World → Prop} (he : e = .ret ∨ e = .normal) (hr : fn.results = #[.tmp s]) (hs : look fr s = some (.vl v1)) (h1 : look fr K1 = some (.rs v1 et sz n R)) (hB : B = w0.heap.size) :
  SX B N w0 e fr (bodyPost Tryz.prog fn (Ret w0 (KS w0.heap.size et sz n R))) := fun a W hf => by
 have a1 : a.tmps.getD s undef = _ := hf.ho s _ hs
 have o1 : OwS W B et sz v1 n R := hf.ho K1 _ h1
 have hrun : (results fn a.tmps).run Tryz.prog W = .ok (a.tmps.getD s undef) W := by
  unfold results
  simp [hr, go_sem]
 rw [a1] at hrun
 have key : a.defers = [] ∧ ∃ v, (results fn a.tmps).run Tryz.prog W = .ok v W ∧ Ret w0 (KS w0.heap.size et sz n R) (.returned v) W :=
  ⟨hf.df, _, hrun, ⟨_, rfl, hB ▸ o1, by have := hf.be; rw [hB] at this; exact this⟩⟩
 rcases he with rfl | rfl <;> exact key
end
section
variable {x y : Operand} {dst : Option Tmp} {ty : TypeId} {pos : String} {after : Array Edge} {guard : Option (Nat × Bool)} {ρ : Operand → Value} {W : World} {m n : Bool} {A D : Option Addr} {l c k d j : Nat}
end
section
variable {B N : Nat} {w0 : World} {ops : Array Oper} {rest : List Oper} {fr : List (Nat × AV)} {Q : Exit → Act → World → Prop} {d : Nat} {ty : TypeId} {pos : String} {after : Array Edge}
end
end Go.Proofs.YthpjmhhfcechmaaGreat.Sy
/- The laws' of: a row of fractions, by rules. -/
namespace Go.Proofs.YthpjmhhfcechmaaGreat.Sy
open Go Go.RowKit Ma
end Go.Proofs.YthpjmhhfcechmaaGreat.Sy
/- Plain laws: powers and roots of fractions, rounded quotients. -/
namespace Go.Proofs.YthpjmhhfcechmaaGreat.Sy
open Go Go.RowKit Ma
structure Rts (x : Rat) (r s : Int) : Prop where
 r0 : 0 ≤ r
 r1 : r * r ≤ x.num
 r2 : x.num < (r + 1) * (r + 1)
 s0 : 0 ≤ s
 s1 : s * s ≤ (x.den : Int)
 s2 : (x.den : Int) < (s + 1) * (s + 1)
theorem Rts.pos {x : Rat} {r s : Int} (h : Rts x r s) : 0 < s := by
 have := h.s0
 have := h.s2
 have := den_pos x
 apply Classical.byContradiction
 intro h2
 obtain rfl : s = 0 := by omega
 omega
end Go.Proofs.YthpjmhhfcechmaaGreat.Sy
/- Power and Root of fractions, both sides, by rules. -/
namespace Go.Proofs.YthpjmhhfcechmaaGreat.Sy
open Go Go.RowKit Ma
section
variable {x y : Operand} {dst : Option Tmp} {ty : TypeId} {pos : String} {after : Array Edge} {guard : Option (Nat × Bool)} {ρ : Operand → Value} {W : World} {a b : Int}
end

end Go.Proofs.YthpjmhhfcechmaaGreat.Sy
/- Div, Power, Root of fractions, both sides: one contract each, whatever comes in. -/
namespace Go.Proofs.YthpjmhhfcechmaaGreat.Sy
open Go Go.RowKit Ma
end Go.Proofs.YthpjmhhfcechmaaGreat.Sy
/- Words for laws that use of and same. -/
namespace Go.Proofs.YthpjmhhfcechmaaGreat.Sy
open Go Go.RowKit Ma
theorem r_bQ3 {n1 n2 n3 n4 n5 n6 : Bool} {A1 A2 A3 A4 A5 A6 : Option Addr} {l1 l2 l3 l4 l5 l6 c1 c2 c3 c4 c5 c6 : Nat} {p q r : Operand} {dst : Option Tmp} {ty : TypeId} {pos : String} {after : Array Edge} {guard : Option (Nat × Bool)} {ρ : Operand → Value} {W : World} (h1 : ρ p = .agg #[.bool n1, .slice A1 l1 c1, .bool n2, .slice A2 l2 c2]) (h2 : ρ q = .agg #[.bool n3, .slice A3 l3 c3, .bool n4, .slice A4 l4 c4]) (h3 : ρ r = .agg #[.bool n5, .slice A5 l5 c5, .bool n6, .slice A6 l6 c6]) : (execOp ρ ⟨dst, .buildSlice 105 3 #[(0, p), (1, q), (2, r)], ty, pos, after, guard⟩).run Tryz.prog W = .ok (.value (.slice (some ⟨W.heap.size, 0, none⟩) 3 3)) (W.alloc (.cells #[.bool n1, .slice A1 l1 c1, .bool n2, .slice A2 l2 c2, .bool n3, .slice A3 l3 c3, .bool n4, .slice A4 l4 c4, .bool n5, .slice A5 l5 c5, .bool n6, .slice A6 l6 c6] 26)) := by
 go_simp
theorem qs_lit3 {n1 n2 n3 n4 n5 n6 : Bool} {A1 A2 A3 A4 A5 A6 : Option Addr} {l1 l2 l3 l4 l5 l6 c1 c2 c3 c4 c5 c6 : Nat} (W : World) : Qs (W.alloc (.cells #[.bool n1, .slice A1 l1 c1, .bool n2, .slice A2 l2 c2, .bool n3, .slice A3 l3 c3, .bool n4, .slice A4 l4 c4, .bool n5, .slice A5 l5 c5, .bool n6, .slice A6 l6 c6] 26)) W.heap.size [((n1, A1, l1, c1), (n2, A2, l2, c2)), ((n3, A3, l3, c3), (n4, A4, l4, c4)), ((n5, A5, l5, c5), (n6, A6, l6, c6))] := by
 intro i n A l c m D k d e
 match i, e with
 | 0, e => simp at e; obtain ⟨⟨rfl, rfl, rfl, rfl⟩, rfl, rfl, rfl, rfl⟩ := e; exact ⟨by go_simp, by go_simp, by go_simp, by go_simp⟩
 | 1, e => simp at e; obtain ⟨⟨rfl, rfl, rfl, rfl⟩, rfl, rfl, rfl, rfl⟩ := e; exact ⟨by go_simp, by go_simp, by go_simp, by go_simp⟩
 | 2, e => simp at e; obtain ⟨⟨rfl, rfl, rfl, rfl⟩, rfl, rfl, rfl, rfl⟩ := e; exact ⟨by go_simp, by go_simp, by go_simp, by go_simp⟩
 | i + 3, e => simp at e
section
variable {x y : Operand} {dst : Option Tmp} {ty : TypeId} {pos : String} {after : Array Edge} {guard : Option (Nat × Bool)} {ρ : Operand → Value} {W : World} {a : Int}
end

end Go.Proofs.YthpjmhhfcechmaaGreat.Sy
/- Plain laws: the fraction that a text means, cut at its last slash. -/
namespace Go.Proofs.YthpjmhhfcechmaaGreat.Sy
open Go Go.RowKit Ma
section
variable {r : Int} {s : ByteArray} {k : Nat} {n d e : Int}
end
end Go.Proofs.YthpjmhhfcechmaaGreat.Sy
/- Plain laws: a text that is read again is the number; of fractions too. -/
namespace Go.Proofs.YthpjmhhfcechmaaGreat.Sy
open Go Go.RowKit Ma
end Go.Proofs.YthpjmhhfcechmaaGreat.Sy
/- Words for the law of the field of fractions. -/
namespace Go.Proofs.YthpjmhhfcechmaaGreat.Sy
open Go Go.RowKit Ma
section
variable {x y : Operand} {dst : Option Tmp} {ty : TypeId} {pos : String} {after : Array Edge} {guard : Option (Nat × Bool)} {ρ : Operand → Value} {W : World} {a : Int}
end
section
variable {B N : Nat} {w0 : World} {ops : Array Oper} {fr : List (Nat × AV)} {d : Nat}
end
end Go.Proofs.YthpjmhhfcechmaaGreat.Sy
/- Plain laws: what the roundings of a quotient leave. -/
namespace Go.Proofs.YthpjmhhfcechmaaGreat.Sy
open Go Go.RowKit Ma
end Go.Proofs.YthpjmhhfcechmaaGreat.Sy
/- Plain laws: continued fractions end, and are short; the simplest fraction of a range. -/
namespace Go.Proofs.YthpjmhhfcechmaaGreat.Ma
open Go Sy
theorem inv_over {y : Rat} (n : Int) : ((1 : Int) : Rat) / (y - (n : Rat)) = Rat.divInt (y.den : Int) (y.num - n * (y.den : Int)) := by
 have hd := den_pos y
 have e1 : y = Rat.divInt y.num (y.den : Int) := (Rat.num_divInt_den y).symm
 have e2 : (n : Rat) = Rat.divInt n 1 := by have := Rat.num_divInt_den (n : Rat); rw [Rat.num_intCast, Rat.den_intCast] at this; exact this.symm
 conv => lhs; rw [e1, e2]
 rw [Rat.divInt_sub_divInt _ _ (Int.ne_of_gt hd) (by decide), Rat.div_def, Rat.inv_divInt]
 rw [Int.mul_one, Int.mul_one]
 exact Rat.one_mul _
theorem lt_num {y : Rat} {n : Int} : (n : Rat) < y ↔ n * (y.den : Int) < y.num := by rw [Rat.lt_iff, Rat.num_intCast, Rat.den_intCast]; simp
theorem le_num {y : Rat} {n : Int} : (n : Rat) ≤ y ↔ n * (y.den : Int) ≤ y.num := by rw [Rat.le_iff, Rat.num_intCast, Rat.den_intCast]; simp
theorem num_lt {y : Rat} {n : Int} : y < (n : Rat) ↔ y.num < n * (y.den : Int) := by rw [Rat.lt_iff, Rat.num_intCast, Rat.den_intCast]; simp
theorem inv_nd {y : Rat} {n : Int} (h0 : (n : Rat) < y) : (((1 : Int) : Rat) / (y - (n : Rat))).num = (y.den : Int) ∧ ((((1 : Int) : Rat) / (y - (n : Rat))).den : Int) = y.num - n * (y.den : Int) := by
 have hd := den_pos y
 have hm : 0 < y.num - n * (y.den : Int) := by have := lt_num.1 h0; omega
 have hg : Int.gcd (y.den : Int) (y.num - n * (y.den : Int)) = 1 := by
  rw [Int.gcd_sub_mul_right_right, Int.gcd_comm]; exact y.reduced
 rw [inv_over]
 constructor
 ·rw [num_over (Int.ne_of_gt hm), hg, if_neg (by omega)]; simp
 ·rw [den_over (Int.ne_of_gt hm), hg, if_neg (by omega)]; simp
theorem fl_lt {x : Rat} (hd : x.den ≠ 1) : ((flq x : Int) : Rat) < x := Rat.lt_of_le_of_ne (fl_le x) (fun e => hd (fl_eq e.symm))
theorem fl_self {x : Rat} (hd : x.den = 1) : ((flq x : Int) : Rat) = x := by
 have e : flq x = x.num := by unfold flq; rw [hd]; simp
 rw [e]
 exact Rat.ext (by rw [Rat.num_intCast]) (by rw [Rat.den_intCast, hd])
theorem inv_inv {a : Rat} (h : 0 < a) : ((1 : Int) : Rat) / (((1 : Int) : Rat) / a) = a := by
 have e1 : ∀ b : Rat, ((1 : Int) : Rat) / b = b⁻¹ := fun b => by rw [Rat.div_def]; exact Rat.one_mul _
 rw [e1, e1, Rat.inv_inv]
theorem inv_pos {a : Rat} (h : 0 < a) : 0 < ((1 : Int) : Rat) / a := by
 have e1 : ((1 : Int) : Rat) / a = a⁻¹ := by rw [Rat.div_def]; exact Rat.one_mul _
 rw [e1]
 exact Rat.inv_pos.2 h
theorem fl_nn {x : Rat} (h : 0 < x) : 0 ≤ flq x := Int.ediv_nonneg (Int.le_of_lt ((num_pos_iff x).2 h)) (Int.le_of_lt (den_pos x))
theorem ge1_num {x : Rat} : ((1 : Int) : Rat) ≤ x ↔ (x.den : Int) ≤ x.num := by rw [le_num, Int.one_mul]
theorem fl_ge1 {x : Rat} (h : ((1 : Int) : Rat) ≤ x) : 1 ≤ flq x := by
 have := ge1_num.1 h
 have hd := den_pos x
 unfold flq
 rw [Int.le_ediv_iff_mul_le hd]
 omega
theorem sub_mono {a b c : Rat} (h : a ≤ b) : a - c ≤ b - c := by grind
theorem bd_succ {m : Nat} {z : Int} (h : bd m z) : bd (m + 1) (z + 1) := by
 unfold bd at *
 rw [Int.pow_succ]
 have e : b32 = 4294967296 := rfl
 generalize b32 ^ m = p at *
 rw [e]
 omega
structure SmR (m : Nat) (x y : Rat) (L : List Int) (z : Rat) (n : Nat) : Prop where
 s : Smp x y L
 len : L.length ≤ n
 b : ∀ u ∈ L, bd (m + 1) u
 c : ctrR L = .ok z
 lo : x ≤ z
 hi : z ≤ y
 mi : ∀ q : Rat, x ≤ q → q ≤ y → z.num ≤ q.num ∧ z.den ≤ q.den
theorem SmR.whole {m : Nat} {x y : Rat} {n : Nat} (X : bq m x) (h0 : 0 < x) (hxy : x ≤ y) (hd : x.den = 1) (hn : 1 ≤ n) : SmR m x y [flq x] ((flq x : Int) : Rat) n := by
 have e := fl_self hd
 refine ⟨.whole hd, hn, fun u hu => ?_, rfl, by rw [e]; exact Rat.le_refl, by rw [e]; exact hxy, fun q h1 h2 => ?_⟩
 ·obtain rfl : u = _ := by simpa using hu
  exact (bq.fl X).mono (by omega)
 ·have a0 := fl_nn h0
  have hq := den_pos q
  rw [← e] at h1
  have h3 := le_num.1 h1
  rw [Rat.num_intCast, Rat.den_intCast]
  have := Int.mul_le_mul_of_nonneg_left (show (1 : Int) ≤ (q.den : Int) by omega) a0
  omega
theorem SmR.next {m : Nat} {x y : Rat} {n : Nat} (X : bq m x) (h0 : 0 < x) (hd : x.den ≠ 1) (hn : ((flq x + 1 : Int) : Rat) ≤ y) (h1 : 1 ≤ n) : SmR m x y [flq x + 1] ((flq x + 1 : Int) : Rat) n := by
 refine ⟨.next hd hn, h1, fun u hu => ?_, rfl, Rat.le_of_lt (lt_fl x), hn, fun q h1 h2 => ?_⟩
 ·obtain rfl : u = _ := by simpa using hu
  exact bd_succ (bq.fl X)
 ·have a0 := fl_nn h0
  have hq := den_pos q
  have h3 := lt_num.1 (ltle (fl_lt hd) h1)
  rw [Rat.num_intCast, Rat.den_intCast]
  have := Int.mul_le_mul_of_nonneg_left (show (1 : Int) ≤ (q.den : Int) by omega) a0
  omega
theorem SmR.up {m : Nat} {x y : Rat} {L : List Int} {z : Rat} {n : Nat} (X : bq m x) (h0 : 0 < x) (hxy : x ≤ y) (hd : x.den ≠ 1) (hn : ¬ ((flq x + 1 : Int) : Rat) ≤ y)
  (h : SmR m (((1 : Int) : Rat) / (y - ((flq x : Int) : Rat))) (((1 : Int) : Rat) / (x - ((flq x : Int) : Rat))) L z n) : SmR m x y (flq x :: L) (((flq x : Int) : Rat) + ((1 : Int) : Rat) / z) (n + 1) := by
 have ha := fl_lt hd
 have a0 := fl_nn h0
 generalize ea : flq x = a at *
 have px : 0 < x - (a : Rat) := sub_pos' ha
 have py : 0 < y - (a : Rat) := sub_pos' (ltle ha hxy)
 have pz : 0 < z := ltle (inv_pos py) h.lo
 have l1 : x - (a : Rat) ≤ ((1 : Int) : Rat) / z := by have := one_div_le pz h.hi; rwa [inv_inv px] at this
 have l2 : ((1 : Int) : Rat) / z ≤ y - (a : Rat) := by have := one_div_le (inv_pos py) h.lo; rwa [inv_inv py] at this
 refine ⟨ea ▸ .step hd (by rw [ea]; exact hn) (by rw [ea]; exact h.s), by simp; exact h.len, fun u hu => ?_, ctr_step h.c (Rat.ne_of_gt pz), by grind, by grind, fun q h1 h2 => ?_⟩
 ·rcases List.mem_cons.1 hu with rfl | hu
  ·exact ea ▸ (bq.fl X).mono (by omega)
  ·exact h.b u hu
 ·have hq := ltle ha h1
  obtain ⟨i1, i2⟩ := h.mi (((1 : Int) : Rat) / (q - (a : Rat))) (one_div_le (sub_pos' hq) (sub_mono h2)) (one_div_le px (sub_mono h1))
  obtain ⟨q1, q2⟩ := inv_nd hq
  have hz : (a : Rat) < (a : Rat) + ((1 : Int) : Rat) / z := by have := inv_pos pz; grind
  obtain ⟨z1, z2⟩ := inv_nd hz
  have e : (a : Rat) + ((1 : Int) : Rat) / z - (a : Rat) = ((1 : Int) : Rat) / z := by grind
  rw [e, inv_inv pz] at z1 z2
  generalize (a : Rat) + ((1 : Int) : Rat) / z = zz at *
  generalize ((1 : Int) : Rat) / (q - (a : Rat)) = qq at *
  have i3 : (zz.den : Int) ≤ (q.den : Int) := by omega
  have := Int.mul_le_mul_of_nonneg_left i3 a0
  constructor <;> omega
theorem step_ge1 {x y : Rat} (hxy : x ≤ y) (hd : x.den ≠ 1) (hn : ¬ ((flq x + 1 : Int) : Rat) ≤ y) : ((1 : Int) : Rat) ≤ ((1 : Int) : Rat) / (y - ((flq x : Int) : Rat)) := by
 have ha := ltle (fl_lt hd) hxy
 obtain ⟨e1, e2⟩ := inv_nd ha
 have h2 := num_lt.1 (Rat.not_le.1 hn)
 rw [Int.add_mul] at h2
 rw [ge1_num, e1, e2]
 omega
theorem pow2_32 (m : Nat) : (2 : Int) ^ (32 * m) * 2 ^ (32 * m) = 2 ^ (64 * m) := by rw [← Int.pow_add]; congr 1; omega
theorem step_half {y : Rat} {a : Int} {k : Nat} (h0 : (a : Rat) < y) (h1 : y < ((a + 1 : Int) : Rat)) (ha : 1 ≤ a) (hk : y.num * (y.den : Int) < 2 ^ (k + 1)) :
  (((1 : Int) : Rat) / (y - (a : Rat))).num * ((((1 : Int) : Rat) / (y - (a : Rat))).den : Int) < 2 ^ k := by
 obtain ⟨e1, e2⟩ := inv_nd h0
 have hd := den_pos y
 rw [e1, e2]
 have h2 := num_lt.1 h1
 rw [Int.add_mul] at h2
 have h3 := Int.mul_le_mul_of_nonneg_right ha (Int.le_of_lt hd)
 have h4 : 2 * (y.num - a * (y.den : Int)) ≤ y.num := by omega
 have h5 := Int.mul_le_mul_of_nonneg_left h4 (Int.le_of_lt hd)
 rw [Int.pow_succ] at hk
 have h6 : (y.den : Int) * (2 * (y.num - a * (y.den : Int))) = 2 * ((y.den : Int) * (y.num - a * (y.den : Int))) := by rw [Int.mul_left_comm]
 rw [h6, Int.mul_comm (y.den : Int) y.num] at h5
 omega
theorem ge1_prod {x : Rat} (h : ((1 : Int) : Rat) ≤ x) : 1 ≤ x.num * (x.den : Int) := by
 have := ge1_num.1 h
 have hd := den_pos x
 have := Int.mul_le_mul (show (1 : Int) ≤ x.num by omega) (show (1 : Int) ≤ (x.den : Int) by omega) (by decide) (by omega)
 omega
theorem gt0_of_ge1 {x : Rat} (h : ((1 : Int) : Rat) ≤ x) : 0 < x := ltle (by decide +kernel) h
theorem smp_ge1 {m : Nat} : ∀ (k : Nat) (x y : Rat), ((1 : Int) : Rat) ≤ x → x ≤ y → bq m x → bq m y → x.num * (x.den : Int) < 2 ^ k → y.num * (y.den : Int) < 2 ^ k → ∃ L z, SmR m x y L z (k + 1) := by
 intro k
 induction k with
 | zero => intro x y h1 _ _ _ hk _; have := ge1_prod h1; simp at hk; omega
 | succ k ih =>
  intro x y h1 hxy X Y hk hk2
  by_cases hd : x.den = 1
  ·exact ⟨_, _, .whole X (gt0_of_ge1 h1) hxy hd (by omega)⟩
  ·by_cases hn : ((flq x + 1 : Int) : Rat) ≤ y
   ·exact ⟨_, _, .next X (gt0_of_ge1 h1) hd hn (by omega)⟩
   ·have ha := fl_lt hd
    have hy := Rat.not_le.1 hn
    obtain ⟨L, z, h⟩ := ih _ _ (step_ge1 hxy hd hn) (one_div_le (sub_pos' ha) (sub_mono hxy)) (Y.left (ltle ha hxy) hy) (X.left ha (lt_fl x)) (step_half (ltle ha hxy) hy (fl_ge1 h1) hk2) (step_half ha (lt_fl x) (fl_ge1 h1) hk)
    exact ⟨_, _, h.up X (gt0_of_ge1 h1) hxy hd hn⟩
theorem left_prod {m : Nat} {y : Rat} {a : Int} (Y : bq m y) (h0 : (a : Rat) < y) (h1 : y < ((a + 1 : Int) : Rat)) : (((1 : Int) : Rat) / (y - (a : Rat))).num * ((((1 : Int) : Rat) / (y - (a : Rat))).den : Int) < 2 ^ (64 * m) := by
 have Z := Y.left h0 h1
 obtain ⟨e1, e2⟩ := inv_nd h0
 have hd := den_pos (((1 : Int) : Rat) / (y - (a : Rat)))
 have hd2 := den_pos y
 generalize ((1 : Int) : Rat) / (y - (a : Rat)) = z at *
 have b1 := (bd2.1 Z.1).2
 have b2 := (bd2.1 Z.2).2
 rw [← pow2_32]
 exact Int.mul_lt_mul b1 (Int.le_of_lt b2) hd (by omega)
theorem smp_pos {m : Nat} {x y : Rat} (h0 : 0 < x) (hxy : x ≤ y) (X : bq m x) (Y : bq m y) : ∃ L z, SmR m x y L z (64 * m + 2) := by
 by_cases hd : x.den = 1
 ·exact ⟨_, _, .whole X h0 hxy hd (by omega)⟩
 ·by_cases hn : ((flq x + 1 : Int) : Rat) ≤ y
  ·exact ⟨_, _, .next X h0 hd hn (by omega)⟩
  ·have ha := fl_lt hd
   have hy := Rat.not_le.1 hn
   obtain ⟨L, z, h⟩ := smp_ge1 (64 * m) _ _ (step_ge1 hxy hd hn) (one_div_le (sub_pos' ha) (sub_mono hxy)) (Y.left (ltle ha hxy) hy) (X.left ha (lt_fl x)) (left_prod Y (ltle ha hxy) hy) (left_prod X ha (lt_fl x))
   exact ⟨_, _, h.up X h0 hxy hd hn⟩
theorem SmR.bq {m n : Nat} {x y z : Rat} {L : List Int} (h : SmR m x y L z n) (h0 : 0 < x) (X : bq m x) (hxy : x ≤ y) : bq m z := by
 obtain ⟨a, b⟩ := h.mi x Rat.le_refl hxy
 have hz := (num_pos_iff z).2 (ltle h0 h.lo)
 have hd := den_pos z
 have X1 := X.1
 have X2 := X.2
 unfold Ma.bq bd at *
 omega
theorem SmR.at0 {m n : Nat} {x y z : Rat} {L : List Int} (h : SmR m x y L z n) : ∀ i, bd (m + 1) (at0 L i) := fun i => by
 by_cases hi : i < L.length
 ·rw [at0_of_lt hi]; exact h.b _ (List.getElem_mem hi)
 ·rw [Ma.at0, List.getD_eq_getElem?_getD, List.getElem?_eq_none (by omega)]; exact bd.zero
inductive CF : Rat → List Int → Prop
 | last {x : Rat} : x.den = 1 → CF x [flq x]
 | step {x : Rat} {l : List Int} : x.den ≠ 1 → CF (((1 : Int) : Rat) / (x - ((flq x : Int) : Rat))) l → CF x (flq x :: l)
structure CfR (m : Nat) (x : Rat) (l : List Int) (n : Nat) : Prop where
 s : CF x l
 len : l.length ≤ n
 b : ∀ u ∈ l, bd m u
 c : ctrR l = .ok x
theorem CfR.last {m n : Nat} {x : Rat} (X : Ma.bq m x) (hd : x.den = 1) (hn : 1 ≤ n) : CfR m x [flq x] n :=
  ⟨.last hd, hn, fun u hu => by obtain rfl : u = _ := by simpa using hu
                                exact bq.fl X, congrArg Except.ok (fl_self hd)⟩
theorem CfR.up {m n : Nat} {x : Rat} {l : List Int} (X : Ma.bq m x) (hd : x.den ≠ 1) (h : CfR m (((1 : Int) : Rat) / (x - ((flq x : Int) : Rat))) l n) : CfR m x (flq x :: l) (n + 1) := by
 have px := sub_pos' (fl_lt hd)
 refine ⟨.step hd h.s, by simp; exact h.len, fun u hu => ?_, ?_⟩
 ·rcases List.mem_cons.1 hu with rfl | hu
  ·exact bq.fl X
  ·exact h.b u hu
 ·rw [ctr_step h.c (Rat.ne_of_gt (inv_pos px)), inv_inv px]
  congr 1
  grind
theorem x_lt_fl {x : Rat} (hd : x.den ≠ 1) : ¬ ((flq x + 1 : Int) : Rat) ≤ x := Rat.not_le.2 (lt_fl x)
theorem cf_ge1 {m : Nat} : ∀ (k : Nat) (x : Rat), ((1 : Int) : Rat) ≤ x → Ma.bq m x → x.num * (x.den : Int) < 2 ^ k → ∃ l, CfR m x l (k + 1) := by
 intro k
 induction k with
 | zero => intro x h1 _ hk; have := ge1_prod h1; simp at hk; omega
 | succ k ih =>
  intro x h1 X hk
  by_cases hd : x.den = 1
  ·exact ⟨_, .last X hd (by omega)⟩
  ·have ha := fl_lt hd
   obtain ⟨l, h⟩ := ih _ (step_ge1 Rat.le_refl hd (x_lt_fl hd)) (X.left ha (lt_fl x)) (step_half ha (lt_fl x) (fl_ge1 h1) hk)
   exact ⟨_, h.up X hd⟩
theorem cf_ex {m : Nat} {x : Rat} (X : Ma.bq m x) : ∃ l, CfR m x l (64 * m + 2) := by
 by_cases hd : x.den = 1
 ·exact ⟨_, .last X hd (by omega)⟩
 ·have ha := fl_lt hd
  obtain ⟨l, h⟩ := cf_ge1 (64 * m) _ (step_ge1 Rat.le_refl hd (x_lt_fl hd)) (X.left ha (lt_fl x)) (left_prod X ha (lt_fl x))
  exact ⟨_, h.up X hd⟩
theorem CF.ne {x : Rat} {l : List Int} (h : CF x l) : 0 < l.length := by cases h <;> simp
theorem next_gt1 {x : Rat} (hd : x.den ≠ 1) : ((1 : Int) : Rat) < ((1 : Int) : Rat) / (x - ((flq x : Int) : Rat)) := by
 have ha := fl_lt hd
 obtain ⟨e1, e2⟩ := inv_nd ha
 have h2 := num_lt.1 (lt_fl x)
 rw [Int.add_mul] at h2
 rw [lt_num, e1, e2]
 omega
theorem CF.pos {x : Rat} {l : List Int} (h : CF x l) : ((1 : Int) : Rat) < x → ∀ i, i < l.length → 1 ≤ at0 l i ∧ (i = l.length - 1 → 2 ≤ at0 l i) := by
 induction h with
 | last hd =>
  rename_i x
  intro h1 i hi
  obtain rfl : i = 0 := by simpa using hi
  have e := fl_self hd
  rw [← e] at h1
  have h2 : 1 < flq x := Rat.intCast_lt_intCast.1 h1
  show 1 ≤ flq x ∧ (_ → 2 ≤ flq x)
  exact ⟨by omega, fun _ => by omega⟩
 | step hd h ih =>
  rename_i x l
  intro h1 i hi
  have hn := h.ne
  match i with
  | 0 =>
   have h2 := fl_ge1 (Rat.le_of_lt h1)
   exact ⟨h2, fun e => by simp at e; omega⟩
  | i + 1 =>
   have := ih (next_gt1 hd) i (by simpa using hi)
   exact ⟨this.1, fun e => this.2 (by simp at e; omega)⟩
end Go.Proofs.YthpjmhhfcechmaaGreat.Ma
/- A walk by rules: an iterator's call of yield; a box below the base is written. -/
namespace Go.Proofs.YthpjmhhfcechmaaGreat.Sy
open Go Go.RowKit Ma
section
variable {B N : Nat} {w0 : World} {ops : Array Oper} {o : Oper} {rest : List Oper} {fr : List (Nat × AV)} {Q : Exit → Act → World → Prop} {d : Nat}
theorem wpIn_val {n : Nat} {a : Act} {W W' : World} {v : Value} {K : Act → World → Prop} (e : (execOp a.eval o).run Tryz.prog W = .ok (.value v) W') (h : K (a.put o.dst v) W') : o.wpIn Fence.wide n Tryz.prog a W K Q :=
 ⟨fun _ _ => trivial, by rw [show Fence.wide.round = none from rfl, Oper.semAt_none, e]; exact h⟩
theorem Fr.bare {a : Act} {W : World} (h1 : a.defers = []) (h2 : a.tmps.size = N) : Fr W.heap.size N W [] a W :=
 Fr.mk h1 h2 (Below.refl _ _) (Nat.le_refl _) (fun i v h => by cases h) (fun i j v v' p _ h => by cases h)
theorem run_yieldc {l s x : Nat} {ts : Array TypeId} {W : World} {ρ : Operand → Value} {nx : Next} (ho : o.op = .call { callee := .value (.tmp s), args := #[.tmp x], argTypes := ts }) (hρ : ρ (.tmp s) = .func (.yield l) #[] #[])
  (hy : (Instr.yield l #[ρ (.tmp x)]).run Tryz.prog W = .ok nx W) : (execOp ρ o).run Tryz.prog W = .ok nx W := by
 obtain ⟨dst, op, ty, pos, after, guard⟩ := o
 simp only at ho
 subst ho
 simp [execOp, resolve, hρ, go_sem, invoke, hy]
theorem run_not {x : Operand} {T : TypeId} {W : World} {ρ : Operand → Value} (ho : o.op = .unOp .not T x) (h1 : ρ x = .bool true) : (execOp ρ o).run Tryz.prog W = .ok (.value (.bool false)) W := by
 obtain ⟨dst, op, ty, pos, after, guard⟩ := o
 simp only at ho
 subst ho
 go_simp
theorem SC.yield {id l p1 p3 : Nat} {o1 o2 o3 o4 : Oper} {b1 b3 : BT} {v u : Value} {ts : Array TypeId} {T3 T4 : TypeId} {R : World → World → Prop}
  (h1 : o1.op = .move (.tmp 0)) (d1 : o1.dst = some 8) (g1 : o1.guard = none) (h2 : o2.op = .load T3 (.tmp 3)) (d2 : o2.dst = some 9) (g2 : o2.guard = none)
  (h3 : o3.op = .call { callee := .value (.tmp 8), args := #[.tmp 9], argTypes := ts }) (d3 : o3.dst = some 10) (g3 : o3.guard = none) (h4 : o4.op = .unOp .not T4 (.tmp 10)) (d4 : o4.dst = some 11) (g4 : o4.guard = none)
  (hN : N = 25) (s0 : look fr 0 = some (.vl (.func (.yield l) #[] #[]))) (s1 : look fr 1 = some (.bc b1 p1 v)) (s3 : look fr 3 = some (.bc b3 p3 u)) (hT : b3.T = T3)
  (hY : ∀ W, Below B w0 W → p3 < W.heap.size → YieldAt Fence.wide 0 Tryz.prog l #[u] W fun e W' => e = .returned (.bool true) ∧ R W W' ∧ W'.heap[p1]? = W.heap[p1]? ∧ W'.heap[p3]? = W.heap[p3]?)
  (hk : ∀ W W' a', Below B w0 W → R W W' → Fr W'.heap.size N W' [(11, .vl (.bool false)), (3, .bc b3 p3 u), (1, .bc b1 p1 v), (0, .vl (.func (.yield l) #[] #[]))] a' W' → Q .normal a' W') :
  SC B N w0 (.region id #[o1, o2, o3, o4] false) fr Q := fun a W hf => by
 refine (wpIn_wide (n := 1)).1 (wpIn_region_lit (l := [o1, o2, o3, o4]) ?_)
 obtain ⟨a0, hw, hs⟩ : ∃ a0 : Value, a.eval (.tmp 0) = a0 ∧ a0 = .func (.yield l) #[] #[] := ⟨_, rfl, hf.ho 0 _ s0⟩
 subst hs
 refine wpListIn_plain g1 fun K1 hK1 => wpIn_val (v := .func (.yield l) #[] #[]) (W' := W) (by unfold execOp; rw [h1]; exact congrArg (fun z : Value => Result.ok (Next.value z) W) hw) (hK1 _ _ ?_)
 rw [d1]
 have hf1 := hf.set (d := 8) (v := .vl (.func (.yield l) #[] #[])) (by rw [hN]; rfl) (u := .func (.yield l) #[] #[]) rfl rfl
 have q3 : look ((8, AV.vl (.func (.yield l) #[] #[])) :: fr) 3 = some (.bc b3 p3 u) := by rw [look_cons, if_neg (by decide)]; exact s3
 refine wpListIn_plain g2 fun K2 hK2 => wpIn_val (loadc_run hf1 h2 q3 hT) (hK2 _ _ ?_)
 rw [d2]
 have hf2 := hf1.set (d := 9) (v := .vl u) (by rw [hN]; rfl) (u := u) rfl rfl
 obtain ⟨fn, tmps, assign, body, hy, hR⟩ := hY W hf.be (by obtain ⟨_, hh, ok⟩ := hf.ho 3 _ s3; exact hh.lt ok)
 have e8 := hf2.vl (s := 8) (v := .func (.yield l) #[] #[]) (by rw [look_cons, if_neg (by decide), look_cons, if_pos rfl])
 have e9 := hf2.vl (s := 9) (v := u) (by rw [look_cons, if_pos rfl])
 generalize hA : (a.put (some 8) (.func (.yield l) #[] #[])).put (some 9) u = a2 at *
 refine wpListIn_plain g3 fun K3 hK3 => ⟨fun _ _ => trivial, ?_⟩
 rw [show Fence.wide.round = Option.none from rfl, Oper.semAt_none, run_yieldc (ρ := a2.eval) h3 e8 (by rw [show a2.eval (.tmp 9) = u from e9]; exact hy), Oper.uponIn_round]
 refine ⟨fun _ => Nat.le_refl _, hR.mono fun e W' ⟨he, hr, k1, k3⟩ => ?_⟩
 subst he
 refine hK3 _ _ ?_
 rw [d3]
 have hp1 := hf2.ho 1 _ (by rw [look_cons, if_neg (by decide), look_cons, if_neg (by decide)]; exact s1)
 have hp3 := hf2.ho 3 _ (by rw [look_cons, if_neg (by decide), look_cons, if_neg (by decide)]; exact s3)
 have hp0 := hf2.ho 0 _ (by rw [look_cons, if_neg (by decide), look_cons, if_neg (by decide)]; exact s0)
 have hne : p1 ≠ p3 := fun e => hf2.di 1 3 _ _ p1 (by decide) (by rw [look_cons, if_neg (by decide), look_cons, if_neg (by decide)]; exact s1) (by rw [look_cons, if_neg (by decide), look_cons, if_neg (by decide)]; exact s3) rfl (by rw [e]; rfl)
 have hsz : a2.tmps.size = 25 := hN ▸ hf2.sz
 have g10 : (a2.put (some 10) (.bool true)).eval (.tmp 10) = .bool true := by
  show (a2.put (some 10) (.bool true)).tmps.getD 10 undef = _
  rw [getD_put (by rw [hsz]; decide), if_pos rfl]
 refine wpListIn_plain g4 fun K4 hK4 => wpIn_val (v := .bool false) (W' := W') (run_not h4 g10) (hK4 _ _ (wpListIn_nil ?_))
 ·rw [d4]
  refine hk W W' _ hf.be hr ?_
  have hz : ((a2.put (some 10) (.bool true)).put (some 11) (.bool false)).tmps.size = N := by
   show ((a2.tmps.setIfInBounds _ _).setIfInBounds _ _).size = N
   rw [Array.size_setIfInBounds, Array.size_setIfInBounds, hsz, hN]
  have hs1 : (a2.put (some 10) (.bool true)).tmps.size = 25 := by
   show (a2.tmps.setIfInBounds _ _).size = 25
   rw [Array.size_setIfInBounds, hsz]
  have gd : ∀ i, i ≠ 10 → i ≠ 11 → ((a2.put (some 10) (.bool true)).put (some 11) (.bool false)).tmps.getD i undef = a2.tmps.getD i undef := fun i n1 n2 => by
   rw [getD_put (by rw [hs1]; decide), if_neg (fun e => n2 e.symm), getD_put (by rw [hsz]; decide), if_neg (fun e => n1 e.symm)]
  have g11 : ((a2.put (some 10) (.bool true)).put (some 11) (.bool false)).tmps.getD 11 undef = .bool false := by
   rw [getD_put (by rw [hs1]; decide), if_pos rfl]
  have df : ((a2.put (some 10) (.bool true)).put (some 11) (.bool false)).defers = [] := hf2.df
  generalize (a2.put (some 10) (.bool true)).put (some 11) (.bool false) = a4 at *
  obtain ⟨e1, hh1, ok1⟩ := hp1
  obtain ⟨e3, hh3, ok3⟩ := hp3
  have f0 := (Fr.bare (W := W') df hz).know (i := 0) (v := .vl (.func (.yield l) #[] #[])) rfl (by rw [gd 0 (by decide) (by decide)]; exact hp0)
  have f1 := f0.more (i := 1) (v := .bc b1 p1 v) ⟨by rw [gd 1 (by decide) (by decide)]; exact e1, hh1.same k1, ok1⟩ (fun j v' p hj _ hb => by
   rw [look_cons] at hj
   split at hj
   ·injection hj with hj; subst hj; cases hb
   ·cases hj)
  have f3 := f1.more (i := 3) (v := .bc b3 p3 u) ⟨by rw [gd 3 (by decide) (by decide)]; exact e3, hh3.same k3, ok3⟩ (fun j v' p hj e hb => by
   have e : some p3 = some p := e
   rw [look_cons] at hj
   split at hj
   ·injection hj with hj; subst hj
    have hb : some p1 = some p := hb
    exact hne (by injection e with e; injection hb with hb; rw [hb, e])
   ·rw [look_cons] at hj
    split at hj
    ·injection hj with hj; subst hj; cases hb
    ·cases hj)
  exact f3.know (i := 11) (v := .vl (.bool false)) rfl g11
theorem SC.rebaseB {c : Code} {s : Nat} {b : BT} {k : Know} (fr' : List (Nat × AV)) (hs : look fr s = some (.bx b k)) (hsub : Sub fr' fr) (hv : freeB fr' = true) (h : ∀ p v W1, B ≤ p → Below B w0 W1 → B ≤ W1.heap.size → k v W1 → SC W1.heap.size N W1 c ((s, .bc b p v) :: fr') Q) : SC B N w0 c fr Q := fun a W hf => by
 obtain ⟨p, v, e, hB, hh, hk, hst, ok⟩ := hf.ho s _ hs
 have hf1 := hf.sub hsub.spec
 refine h p v W hB hf.be hf.bs hk a W ?_
 have hf2 : Fr W.heap.size N W fr' a W := ⟨hf.df, hf.sz, Below.refl _ _, Nat.le_refl _, fun i v hi => (hf1.ho i v hi).base (free_look hv i v hi), hf1.di⟩
 refine hf2.more' (i := s) (v := .bc b p v) ⟨e, hh, ok⟩ fun j v2 q hj h1 h2 h3 => ?_
 exact hf.di s j _ v2 q hj hs (hsub.spec j v2 h1) (by rw [← h2]; show blk0 (a.tmps.getD s undef) = some p; rw [e]; rfl) h3
theorem PW.storec {T : TypeId} {s p : Nat} {x : Operand} {r : AV} {b : BT} {v : Value} (hw : wantB ops fr o = some true) (hd : o.dst = none) (ho : o.op = .store T (.tmp s) x) (hs : look fr s = some (.bc b p v)) (hT : b.T = T) (hx : opv fr x = some r) (hsh : ∀ v W, r.of v W → ∃ cs, b.sh v cs)
  (hk : ∀ a W W' u, Fr B N w0 fr a W → Only p W W' → Holds b p u W' → r.of u W' → a.tmps.getD s undef = ptr p → b.Ok → wpList Tryz.prog ops Q rest a W') : PW B N w0 ops (o :: rest) fr Q :=
 PW.step hw fun a W hf K hK => by
  obtain ⟨h1, h2⟩ := opv_spec hf hx
  obtain ⟨h3, h4⟩ := h1.of h2
  obtain ⟨cs', hcs⟩ := hsh _ _ h3
  obtain ⟨e, hh, ok⟩ := hf.ho s _ hs
  obtain ⟨W', h5, h6, h7⟩ := ok.store v _ cs' W p hh hcs
  have e2 : (execOp a.eval o).run Tryz.prog W = .ok .skip W' := by
   unfold execOp
   rw [ho, ← hT]
   show (do (Instr.storeAt b.T (a.tmps.getD s undef) (a.eval x)); pure .skip : Sem Next).run Tryz.prog W = _
   rw [e]
   exact run_skip h5
  unfold Oper.wp
  rw [e2]
  show K (a.put o.dst undef) W'
  rw [hd]
  exact hK _ _ (hk _ _ _ _ hf h7 h6 (h4 _ _ _ h7.nu h3) e ok)
end
end Go.Proofs.YthpjmhhfcechmaaGreat.Sy
/- The iterator of a continued fraction, by rules. -/
namespace Go.Proofs.YthpjmhhfcechmaaGreat.Sy
open Go Go.RowKit Ma
theorem CF.last_eq {x : Rat} {l : List Int} (h : Ma.CF x l) (hd : x.den = 1) : l = [flq x] := by
 cases h with
 | last _ => rfl
 | step h1 _ => exact absurd hd h1
theorem CF.step_eq {x : Rat} {l : List Int} (h : Ma.CF x l) (hd : x.den ≠ 1) : ∃ l', l = flq x :: l' ∧ Ma.CF (((1 : Int) : Rat) / (x - ((flq x : Int) : Rat))) l' := by
 cases h with
 | last h1 => exact absurd h1 hd
 | step _ h2 => exact ⟨_, rfl, h2⟩
abbrev ItS := World × Value × Rat × List Int × List Int
abbrev ItP (m p1 : Nat) (J : List Int → World → Prop) (L : List Int) (s : ItS) : Prop := J s.2.2.2.1 s.1 ∧ KQ s.2.2.1.num ((s.2.2.1.den : Int) - 1) s.2.1 s.1 ∧ bq m s.2.2.1 ∧ Ma.CF s.2.2.1 s.2.2.2.2 ∧ s.2.2.2.1 ++ s.2.2.2.2 = L ∧ p1 < s.1.heap.size
theorem results_none {fn : Func} (h : fn.results = #[]) (tmps : Array Value) (W : World) : (results fn tmps).run Tryz.prog W = .ok (.tuple #[]) W := by
 unfold results
 simp [h, go_sem]
theorem terms_back {N m l p1 : Nat} {w1 W W2 : World} {J : List Int → World → Prop} {x : Rat} {pre rest L : List Int} {fr : List (Nat × AV)} {a : Act} {u : Value} {b : BT} (hP : ∀ zs W W', J zs W → Only p1 W W' → J zs W') (hN : ∀ zs W W', J zs W → Nw W W' → J zs W')
  (hC : Ma.CF x rest) (hL : pre ++ rest = L) (hd : x.den ≠ 1) (hJ : J (pre ++ [flq x]) w1) (X : bq m x) (hf : Fr w1.heap.size N w1 fr a W) (ho : Only p1 W W2) (hh : Holds b p1 u W2)
  (hk : KQ (((1 : Int) : Rat) / (x - ((flq x : Int) : Rat))).num (((((1 : Int) : Rat) / (x - ((flq x : Int) : Rat))).den : Int) - 1) u W2) (ep : a.tmps.getD 1 undef = ptr p1) (ok : b.Ok) (h0 : look fr 0 = some (.vl (.func (.yield l) #[] #[]))) :
  ∃ s' : ItS, ItP m p1 J L s' ∧ s'.2.2.2.2.length < rest.length ∧ Fr s'.1.heap.size N s'.1 [(0, .vl (.func (.yield l) #[] #[])), (1, .bc b p1 s'.2.1)] a W2 := by
 obtain ⟨l', rfl, hC'⟩ := CF.step_eq hC hd
 have f1 := (Fr.bare (N := N) (W := W2) hf.df hf.sz).more (i := 1) (v := .bc b p1 u) ⟨ep, hh, ok⟩ (fun j v' p hj => by cases hj)
 have f2 := f1.know (i := 0) (v := .vl (.func (.yield l) #[] #[])) rfl (hf.ho 0 _ h0)
 exact ⟨(W2, u, _, pre ++ [flq x], l'), ⟨hP _ _ _ (hN _ _ _ hJ hf.be) ho, hk, X.left (fl_lt hd) (lt_fl x), hC', by rw [← hL]; simp, hh.lt ok⟩, by simp, f2⟩
set_option maxHeartbeats 6400000 in
set_option maxRecDepth 100000 in
theorem terms1_c {m n l p1 : Nat} {W0 : World} {J : List Int → World → Prop} {x0 : Rat} {L : List Int} {v0 : Value} (h : CfR m x0 L n) (X0 : bq m x0) (hm : m ≤ 1000) (hv : Holds (BQ 38) p1 v0 W0) (hk0 : KQ x0.num ((x0.den : Int) - 1) v0 W0)
  (hP : ∀ zs W W', J zs W → Only p1 W W' → J zs W') (hN : ∀ zs W W', J zs W → Nw W W' → J zs W')
  (hY : ∀ (pre : List Int) (x : Rat) (wb W : World) (p3 : Nat) (u : Value), pre.length < L.length → J pre wb → Nw wb W → wb.heap.size ≤ p3 → p3 < W.heap.size → KI (flq x) u W → YieldAt Fence.wide 0 Tryz.prog l #[u] W fun e W' => e = .returned (.bool true) ∧ (J (pre ++ [flq x]) W' ∧ IntK W W') ∧ W'.heap[p1]? = W.heap[p1]? ∧ W'.heap[p3]? = W.heap[p3]?)
  (h0 : J [] W0) : Calls Tryz.prog 133 #[.func (.yield l) #[] #[], ptr p1] W0 (fun e W' => (∃ v, e = .returned v) ∧ J L W') := by
 refine calls_of_wp Tryz.func133 rfl ?_
 have hf := Fr.ini (B := W0.heap.size) (N := 25) (w := W0) (l := [.vl (.func (.yield l) #[] #[]), .vl (ptr p1)]) (us := [.func (.yield l) #[] #[], ptr p1]) ⟨rfl, rfl, rfl, rfl, trivial⟩ rfl 23 rfl
 have hf1 := (Fr.bare (N := 25) (W := W0) hf.df hf.sz).more (i := 1) (v := .bc (BQ 38) p1 v0) ⟨hf.ho 1 _ rfl, hv, bQ⟩ (fun j v' p hj => by cases hj)
 have hf2 := hf1.know (i := 0) (v := .vl (.func (.yield l) #[] #[])) rfl (hf.ho 0 _ rfl)
 refine SC.run (fr := [(0, .vl (.func (.yield l) #[] #[])), (1, .bc (BQ 38) p1 v0)]) ?_ hf2
 refine SC.block ?_
 refine SC.loopW (S := ItS) (fun s => s.1) (fun s => [(0, .vl (.func (.yield l) #[] #[])), (1, .bc (BQ 38) p1 s.2.1)]) (ItP m p1 J L) (fun s => s.2.2.2.2.length) ?_ ?_
 ·exact fun a W hf => ⟨(W, v0, x0, [], L), ⟨hN _ _ _ h0 hf.be, (KQ.st _ _) _ _ _ (IntK.of_below hf.be) hk0, X0, h.s, rfl, Nat.lt_of_lt_of_le (hv.lt bQ) hf.be.size⟩, Fr.rebase [(0, .vl (.func (.yield l) #[] #[])), (1, .bc (BQ 38) p1 v0)] hf ⟨rfl, rfl, trivial⟩ rfl⟩
 ·rintro ⟨wb, v, x, pre, rest⟩ ⟨hJ, hK, X, hC, hL, hlt⟩
  show SC wb.heap.size 25 wb _ [(0, .vl (.func (.yield l) #[] #[])), (1, .bc (BQ 38) p1 v)] _
  refine SC.block (SC.seq (SC.region ?_))
  refine PW.loadck (k := KQ (x).num (((x).den : Int) - 1)) rfl rfl rfl rfl rfl rfl rfl hK (KQ.st _ _) ?_
  refine PW.call (r := .kw (KI (flq x))) rfl rfl rfl rfl rfl rfl (KI.st _) rfl (k_rfloor X (by omega)) ?_
  refine PW.alloc (BI 31) rfl rfl rfl rfl rfl bI ?_
  refine PW.store (x := .tmp 7) (r := .kw (KI (flq x))) rfl rfl rfl rfl rfl rfl sh_I ?_
  refine PW.nil (SX.then (SC.seq (SC.seq ?_)))
  refine SC.rebaseB (s := 3) [(0, .vl (.func (.yield l) #[] #[])), (1, .bc (BQ 38) p1 v)] rfl ⟨rfl, rfl, trivial⟩ rfl fun p3 u w1 hp3 hb _ hU => ?_
  obtain ⟨mm, A, k, cc, eu, hri⟩ := hU
  refine SC.yield (l := l) (p1 := p1) (p3 := p3) (v := v) (u := u) (b1 := BQ 38) (b3 := BI 31) (R := fun W W' => J (pre ++ [flq x]) W' ∧ IntK W W') rfl rfl rfl rfl rfl rfl rfl rfl rfl rfl rfl rfl rfl rfl rfl rfl rfl (fun W hW hlt3 => ?_) (fun W W' a' hW hR hf9 => ?_)
  ·exact hY pre x wb W p3 u (by have h1 : 0 < rest.length := CF.ne hC; have h2 : pre ++ rest = L := hL; rw [← h2, List.length_append]; omega) hJ (hb.trans (Below.mono hW hb.size)) hp3 hlt3 ⟨mm, A, k, cc, eu, hri.kept (IntK.of_below hW)⟩
  have hK2 : KQ x.num ((x.den : Int) - 1) v W' := (KQ.st _ _) _ _ _ ((IntK.of_below (hb.trans (Below.mono hW hb.size))).trans hR.2) hK
  have hU2 : KI (flq x) u W' := ⟨mm, A, k, cc, eu, hri.kept ((IntK.of_below hW).trans hR.2)⟩
  have hJ2 := hR.1
  refine (show SX W'.heap.size 25 W' .normal [(0, .vl (.func (.yield l) #[] #[])), (1, .bc (BQ 38) p1 (v)), (3, .bc (BI 31) p3 (u)), (11, .vl (.bool false))] _ from ?_) a' W' (hf9.sub (show Sub [(0, .vl (.func (.yield l) #[] #[])), (1, .bc (BQ 38) p1 (v)), (3, .bc (BI 31) p3 (u)), (11, .vl (.bool false))] [(11, .vl (.bool false)), (3, .bc (BI 31) p3 u), (1, .bc (BQ 38) p1 v), (0, .vl (.func (.yield l) #[] #[]))] from ⟨rfl, rfl, rfl, rfl, trivial⟩).spec)
  refine SX.then (SC.cond (t := false) rfl (SC.skip (SX.then (SC.seq ?_))))
  by_cases hd : x.den = 1
  ·have hz : x - ((flq x : Int) : Rat) = 0 := by rw [fl_self hd]; grind
   refine SC.dx [.val 13 (.kw (KI (1))), .val 14 (.kw (KQ (((1 : Int) : Rat)).num (((((1 : Int) : Rat)).den : Int) - 1))), .val 15 (.kw (KQ (x).num (((x).den : Int) - 1))), .val 16 (.kw (KI (flq x))), .val 17 (.kw (KQ (((flq x : Int) : Rat)).num (((((flq x : Int) : Rat)).den : Int) - 1))), .val 18 (.kw (KQ (x - (((flq x : Int) : Rat))).num (((x - (((flq x : Int) : Rat))).den : Int) - 1))), .val 19 (.kw (K2 (KQ (0) (0)) (KV (.int .i64 6)))), .val 12 (.kw (K2 (KQ (0) (0)) (KV (.int .i64 6)))), .val 20 (.kw (KQ (0) (0))), .val 21 (.vl (.int .i64 6)), .new 4 (BQ 38), .put 4 (BQ 38) (.kw (KQ (0) (0))), .val 5 (.vl (.int .i64 6))] [([], []), ([0], []), ([], [1]), ([], [3]), ([3], []), ([2, 4], []), ([1, 5], []), ([6], []), ([7], []), ([7], []), ([], []), ([10, 8], []), ([9], [])] rfl (by kernel_rfl) (by kernel_rfl) (by kernel_rfl) rfl ⟨?_, ?_, ?_, ?_, ?_, ?_, ?_, ?_, ?_, ?_, ?_, ?_, ?_, trivial⟩ ?_
   ·exact DX.call (r := .kw (KI (1))) rfl rfl rfl rfl rfl rfl (KI.st _) rfl (k_one)
   ·exact DX.call (r := .kw (KQ (((1 : Int) : Rat)).num (((((1 : Int) : Rat)).den : Int) - 1))) rfl rfl rfl rfl rfl rfl (KQ.st _ _) rfl (k_rof)
   ·exact DX.loadck (k := KQ (x).num (((x).den : Int) - 1)) rfl rfl rfl rfl rfl rfl rfl hK2 (KQ.st _ _)
   ·exact DX.loadck (k := KI (flq x)) rfl rfl rfl rfl rfl rfl rfl hU2 (KI.st _)
   ·exact DX.call (r := .kw (KQ (((flq x : Int) : Rat)).num (((((flq x : Int) : Rat)).den : Int) - 1))) rfl rfl rfl rfl rfl rfl (KQ.st _ _) rfl (k_rof)
   ·exact DX.call (r := .kw (KQ (x - (((flq x : Int) : Rat))).num (((x - (((flq x : Int) : Rat))).den : Int) - 1))) rfl rfl rfl rfl rfl rfl (KQ.st _ _) rfl (k_rsub X (bq.int1 ((bq.fl X))) (by omega) (by omega))
   ·exact DX.call (r := .kw (K2 (KQ (0) (0)) (KV (.int .i64 6)))) rfl rfl rfl rfl rfl rfl (K2.st (KQ.st _ _) (KV.st _)) rfl (k_rdiv0 hz)
   ·exact DX.move rfl rfl rfl rfl rfl rfl
   ·exact DX.ext (r := .kw (KQ (0) (0))) rfl rfl rfl rfl rfl ex20 (KQ.st _ _) rfl
   ·exact DX.ext (r := .vl (.int .i64 6)) rfl rfl rfl rfl rfl ex21v (KV.st _) rfl
   ·exact DX.alloc (BQ 38) rfl rfl rfl rfl bQ rfl
   ·exact DX.store (x := .tmp 20) (r := .kw (KQ (0) (0))) rfl rfl rfl rfl rfl rfl sh_Q
   ·exact DX.assign rfl rfl rfl rfl rfl rfl
   refine SX.then (SC.seq (SC.seq (SC.region (PW.move rfl rfl rfl rfl rfl ?_))))
   refine PW.q2 (x := .tmp 22) (y := .const (.int .i64 0)) (.bool true) rfl rfl rfl rfl rfl (fun ρ W h1 h2 => by go_simp) ?_
   refine PW.nil (SX.then (SC.cond (t := true) rfl (SC.ret (SX.thenR (SX.blockR ?_)))))
   exact fun a W hf => ⟨hf.df, _, results_none rfl a.tmps W, ⟨_, rfl⟩, by rw [← hL, CF.last_eq hC hd]; exact hN _ _ _ hJ2 hf.be⟩
  ·have hz : x - ((flq x : Int) : Rat) ≠ 0 := Rat.ne_of_gt (sub_pos' (fl_lt hd))
   have X2 := X.left (fl_lt hd) (lt_fl x)
   refine SC.dx [.val 13 (.kw (KI (1))), .val 14 (.kw (KQ (((1 : Int) : Rat)).num (((((1 : Int) : Rat)).den : Int) - 1))), .val 15 (.kw (KQ (x).num (((x).den : Int) - 1))), .val 16 (.kw (KI (flq x))), .val 17 (.kw (KQ (((flq x : Int) : Rat)).num (((((flq x : Int) : Rat)).den : Int) - 1))), .val 18 (.kw (KQ (x - (((flq x : Int) : Rat))).num (((x - (((flq x : Int) : Rat))).den : Int) - 1))), .val 19 (.kw (K2 (KQ ((((1 : Int) : Rat)) / (x - (((flq x : Int) : Rat)))).num ((((((1 : Int) : Rat)) / (x - (((flq x : Int) : Rat)))).den : Int) - 1)) (KV (.int .i64 0)))), .val 12 (.kw (K2 (KQ ((((1 : Int) : Rat)) / (x - (((flq x : Int) : Rat)))).num ((((((1 : Int) : Rat)) / (x - (((flq x : Int) : Rat)))).den : Int) - 1)) (KV (.int .i64 0)))), .val 20 (.kw (KQ ((((1 : Int) : Rat)) / (x - (((flq x : Int) : Rat)))).num ((((((1 : Int) : Rat)) / (x - (((flq x : Int) : Rat)))).den : Int) - 1))), .val 21 (.vl (.int .i64 0)), .new 4 (BQ 38), .put 4 (BQ 38) (.kw (KQ ((((1 : Int) : Rat)) / (x - (((flq x : Int) : Rat)))).num ((((((1 : Int) : Rat)) / (x - (((flq x : Int) : Rat)))).den : Int) - 1))), .val 5 (.vl (.int .i64 0))] [([], []), ([0], []), ([], [1]), ([], [3]), ([3], []), ([2, 4], []), ([1, 5], []), ([6], []), ([7], []), ([7], []), ([], []), ([10, 8], []), ([9], [])] rfl (by kernel_rfl) (by kernel_rfl) (by kernel_rfl) rfl ⟨?_, ?_, ?_, ?_, ?_, ?_, ?_, ?_, ?_, ?_, ?_, ?_, ?_, trivial⟩ ?_
   ·exact DX.call (r := .kw (KI (1))) rfl rfl rfl rfl rfl rfl (KI.st _) rfl (k_one)
   ·exact DX.call (r := .kw (KQ (((1 : Int) : Rat)).num (((((1 : Int) : Rat)).den : Int) - 1))) rfl rfl rfl rfl rfl rfl (KQ.st _ _) rfl (k_rof)
   ·exact DX.loadck (k := KQ (x).num (((x).den : Int) - 1)) rfl rfl rfl rfl rfl rfl rfl hK2 (KQ.st _ _)
   ·exact DX.loadck (k := KI (flq x)) rfl rfl rfl rfl rfl rfl rfl hU2 (KI.st _)
   ·exact DX.call (r := .kw (KQ (((flq x : Int) : Rat)).num (((((flq x : Int) : Rat)).den : Int) - 1))) rfl rfl rfl rfl rfl rfl (KQ.st _ _) rfl (k_rof)
   ·exact DX.call (r := .kw (KQ (x - (((flq x : Int) : Rat))).num (((x - (((flq x : Int) : Rat))).den : Int) - 1))) rfl rfl rfl rfl rfl rfl (KQ.st _ _) rfl (k_rsub X (bq.int1 ((bq.fl X))) (by omega) (by omega))
   ·exact DX.call (r := .kw (K2 (KQ ((((1 : Int) : Rat)) / (x - (((flq x : Int) : Rat)))).num ((((((1 : Int) : Rat)) / (x - (((flq x : Int) : Rat)))).den : Int) - 1)) (KV (.int .i64 0)))) rfl rfl rfl rfl rfl rfl (K2.st (KQ.st _ _) (KV.st _)) rfl (k_rdiv (bq.int1 bd.one) (X.sub (bq.int1 ((bq.fl X)))) (by omega) (by omega) hz)
   ·exact DX.move rfl rfl rfl rfl rfl rfl
   ·exact DX.ext (r := .kw (KQ ((((1 : Int) : Rat)) / (x - (((flq x : Int) : Rat)))).num ((((((1 : Int) : Rat)) / (x - (((flq x : Int) : Rat)))).den : Int) - 1))) rfl rfl rfl rfl rfl ex20 (KQ.st _ _) rfl
   ·exact DX.ext (r := .vl (.int .i64 0)) rfl rfl rfl rfl rfl ex21v (KV.st _) rfl
   ·exact DX.alloc (BQ 38) rfl rfl rfl rfl bQ rfl
   ·exact DX.store (x := .tmp 20) (r := .kw (KQ ((((1 : Int) : Rat)) / (x - (((flq x : Int) : Rat)))).num ((((((1 : Int) : Rat)) / (x - (((flq x : Int) : Rat)))).den : Int) - 1))) rfl rfl rfl rfl rfl rfl sh_Q
   ·exact DX.assign rfl rfl rfl rfl rfl rfl
   refine SX.then (SC.seq (SC.seq (SC.region (PW.move rfl rfl rfl rfl rfl ?_))))
   refine PW.q2 (x := .tmp 22) (y := .const (.int .i64 0)) (.bool false) rfl rfl rfl rfl rfl (fun ρ W h1 h2 => by go_simp) ?_
   refine PW.nil (SX.then (SC.cond (t := false) rfl (SC.skip (SX.then (SC.region ?_)))))
   refine PW.load rfl rfl rfl rfl rfl rfl ?_
   refine PW.storec (p := p1) (r := .kw (KQ (((1 : Int) : Rat) / (x - ((flq x : Int) : Rat))).num (((((1 : Int) : Rat) / (x - ((flq x : Int) : Rat))).den : Int) - 1))) rfl rfl rfl rfl rfl rfl sh_Q fun a W W2 u2 hf ho hh hku ep ok => ?_
   refine wpList_nil ?_
   exact terms_back hP hN hC hL hd hJ2 X hf ho hh hku ep ok rfl
end Go.Proofs.YthpjmhhfcechmaaGreat.Sy
/- Expansion: a range over the iterator. -/
namespace Go.Proofs.YthpjmhhfcechmaaGreat.Sy
open Go Go.RowKit Ma
attribute [local go_sem] Oper.semAt_some
theorem terms_c {mm m2 : Bool} {A A2 : Option Addr} {l c l2 c2 : Nat} {w : World} : Calls Tryz.prog 92 #[.agg #[.bool mm, .slice A l c, .bool m2, .slice A2 l2 c2]] w fun e w' =>
  e = .returned (.func (.func 133) #[] #[.pointer (some ⟨w.heap.size, 0, none⟩)]) ∧ w' = w.alloc (.cells #[.bool mm, .slice A l c, .bool m2, .slice A2 l2 c2] 38) := by
 go_enter Tryz.func92, Tryz.ntmps92
 go_wp2
 go_ret
 exact ⟨rfl, rfl⟩
theorem IntK.putNo {W : World} {l : Nat} {o' : Obj} (o : Obj) (h : W.heap[l]? = some o') (hc : o'.isCells = false) : IntK W (W.putObj l o) := fun a k x hx => by
 by_cases e : a.block = l
 ·subst e
  unfold World.cell? at hx
  rw [h] at hx
  cases o' <;> first | (cases hx; done) | (cases hc; done)
 ·rw [World.cell?_of_block (World.putObj_heap_other e)]; exact hx
theorem OwS.noObj {W : World} {b : Nat} {e : TypeId} {s n : Nat} {v : Value} {R : List Value → World → Prop} (h : OwS W b e s v n R) {l : Nat} {o : Obj} (hl : W.heap[l]? = some o) (hc : o.isCells = false) : v.ownBlock ≠ some l := fun hv => by
 obtain ⟨cur, t, fz, h1, _⟩ := h.2.1 l hv
 rw [hl] at h1
 injection h1 with h1
 subst h1
 cases hc
theorem OwS.putNo {W : World} {b : Nat} {e : TypeId} {s n : Nat} {v : Value} {R : List Value → World → Prop} (h : OwS W b e s v n R) {l : Nat} {o : Obj} (o2 : Obj) (hl : W.heap[l]? = some o) (hc : o.isCells = false) : OwS (W.putObj l o2) b e s v n R :=
 h.off (grownBy_putObj' W l o2) (IntK.putNo o2 hl hc) (h.noObj hl hc)
theorem OwS.lt {W : World} {b : Nat} {e : TypeId} {s n : Nat} {v : Value} {R : List Value → World → Prop} (h : OwS W b e s v n R) {g : Nat} (hv : v.ownBlock = some g) : g < W.heap.size := by
 obtain ⟨⟨xs, h1, _⟩, _⟩ := h
 exact (World.ownsRow.lt h1 g hv).2
theorem wpIn_rangeIt {g : Operand} {ps : Array Tmp} {assign body : Code} {Q : Exit → Act → World → Prop} {a : Act} {w : World} {gf : FuncId} {lb : Array Value} (hg : a.eval g = .func (.func gf) #[] lb) (eg : CE gf)
  (h : ∀ (fn : FuncId) (rec : LoopState → Option Code → Loop), rec = (fun st pe => { state := st, pending := pe, fn, tmps := a.tmps, params := ps, assign, body, defers := w.heap.size }) →
   Calls Tryz.prog gf (#[.func (.yield (w.heap.size + 1)) #[] #[]] ++ lb) ((w.alloc (.deferred (some []))).alloc (.loop (rec .ready none))) fun e W' => (∃ v, e = .returned v) ∧ ∃ W2, (Instr.endLoop (w.heap.size + 1)).run Tryz.prog W' = .ok none W2 ∧ Q .normal { a with defers := { target := .collected w.heap.size, args := #[] } :: a.defers } W2) :
  (Code.rangeFunc g ps assign body).wpIn Fence.wide 2 Tryz.prog Q a w := by
 refine wpIn_rangeFunc fun fn _ => ?_
 rw [show Fence.wide.round = none from rfl]
 obtain ⟨W1, hW1⟩ : ∃ W1, (w.alloc (.deferred (some []))).alloc (.loop { state := .ready, pending := none, fn, tmps := a.tmps, params := ps, assign, body, defers := w.heap.size }) = W1 := ⟨_, rfl⟩
 refine ⟨w.heap.size + 1, [{ target := .collected w.heap.size, args := #[] }], W1, { target := .fn (.func gf) lb, args := #[.func (.yield (w.heap.size + 1)) #[] #[]] }, W1, gf, #[.func (.yield (w.heap.size + 1)) #[] #[]] ++ lb, W1, ?_, ?_, fun _ _ => trivial, ?_, fun _ => by decide, ?_⟩
 ·rw [← hW1]; exact run_enterLoop_outer _ _ _ _ _
 ·simp only [resolve, hg]
  simp [go_sem]
 ·have := eg (#[.func (.yield (w.heap.size + 1)) #[] #[]] ++ lb)
  simp [invoke, go_sem, this]
 ·rw [← hW1]
  refine callsIn_wide.2 ((h fn _ rfl).mono fun e W' ⟨⟨v, he⟩, W2, h2, hq⟩ => ?_)
  subst he
  exact ⟨none, W2, h2, hq⟩
structure ExI (w : World) (rec : LoopState → Option Code → Loop) (zs : List Int) (v : Value) (W : World) : Prop where
 be : Below w.heap.size w W
 hl : W.heap[w.heap.size + 4]? = some (.loop (rec .ready none))
 hd : W.heap[w.heap.size + 3]? = some (.deferred (some []))
 hv : W.cell? ⟨w.heap.size + 1, 0, none⟩ = some v
 hf : W.frozen? ⟨w.heap.size + 1, 0, none⟩ = false
 ho : OwS W w.heap.size 31 2 v zs.length (RsI zs)
 n1 : v.ownBlock ≠ some (w.heap.size + 1)
 n2 : v.ownBlock ≠ some (w.heap.size + 2)
theorem heap_lt {W : World} {b : Nat} {o : Obj} (h : W.heap[b]? = some o) : b < W.heap.size := (Array.getElem?_eq_some_iff.1 h).1
theorem ExI.nw {w : World} {rec : LoopState → Option Code → Loop} {zs : List Int} {v : Value} {W W' : World} (h : ExI w rec zs v W) (k : Nw W W') : ExI w rec zs v W' := by
 have hs : w.heap.size ≤ W.heap.size := h.be.size
 have hlt := heap_lt h.hl
 have ho : Ho w.heap.size (.rs v 31 2 zs.length (RsI zs)) undef W := h.ho
 exact ⟨h.be.trans (Below.mono k hs), (k.block _ hlt).trans h.hl, (k.block _ (by omega)).trans h.hd, (k.cell (p := ⟨w.heap.size + 1, 0, none⟩) (show w.heap.size + 1 < _ by omega)).trans h.hv, (k.frozen (p := ⟨w.heap.size + 1, 0, none⟩) (show w.heap.size + 1 < _ by omega)).trans h.hf, ho.nw k, h.n1, h.n2⟩
theorem ExI.only {w : World} {rec : LoopState → Option Code → Loop} {zs : List Int} {v : Value} {W W' : World} (h : ExI w rec zs v W) (k : Only (w.heap.size + 2) W W') : ExI w rec zs v W' := by
 have hs : w.heap.size ≤ W.heap.size := h.be.size
 have hlt := heap_lt h.hl
 have e1 := k.gr.block (w.heap.size + 1) (by omega) (by simp)
 exact ⟨Below.grown h.be k.gr hs (fun j e => by injection e with e; omega), (k.gr.block _ hlt (by simp)).trans h.hl, (k.gr.block _ (by omega) (by simp)).trans h.hd, (World.cell?_of_block e1).trans h.hv, (World.frozen?_of_block e1).trans h.hf, h.ho.off k.gr k.nu h.n2, h.n1, h.n2⟩
theorem append_int {W : World} {B B2 gx cx : Nat} {v : Value} {zs : List Int} {z : Int} (own : OwS W B 31 2 v zs.length (RsI zs)) (ownx : OwS W B2 31 2 (.slice (some ⟨gx, 0, none⟩) 1 cx) 1 (RsI [z])) (hn : zs.length + 1 ≤ 4000000) (hB : B ≤ W.heap.size) :
  ∃ v' W2, (Builtin.append_ #[66, 66] 66 #[v, .slice (some ⟨gx, 0, none⟩) 1 cx]).run Tryz.prog W = .ok v' W2 ∧ OwS W2 B 31 2 v' (zs ++ [z]).length (RsI (zs ++ [z])) ∧ W.grownBy W2 v.ownBlock ∧ IntK W W2 ∧ (v'.ownBlock = v.ownBlock ∨ v'.ownBlock = some W.heap.size) := by
 obtain ⟨⟨xs, p1, p2⟩, p3, p4⟩ := own
 obtain ⟨⟨us, x1, x2⟩, x3, x4⟩ := ownx
 obtain ⟨i0, q1, q2, q3, q4⟩ := info_parts info_Int
 obtain ⟨qs, rfl, hq⟩ := id x2
 have hone := flat_one qs
 have hcells : ∀ j u, (flat qs)[j]? = some u → W.cell? ((⟨gx, 0, none⟩ : Addr).add j) = some u := x1.cells (g := gx) rfl
 have hbytes : (zs.length + 1) * 32 ≤ 140737488355328 := by omega
 have h63 : zs.length + 1 ≤ maxLen := by unfold maxLen; omega
 have hz0 : ∀ u ∈ (Value.agg #[.bool false, .slice none 0 0]).cells.toList, notInt u := by
  intro u hu
  have : u = .bool false ∨ u = .slice none 0 0 := by simpa [Value.cells] using hu
  rcases this with rfl | rfl
  ·exact fun k x => by simp
  ·exact fun k x => by simp
 obtain ⟨v', W2, r1, r2, r3, _, r5⟩ := run_append_own_at (P := Tryz.prog) W B 66 66 31 i0 (.agg #[.bool false, .slice none 0 0]) 2 32 Tryz.underlying66 q1 q2 q3 q4 rfl (by decide) v zs.length xs p1 ⟨gx, 0, none⟩ 1 cx (flat qs) x1.1 hcells (fun u hu => (hone u hu).1) h63 hbytes hB
 have r6 := append_noI (P := Tryz.prog) W B 66 66 31 i0 (.agg #[.bool false, .slice none 0 0]) 2 32 Tryz.underlying66 q1 q2 q3 q4 rfl (by decide) v zs.length xs p1 ⟨gx, 0, none⟩ 1 cx (flat qs) x1.1 hcells (fun u hu => (hone u hu).1) h63 hbytes hz0 (fun u hu => (hone u hu).2) p3 r1
 have hin : IntK W W2 := p3.intK r3
 refine ⟨v', W2, r1, ?_, r3, hin, r5⟩
 rw [List.length_append]
 exact ⟨⟨xs ++ flat qs, r2, RsI.st _ _ _ _ hin (p2.append x2)⟩, r6, RsI.st _⟩
theorem wpIn_valR {o : Oper} {l n : Nat} {a : Act} {W W' : World} {v : Value} {K : Act → World → Prop} {Q : Exit → Act → World → Prop} (hop : ∀ c, o.op ≠ .defer c) (e : (execOp a.eval o).run Tryz.prog W = .ok (.value v) W') (h : K (a.put o.dst v) W') : o.wpIn (Fence.wide.inRound l) n Tryz.prog a W K Q :=
 ⟨fun _ _ => trivial, by rw [Oper.semAt_eq _ _ _ hop, e]; exact h⟩
theorem run_appop {ρ : Operand → Value} {T ty : TypeId} {s x : Nat} {v u v' : Value} {W W2 : World} {dst : Option Tmp} {pos : String} {after : Array Edge} {guard : Option (Nat × Bool)} (h1 : ρ (.tmp s) = v) (h2 : ρ (.tmp x) = u) (r : (Builtin.append_ #[T, T] ty #[v, u]).run Tryz.prog W = .ok v' W2) :
  (execOp ρ ⟨dst, .call { callee := .builtin .append, args := #[.tmp s, .tmp x], argTypes := #[T, T] }, ty, pos, after, guard⟩).run Tryz.prog W = .ok (.value v') W2 := by
 unfold execOp
 simp only [resolve, invoke, builtin, Sem.run_bind, Sem.run_pure, Result.andThen_ok, List.map_toArray, List.map_cons, List.map_nil, h1, h2, r]
theorem run_ld1 {o : Oper} {ρ : Operand → Value} {x : Operand} {p : Addr} {v : Value} {W : World} (ho : o.op = .load 66 x) (h1 : ρ x = .pointer (some p)) (hc : W.cell? p = some v) : (execOp ρ o).run Tryz.prog W = .ok (.value v) W := by
 obtain ⟨dst, op, ty, pos, after, guard⟩ := o
 simp only at ho
 subst ho
 go_simp
theorem run_ld2 {o : Oper} {ρ : Operand → Value} {x : Operand} {q : Nat} {m : Bool} {A : Option Addr} {l c : Nat} {W : World} (ho : o.op = .load 31 x) (h1 : ρ x = .pointer (some ⟨q, 0, none⟩)) (hc : W.cell? ⟨q, 0, none⟩ = some (.bool m)) (hd : W.cell? ⟨q, 1, none⟩ = some (.slice A l c)) : (execOp ρ o).run Tryz.prog W = .ok (.value (.agg #[.bool m, .slice A l c])) W := by
 obtain ⟨dst, op, ty, pos, after, guard⟩ := o
 simp only at ho
 subst ho
 go_simp
theorem run_bs1 {o : Oper} {ρ : Operand → Value} {x : Operand} {m : Bool} {A : Option Addr} {l c : Nat} {W : World} (ho : o.op = .buildSlice 66 1 #[(0, x)]) (h1 : ρ x = .agg #[.bool m, .slice A l c]) : (execOp ρ o).run Tryz.prog W = .ok (.value (.slice (some ⟨W.heap.size, 0, none⟩) 1 1)) (W.alloc (.cells #[.bool m, .slice A l c] 31)) := by
 obtain ⟨dst, op, ty, pos, after, guard⟩ := o
 simp only at ho
 subst ho
 go_simp
theorem run_st1 {o : Oper} {ρ : Operand → Value} {x y : Operand} {p : Addr} {v v' : Value} {W : World} (ho : o.op = .store 66 x y) (h1 : ρ x = .pointer (some p)) (h2 : ρ y = v') (hv : ∃ A l c, v' = .slice A l c) (hc : W.cell? p = some v) (hf : W.frozen? p = false) : (execOp ρ o).run Tryz.prog W = .ok .skip (W.setCell p v') := by
 obtain ⟨dst, op, ty, pos, after, guard⟩ := o
 simp only at ho
 subst ho
 obtain ⟨A, l, c, rfl⟩ := hv
 go_simp
theorem put_eval {a : Act} {d i : Nat} {u : Value} (hd : d < a.tmps.size) : (a.put (some d) u).eval (.tmp i) = if d = i then u else a.eval (.tmp i) := getD_put hd
theorem exp_body {l id1 id2 p3 q : Nat} {o1 o2 o3 o4 o5 : Oper} {a : Act} {R2 R4 : World} {Q : Exit → Act → World → Prop} {v v' : Value} {m : Bool} {A : Option Addr} {k c : Nat}
  (h1 : o1.op = .load 66 (.tmp 3)) (d1 : o1.dst = some 8) (g1 : o1.guard = none) (h2 : o2.op = .load 31 (.tmp 4)) (d2 : o2.dst = some 9) (g2 : o2.guard = none)
  (h3 : o3.op = .buildSlice 66 1 #[(0, .tmp 9)]) (d3 : o3.dst = some 10) (g3 : o3.guard = none)
  (h4 : o4.op = .call { callee := .builtin .append, args := #[.tmp 8, .tmp 10], argTypes := #[66, 66] }) (y4 : o4.type = 66) (d4 : o4.dst = some 11) (g4 : o4.guard = none)
  (h5 : o5.op = .store 66 (.tmp 3) (.tmp 11)) (d5 : o5.dst = none) (g5 : o5.guard = none)
  (hsz : a.tmps.size = 13) (e3 : a.eval (.tmp 3) = .pointer (some ⟨p3, 0, none⟩)) (e4 : a.eval (.tmp 4) = .pointer (some ⟨q, 0, none⟩))
  (c3 : R2.cell? ⟨p3, 0, none⟩ = some v) (ca : R2.cell? ⟨q, 0, none⟩ = some (.bool m)) (cb : R2.cell? ⟨q, 1, none⟩ = some (.slice A k c))
  (r : (Builtin.append_ #[66, 66] 66 #[v, .slice (some ⟨R2.heap.size, 0, none⟩) 1 1]).run Tryz.prog (R2.alloc (.cells #[.bool m, .slice A k c] 31)) = .ok v' R4)
  (c4 : R4.cell? ⟨p3, 0, none⟩ = some v) (f4 : R4.frozen? ⟨p3, 0, none⟩ = false) (hv : ∃ A l c, v' = .slice A l c) (hk : ∀ a', Q .normal a' (R4.setCell ⟨p3, 0, none⟩ v')) :
  (Code.block id1 (.region id2 #[o1, o2, o3, o4, o5] false)).wpIn (Fence.wide.inRound l) 0 Tryz.prog Q a R2 := by
 refine wpIn_block (wpIn_region_lit (l := [o1, o2, o3, o4, o5]) ?_)
 have z0 : ∀ {b : Act} {d : Nat} {u : Value}, b.tmps.size = 13 → (b.put (some d) u).tmps.size = 13 := fun h => by
  show (Array.setIfInBounds _ _ _).size = 13
  rw [Array.size_setIfInBounds, h]
 refine wpListIn_plain g1 fun K1 hK1 => wpIn_valR (fun c9 h9 => by rw [h1] at h9; cases h9) (run_ld1 h1 e3 c3) (hK1 _ _ ?_)
 rw [d1]
 have e4' : (a.put (some 8) v).eval (.tmp 4) = .pointer (some ⟨q, 0, none⟩) := by rw [put_eval (by omega), if_neg (by decide)]; exact e4
 refine wpListIn_plain g2 fun K2 hK2 => wpIn_valR (fun c9 h9 => by rw [h2] at h9; cases h9) (run_ld2 h2 e4' ca cb) (hK2 _ _ ?_)
 rw [d2]
 have s1 := z0 (d := 8) (u := v) hsz
 have e9 : ((a.put (some 8) v).put (some 9) (.agg #[.bool m, .slice A k c])).eval (.tmp 9) = .agg #[.bool m, .slice A k c] := by rw [put_eval (by omega), if_pos rfl]
 refine wpListIn_plain g3 fun K3 hK3 => wpIn_valR (fun c9 h9 => by rw [h3] at h9; cases h9) (run_bs1 h3 e9) (hK3 _ _ ?_)
 rw [d3]
 have s2 := z0 (d := 9) (u := .agg #[.bool m, .slice A k c]) s1
 have s3 := z0 (d := 10) (u := .slice (some ⟨R2.heap.size, 0, none⟩) 1 1) s2
 obtain ⟨b, hb⟩ : ∃ b, ((a.put (some 8) v).put (some 9) (.agg #[.bool m, .slice A k c])).put (some 10) (.slice (some ⟨R2.heap.size, 0, none⟩) 1 1) = b := ⟨_, rfl⟩
 have b8 : b.eval (.tmp 8) = v := by rw [← hb, put_eval (by omega), if_neg (by decide), put_eval (by omega), if_neg (by decide), put_eval (by omega), if_pos rfl]
 have b10 : b.eval (.tmp 10) = .slice (some ⟨R2.heap.size, 0, none⟩) 1 1 := by rw [← hb, put_eval (by omega), if_pos rfl]
 have b3 : b.eval (.tmp 3) = .pointer (some ⟨p3, 0, none⟩) := by rw [← hb, put_eval (by omega), if_neg (by decide), put_eval (by omega), if_neg (by decide), put_eval (by omega), if_neg (by decide)]; exact e3
 rw [hb] at s3
 rw [hb]
 have r4 : (execOp b.eval o4).run Tryz.prog (R2.alloc (.cells #[.bool m, .slice A k c] 31)) = .ok (.value v') R4 := by
  obtain ⟨dst, op, ty, pos, after, guard⟩ := o4
  simp only at h4 y4
  subst h4
  subst y4
  exact run_appop b8 b10 r
 refine wpListIn_plain g4 fun K4 hK4 => wpIn_valR (fun c9 h9 => by rw [h4] at h9; cases h9) r4 (hK4 _ _ ?_)
 rw [d4]
 have q3 : (b.put (some 11) v').eval (.tmp 3) = .pointer (some ⟨p3, 0, none⟩) := by rw [put_eval (by omega), if_neg (by decide)]; exact b3
 have q11 : (b.put (some 11) v').eval (.tmp 11) = v' := by rw [put_eval (by omega), if_pos rfl]
 refine wpListIn_plain g5 fun K5 hK5 => ⟨fun _ _ => trivial, ?_⟩
 rw [Oper.semAt_eq _ _ _ (fun c9 h9 => by rw [h5] at h9; cases h9), run_st1 h5 q3 q11 hv c4 f4, Oper.uponIn_skip]
 exact hK5 _ _ (wpListIn_nil (hk _))
theorem zip_one (T : Array Value) (k : Tmp) (u : Value) : Array.foldl (fun tmps (x : Tmp × Value) => tmps.setIfInBounds x.1 x.2) T ((#[k] : Array Tmp).zip #[u]) = T.setIfInBounds k u := by simp
theorem ce_terms1 : CE 133 := fun args W => by go_simp
set_option maxHeartbeats 1000000 in
set_option maxRecDepth 100000 in
theorem exp_c {x : Rat} {L : List Int} {m n : Nat} (h : CfR m x L n) (X : bq m x) (hm : m ≤ 1000) (hn : n ≤ 1000000) {w : World} {vx : Value} (hx : KQ x.num ((x.den : Int) - 1) vx w) :
  Calls Tryz.prog 33 #[vx] w (Ret w (KS w.heap.size 31 2 L.length (RsI L))) := by
 obtain ⟨mm, A, l, c, m2, A2, l2, c2, rfl, R1, R2⟩ := id hx
 refine (callsIn_wide (n := 2)).1 (callsIn_of_wp_marks Tryz.func33 rfl trivial ?_ rfl)
 simp only [Tryz.ntmps33, List.size_toArray, List.length_cons, List.length_nil, Nat.reduceAdd, Nat.reduceSub, Array.replicate_succ, Array.replicate_zero, List.push_toArray, List.append_toArray, List.nil_append, List.cons_append]
 gi_wp2_with (refine ⟨trivial, ?_⟩; gi_at_call 92; refine (callsIn_wide.2 (terms_c (w := (w.alloc (.cells #[.bool mm, .slice A l c, .bool m2, .slice A2 l2 c2] 38)).alloc (.cells #[.slice none 0 0] 66)))).mono ?_; rintro e w' ⟨rfl, rfl⟩)
 obtain ⟨W3, hW3⟩ : ∃ W3, W3 = ((w.alloc (.cells #[.bool mm, .slice A l c, .bool m2, .slice A2 l2 c2] 38)).alloc (.cells #[.slice none 0 0] 66)).alloc (.cells #[.bool mm, .slice A l c, .bool m2, .slice A2 l2 c2] 38) := ⟨_, rfl⟩
 have s3 : W3.heap.size = w.heap.size + 3 := by rw [hW3]; simp
 have n3 : Nw w W3 := by rw [hW3]; exact (((Nw.refl w).alloc _).alloc _).alloc _
 have c3 : W3.cell? ⟨w.heap.size + 1, 0, none⟩ = some (.slice none 0 0) := by rw [hW3]; go_simp
 have f3 : W3.frozen? ⟨w.heap.size + 1, 0, none⟩ = false := by rw [hW3]; go_simp
 have h3 : Holds (BQ 38) (w.heap.size + 2) (.agg #[.bool mm, .slice A l c, .bool m2, .slice A2 l2 c2]) W3 := by
  refine ⟨[.bool mm, .slice A l c, .bool m2, .slice A2 l2 c2], ⟨mm, A, l, c, m2, A2, l2, c2, rfl, rfl⟩, fun i y hi => ?_⟩
  rw [hW3]
  rcases four_at hi with ⟨rfl, rfl⟩ | ⟨rfl, rfl⟩ | ⟨rfl, rfl⟩ | ⟨rfl, rfl⟩ <;> exact ⟨by go_simp, by go_simp⟩
 rw [← hW3]
 clear hW3
 refine wpIn_rangeIt (gf := 133) (lb := #[.pointer (some ⟨w.heap.size + 2, 0, none⟩)]) rfl ce_terms1 ?_
 intro fn rec hrec
 have nA : Nw W3 ((W3.alloc (.deferred (some []))).alloc (.loop (rec .ready none))) := ((Nw.refl W3).alloc _).alloc _
 have hlA : ((W3.alloc (.deferred (some []))).alloc (.loop (rec .ready none))).heap[w.heap.size + 4]? = some (.loop (rec .ready none)) := by
  have := World.alloc_heap_new (W3.alloc (.deferred (some []))) (.loop (rec .ready none)); rwa [World.size_alloc, s3] at this
 have hdA : ((W3.alloc (.deferred (some []))).alloc (.loop (rec .ready none))).heap[w.heap.size + 3]? = some (.deferred (some [])) := by
  rw [Below.heap_alloc _ _ _ (by rw [World.size_alloc, s3]; omega)]
  have := World.alloc_heap_new W3 (.deferred (some [])); rwa [s3] at this
 generalize (W3.alloc (.deferred (some []))).alloc (.loop (rec .ready none)) = W4 at *
 have I0 : ExI w rec [] (.slice none 0 0) W4 := ⟨n3.trans nA, hlA, hdA, (nA.cell (p := ⟨w.heap.size + 1, 0, none⟩) (show w.heap.size + 1 < _ by omega)).trans c3, (nA.frozen (p := ⟨w.heap.size + 1, 0, none⟩) (show w.heap.size + 1 < _ by omega)).trans f3, OwS.nil _ _ _ _ _ (RsI.nil _) (RsI.st _), by simp [Value.ownBlock], by simp [Value.ownBlock]⟩
 rw [s3]
 refine (terms1_c (J := fun zs W => ∃ v, ExI w rec zs v W) h X hm (Holds.nw bQ h3 nA) ((KQ.st _ _) _ _ _ (IntK.of_below (n3.trans nA)) hx) (fun zs W W' ⟨v, hi⟩ ho => ⟨v, hi.only ho⟩) (fun zs W W' ⟨v, hi⟩ ho => ⟨v, hi.nw ho⟩) ?_ ⟨_, I0⟩).mono ?_
 ·rintro pre x wb W p3 u hlen ⟨v, hI0⟩ hnw hp3 hp3l ⟨m1, A1, l1, c1, rfl, hri⟩
  have hI := hI0.nw hnw
  have hy := run_yield (P := Tryz.prog) (args := #[.agg #[.bool m1, .slice A1 l1 c1]]) hI.hl (by rw [hrec]; rfl)
  have hst : (rec .ready none).state = .ready := by rw [hrec]
  refine ⟨_, _, _, _, hy, roundIn_of_wpIn trivial ?_⟩
  have hbR := run_beginRound (P := Tryz.prog) (w := W.alloc (.cells #[.bool m1, .slice A1 l1 c1] 31)) (l := w.heap.size + 4) ((Below.heap_alloc _ _ _ (heap_lt hI.hl)).trans hI.hl) hst
  generalize hB : (W.alloc (.cells #[.bool m1, .slice A1 l1 c1] 31)).putObj (w.heap.size + 4) (.loop { rec .ready none with state := .busy }) = R2 at hbR
  have hW : w.heap.size + 4 < W.heap.size := heap_lt hI.hl
  have sA : (W.alloc (.cells #[.bool m1, .slice A1 l1 c1] 31)).heap.size = W.heap.size + 1 := by simp
  have nB : Nw W (W.alloc (.cells #[.bool m1, .slice A1 l1 c1] 31)) := (Nw.refl W).alloc _
  have hlA2 := (nB.block _ hW).trans hI.hl
  have k2 : ∀ b, b ≠ w.heap.size + 4 → R2.heap[b]? = (W.alloc (.cells #[.bool m1, .slice A1 l1 c1] 31)).heap[b]? := fun b hb => by rw [← hB]; exact World.putObj_heap_other hb
  have s2 : R2.heap.size = W.heap.size + 1 := by rw [← hB]; simp
  have i2 : IntK W R2 := (IntK.of_below nB).trans (by rw [← hB]; exact IntK.putNo _ hlA2 rfl)
  have v2 : R2.cell? ⟨w.heap.size + 1, 0, none⟩ = some v := (World.cell?_of_block (k2 _ (by simp))).trans ((nB.cell (p := ⟨w.heap.size + 1, 0, none⟩) (show w.heap.size + 1 < _ by omega)).trans hI.hv)
  have f2 : R2.frozen? ⟨w.heap.size + 1, 0, none⟩ = false := (World.frozen?_of_block (k2 _ (by simp))).trans ((nB.frozen (p := ⟨w.heap.size + 1, 0, none⟩) (show w.heap.size + 1 < _ by omega)).trans hI.hf)
  have a2 : R2.cell? ⟨W.heap.size, 0, none⟩ = some (.bool m1) := (World.cell?_of_block (k2 _ (show W.heap.size ≠ _ by omega))).trans (by go_simp)
  have b2 : R2.cell? ⟨W.heap.size, 1, none⟩ = some (.slice A1 l1 c1) := (World.cell?_of_block (k2 _ (show W.heap.size ≠ _ by omega))).trans (by go_simp)
  have l2 : R2.heap[w.heap.size + 4]? = some (.loop { rec .ready none with state := .busy }) := by rw [← hB]; exact World.putObj_heap_same (by rw [sA]; omega)
  have d2 : R2.heap[w.heap.size + 3]? = some (.deferred (some [])) := (k2 _ (by omega)).trans ((nB.block _ (by omega)).trans hI.hd)
  have oA : OwS (W.alloc (.cells #[.bool m1, .slice A1 l1 c1] 31)) w.heap.size 31 2 v pre.length (RsI pre) := (show Ho w.heap.size (.rs v 31 2 pre.length (RsI pre)) undef W from hI.ho).nw nB
  have o2 : OwS R2 w.heap.size 31 2 v pre.length (RsI pre) := by rw [← hB]; exact oA.putNo _ hlA2 rfl
  have n23 : Nw R2 (R2.alloc (.cells #[.bool m1, .slice A1 l1 c1] 31)) := (Nw.refl R2).alloc _
  have o3 : OwS (R2.alloc (.cells #[.bool m1, .slice A1 l1 c1] 31)) w.heap.size 31 2 v pre.length (RsI pre) := (show Ho w.heap.size (.rs v 31 2 pre.length (RsI pre)) undef R2 from o2).nw n23
  obtain ⟨v', R4, r1, r2, r3, r4, r5⟩ := append_int o3 (OwS.one (hri.kept i2)) (by have := h.len; omega) (by rw [World.size_alloc, s2]; omega)
  have hrr : ({ ({ rec .ready none with state := .busy } : Loop) with state := if (none : Option Code).isNone then .ready else .done, pending := none } : Loop) = rec .ready none := by rw [hrec]; rfl
  have d3 := (n23.block _ (heap_lt l2)).trans l2
  have hle : w.heap.size ≤ (R2.alloc (.cells #[.bool m1, .slice A1 l1 c1] 31)).heap.size := by rw [World.size_alloc]; omega
  have s3' : (R2.alloc (.cells #[.bool m1, .slice A1 l1 c1] 31)).heap.size = W.heap.size + 2 := by rw [World.size_alloc, s2]
  have v3 : (R2.alloc (.cells #[.bool m1, .slice A1 l1 c1] 31)).cell? ⟨w.heap.size + 1, 0, none⟩ = some v := (n23.cell (p := ⟨w.heap.size + 1, 0, none⟩) (show w.heap.size + 1 < _ by omega)).trans v2
  have f3' : (R2.alloc (.cells #[.bool m1, .slice A1 l1 c1] 31)).frozen? ⟨w.heap.size + 1, 0, none⟩ = false := (n23.frozen (p := ⟨w.heap.size + 1, 0, none⟩) (show w.heap.size + 1 < _ by omega)).trans f2
  have b2' : Below w.heap.size w R2 := by rw [← hB]; exact Below.grown (hI.be.trans (Below.mono nB hI.be.size)) (grownBy_putObj' _ _ _) (by rw [sA]; omega) (fun j e => by injection e with e; omega)
  have b3 : Below w.heap.size w (R2.alloc (.cells #[.bool m1, .slice A1 l1 c1] 31)) := b2'.trans (Below.mono n23 b2'.size)
  have l3 := o3.noObj d3 rfl
  have k3 : ∀ b, b ≠ w.heap.size + 4 → b < W.heap.size → (R2.alloc (.cells #[.bool m1, .slice A1 l1 c1] 31)).heap[b]? = W.heap[b]? := fun b h1 h2 => (n23.block b (by omega)).trans ((k2 b h1).trans (nB.block b h2))
  have i3 : IntK W (R2.alloc (.cells #[.bool m1, .slice A1 l1 c1] 31)) := i2.trans (IntK.of_below n23)
  have d3d : (R2.alloc (.cells #[.bool m1, .slice A1 l1 c1] 31)).heap[w.heap.size + 3]? = some (.deferred (some [])) := (n23.block _ (heap_lt d2)).trans d2
  have ld := o3.noObj d3d rfl
  have hvs : ∃ A l c, v = .slice A l c := by obtain ⟨A, c, e, _⟩ := o3.form; exact ⟨A, _, c, e⟩
  have bs3 := o3.base
  generalize hR3 : R2.alloc (.cells #[.bool m1, .slice A1 l1 c1] 31) = R3 at r1 r3 r4 r5 d3 hle s3' v3 f3' b3 l3 k3 i3 d3d ld bs3
  have hb4 : ∀ b, v.ownBlock ≠ some b → b < R3.heap.size → R4.heap[b]? = R3.heap[b]? := fun b h1 h2 => r3.block b h2 (fun e => h1 e.symm)
  have c4 := (World.cell?_of_block (a := ⟨w.heap.size + 1, 0, none⟩) (hb4 (w.heap.size + 1) hI.n1 (by omega))).trans v3
  have f4 := (World.frozen?_of_block (a := ⟨w.heap.size + 1, 0, none⟩) (hb4 (w.heap.size + 1) hI.n1 (by omega))).trans f3'
  have l4 := (hb4 (w.heap.size + 4) l3 (by omega)).trans d3
  have d4 := (hb4 (w.heap.size + 3) ld (by omega)).trans d3d
  have b4 : Below w.heap.size w R4 := Below.grown b3 r3 hle (fun j e => bs3 j e)
  have hv4 : ∃ A l c, v' = .slice A l c := by obtain ⟨A, c, e, _⟩ := r2.form; exact ⟨A, _, c, e⟩
  have m1' : v'.ownBlock ≠ some (w.heap.size + 1) := fun e => by
   rcases r5 with r5 | r5
   ·exact hI.n1 (r5.symm.trans e)
   ·rw [r5] at e; injection e with e; omega
  have m2' : v'.ownBlock ≠ some (w.heap.size + 2) := fun e => by
   rcases r5 with r5 | r5
   ·exact hI.n2 (r5.symm.trans e)
   ·rw [r5] at e; injection e with e; omega
  have i5 : IntK R4 (R4.setCell ⟨w.heap.size + 1, 0, none⟩ v') := IntK.set (IntK.refl _) c4 (by obtain ⟨A, l, c, rfl⟩ := hvs; intro k x; simp)
  have o5 : OwS (R4.setCell ⟨w.heap.size + 1, 0, none⟩ v') w.heap.size 31 2 v' (pre ++ [flq x]).length (RsI (pre ++ [flq x])) := r2.off (grown_set R4 (w.heap.size + 1) 0 v') i5 m1'
  have l5 := (Below.heap_setCell R4 ⟨w.heap.size + 1, 0, none⟩ v' (w.heap.size + 4) (by simp)).trans l4
  have d5 := (Below.heap_setCell R4 ⟨w.heap.size + 1, 0, none⟩ v' (w.heap.size + 3) (by simp)).trans d4
  have b5 : Below w.heap.size w (R4.setCell ⟨w.heap.size + 1, 0, none⟩ v') := b4.setCell (p := ⟨w.heap.size + 1, 0, none⟩) (Nat.le_succ _) v'
  have v5 : (R4.setCell ⟨w.heap.size + 1, 0, none⟩ v').cell? ⟨w.heap.size + 1, 0, none⟩ = some v' := World.cell?_setCell_same' _ _ _ (by rw [c4]; rfl)
  have f5 : (R4.setCell ⟨w.heap.size + 1, 0, none⟩ v').frozen? ⟨w.heap.size + 1, 0, none⟩ = false := by rw [World.frozen?_setCell]; exact f4
  have s5 : (R4.setCell ⟨w.heap.size + 1, 0, none⟩ v').heap.size = R4.heap.size := by simp
  have k5 : ∀ b, b ≠ w.heap.size + 4 → b ≠ w.heap.size + 1 → v.ownBlock ≠ some b → b < W.heap.size → (R4.setCell ⟨w.heap.size + 1, 0, none⟩ v').heap[b]? = W.heap[b]? := fun b h1 h2 h3 h4 => (Below.heap_setCell R4 ⟨w.heap.size + 1, 0, none⟩ v' b h2).trans ((hb4 b h3 (by omega)).trans (k3 b h1 h4))
  have hown : ∀ g, v.ownBlock = some g → g < wb.heap.size := fun g hg => hI0.ho.lt hg
  have he := run_endRound (P := Tryz.prog) none l5
  rw [hrr] at he
  refine wpIn_mono (Q := fun e a' W' => e = .normal ∧ a'.tmps.size = 13 ∧ a'.eval (.tmp 3) = .pointer (some ⟨w.heap.size + 1, 0, none⟩) ∧ a'.eval (.tmp 4) = .pointer (some ⟨W.heap.size, 0, none⟩) ∧ W' = W.alloc (.cells #[.bool m1, .slice A1 l1 c1] 31)) ?_ ?_
  ·rw [hrec]
   simp only [zip_one]
   gi_wp2
  ·rintro e a' W' ⟨rfl, hsz, e3, e4, rfl⟩
   refine ⟨R2, hbR, ?_⟩
   have hbd := congrArg (fun r => (r LoopState.ready none).body) hrec
   dsimp only at hbd
   rw [hbd]
   refine exp_body rfl rfl rfl rfl rfl rfl rfl rfl rfl rfl rfl rfl rfl rfl rfl rfl hsz e3 e4 v2 a2 b2 (by rw [hR3]; exact r1) c4 f4 hv4 (fun a9 => ⟨_, _, he, rfl, ⟨⟨v', ?_⟩, ?_⟩, ?_, ?_⟩)
   ·exact ⟨Below.grown b5 (grownBy_putObj' _ _ _) (by rw [s5]; have := r3.size; omega) (fun j e => by injection e with e; omega), World.putObj_heap_same (heap_lt l5), (World.putObj_heap_other (by simp)).trans d5, (World.cell?_of_block (World.putObj_heap_other (by simp))).trans v5, (World.frozen?_of_block (World.putObj_heap_other (by simp))).trans f5, o5.putNo _ l5 rfl, m1', m2'⟩
   ·exact (i3.trans r4).trans (i5.trans (IntK.putNo _ l5 rfl))
   ·exact (World.putObj_heap_other (by simp)).trans (k5 _ (by simp) (by simp) hI.n2 (by omega))
   ·exact (World.putObj_heap_other (by have := heap_lt hI0.hl; omega)).trans (k5 p3 (by have := heap_lt hI0.hl; omega) (by have := heap_lt hI0.hl; omega) (fun e => by have := hown _ e; omega) hp3l)
 ·rintro e W' ⟨hv, v, hI⟩
  have hp : (rec .ready none).pending = none := by rw [hrec]
  have hst : (rec .ready none).state ≠ .busy := by rw [hrec]; simp
  have he := run_endLoop (P := Tryz.prog) hI.hl hst
  generalize hW5 : W'.putObj (w.heap.size + 4) _ = W5 at he
  rw [hp] at he
  refine ⟨hv, W5, he, ?_⟩
  have n5 : W'.grownBy W5 (some (w.heap.size + 4)) := by rw [← hW5]; exact grownBy_putObj' _ _ _
  have b5 := Below.grown hI.be n5 hI.be.size (fun j e => by injection e with e; omega)
  have o5 : OwS W5 w.heap.size 31 2 v L.length (RsI L) := by rw [← hW5]; exact hI.ho.putNo _ hI.hl rfl
  have d5 := (n5.block (w.heap.size + 3) (heap_lt hI.hd) (by simp)).trans hI.hd
  have e1 := n5.block (w.heap.size + 1) (by have := heap_lt hI.hd; omega) (by simp)
  have v5 := (World.cell?_of_block (a := ⟨w.heap.size + 1, 0, none⟩) e1).trans hI.hv
  have g5 := (World.frozen?_of_block (a := ⟨w.heap.size + 1, 0, none⟩) e1).trans hI.hf
  clear hW5
  gi_wp2
  refine ⟨by simp, .inl ⟨_, _, rfl, run_takeDeferred d5, ?_⟩⟩
  refine ⟨_, results_tmp rfl _ _ _, _, rfl, ?_, ?_⟩
  ·exact o5.putNo _ d5 rfl
  ·exact Below.grown b5 (grownBy_putObj' _ _ _) b5.size (fun j e => by injection e with e; omega)
end Go.Proofs.YthpjmhhfcechmaaGreat.Sy
/- Simplest of any range that is one. -/
namespace Go.Proofs.YthpjmhhfcechmaaGreat.Sy
open Go Go.RowKit Ma
theorem len_fit {m n : Nat} (hm : m ≤ 20) (h : n ≤ 64 * m + 2) : (m + 4) * n ≤ 40000 := by
 have := Nat.mul_le_mul (show m + 4 ≤ 24 by omega) (show n ≤ 1282 by omega)
 omega
theorem sgq_posI {x : Rat} (h : 0 < sgq x) : 0 < x := by
 apply (num_pos_iff x).1
 unfold sgq sgn at h
 split at h
 ·omega
 ·split at h <;> omega
theorem sgq_negI {x : Rat} (h : sgq x < 0) : x < 0 := by
 apply (num_neg_iff x).1
 unfold sgq sgn at h
 split at h
 ·omega
 ·split at h <;> omega
end Go.Proofs.YthpjmhhfcechmaaGreat.Sy
/- The closure of RationalSimple, by rules. -/
namespace Go.Proofs.YthpjmhhfcechmaaGreat.Sy
open Go Go.RowKit Ma
end Go.Proofs.YthpjmhhfcechmaaGreat.Sy
/- A walk by rules: an array of the program's integers, as a row of the call's own. -/
namespace Go.Proofs.YthpjmhhfcechmaaGreat.Sy
open Go Go.RowKit Ma
section
variable {B N : Nat} {w0 : World} {ops : Array Oper} {o : Oper} {rest : List Oper} {fr : List (Nat × AV)} {Q : Exit → Act → World → Prop} {d : Nat}
end
section
variable {x y : Operand} {dst : Option Tmp} {ty : TypeId} {pos : String} {after : Array Edge} {guard : Option (Nat × Bool)} {ρ : Operand → Value} {W : World}
end
end Go.Proofs.YthpjmhhfcechmaaGreat.Sy
/- The contract of rounded: four functions, one of which looks into a box. -/
namespace Go.Proofs.YthpjmhhfcechmaaGreat.Sy
open Go Go.RowKit Ma
abbrev fv (f : Nat) : Value := .func (.func f) #[] #[]
def four (p : Nat) : Value := .agg #[fv 131, fv 135, .func (.func 136) #[] #[.pointer (some ⟨p, 0, none⟩)], fv 137]
end Go.Proofs.YthpjmhhfcechmaaGreat.Sy
/- A walk by rules: a statement that draws its order, by an invariant over what was carried out; functions as values. -/
namespace Go.Proofs.YthpjmhhfcechmaaGreat.Sy
open Go Go.RowKit Ma
theorem SC.inv {B N : Nat} {w0 : World} {id : Nat} {l : List Oper} {fr : List (Nat × AV)} {Q : Exit → Act → World → Prop} (m : Nat) (I : (Nat → Bool) → Act → World → Prop) (hlen : Nat.ble m l.length = true)
  (h1 : backB l.toArray = true) (hc : tailB l.toArray m = true) (h0 : ∀ a W, Fr B N w0 fr a W → I (fun _ => false) a W) (hI : ∀ L L' a W, (∀ j, L j = L' j) → I L a W → I L' a W)
  (hs : ∀ i o, i < m → l.toArray[i]? = some o → ∀ L a W, Dn l.toArray L → L i = false → (∀ j, wt l.toArray i j = true → L j = true) → I L a W → ∀ K : Act → World → Prop, (∀ a' W', I (add L i) a' W' → K a' W') → wpOp Tryz.prog l.toArray Q i K a W)
  (hk : ∀ L a W, (∀ j, j < m → L j = true) → I L a W → wpList Tryz.prog l.toArray Q (l.drop m) a W) : SC B N w0 (.region id l.toArray true) fr Q := fun a W hf => by
 have hd : Nw W W.drew := (Nw.refl W).drew
 have hlen : m ≤ l.length := Nat.le_of_ble_eq_true hlen
 refine wp_region_any (by kernel_rfl) ?_
 have key : ∀ (fuel : Nat) (listed : Array Bool) (a : Act) (W : World), listed.size = l.length → Dn l.toArray (fun j => listed.getD j false) → (∀ j, m ≤ j → j < l.length → listed.getD j false = false) → lft l.length (fun j => listed.getD j false) ≤ fuel → I (fun j => listed.getD j false) a W → wpAny Tryz.prog .any l.toArray Q fuel listed a W := by
  intro fuel
  induction fuel with
  | zero =>
   intro listed a W hz hD hT hl hf
   have hall := lft_zero l.length (Nat.le_zero.1 hl)
   refine tail_run h1 hc (l.drop m) m 0 listed a W rfl (Nat.le_refl _) hz hD (fun j hj => ?_) ?_ (hk _ a W (fun k hk2 => hall k (by omega)) hf)
   ·rw [hall j hj]
    by_cases e : j < m
    ·simp [e]
    ·have := hT j (by omega) hj; rw [hall j hj] at this; cases this
   ·have := lft_ge l.length hT
    simp; omega
  | succ fuel ih =>
   intro listed a W hz hD hT hl hf
   have hzz : listed.size = l.toArray.size := by simpa using hz
   by_cases hall : ∀ j, j < m → listed.getD j false = true
   ·refine tail_run h1 hc (l.drop m) m (fuel + 1) listed a W rfl (Nat.le_refl _) hz hD (fun j hj => ?_) ?_ (hk _ a W (fun k hk2 => hall k (by omega)) hf)
    ·by_cases e : j < m
     ·rw [hall j e]; simp [e]
     ·rw [hT j (by omega) hj]; simp [e]
    ·have := lft_ge l.length hT
     simp; omega
   ·obtain ⟨k, hk1, hk2, hk3⟩ := least hall
    refine ⟨fun hr => ?_, fun i hi => ?_⟩
    ·have := ready_min h1 hzz (k := k) (by simp; omega) hk2 hk3
     rw [hr] at this
     cases this
    ·obtain ⟨a1, a2, a3⟩ := wt_ready hi
     have a1' : i < l.length := by simpa using a1
     have him : i < m := by
      by_cases e : i < m
      ·exact e
      ·have := tailB_spec hc hD (i := i) (by omega) a1 a3 k (by omega)
       rw [hk2] at this; cases this
     have hoo : l.toArray[i]? = some l[i] := by simp [a1']
     have hLadd := set_add (listed := listed) (i := i) (by omega)
     refine hs i l[i] him hoo _ a W hD a2 a3 hf _ fun a' W' hf' => ih _ a' W' (by simpa using hz) ?_ ?_ ?_ ?_
     ·rw [hLadd]; exact dn_set hD a3
     ·intro j hj hj2
      rw [congrFun hLadd j]
      unfold add
      rw [if_neg (by omega)]
      exact hT j hj hj2
     ·rw [hLadd]
      have := lft_add (L := fun j => listed.getD j false) (i := i) a2 l.length a1'
      omega
     ·rw [hLadd]
      exact hf'
 refine key _ _ a W.drew (by simp) (fun i j hi => ?_) (fun j _ hj => by simp [hj]) ?_ ?_
 ·exfalso
  rcases Nat.lt_or_ge i l.length with h' | h'
  ·simp [h'] at hi
  ·simp [Array.getElem?_eq_none, h'] at hi
 ·have : ∀ n, lft n (fun j => (Array.replicate l.toArray.size false).getD j false) ≤ n := by
   intro n
   induction n with
   | zero => exact Nat.le_refl _
   | succ n ih => unfold lft; split <;> omega
  simpa using this l.length
 ·refine hI (fun _ => false) _ a _ (fun k => ?_) (h0 a _ (hf.nw hd))
  rcases Nat.lt_or_ge k l.length with h' | h'
  ·simp [h']
  ·simp [Array.getElem?_eq_none, h']
theorem look_cur_congr {L : Nat → Bool} : ∀ (es : List Eff) (i : Nat) (f g : List (Nat × AV)), (∀ s, look f s = look g s) → ∀ s, look (cur i es L f) s = look (cur i es L g) s
 | [], _, f, g, h, s => h s
 | e :: es, i, f, g, h, s => by
  unfold cur
  refine look_cur_congr es (i + 1) _ _ (fun s' => ?_) s
  by_cases hL : L i = true
  ·rw [if_pos hL, if_pos hL, show e.ent = (e.ent.1, e.ent.2) from rfl, look_cons, look_cons, h]
  ·rw [if_neg hL, if_neg hL, h]
theorem look_cur_base {L : Nat → Bool} {K : Nat} {v : AV} : ∀ (es : List Eff) (i : Nat) (f : List (Nat × AV)), (∀ e ∈ es, e.slot ≠ K) → ∀ s, look (cur i es L ((K, v) :: f)) s = look ((K, v) :: cur i es L f) s
 | [], _, f, h, s => rfl
 | e :: es, i, f, h, s => by
  unfold cur
  have hne : e.ent.1 ≠ K := by rw [Eff.ent_slot]; exact h e (by simp)
  by_cases hL : L i = true
  ·rw [if_pos hL, if_pos hL]
   rw [look_cur_congr es (i + 1) (e.ent :: (K, v) :: f) ((K, v) :: e.ent :: f) (fun s' => by
    rw [show e.ent = (e.ent.1, e.ent.2) from rfl]
    simp only [look_cons]
    by_cases e1 : e.ent.1 = s'
    ·subst e1; rw [if_pos rfl, if_neg (fun x => hne x.symm), if_pos rfl]
    ·rw [if_neg e1, if_neg e1]) s]
   exact look_cur_base es (i + 1) _ (fun e' he => h e' (by simp [he])) s
  ·rw [if_neg hL, if_neg hL]
   exact look_cur_base es (i + 1) _ (fun e' he => h e' (by simp [he])) s
theorem run_callF {c : Call} {f : FuncId} {s : Nat} {caps : Array Value} (ce : CE f) (hc : c.callee = .value (.tmp s)) (ρ : Operand → Value) (hρ : ρ (.tmp s) = .func (.func f) #[] caps) (ty : TypeId) (W : World) {dst : Option Tmp} {pos : String} {after : Array Edge} {guard : Option (Nat × Bool)} :
  (execOp ρ ⟨dst, .call c, ty, pos, after, guard⟩).run Tryz.prog W = .ok (.enter f (c.args.map ρ ++ caps)) W := by
 obtain ⟨cal, args, ats⟩ := c
 simp only at hc
 subst hc
 have := ce (args.map ρ ++ caps) W
 simp [execOp, resolve, hρ, go_sem, this]
end Go.Proofs.YthpjmhhfcechmaaGreat.Sy
/- Quotient of fractions, both sides, by rules. -/
namespace Go.Proofs.YthpjmhhfcechmaaGreat.Sy
open Go Go.RowKit Ma
section
variable {B N : Nat} {w0 : World} {ops : Array Oper} {o : Oper} {rest : List Oper} {fr : List (Nat × AV)} {Q : Exit → Act → World → Prop} {d : Nat}
theorem PW.callF {c : Call} {f : FuncId} {ks : List Know} {r : AV} {s : Nat} (hw : wantB ops fr o = some true) (hd : o.dst = some d) (hN : Nat.blt d N = true) (ho : o.op = .call c) (hc : c.callee = .value (.tmp s)) (hs : look fr s = some (.vl (fv f))) (ha : opks fr c.args.toList = some ks) (hst : St r.of) (hr : r.isBx = false)
  (h : CallOk f ks r.of) (hk : PW B N w0 ops rest ((d, r) :: fr) Q) : PW B N w0 ops (o :: rest) fr Q :=
 PW.step hw fun a W hf K hK => by
  obtain ⟨dst, op, ty, pos, after, guard⟩ := o
  simp only at ho hd
  subst ho
  subst hd
  unfold Oper.wp
  rw [run_callF h.1 hc a.eval (hf.ho s _ hs) ty W]
  simp only [Oper.upon]
  have e : (c.args.toList.map a.eval).toArray = c.args.map a.eval ++ #[] := by rw [← Array.toList_map, Array.toArray_toList, Array.append_empty]
  have := h.2 W _ (opks_spec hf ha)
  rw [e] at this
  refine this.mono fun e W' ⟨v, he, hv, hn⟩ => ?_
  subst he
  exact hK _ _ (hk _ _ ((hf.nw hn).set hN (Ho.mk hr hv hst) hr))
end

theorem twice_off {ops : Array Oper} {es : List Eff} (h : twiceB ops es = true) {L : Nat → Bool} (hD : Dn ops L) {i : Nat} {e : Eff} (he : es[i]? = some e) (hL : L i = false) : ∀ k e', i < k → es[k]? = some e' → e'.slot = e.slot → L k = false := fun k e' hik hk hsl => by
 cases hk2 : L k with
 | false => rfl
 | true => exact absurd ((hD k i hk2 (twice_spec h hik hk he hsl)).symm.trans hL) (by simp)
theorem step_see {B N : Nat} {w0 : World} {ops : Array Oper} {es : List Eff} {base : List (Nat × AV)} {i : Nat} {o : Oper} {e : Eff} {L : Nat → Bool} {Q : Exit → Act → World → Prop} (hi : ops[i]? = some o) (he : es[i]? = some e) (htw : twiceB ops es = true) (js ss : List Nat) (hsb : seeB ops es i js ss = true) (hE : Eo B N w0 ops o (see es base js ss) e) (hcal : e.isR = false) (hD : Dn ops L) (hL : L i = false) (hw : ∀ j, wt ops i j = true → L j = true)
  {a : Act} {W : World} (hf : Fr B N w0 (cur 0 es L base) a W) {K : Act → World → Prop} (hK : ∀ a' W', Fr B N w0 (cur 0 es (add L i) base) a' W' → K a' W') : wpOp Tryz.prog ops Q i K a W :=
 hE.step hi hf (see_spec hD hL hw js ss hsb) (fun hr => by rw [hcal] at hr; cases hr) fun a' W' hf' => hK a' W' (hf'.ext fun s => look_add he hL (twice_off htw hD he hL) s)
theorem PW.go {B N : Nat} {w0 : World} {ops : Array Oper} {rest : List Oper} {fr : List (Nat × AV)} {Q : Exit → Act → World → Prop} {a : Act} {W : World} (hf : Fr B N w0 fr a W) (h : PW B N w0 ops rest fr Q) : wpList Tryz.prog ops Q rest a W := h a W hf
theorem ce_k_jrfloor : CE 99 := fun args W => by go_simp
set_option maxHeartbeats 6400000 in
set_option maxRecDepth 100000 in
theorem k_jrfloor {x : Rat} {a : Nat} (X : bq a x) (ha : a ≤ 20000) : CallOk 99 [KR3 (x).num ((x).den : Int)] (KJ (flq x)) := by
 refine CallOk.enter (l := [.kw (KR3 (x).num ((x).den : Int))]) 8 ce_k_jrfloor Tryz.func99 rfl Tryz.ntmps99 (by simp) ⟨(KR3.st _ _), rfl, trivial⟩ fun w => ?_
 refine SC.seq (SC.region ?_)
 refine PW.box (x := .tmp 0) (r := .kw (KR3 (x).num ((x).den : Int))) (BQ 43) rfl rfl rfl rfl rfl bQJ rfl sh_R3 ?_
 refine PW.alloc (BI 34) rfl rfl rfl rfl rfl bJ ?_
 refine PW.nil (SX.then (SC.seq (SC.region ?_)))
 refine PW.fld (r := .kw (KJ ((x).num))) rfl rfl rfl rfl rfl rfl rfl rfl rfl rfl rfl fldR0 (KJ.st _) ?_
 refine PW.fld (r := .kw (KJ (((x).den : Int)))) rfl rfl rfl rfl rfl rfl rfl rfl rfl rfl rfl fldR1 (KJ.st _) ?_
 refine PW.call (r := .kw (KJ (((x).num) / (((x).den : Int))))) rfl rfl rfl rfl rfl rfl (KJ.st _) rfl (k_jfloor X.1 X.2 (by omega) (by omega) (den_pos x)) ?_
 refine PW.store (x := .tmp 7) (r := .kw (KJ (((x).num) / (((x).den : Int))))) rfl rfl rfl rfl rfl rfl sh_J ?_
 refine PW.nil (SX.then (SC.ret ?_))
 rw [show flq x = _ from rfl]
 exact SX.doneC (s := 2) (.inl rfl) rfl rfl rfl
end Go.Proofs.YthpjmhhfcechmaaGreat.Sy
/- A walk by rules: a call that hands back a row of its own; that row read. -/
namespace Go.Proofs.YthpjmhhfcechmaaGreat.Sy
open Go Go.RowKit Ma
section
variable {B N : Nat} {w0 : World} {ops : Array Oper} {o : Oper} {rest : List Oper} {fr : List (Nat × AV)} {Q : Exit → Act → World → Prop} {d : Nat}
end
section
variable {x y : Operand} {dst : Option Tmp} {ty : TypeId} {pos : String} {after : Array Edge} {guard : Option (Nat × Bool)} {ρ : Operand → Value} {W : World} {g n c i : Nat}
end
theorem ce_exp : CE 33 := fun args W => by go_simp
end Go.Proofs.YthpjmhhfcechmaaGreat.Sy
/- RationalSimple: the walk, by rules. -/
namespace Go.Proofs.YthpjmhhfcechmaaGreat
open Go.RowKit Ma Sy
theorem cf_bd {m n : Nat} {x : Rat} {L : List Int} (h : CfR m x L n) : ∀ i, bd (m + 1) (at0 L i) := fun i => by
 by_cases hi : i < L.length
 ·rw [at0_of_lt hi]; exact (h.b _ (List.getElem_mem hi)).mono (by omega)
 ·rw [Ma.at0, List.getD_eq_getElem?_getD, List.getElem?_eq_none (by omega)]; exact bd.zero
end Go.Proofs.YthpjmhhfcechmaaGreat
/- A walk by rules: rows of the reference's integers. -/
namespace Go.Proofs.YthpjmhhfcechmaaGreat.Sy
open Go Go.RowKit Ma
def Rsj (w : World) (rs : List Nn) (zs : List Int) : Prop := rs.length = zs.length ∧ ∀ i n A l c, rs[i]? = some (n, A, l, c) → RJ w n A l c (at0 zs i)
theorem info_Ij : (Tryz.prog.info? 34).map (fun i => (i.zero, i.size, i.bytes)) = some (some (.agg #[.bool false, .slice none 0 0]), 2, 32) := by kernel_rfl
def RsJ (zs : List Int) : List Value → World → Prop := fun xs w => ∃ rs, xs = flat rs ∧ Rsj w rs zs
theorem RsJ.st (zs : List Int) : ∀ xs w1 w2, IntK w1 w2 → RsJ zs xs w1 → RsJ zs xs w2 := fun xs w1 w2 hk ⟨rs, e, h1, h2⟩ => ⟨rs, e, h1, fun i n A l c e => (h2 i n A l c e).kept hk⟩
theorem RsJ.append {zs ys : List Int} {xs us : List Value} {w : World} (h : RsJ zs xs w) (k : RsJ ys us w) : RsJ (zs ++ ys) (xs ++ us) w := by
 obtain ⟨rs, rfl, h1, h2⟩ := h
 obtain ⟨qs, rfl, k1, k2⟩ := k
 refine ⟨rs ++ qs, (flat_append _ _).symm, by simp [h1, k1], fun i n A l c e => ?_⟩
 by_cases hi : i < rs.length
 ·rw [List.getElem?_append_left hi] at e
  have := h2 i n A l c e
  simpa only [at0, List.getD_eq_getElem?_getD, List.getElem?_append_left (show i < zs.length by omega)] using this
 ·rw [List.getElem?_append_right (by omega)] at e
  have := k2 _ n A l c e
  simpa only [at0, List.getD_eq_getElem?_getD, List.getElem?_append_right (show zs.length ≤ i by omega), h1] using this
theorem RsJ.nil (w : World) : RsJ [] [] w := ⟨[], rfl, rfl, fun i n A l c e => by simp at e⟩
section
variable {B N : Nat} {w0 : World} {ops : Array Oper} {o : Oper} {rest : List Oper} {fr : List (Nat × AV)} {Q : Exit → Act → World → Prop} {d : Nat}
theorem OwS.onej {W : World} {m : Bool} {A : Option Addr} {l c : Nat} {z : Int} (h : RJ W m A l c z) : OwS (W.alloc (.cells #[.bool m, .slice A l c] 34)) W.heap.size 34 2 (.slice (some ⟨W.heap.size, 0, none⟩) 1 1) 1 (RsJ [z]) := by
 refine ⟨⟨[.bool m, .slice A l c], ⟨by simp, .inr ⟨W.heap.size, 1, _, rfl, Nat.le_refl _, heap_alloc_new W _, Nat.le_refl _, by unfold maxLen; omega, by simp, by simp⟩⟩, [(m, A, l, c)], rfl, rfl, fun i n' A' l' c' e => ?_⟩, ?_, RsJ.st _⟩
 ·match i, e with
  | 0, e =>
   simp at e
   obtain ⟨rfl, rfl, rfl, rfl⟩ := e
   exact h.kept (IntK.alloc _ _)
  | i + 1, e => simp at e
 ·intro g hg
  injection hg with hg
  subst hg
  refine ⟨_, _, _, heap_alloc_new W _, fun u hu => ?_⟩
  have : u = .bool m ∨ u = .slice A l c := by simpa using hu
  rcases this with rfl | rfl
  ·exact fun k x => by simp
  ·exact fun k x => by simp
theorem DX.bzj {z : Int} {x : Operand} (hg : o.guard = none) (hd : o.dst = some d) (hN : Nat.blt d N = true) (hx : opv fr x = some (.kw (KJ z)))
  (hr : ∀ (ρ : Operand → Value) (W : World) (m : Bool) (A : Option Addr) (l c : Nat), ρ x = .agg #[.bool m, .slice A l c] → (execOp ρ o).run Tryz.prog W = .ok (.value (.slice (some ⟨W.heap.size, 0, none⟩) 1 1)) (W.alloc (.cells #[.bool m, .slice A l c] 34))) : Eo B N w0 ops o fr (.gs d 34 2 1 (RsJ [z])) :=
 ⟨hd, hN, hg, fun a W hf => by
  obtain ⟨⟨m, A, l, c, e1, h1⟩, _⟩ := (opv_spec hf hx).1
  unfold Rh.gives
  rw [hr a.eval W m A l c e1]
  exact ⟨(Nw.refl W).alloc _, OwS.onej h1⟩⟩
theorem PW.bzj {z : Int} {x : Operand} (hw : wantB ops fr o = some true) (hd : o.dst = some d) (hN : Nat.blt d N = true) (hx : opv fr x = some (.kw (KJ z)))
  (hr : ∀ (ρ : Operand → Value) (W : World) (m : Bool) (A : Option Addr) (l c : Nat), ρ x = .agg #[.bool m, .slice A l c] → (execOp ρ o).run Tryz.prog W = .ok (.value (.slice (some ⟨W.heap.size, 0, none⟩) 1 1)) (W.alloc (.cells #[.bool m, .slice A l c] 34))) (hk : PW B N w0 ops rest ((d, .rz 34 2 1 (RsJ [z])) :: fr) Q) : PW B N w0 ops (o :: rest) fr Q :=
 PW.step hw fun a W hf K' hK' => by
  obtain ⟨⟨m, A, l, c, e1, h1⟩, _⟩ := (opv_spec hf hx).1
  unfold Oper.wp
  rw [hr a.eval W m A l c e1, Oper.upon_value, hd]
  have hn : Nw W (W.alloc (.cells #[.bool m, .slice A l c] 34)) := (Nw.refl W).alloc _
  refine hK' _ _ (hk _ _ ((hf.nw hn).put hN (v := .rz 34 2 1 (RsJ [z])) (OwS.weaken (OwS.onej h1) hf.bs) fun i v' q hi e1 e2 => ?_))
  have a1 := (OwS.onej h1).base q e1
  have a2 := (hf.ho i _ hi).blk e2
  omega
theorem PW.apzj {T : TypeId} {K s x : Nat} {v : Value} {zs : List Int} {z : Int} (hw : wantB ops fr o = some true) (hd : o.dst = some d) (hN : Nat.blt d N = true) (ho : o.op = .call { callee := .builtin .append, args := #[.tmp s, .tmp x], argTypes := #[T, T] }) (hs : look fr s = some (.vl v)) (hx : look fr x = some (.rz 34 2 1 (RsJ [z])))
  (hK : look fr K = some (.rs v 34 2 zs.length (RsJ zs))) (hu : Tryz.prog.underlying T = some (.slice 34)) (hn : zs.length + 1 ≤ 4000000) (hKN : Nat.ble N K = true) (hk : ∀ v', PW B N w0 ops rest ((K, .rs v' 34 2 (zs ++ [z]).length (RsJ (zs ++ [z]))) :: (d, .vl v') :: fr) Q) : PW B N w0 ops (o :: rest) fr Q :=
 PW.step hw fun a W hf K' hK' => by
  have s1 : a.eval (.tmp s) = v := hf.ho s _ hs
  have own : OwS W B 34 2 v zs.length (RsJ zs) := hf.ho K _ hK
  have ownx : OwS W B 34 2 (a.eval (.tmp x)) 1 (RsJ [z]) := hf.ho x _ hx
  obtain ⟨⟨xs, p1, p2⟩, p3, p4⟩ := own
  obtain ⟨⟨us, x1, x2⟩, x3, x4⟩ := ownx
  rcases x1.2 with ⟨_, h0⟩ | ⟨gx, cx, curx, ex, _⟩
  ·cases h0
  obtain ⟨i0, q1, q2, q3, q4⟩ := info_parts info_Ij
  obtain ⟨qs, rfl, hq⟩ := id x2
  have hone := flat_one qs
  have hcells : ∀ j u, (flat qs)[j]? = some u → W.cell? ((⟨gx, 0, none⟩ : Addr).add j) = some u := x1.cells (g := gx) (by rw [ex]; rfl)
  have hbytes : (zs.length + 1) * 32 ≤ 140737488355328 := by omega
  have h63 : zs.length + 1 ≤ maxLen := by unfold maxLen; omega
  have hz0 : ∀ u ∈ (Value.agg #[.bool false, .slice none 0 0]).cells.toList, notInt u := by
   intro u hu
   have : u = .bool false ∨ u = .slice none 0 0 := by simpa [Value.cells] using hu
   rcases this with rfl | rfl
   ·exact fun k x => by simp
   ·exact fun k x => by simp
  obtain ⟨v', W2, r1, r2, r3, _, r5⟩ := run_append_own_at (P := Tryz.prog) W B T o.type 34 i0 (.agg #[.bool false, .slice none 0 0]) 2 32 hu q1 q2 q3 q4 rfl (by decide) v zs.length xs p1 ⟨gx, 0, none⟩ 1 cx (flat qs) x1.1 hcells (fun u hu => (hone u hu).1) h63 hbytes hf.bs
  have r6 := append_noI (P := Tryz.prog) W B T o.type 34 i0 (.agg #[.bool false, .slice none 0 0]) 2 32 hu q1 q2 q3 q4 rfl (by decide) v zs.length xs p1 ⟨gx, 0, none⟩ 1 cx (flat qs) x1.1 hcells (fun u hu => (hone u hu).1) h63 hbytes hz0 (fun u hu => (hone u hu).2) p3 r1
  have hin : IntK W W2 := p3.intK r3
  have e2 : (execOp a.eval o).run Tryz.prog W = .ok (.value v') W2 := by
   unfold execOp
   simp only [ho, resolve, invoke, builtin, Sem.run_bind, Sem.run_pure, Result.andThen_ok, List.map_toArray, List.map_cons, List.map_nil, s1, ex, r1]
  unfold Oper.wp
  rw [e2, Oper.upon_value, hd]
  have own2 : OwS W2 B 34 2 v' (zs ++ [z]).length (RsJ (zs ++ [z])) := by
   rw [List.length_append]
   exact ⟨⟨xs ++ flat qs, r2, RsJ.st _ _ _ _ hin (p2.append x2)⟩, r6, RsJ.st _⟩
  have hf2 := hf.sgrow hK r3 own2 r5 (Nat.le_refl _)
  have hf3 := hf2.set (v := .vl v') hN (u := v') rfl rfl
  refine hK' _ _ (hk v' _ _ (hf3.ext fun s' => ?_))
  have hdK : ¬ d = K := fun e => by subst e; simp [Nat.blt_eq] at hN hKN; omega
  simp only [look_cons]
  by_cases a1 : K = s'
  ·subst a1; rw [if_pos rfl, if_neg hdK, if_pos rfl]
  ·rw [if_neg a1, if_neg a1]
theorem Fr.nilzj {a : Act} {W : World} (K : Nat) (hf : Fr B N w0 fr a W) : Fr B N w0 ((K, .rs (.slice none 0 0) 34 2 ([] : List Int).length (RsJ [])) :: fr) a W :=
 hf.more (OwS.nil W B _ 2 _ (RsJ.nil W) (RsJ.st _)) fun j v' p hj e => by cases e
end
def LJn (w : World) (A : Option Addr) (zs : List Int) : Prop := ∀ i, i < zs.length → ∃ g q m D l c, A = some ⟨g, q, none⟩ ∧ w.cell? ⟨g, q + i * 2, none⟩ = some (.bool m) ∧ w.cell? ⟨g, q + i * 2 + 1, none⟩ = some (.slice D l c) ∧ RJ w m D l c (at0 zs i)
theorem OwS.linj {w : World} {b n : Nat} {A : Option Addr} {c : Nat} {zs : List Int} (h : OwS w b 34 2 (.slice A n c) n (RsJ zs)) (hn : n = zs.length) : LJn w A zs := fun i hi => by
 obtain ⟨⟨xs, h1, rs, rfl, hr1, hr2⟩, _⟩ := h
 rcases id h1.2 with ⟨_, h0⟩ | ⟨g, cap, cur, hv, _⟩
 ·omega
 injection hv with hA _ _
 subst hA
 have hcells : ∀ j u, (flat rs)[j]? = some u → w.cell? ((⟨g, 0, none⟩ : Addr).add j) = some u := h1.cells (g := g) rfl
 obtain ⟨⟨m, D, l, c'⟩, he⟩ : ∃ x, rs[i]? = some x := ⟨_, List.getElem?_eq_getElem (by omega)⟩
 obtain ⟨f1, f2⟩ := flat_at rs i m D l c' he
 exact ⟨g, 0, m, D, l, c', rfl, by have := hcells _ _ f1; rwa [addq] at this, by have := hcells _ _ f2; rwa [addq, ← Nat.add_assoc] at this, hr2 i m D l c' he⟩
section
variable {x y : Operand} {dst : Option Tmp} {ty : TypeId} {pos : String} {after : Array Edge} {guard : Option (Nat × Bool)} {ρ : Operand → Value} {W : World} {m : Bool} {A : Option Addr} {l c n : Nat}
theorem r_bzj (h1 : ρ x = .agg #[.bool m, .slice A l c]) : (execOp ρ ⟨dst, .buildSlice 82 1 #[(0, x)], ty, pos, after, guard⟩).run Tryz.prog W = .ok (.value (.slice (some ⟨W.heap.size, 0, none⟩) 1 1)) (W.alloc (.cells #[.bool m, .slice A l c] 34)) := by
 go_simp
theorem r_idxzj {g q i : Nat} (h1 : ρ x = .slice (some ⟨g, q, none⟩) n c) (h2 : ρ y = .int .i64 (i : Int)) (hi : i < n) : (execOp ρ ⟨dst, .indexAddr 82 x y, ty, pos, after, guard⟩).run Tryz.prog W = .ok (.value (.pointer (some ⟨g, q + i * 2, none⟩))) W := by
 go_simp
theorem r_ldzj {g q : Nat} (h1 : ρ x = .pointer (some ⟨g, q, none⟩)) (h2 : W.cell? ⟨g, q, none⟩ = some (.bool m)) (h3 : W.cell? ⟨g, q + 1, none⟩ = some (.slice A l c)) : (execOp ρ ⟨dst, .load 34 x, ty, pos, after, guard⟩).run Tryz.prog W = .ok (.value (.agg #[.bool m, .slice A l c])) W := by
 go_simp
theorem r_lenzj (h1 : ρ x = .slice A n c) : (execOp ρ ⟨dst, .call ⟨.builtin .len, #[x], #[82]⟩, ty, pos, after, guard⟩).run Tryz.prog W = .ok (.value (.int .i64 (n : Int))) W := by
 go_simp
end
section
variable {B N : Nat} {w0 : World} {ops : Array Oper} {rest : List Oper} {fr : List (Nat × AV)} {Q : Exit → Act → World → Prop} {d : Nat} {ty : TypeId} {pos : String} {after : Array Edge}
theorem ldzj_of {a : Act} {W : World} {A : Option Addr} {zs : List Int} {i s : Nat} {guard : Option (Nat × Bool)} (hL : LJn w0 A zs) (hi : i < zs.length) (hB : B = w0.heap.size) (hs : look fr s = some (.vl (.pointer (padd A (i * 2))))) (hf : Fr B N w0 fr a W) :
  ∃ u, (execOp a.eval ⟨some d, .load 34 (.tmp s), ty, pos, after, guard⟩).run Tryz.prog W = .ok (.value u) W ∧ Ho B (.kw (KJ (at0 zs i))) u W := by
 obtain ⟨g, q, m, D, l, c, rfl, c0, c1, hr⟩ := hL i hi
 have h1 : a.eval (.tmp s) = .pointer (some ⟨g, q + i * 2, none⟩) := by rw [← addq]; exact hf.ho s _ hs
 have k0 : W.cell? ⟨g, q + i * 2, none⟩ = some (.bool m) := by rw [hf.be.cell (by rw [hB]; exact World.block_lt_of_cell? w0 _ c0)]; exact c0
 have k1 : W.cell? ⟨g, q + i * 2 + 1, none⟩ = some (.slice D l c) := by rw [hf.be.cell (by rw [hB]; exact World.block_lt_of_cell? w0 _ c1)]; exact c1
 exact ⟨_, r_ldzj h1 k0 k1, ⟨m, D, l, c, rfl, hr.kept (IntK.of_below (by have := hf.be; rw [hB] at this; exact this))⟩, KJ.st _⟩
theorem PW.ldzj {A : Option Addr} {zs : List Int} {i s : Nat} {guard : Option (Nat × Bool)} (hL : LJn w0 A zs) (hi : i < zs.length) (hB : B = w0.heap.size) (hw : wantB ops fr ⟨some d, .load 34 (.tmp s), ty, pos, after, guard⟩ = some true) (hN : Nat.blt d N = true) (hs : look fr s = some (.vl (.pointer (padd A (i * 2)))))
  (hk : PW B N w0 ops rest ((d, .kw (KJ (at0 zs i))) :: fr) Q) : PW B N w0 ops (⟨some d, .load 34 (.tmp s), ty, pos, after, guard⟩ :: rest) fr Q :=
 PW.val (r := .kw (KJ (at0 zs i))) hw rfl hN rfl (fun a W hf => ldzj_of hL hi hB hs hf) hk
theorem DX.ldzj {A : Option Addr} {zs : List Int} {i s : Nat} {guard : Option (Nat × Bool)} (hL : LJn w0 A zs) (hi : i < zs.length) (hB : B = w0.heap.size) (hw : wantB ops fr ⟨some d, .load 34 (.tmp s), ty, pos, after, guard⟩ = some true) (hN : Nat.blt d N = true) (hs : look fr s = some (.vl (.pointer (padd A (i * 2))))) :
  Eo B N w0 ops ⟨some d, .load 34 (.tmp s), ty, pos, after, guard⟩ fr (.val d (.kw (KJ (at0 zs i)))) :=
 DX.val (r := .kw (KJ (at0 zs i))) hw rfl hN rfl (fun a W hf => ldzj_of hL hi hB hs hf)
end
theorem r_idxzAj {x y : Operand} {dst : Option Tmp} {ty : TypeId} {pos : String} {after : Array Edge} {guard : Option (Nat × Bool)} {ρ : Operand → Value} {W w : World} {A : Option Addr} {c i : Nat} {zs : List Int} (hL : LJn w A zs) (hi : i < zs.length) (h1 : ρ x = .slice A zs.length c) (h2 : ρ y = .int .i64 (i : Int)) : (execOp ρ ⟨dst, .indexAddr 82 x y, ty, pos, after, guard⟩).run Tryz.prog W = .ok (.value (.pointer (padd A (i * 2)))) W := by
 obtain ⟨g, q, m, D, l, c', rfl, _⟩ := hL i hi
 rw [r_idxzj h1 h2 hi, ← addq]
 rfl
end Go.Proofs.YthpjmhhfcechmaaGreat.Sy
