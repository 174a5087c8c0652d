/- Parts Syr, Syi, So, Mb, Lm, Ln, in one file. -/
import Derived.OwnWalk
import Derived.IntWalk
import Derived.Maps.AppendAt
import Derived.Test.YtcgkgcciogibkaaK1
import Derived.Test.YtcgkgcciogibkaaK2
import Derived.Test.YtcgkgcciogibkaaK4
import Derived.Test.YtcgkgcciogibkaaK5
/- A walk by rules: rows of numbers. -/
set_option linter.unusedVariables false
set_option linter.unusedSimpArgs false
namespace Go.Proofs.Ytcgkgcciogibkaa.Sy
open Go Go.RowKit Ma
section
variable {B N : Nat} {w0 : World} {ops : Array Oper} {o : Oper} {rest : List Oper} {fr : List (Nat × AV)} {Q : Exit → Act → World → Prop} {d : Nat}
/-- A new row. -/
theorem Fr.row {a : Act} {W W' : World} {K : Nat} {v : Value} {e : TypeId} {f : Int → Value} {zs : List Int} (h : Fr B N w0 fr a W) (hn : Nw W W') (hg : ∀ g, v.ownBlock = some g → W.heap.size ≤ g) (ho : OwF W' B e f v zs) : Fr B N w0 ((K, .ro v e f zs) :: fr) a W' :=
  (h.nw hn).more ho fun j v' p hj e1 e2 => by
    have := hg p e1
    have := ((h.ho j v' hj).blk e2).2
    omega
theorem PW.rload {T : TypeId} {s K g n c i : Nat} {e : TypeId} {f : Int → Value} {zs : List Int} (hw : wantB ops fr o = some true) (hd : o.dst = some d) (hN : Nat.blt d N = true) (ho : o.op = .load T (.tmp s)) (hs : look fr s = some (.vl (.pointer (some ⟨g, i, none⟩)))) (hK : look fr K = some (.ro (.slice (some ⟨g, 0, none⟩) n c) e f zs)) (hi : i < zs.length)
    (hl : ∀ (W : World) (p : Addr) (x : Int), W.cell? p = some (f x) → (Instr.loadAt T (.pointer (some p))).run Try.prog W = .ok (f x) W) (hk : PW B N w0 ops rest ((d, .vl (f (at0 zs i))) :: fr) Q) : PW B N w0 ops (o :: rest) fr Q :=
  PW.val (r := .vl (f (at0 zs i))) hw hd hN rfl (fun a W hf => by
    have h1 : a.tmps.getD s undef = .pointer (some ⟨g, i, none⟩) := hf.ho s _ hs
    have h2 : OwF W B e f (.slice (some ⟨g, 0, none⟩) n c) zs := hf.ho K _ hK
    refine ⟨_, ?_, rfl⟩
    unfold execOp
    rw [ho]
    show (do pure (.value (← Instr.loadAt T (a.tmps.getD s undef))) : Sem Next).run Try.prog W = _
    rw [h1]
    exact run_val (hl W _ _ (h2.cellAt hi))) hk
/-- A number that came in. -/
theorem PW.iload {T : TypeId} {s : Nat} {p : Addr} {k : IntKind} {x : Int} (hw : wantB ops fr o = some true) (hd : o.dst = some d) (hN : Nat.blt d N = true) (ho : o.op = .load T (.tmp s)) (hs : look fr s = some (.vl (.pointer (some p)))) (hB : B = w0.heap.size) (hc : w0.cell? p = some (.int k x))
    (hl : ∀ (W : World) (p : Addr) (x : Int), W.cell? p = some (.int k x) → (Instr.loadAt T (.pointer (some p))).run Try.prog W = .ok (.int k x) W) (hk : PW B N w0 ops rest ((d, .vl (.int k x)) :: fr) Q) : PW B N w0 ops (o :: rest) fr Q :=
  PW.val (r := .vl (.int k x)) hw hd hN rfl (fun a W hf => by
    have h1 : a.tmps.getD s undef = .pointer (some p) := hf.ho s _ hs
    have h2 : W.cell? p = some (.int k x) := by
      rw [hf.be.cell (by rw [hB]; exact World.block_lt_of_cell? w0 p hc)]; exact hc
    refine ⟨_, ?_, rfl⟩
    unfold execOp
    rw [ho]
    show (do pure (.value (← Instr.loadAt T (a.tmps.getD s undef))) : Sem Next).run Try.prog W = _
    rw [h1]
    exact run_val (hl W _ _ h2)) hk
theorem PW.rstore {T : TypeId} {s K g n c i : Nat} {x : Operand} {e : TypeId} {f : Int → Value} {zs : List Int} {y : Int} (hw : wantB ops fr o = some true) (hd : o.dst = none) (ho : o.op = .store T (.tmp s) x) (hs : look fr s = some (.vl (.pointer (some ⟨g, i, none⟩)))) (hK : look fr K = some (.ro (.slice (some ⟨g, 0, none⟩) n c) e f zs)) (hi : i < zs.length) (hx : opv fr x = some (.vl (f y))) (hc : calmB fr = true)
    (hst : ∀ (W : World) (p : Addr) (x y : Int), W.cell? p = some (f x) → W.frozen? p = false → (Instr.storeAt T (.pointer (some p)) (f y)).run Try.prog W = .ok () (W.setCell p (f y))) (hk : PW B N w0 ops rest ((K, .ro (.slice (some ⟨g, 0, none⟩) n c) e f (zs.set i y)) :: fr) Q) : PW B N w0 ops (o :: rest) fr Q :=
  PW.step hw fun a W hf K' hK' => by
    have h1 : a.tmps.getD s undef = .pointer (some ⟨g, i, none⟩) := hf.ho s _ hs
    have h2 : OwF W B e f (.slice (some ⟨g, 0, none⟩) n c) zs := hf.ho K _ hK
    have h3 := opv_vl hf hx
    have e2 : (execOp a.eval o).run Try.prog W = .ok .skip (W.setCell ⟨g, i, none⟩ (f y)) := by
      unfold execOp
      rw [ho]
      show (do (Instr.storeAt T (a.tmps.getD s undef) (a.eval x)); pure .skip : Sem Next).run Try.prog W = _
      rw [h1, h3]
      exact run_skip (hst W _ _ _ (h2.cellAt hi) (h2.frozenAt i))
    unfold Oper.wp
    rw [e2]
    show K' (a.put o.dst undef) _
    rw [hd]
    exact hK' _ _ (hk _ _ (hf.rset hK hc y))
/-- make. -/
theorem PW.make {T e : TypeId} {lo : Operand} {n : Nat} {k : IntKind} (K : Nat) (hw : wantB ops fr o = some true) (hd : o.dst = some d) (hN : Nat.blt d N = true) (ho : o.op = .makeSlice T lo lo) (hx : opv fr lo = some (.vl (.int .i64 (n : Int)))) (hu : Try.prog.underlying T = some (.slice e)) {by_ : Nat} (hi : (Try.prog.info? e).map (fun i => (i.zero, i.size, i.bytes)) = some (some (.int k 0), 1, by_)) (hb : by_ * n ≤ 281474976710656) (hn : n ≤ maxLen)
    (hk : ∀ g, PW B N w0 ops rest ((K, .ro (.slice (some ⟨g, 0, none⟩) n n) e (Value.int k) (List.replicate n 0)) :: (d, .vl (.slice (some ⟨g, 0, none⟩) n n)) :: fr) Q) : PW B N w0 ops (o :: rest) fr Q :=
  PW.step hw fun a W hf K' hK' => by
    obtain ⟨i0, h1, hz0, hz1, hz2⟩ := info_parts hi
    obtain ⟨w', hrun, r1, r2⟩ := run_make_full (P := Try.prog) W B T e i0 (.int k 0) 1 hu h1 hz0 hz1 .i64 .i64 n (by rw [hz2]; exact hb) hn hf.bs
    have h3 := opv_vl hf hx
    have e2 : (execOp a.eval o).run Try.prog W = .ok (.value (.slice (some ⟨W.heap.size, 0, none⟩) n n)) w' := by
      unfold execOp
      rw [ho]
      simp only [h3]
      exact run_val hrun
    unfold Oper.wp
    rw [e2, Oper.upon_value, hd]
    have hn' : Nw W w' := Below.grown (Nw.refl W) r2 (Nat.le_refl _) (fun k h => by cases h)
    have r1' : w'.ownsRow B e 1 (.slice (some ⟨W.heap.size, 0, none⟩) n n) n (madeCells #[.int k 0] n).toList := by simpa [Value.cells] using r1
    have own := Own.made r1'
    have hf2 := hf.set (v := .vl (.slice (some ⟨W.heap.size, 0, none⟩) n n)) hN (u := .slice (some ⟨W.heap.size, 0, none⟩) n n) rfl rfl
    exact hK' _ _ (hk W.heap.size _ _ (hf2.row hn' (fun g hg => by injection hg with hg; rw [← hg]; exact Nat.le_refl _) own))
/-- A call, by whatever is known at it. -/
theorem PW.callG {c : Call} {f : FuncId} {r : AV} (ce : CE f) (hw : wantB ops fr o = some true) (hd : o.dst = some d) (hN : Nat.blt d N = true) (ho : o.op = .call c) (hc : c.callee = .value (.func f)) (hst : St r.of) (hr : r.isBx = false)
    (h : ∀ a W, Fr B N w0 fr a W → Calls Try.prog f (c.args.toList.map a.eval).toArray W (Ret W r.of)) (hk : PW B N w0 ops rest ((d, r) :: fr) Q) : PW B N w0 ops (o :: rest) fr Q :=
  PW.step hw fun a W hf K hK => by
    obtain ⟨dst, op, ty, pos, after, guard⟩ := o
    simp only at ho hd
    subst ho
    subst hd
    unfold Oper.wp
    rw [run_call ce hc a.eval rfl ty W]
    simp only [Oper.upon]
    have e0 : (c.args.toList.map a.eval).toArray = c.args.map a.eval := by rw [← Array.toList_map]
    have h0 := h a W hf
    rw [e0] at h0
    refine h0.mono fun e W' ⟨v, he, hv, hn⟩ => ?_
    subst he
    exact hK _ _ (hk _ _ ((hf.nw hn).set hN (Ho.mk hr hv hst) hr))
/-- A call that hands back a row of its own. -/
theorem PW.callO {c : Call} {f : FuncId} {e : TypeId} {k : IntKind} {p : List Int → Prop} (K : Nat) (ce : CE f) (hw : wantB ops fr o = some true) (hd : o.dst = some d) (hN : Nat.blt d N = true) (ho : o.op = .call c) (hc : c.callee = .value (.func f))
    (h : ∀ a W, Fr B N w0 fr a W → Calls Try.prog f (c.args.toList.map a.eval).toArray W (Ret W (KO W.heap.size e k p))) (hk : ∀ g c zs, p zs → PW B N w0 ops rest ((K, .ro (.slice (some ⟨g, 0, none⟩) zs.length c) e (Value.int k) zs) :: (d, .vl (.slice (some ⟨g, 0, none⟩) zs.length c)) :: fr) Q) : PW B N w0 ops (o :: rest) fr Q :=
  PW.step hw fun a W hf K' hK' => by
    obtain ⟨dst, op, ty, pos, after, guard⟩ := o
    simp only at ho hd
    subst ho
    subst hd
    unfold Oper.wp
    rw [run_call ce hc a.eval rfl ty W]
    simp only [Oper.upon]
    have e0 : (c.args.toList.map a.eval).toArray = c.args.map a.eval := by rw [← Array.toList_map]
    have h0 := h a W hf
    rw [e0] at h0
    refine h0.mono fun e W' ⟨v, he, ⟨zs, g, c', ev, hown, hp⟩, hn⟩ => ?_
    subst he ev
    have hg : W.heap.size ≤ g := hown.ge
    have hf2 := hf.set (v := .vl (.slice (some ⟨g, 0, none⟩) zs.length c')) hN (u := .slice (some ⟨g, 0, none⟩) zs.length c') rfl rfl
    refine hK' _ _ (hk g c' zs hp _ _ (hf2.row hn (fun g' hg' => by injection hg' with hg'; rw [← hg']; exact hg) ?_))
    exact ⟨hown.1, hown.2.imp id fun ⟨g', cap, cur, h1, h2, h3⟩ => ⟨g', cap, cur, h1, Nat.le_trans hf.bs h2, h3⟩⟩
end
end Go.Proofs.Ytcgkgcciogibkaa.Sy
/- A walk by rules: operations on numbers and rows, each said once. -/
set_option linter.unusedVariables false
set_option linter.unusedSimpArgs false
namespace Go.Proofs.Ytcgkgcciogibkaa.Sy
open Go Go.RowKit Ma
section
variable {x y : Operand} {dst : Option Tmp} {ty : TypeId} {pos : String} {after : Array Edge} {guard : Option (Nat × Bool)} {ρ : Operand → Value} {W : World} {a b c : Int}
theorem r_idx {g n cap i : Nat} (h1 : ρ x = .slice (some ⟨g, 0, none⟩) n cap) (h2 : ρ y = .int .i64 (i : Int)) (hi : i < n) : (execOp ρ ⟨dst, .indexAddr 22 x y, ty, pos, after, guard⟩).run Try.prog W = .ok (.value (.pointer (some ⟨g, i, none⟩))) W := by
  go_simp
theorem r_idxA {ad : Addr} {n cap i : Nat} (h1 : ρ x = .slice (some ad) n cap) (h2 : ρ y = .int .i64 (i : Int)) (hi : i < n) : (execOp ρ ⟨dst, .indexAddr 22 x y, ty, pos, after, guard⟩).run Try.prog W = .ok (.value (.pointer (some (ad.add i)))) W := by
  go_simp
theorem r_add {z : Int} (h1 : ρ x = .int .i64 a) (h2 : ρ y = .int .i64 b) (e : a + b = z) (hz : -9223372036854775808 ≤ z ∧ z < 9223372036854775808) : (execOp ρ ⟨dst, .binOp .add 3 x y 3, ty, pos, after, guard⟩).run Try.prog W = .ok (.value (.int .i64 z)) W := by
  subst e
  go_simp
  exact IntWalk.i64_in _ (by omega)
theorem r_sub {z : Int} (h1 : ρ x = .int .i64 a) (h2 : ρ y = .int .i64 b) (e : a - b = z) (hz : -9223372036854775808 ≤ z ∧ z < 9223372036854775808) : (execOp ρ ⟨dst, .binOp .sub 3 x y 3, ty, pos, after, guard⟩).run Try.prog W = .ok (.value (.int .i64 z)) W := by
  subst e
  go_simp
  exact IntWalk.i64_in _ (by omega)
theorem r_quo {z : Int} (h1 : ρ x = .int .i64 a) (h2 : ρ y = .int .i64 b) (e : a / b = z) (ha : 0 ≤ a ∧ a < 9223372036854775808) (hb : 0 < b) : (execOp ρ ⟨dst, .binOp .quo 3 x y 3, ty, pos, after, guard⟩).run Try.prog W = .ok (.value (.int .i64 z)) W := by
  subst e
  have e1 : a.tdiv b = a / b := Int.tdiv_eq_ediv_of_nonneg ha.1
  have e3 : a / b ≤ a := Int.ediv_le_self _ ha.1
  have e4 := Int.ediv_nonneg ha.1 (Int.le_of_lt hb)
  have e : IntKind.i64.wrap (a / b) = a / b := IntWalk.i64_in _ (by omega)
  have e2 : ¬ b = 0 := by omega
  clear ha hb e3 e4
  go_simp
  first | done | rw [if_neg e2, e1, e]
theorem r_rem {z : Int} (h1 : ρ x = .int .i64 a) (h2 : ρ y = .int .i64 b) (e : a % b = z) (ha : 0 ≤ a ∧ a < 9223372036854775808) (hb : 0 < b) : (execOp ρ ⟨dst, .binOp .rem 3 x y 3, ty, pos, after, guard⟩).run Try.prog W = .ok (.value (.int .i64 z)) W := by
  subst e
  have e1 : a.tmod b = a % b := Int.tmod_eq_emod_of_nonneg ha.1
  have e3 : a % b ≤ a := by have a1 := Int.mul_ediv_add_emod a b; have a2 := Int.mul_nonneg (Int.le_of_lt hb) (Int.ediv_nonneg ha.1 (Int.le_of_lt hb)); omega
  have e4 := Int.emod_nonneg a (Int.ne_of_gt hb)
  have e : IntKind.i64.wrap (a % b) = a % b := IntWalk.i64_in _ (by omega)
  have e2 : ¬ b = 0 := by omega
  clear ha hb e3 e4
  go_simp
  first | done | rw [if_neg e2, e1, e]
theorem r_mul {z : Int} (h1 : ρ x = .int .i64 a) (h2 : ρ y = .int .i64 b) (e : a * b = z) (hz : -9223372036854775808 ≤ z ∧ z < 9223372036854775808) : (execOp ρ ⟨dst, .binOp .mul 3 x y 3, ty, pos, after, guard⟩).run Try.prog W = .ok (.value (.int .i64 z)) W := by
  subst e
  have e : IntKind.i64.wrap (a * b) = a * b := IntWalk.i64_in _ (by omega)
  go_simp
  done
theorem r_lt {t : Bool} (h1 : ρ x = .int .i64 a) (h2 : ρ y = .int .i64 b) (e : decide (a < b) = t) : (execOp ρ ⟨dst, .binOp .lss 3 x y 3, ty, pos, after, guard⟩).run Try.prog W = .ok (.value (.bool t)) W := by
  subst e
  go_simp
theorem r_ge {t : Bool} (h1 : ρ x = .int .i64 a) (h2 : ρ y = .int .i64 b) (e : decide (a ≥ b) = t) : (execOp ρ ⟨dst, .binOp .geq 3 x y 3, ty, pos, after, guard⟩).run Try.prog W = .ok (.value (.bool t)) W := by
  subst e
  go_simp
theorem r_gt {t : Bool} (h1 : ρ x = .int .i64 a) (h2 : ρ y = .int .i64 b) (e : decide (a > b) = t) : (execOp ρ ⟨dst, .binOp .gtr 3 x y 3, ty, pos, after, guard⟩).run Try.prog W = .ok (.value (.bool t)) W := by
  subst e
  go_simp
theorem r_le {t : Bool} (h1 : ρ x = .int .i64 a) (h2 : ρ y = .int .i64 b) (e : decide (a ≤ b) = t) : (execOp ρ ⟨dst, .binOp .leq 3 x y 3, ty, pos, after, guard⟩).run Try.prog W = .ok (.value (.bool t)) W := by
  subst e
  go_simp
theorem r_lt6 {t : Bool} (h1 : ρ x = .int .u64 a) (h2 : ρ y = .int .u64 b) (e : decide (a < b) = t) : (execOp ρ ⟨dst, .binOp .lss 107 x y 107, ty, pos, after, guard⟩).run Try.prog W = .ok (.value (.bool t)) W := by
  subst e
  go_simp
theorem r_ge6 {t : Bool} (h1 : ρ x = .int .u64 a) (h2 : ρ y = .int .u64 b) (e : decide (a ≥ b) = t) : (execOp ρ ⟨dst, .binOp .geq 107 x y 107, ty, pos, after, guard⟩).run Try.prog W = .ok (.value (.bool t)) W := by
  subst e
  go_simp
theorem r_gt6 {t : Bool} (h1 : ρ x = .int .u64 a) (h2 : ρ y = .int .u64 b) (e : decide (a > b) = t) : (execOp ρ ⟨dst, .binOp .gtr 107 x y 107, ty, pos, after, guard⟩).run Try.prog W = .ok (.value (.bool t)) W := by
  subst e
  go_simp
theorem r_eq6 {t : Bool} (h1 : ρ x = .int .u64 a) (h2 : ρ y = .int .u64 b) (e : decide (a = b) = t) : (execOp ρ ⟨dst, .binOp .eql 107 x y 107, ty, pos, after, guard⟩).run Try.prog W = .ok (.value (.bool t)) W := by
  subst e
  go_simp
  rfl
theorem r_64 (h1 : ρ x = .int .u32 a) (h : 0 ≤ a ∧ a < 4294967296) : (execOp ρ ⟨dst, .convert 92 107 x, ty, pos, after, guard⟩).run Try.prog W = .ok (.value (.int .u64 a)) W := by
  have e : IntKind.u64.wrap a = a := IntWalk.u64_in _ (by omega)
  go_simp
  done
theorem r_32 (h1 : ρ x = .int .u64 a) : (execOp ρ ⟨dst, .convert 107 92 x, ty, pos, after, guard⟩).run Try.prog W = .ok (.value (.int .u32 (a % 4294967296))) W := by
  have e := IntKind.wrap_u32 a
  go_simp
  done
theorem r_u (h1 : ρ x = .int .i64 a) (h : 0 ≤ a ∧ a < 9223372036854775808) : (execOp ρ ⟨dst, .convert 3 108 x, ty, pos, after, guard⟩).run Try.prog W = .ok (.value (.int .u64 a)) W := by
  have e : IntKind.u64.wrap a = a := IntWalk.u64_in _ (by omega)
  go_simp
  done
theorem r_add6 {z : Int} (h1 : ρ x = .int .u64 a) (h2 : ρ y = .int .u64 b) (ez : a + b = z) (h : 0 ≤ z ∧ z < 18446744073709551616) : (execOp ρ ⟨dst, .binOp .add 107 x y 107, ty, pos, after, guard⟩).run Try.prog W = .ok (.value (.int .u64 z)) W := by
  subst ez
  have e : IntKind.u64.wrap (a + b) = a + b := IntWalk.u64_in _ (by omega)
  go_simp
  done
theorem r_mul6 {z : Int} (h1 : ρ x = .int .u64 a) (h2 : ρ y = .int .u64 b) (ez : a * b = z) (h : 0 ≤ z ∧ z < 18446744073709551616) : (execOp ρ ⟨dst, .binOp .mul 107 x y 107, ty, pos, after, guard⟩).run Try.prog W = .ok (.value (.int .u64 z)) W := by
  subst ez
  have e : IntKind.u64.wrap (a * b) = a * b := IntWalk.u64_in _ (by omega)
  go_simp
  done
theorem r_sub6 {z : Int} (h1 : ρ x = .int .u64 a) (h2 : ρ y = .int .u64 b) (ez : a - b = z) (h : 0 ≤ z ∧ z < 18446744073709551616) : (execOp ρ ⟨dst, .binOp .sub 107 x y 107, ty, pos, after, guard⟩).run Try.prog W = .ok (.value (.int .u64 z)) W := by
  subst ez
  have e : IntKind.u64.wrap (a - b) = a - b := IntWalk.u64_in _ (by omega)
  go_simp
  done
theorem r_subw (h1 : ρ x = .int .u64 a) (h2 : ρ y = .int .u64 b) : (execOp ρ ⟨dst, .binOp .sub 107 x y 107, ty, pos, after, guard⟩).run Try.prog W = .ok (.value (.int .u64 ((a - b) % 18446744073709551616))) W := by
  have e := IntKind.wrap_u64 (a - b)
  go_simp
  done
theorem r_subz {z : Int} (h1 : ρ x = .int .u64 a) (h2 : ρ y = .int .u64 b) (e : (a - b) % 18446744073709551616 = z) : (execOp ρ ⟨dst, .binOp .sub 107 x y 107, ty, pos, after, guard⟩).run Try.prog W = .ok (.value (.int .u64 z)) W := e ▸ r_subw h1 h2
theorem r_32z {z : Int} (h1 : ρ x = .int .u64 a) (e : a % 4294967296 = z) : (execOp ρ ⟨dst, .convert 107 92 x, ty, pos, after, guard⟩).run Try.prog W = .ok (.value (.int .u32 z)) W := e ▸ r_32 h1
theorem mulb {a b : Int} (ha : 0 ≤ a ∧ a < 4294967296) (hb : 0 ≤ b ∧ b < 4294967296) : 0 ≤ a * b ∧ a * b < 18446744073709551616 := by
  have p0 := Int.mul_nonneg ha.1 hb.1
  have p1 : a * b ≤ 4294967295 * b := Int.mul_le_mul_of_nonneg_right (by omega) hb.1
  omega
theorem r_addw (h1 : ρ x = .int .u32 a) (h2 : ρ y = .int .u32 b) : (execOp ρ ⟨dst, .binOp .add 92 x y 92, ty, pos, after, guard⟩).run Try.prog W = .ok (.value (.int .u32 ((a + b) % 4294967296))) W := by
  have e := IntKind.wrap_u32 (a + b)
  go_simp
  done
theorem r_quo6 (h1 : ρ x = .int .u64 a) (h2 : ρ y = .int .u64 b) (ha : 0 ≤ a ∧ a < 18446744073709551616) (hb : 0 < b) : (execOp ρ ⟨dst, .binOp .quo 107 x y 107, ty, pos, after, guard⟩).run Try.prog W = .ok (.value (.int .u64 (a / b))) W := by
  have e1 : a.tdiv b = a / b := Int.tdiv_eq_ediv_of_nonneg ha.1
  have e3 : a / b ≤ a := Int.ediv_le_self _ ha.1
  have e4 := Int.ediv_nonneg ha.1 (Int.le_of_lt hb)
  have e : IntKind.u64.wrap (a / b) = a / b := IntWalk.u64_in _ (by omega)
  have e2 : ¬ b = 0 := by omega
  clear ha hb e3 e4
  go_simp
  first | done | rw [if_neg e2, e1, e]
theorem r_rem6 (h1 : ρ x = .int .u64 a) (h2 : ρ y = .int .u64 b) (ha : 0 ≤ a ∧ a < 18446744073709551616) (hb : 0 < b) (hb2 : b < 18446744073709551616) : (execOp ρ ⟨dst, .binOp .rem 107 x y 107, ty, pos, after, guard⟩).run Try.prog W = .ok (.value (.int .u64 (a % b))) W := by
  have e1 : a.tmod b = a % b := Int.tmod_eq_emod_of_nonneg ha.1
  have e3 := Int.emod_nonneg a (Int.ne_of_gt hb)
  have e4 := Int.emod_lt_of_pos a hb
  have e : IntKind.u64.wrap (a % b) = a % b := IntWalk.u64_in _ (by omega)
  have e2 : ¬ b = 0 := by omega
  clear ha hb hb2 e3 e4
  go_simp
  first | done | rw [if_neg e2, e1, e]
theorem r_up32 (h1 : ρ x = .int .u64 a) (h2 : ρ y = .int .u64 32) (h : 0 ≤ a ∧ a < 4294967296) : (execOp ρ ⟨dst, .binOp .shl 107 x y 108, ty, pos, after, guard⟩).run Try.prog W = .ok (.value (.int .u64 (a * 4294967296))) W := by
  have e : IntKind.u64.wrap (a * 4294967296) = a * 4294967296 := IntWalk.u64_in _ (by omega)
  go_simp
  done
theorem r_dn32 (h1 : ρ x = .int .u64 a) (h2 : ρ y = .int .u64 32) : (execOp ρ ⟨dst, .binOp .shr 107 x y 108, ty, pos, after, guard⟩).run Try.prog W = .ok (.value (.int .u64 (a / 4294967296))) W := by
  go_simp
  done
theorem r_dn63 (h1 : ρ x = .int .u64 a) (h2 : ρ y = .int .u64 63) : (execOp ρ ⟨dst, .binOp .shr 107 x y 108, ty, pos, after, guard⟩).run Try.prog W = .ok (.value (.int .u64 (a / 9223372036854775808))) W := by
  go_simp
  done
theorem r_dn {s : Nat} (h1 : ρ x = .int .u64 a) (h2 : ρ y = .int .u64 (s : Int)) (hs : s < 64) : (execOp ρ ⟨dst, .binOp .shr 107 x y 108, ty, pos, after, guard⟩).run Try.prog W = .ok (.value (.int .u64 (a / 2 ^ s))) W := by
  go_simp
  done
theorem r_join (h1 : ρ x = .int .u64 (a * 4294967296)) (h2 : ρ y = .int .u64 b) (ha : 0 ≤ a ∧ a < 4294967296) (hb : 0 ≤ b ∧ b < 4294967296) : (execOp ρ ⟨dst, .binOp .or 107 x y 107, ty, pos, after, guard⟩).run Try.prog W = .ok (.value (.int .u64 (a * 4294967296 + b))) W := by
  have hj := join32 a b ha hb
  go_simp
  done
theorem r_len {A : Option Addr} {n cap : Nat} (h1 : ρ x = .slice A n cap) : (execOp ρ ⟨dst, .call ⟨.builtin .len, #[x], #[22]⟩, ty, pos, after, guard⟩).run Try.prog W = .ok (.value (.int .i64 (n : Int))) W := by
  go_simp
  done
end
theorem r_l32 (W : World) (p : Addr) (x : Int) (h : W.cell? p = some (.int .u32 x)) : (Instr.loadAt 92 (.pointer (some p))).run Try.prog W = .ok (.int .u32 x) W := by
  go_simp
theorem r_s32 (W : World) (p : Addr) (x y : Int) (h : W.cell? p = some (.int .u32 x)) (hf : W.frozen? p = false) : (Instr.storeAt 92 (.pointer (some p)) (.int .u32 y)).run Try.prog W = .ok () (W.setCell p (.int .u32 y)) := by
  go_simp
theorem ce_lz : CE 118 := fun args W => by go_simp
theorem ce_add32 : CE 115 := fun args W => by go_simp
theorem ce_shifted : CE 119 := fun args W => by go_simp
theorem ce_trimmed : CE 114 := fun args W => by go_simp
theorem k_add32 {x y c : Int} (hx : 0 ≤ x ∧ x < 4294967296) (hy : 0 ≤ y ∧ y < 4294967296) (hc : 0 ≤ c ∧ c ≤ 1) : CallOk 115 [KV (.int .u32 x), KV (.int .u32 y), KV (.int .u32 c)] (KV (.tuple #[.int .u32 ((x + y + c) % 4294967296), .int .u32 ((x + y + c) / 4294967296)])) :=
  call3 ce_add32 fun W u v u' e1 e2 e3 => by
    obtain rfl : u = _ := e1
    obtain rfl : v = _ := e2
    obtain rfl : u' = _ := e3
    exact (add32_c x y c W hx hy hc).mono fun e W' ⟨e1, e2⟩ => ⟨_, e1, rfl, e2 ▸ Nw.refl _⟩
section
variable {B N : Nat} {w0 : World} {ops : Array Oper} {o : Oper} {rest : List Oper} {fr : List (Nat × AV)} {Q : Exit → Act → World → Prop} {d : Nat}
theorem Fr.vl {a : Act} {W : World} {s : Nat} {v : Value} (h : Fr B N w0 fr a W) (hs : look fr s = some (.vl v)) : a.tmps.getD s undef = v := h.ho s _ hs
theorem Fr.rd {a : Act} {W : World} {K n c : Nat} {A : Option Addr} {e : TypeId} {k : IntKind} {zs : List Int} (h : Fr B N w0 fr a W) (hK : look fr K = some (.ro (.slice A n c) e (Value.int k) zs)) : Rd W k A zs ∧ zs.length ≤ c := by
  have ho : Own W B e k (.slice A n c) zs := h.ho K _ hK
  have h1 := ho.rdg
  exact ⟨h1.2.2, by omega⟩
/-- Known otherwise. -/
theorem PW.more (fr' : List (Nat × AV)) (h : ∀ a W, Fr B N w0 fr a W → Fr B N w0 fr' a W) (hk : PW B N w0 ops rest fr' Q) : PW B N w0 ops rest fr Q := fun a W hf => hk a W (h a W hf)
theorem Fr.more' {a : Act} {W : World} {i : Nat} {v : AV} (h : Fr B N w0 fr a W) (hu : Ho B v (a.tmps.getD i undef) W) (hn : ∀ j v' p, i ≠ j → look fr j = some v' → v.blk (a.tmps.getD i undef) = some p → v'.blk (a.tmps.getD j undef) ≠ some p) : Fr B N w0 ((i, v) :: fr) a W := by
  refine ⟨h.df, h.sz, h.be, h.bs, fun j x hj => ?_, fun j l b b' p hjl hj hl => ?_⟩
  · rw [look_cons] at hj
    by_cases e : i = j
    · rw [if_pos e] at hj; injection hj with hj; subst hj; subst e; exact hu
    · rw [if_neg e] at hj; exact h.ho j x hj
  · rw [look_cons] at hj hl
    by_cases e : i = j
    · have e' : i ≠ l := fun x => hjl (e.symm.trans x)
      rw [if_pos e] at hj
      rw [if_neg e'] at hl
      injection hj with hj
      subst hj e
      exact fun x => hn l b' p e' hl x
    · rw [if_neg e] at hj
      by_cases e' : i = l
      · rw [if_pos e'] at hl
        injection hl with hl
        subst hl e'
        exact fun x y => hn j b p e hj y x
      · rw [if_neg e'] at hl; exact h.di j l b b' p hjl hj hl
/-- A row whose topmost zeros are cut off. -/
theorem Fr.trims {a : Act} {W : World} {K n c : Nat} {A : Option Addr} {e : TypeId} {k : IntKind} {zs : List Int} (h : Fr B N w0 fr a W) (hK : look fr K = some (.ro (.slice A n c) e (Value.int k) zs)) : Fr B N w0 ((K, .ro (.slice A (trim zs).length c) e (Value.int k) (trim zs)) :: fr) a W :=
  h.more' (Own.trims (k := k) (h.ho K _ hK)) fun j v' p e hj e1 e2 => h.di K j _ v' p e hK hj (by cases A <;> exact e1) e2
/-- The beginning, in a world that is known. -/
theorem calls_sc {f : FuncId} {fn : Func} {c : Code} {l : List AV} {us : List Value} {R : Know} {w : World} (N : Nat) (hf : Try.prog.funcs[f]? = some fn) (hb : fn.body = some c) (hn : fn.ntmps = N) (hN : us.length ≤ N) (hu : AllA w.heap.size l us w)
    (h : SC w.heap.size N w c (ini 0 l) (bodyPost Try.prog fn (Ret w R))) : Calls Try.prog f us.toArray w (Ret w R) := by
  refine calls_of_wp hf hb ?_
  have := Fr.ini hu rfl (N - us.length) (N := N) (by omega)
  simp only [List.size_toArray, hn]
  exact h _ _ this
/-- A row grows, in its place or in a new one. -/
theorem Fr.rgrow {a : Act} {W W' : World} {K g0 : Nat} {v v' : Value} {e : TypeId} {f : Int → Value} {zs zs' : List Int} (h : Fr B N w0 fr a W) (hK : look fr K = some (.ro v e f zs)) (hc : calmB fr = true) (hgr : W.grownBy W' v.ownBlock) (hown : OwF W' B e f v' zs') (hat : v'.ownBlock = v.ownBlock ∨ v'.ownBlock = some g0) (hg0 : W.heap.size ≤ g0) : Fr B N w0 ((K, .ro v' e f zs') :: fr) a W' := by
  have ho : OwF W B e f v zs := h.ho K _ hK
  have keep : ∀ j x, K ≠ j → look fr j = some x → Ho B x (a.tmps.getD j undef) W' := fun j x e' hj => by
    cases hv : v.ownBlock with
    | none =>
      rw [hv] at hgr
      exact (h.ho j x hj).nw ⟨hgr.os, hgr.tape, hgr.output, hgr.size, fun k hk => hgr.block k hk (fun e => by cases e)⟩
    | some q =>
      rw [hv] at hgr
      exact Ho.calm (calm_look hc j x hj) (h.ho j x hj) hgr (h.di K j _ x q e' hK hj hv)
  have size : W.heap.size ≤ W'.heap.size := hgr.size
  refine ⟨h.df, h.sz, Below.grown h.be hgr h.bs (fun k e => ho.base k e), Nat.le_trans h.bs size, fun j x hj => ?_, fun j l x x' p hjl hj hl => ?_⟩
  · rw [look_cons] at hj
    by_cases e' : K = j
    · rw [if_pos e'] at hj
      injection hj with hj
      subst hj
      exact hown
    · rw [if_neg e'] at hj; exact keep j x e' hj
  · rw [look_cons] at hj hl
    have new : ∀ l x', K ≠ l → look fr l = some x' → v'.ownBlock = some p → x'.blk (a.tmps.getD l undef) ≠ some p := fun l x' hKl hl hp y => by
      rcases hat with h1 | h1
      · exact h.di K l _ x' p hKl hK hl (h1.symm.trans hp) y
      · have e1 : g0 = p := by rw [h1] at hp; injection hp
        have := ((h.ho l x' hl).blk y).2
        omega
    by_cases e1 : K = j
    · have e2 : K ≠ l := fun x => hjl (e1.symm.trans x)
      rw [if_pos e1] at hj
      rw [if_neg e2] at hl
      injection hj with hj
      subst hj
      exact fun x => new l x' e2 hl x
    · rw [if_neg e1] at hj
      by_cases e2 : K = l
      · rw [if_pos e2] at hl
        injection hl with hl
        subst hl
        exact fun x y => new j _ e1 hj y x
      · rw [if_neg e2] at hl; exact h.di j l x x' p hjl hj hl
/-- append(s, x ..): the new numbers in a slice of their own, put behind the row. -/
theorem PW.app {o2 : Oper} {T e : TypeId} {K s d2 by_ : Nat} {v : Value} {f : Int → Value} {zs : List Int} (news : List Int) (hw : wantB ops fr o = some true) (hd : o.dst = some d) (hN : Nat.blt d N = true)
    (hq : ∀ a W, Fr B N w0 fr a W → (execOp a.eval o).run Try.prog W = .ok (.value (.slice (some ⟨W.heap.size, 0, none⟩) news.length news.length)) (W.alloc (.cells (news.map f).toArray e)))
    (hg : o2.guard = none) (hd2 : o2.dst = some d2) (hN2 : Nat.blt d2 N = true) (ho : o2.op = .call { callee := .builtin .append, args := #[.tmp s, .tmp d], argTypes := #[T, T] }) (hs : look fr s = some (.vl v)) (hsd : Nat.beq d s = false) (hK : look fr K = some (.ro v e f zs)) (hc : calmB fr = true)
    (hu : Try.prog.underlying T = some (.slice e)) (hi : (Try.prog.info? e).map (fun i => (i.zero, i.size, i.bytes)) = some (some (f 0), 1, by_)) (hz : (f 0).cells.size = 1) (h1c : ∀ x, (f x).oneCell' = true) (hn : zs.length + news.length ≤ maxLen) (hb : (zs.length + news.length) * by_ ≤ 140737488355328)
    (hk : ∀ v' u, PW B N w0 ops rest ((K, .ro v' e f (zs ++ news)) :: (d2, .vl v') :: (d, .vl u) :: fr) Q) (hKN : Nat.ble N K = true) : PW B N w0 ops (o :: o2 :: rest) fr Q :=
  PW.step hw fun a W hf K' hK' => by
    unfold Oper.wp
    rw [hq a W hf, Oper.upon_value, hd]
    have hf1 := (hf.nw ((Nw.refl W).alloc (.cells (news.map f).toArray e))).set (v := .vl (.slice (some ⟨W.heap.size, 0, none⟩) news.length news.length)) hN (u := .slice (some ⟨W.heap.size, 0, none⟩) news.length news.length) rfl rfl
    refine hK' _ _ ?_
    have hds : ¬ d = s := fun e => by subst e; simp at hsd
    have hls : look ((d, .vl (.slice (some ⟨W.heap.size, 0, none⟩) news.length news.length)) :: fr) s = some (.vl v) := by rw [look_cons, if_neg hds]; exact hs
    have hlK : look ((d, .vl (.slice (some ⟨W.heap.size, 0, none⟩) news.length news.length)) :: fr) K = some (.ro v e f zs) := by
      have hdK : ¬ d = K := fun e => by subst e; simp [Nat.blt_eq] at hN hKN; omega
      rw [look_cons, if_neg hdK]; exact hK
    have hc1 : calmB ((d, .vl (.slice (some ⟨W.heap.size, 0, none⟩) news.length news.length)) :: fr) = true := hc
    generalize hW1 : W.alloc (.cells (news.map f).toArray e) = W1 at hf1 ⊢
    have s1 : (a.put (some d) (.slice (some ⟨W.heap.size, 0, none⟩) news.length news.length)).eval (.tmp s) = v := hf1.ho s _ hls
    have s2 : (a.put (some d) (.slice (some ⟨W.heap.size, 0, none⟩) news.length news.length)).eval (.tmp d) = .slice (some ⟨W.heap.size, 0, none⟩) news.length news.length := hf1.vl (s := d) (by rw [look_cons, if_pos rfl])
    obtain ⟨i0, q1, q2, q3, q4⟩ := info_parts hi
    have own : W1.ownsRow B e 1 v zs.length (zs.map f) := hf1.ho K _ hlK
    obtain ⟨v', W2, r1, r2, r3, _, r5⟩ := run_append_own_at (P := Try.prog) W1 B T o2.type e i0 (f 0) 1 by_ hu q1 q2 q3 q4 hz (by decide) v zs.length (zs.map f) own ⟨W.heap.size, 0, none⟩ news.length news.length (news.map f) (by simp) (fun j u hj => by
      rw [← hW1, add_at]
      rw [World.cell?_alloc_at _ _ _ _ rfl]
      simpa using hj) (fun u hu => by obtain ⟨x, _, rfl⟩ := List.mem_map.1 hu; exact h1c x) hn hb hf1.bs
    refine wpList_step fun K2 hK2 => ?_
    rw [if_pos (by simp [Region.wanted, hg])]
    have e2 : (execOp (a.put (some d) (.slice (some ⟨W.heap.size, 0, none⟩) news.length news.length)).eval o2).run Try.prog W1 = .ok (.value v') W2 := by
      unfold execOp
      simp only [ho, resolve, invoke, builtin, Sem.run_bind, Sem.run_pure, Result.andThen_ok, List.map_toArray, List.map_cons, List.map_nil, s1, s2, r1]
    unfold Oper.wp
    rw [e2, Oper.upon_value, hd2]
    have own2 : OwF W2 B e f v' (zs ++ news) := by
      unfold OwF
      rw [List.length_append, List.map_append]
      exact r2
    have hf2 := hf1.rgrow hlK hc1 r3 own2 r5 (Nat.le_refl _)
    have hf3 := hf2.set (v := .vl v') hN2 (u := v') rfl rfl
    refine hK2 _ _ (hk v' (.slice (some ⟨W.heap.size, 0, none⟩) news.length news.length) _ _ (hf3.ext fun s' => ?_))
    have hdK : ¬ d2 = K := fun e => by subst e; simp [Nat.blt_eq] at hN2 hKN; omega
    simp only [look_cons]
    by_cases a1 : K = s'
    · subst a1; rw [if_pos rfl, if_neg hdK, if_pos rfl]
    · rw [if_neg a1, if_neg a1]
/-- Two slices of rows at the end. -/
theorem SX.doneR {fn : Func} {e : Exit} {s t K1 K2 : Nat} {v1 v2 : Value} {et et' : TypeId} {k : IntKind} {p1 p2 : List Int → Prop} {z1 z2 : List Int} (he : e = .ret ∨ e = .normal) (hr : fn.results = #[.tmp s, .tmp t]) (hs : look fr s = some (.vl v1)) (ht : look fr t = some (.vl v2))
    (h1 : look fr K1 = some (.ro v1 et (Value.int k) z1)) (h2 : look fr K2 = some (.ro v2 et' (Value.int k) z2)) (q1 : p1 z1) (q2 : p2 z2) (hB : B = w0.heap.size) : SX B N w0 e fr (bodyPost Try.prog fn (Ret w0 (Go.Proofs.Ytcgkgcciogibkaa.K2 (KL k p1) (KL k p2)))) := fun a W hf => by
  have a1 : a.tmps.getD s undef = _ := hf.ho s _ hs
  have a2 : a.tmps.getD t undef = _ := hf.ho t _ ht
  have o1 : Own W B et k v1 z1 := hf.ho K1 _ h1
  have o2 : Own W B et' k v2 z2 := hf.ho K2 _ h2
  have hrun : (results fn a.tmps).run Try.prog W = .ok (.tuple #[a.tmps.getD s undef, a.tmps.getD t undef]) W := by
    unfold results
    simp [hr, go_sem]
  rw [a1, a2] at hrun
  have key : a.defers = [] ∧ ∃ v, (results fn a.tmps).run Try.prog W = .ok v W ∧ Ret w0 (Go.Proofs.Ytcgkgcciogibkaa.K2 (KL k p1) (KL k p2)) (.returned v) W := by
    obtain ⟨A1, d1, e1, m1, r1⟩ := o1.rd
    obtain ⟨A2, d2, e2, m2, r2⟩ := o2.rd
    refine ⟨hf.df, _, hrun, ⟨_, rfl, ⟨v1, v2, rfl, ⟨z1, A1, d1, e1, m1, r1, q1⟩, ⟨z2, A2, d2, e2, m2, r2, q2⟩⟩, by have := hf.be; rw [hB] at this; exact this⟩⟩
  rcases he with rfl | rfl <;> exact key
/-- A slice of a row at the end: its own. -/
theorem SX.doneO {fn : Func} {e : Exit} {s K1 : Nat} {v1 : Value} {et : TypeId} {k : IntKind} {p1 : List Int → Prop} {z1 : List Int} (he : e = .ret ∨ e = .normal) (hr : fn.results = #[.tmp s]) (hs : look fr s = some (.vl v1)) (h1 : look fr K1 = some (.ro v1 et (Value.int k) z1)) (q1 : p1 z1) (hB : B = w0.heap.size) :
    SX B N w0 e fr (bodyPost Try.prog fn (Ret w0 (fun v W => ∃ zs, Own W w0.heap.size et k v zs ∧ p1 zs))) := fun a W hf => by
  have a1 : a.tmps.getD s undef = _ := hf.ho s _ hs
  have o1 : Own W B et k v1 z1 := hf.ho K1 _ h1
  have hrun : (results fn a.tmps).run Try.prog W = .ok (a.tmps.getD s undef) W := by
    unfold results
    simp [hr, go_sem]
  rw [a1] at hrun
  have key : a.defers = [] ∧ ∃ v, (results fn a.tmps).run Try.prog W = .ok v W ∧ Ret w0 (fun v W => ∃ zs, Own W w0.heap.size et k v zs ∧ p1 zs) (.returned v) W :=
    ⟨hf.df, _, hrun, ⟨_, rfl, ⟨z1, hB ▸ o1, q1⟩, by have := hf.be; rw [hB] at this; exact this⟩⟩
  rcases he with rfl | rfl <;> exact key
/-- Whether a row is nil. -/
theorem PW.open {K : Nat} {v : Value} {e : TypeId} {f : Int → Value} {zs : List Int} (hK : look fr K = some (.ro v e f zs)) (h0 : v = .slice none 0 0 → zs = [] → PW B N w0 ops rest fr Q) (h1 : ∀ g c, v = .slice (some ⟨g, 0, none⟩) zs.length c → zs.length ≤ c → PW B N w0 ops rest fr Q) : PW B N w0 ops rest fr Q := fun a W hf => by
  have o1 : OwF W B e f v zs := hf.ho K _ hK
  rcases o1.form with ⟨e1, e2⟩ | ⟨g, c, e1, e2⟩
  · exact h0 e1 e2 a W hf
  · exact h1 g c e1 e2 a W hf
theorem SC.open {c0 : Code} {K : Nat} {v : Value} {e : TypeId} {f : Int → Value} {zs : List Int} (hK : look fr K = some (.ro v e f zs)) (h0 : v = .slice none 0 0 → zs = [] → SC B N w0 c0 fr Q) (h1 : ∀ g c, v = .slice (some ⟨g, 0, none⟩) zs.length c → zs.length ≤ c → SC B N w0 c0 fr Q) : SC B N w0 c0 fr Q := fun a W hf => by
  have o1 : OwF W B e f v zs := hf.ho K _ hK
  rcases o1.form with ⟨e1, e2⟩ | ⟨g, c, e1, e2⟩
  · exact h0 e1 e2 a W hf
  · exact h1 g c e1 e2 a W hf
end
end Go.Proofs.Ytcgkgcciogibkaa.Sy
/- shifted: its own slice. -/
set_option linter.unusedVariables false
set_option linter.unusedSimpArgs false
namespace Go.Proofs.Ytcgkgcciogibkaa
open Go Go.RowKit Ma
set_option maxHeartbeats 800000 in
set_option maxRecDepth 100000 in
theorem shifted_o (A : Option Addr) (c : Nat) (xs : List Int) (s : Nat) (w : World) (rA : Rd w .u32 A xs) (dx : dg b32 xs) (hl : xs.length ≤ 1000000) (hs : s < 32) :
    Calls Try.prog 119 #[.slice A xs.length c, .int .u64 s] w (Ret w (KO w.heap.size 92 .u32 fun zs => dg b32 zs ∧ lv b32 zs = lv b32 xs * (2 : Int) ^ s ∧ zs.length = xs.length + 1)) := by
  obtain ⟨i0, hi, hz0, hz1, hz2⟩ := info_parts info_u32
  have hlx := rA.1
  go_enter Try.func119, Try.ntmps119
  go_wp2_with (at_make; refine wpList_make_full _ rfl _ _ 22 rfl w.heap.size 92 i0 (.int .u32 0) 1 Try.underlying22 hi hz0 hz1 _ _ _ _ (xs.length + 1) rfl rfl (by omega) (by omega) ?b2 ?b3 (Nat.le_refl _) ?_)
  case b2 => rw [hz2]; omega
  case b3 => unfold maxLen; omega
  intro w0 hown0 hgrow0
  have n0 : Nw w w0 := Below.grown (Nw.refl w) hgrow0 (Nat.le_refl _) (fun k h => by cases h)
  have o0 := Own.made hown0
  clear hown0
  obtain ⟨g, hg⟩ : ∃ g, g = w.heap.size := ⟨_, rfl⟩
  rw [← hg] at o0
  have HG := Lib.hid hg
  go_wp2
  go_loopw [15] (fun ci wr => ∃ (k : Nat) (zs : List Int), ci = .int .i64 k ∧ Own wr w.heap.size 92 .u32 (.slice (some ⟨w.heap.size, 0, none⟩) (xs.length + 1) (xs.length + 1)) zs ∧ ShAt xs s k zs ∧ Nw w wr)
    (fun ci _ => xs.length - (intOf ci).toNat)
  case atStart => exact ⟨0, _, rfl, HG.out ▸ o0, ShAt.start xs s, n0⟩
  case round =>
    obtain ⟨k, zs, rfl, ho, hs1, hn⟩ := hrel
    have hkle := hs1.le
    clear hg o0
    by_cases hk : k < xs.length
    · obtain ⟨ad, hA, hcell⟩ := rA.2 k (by omega)
      subst hA
      have hcell := hn.kept _ _ _ hcell
      obtain ⟨x0, x1⟩ := dg_at dx (by decide) k
      rw [b32_eq] at x1
      have HS := Lib.hid (hs1.step dx hs hk)
      have hc := ho.cellAt (i := k) (by rw [hs1.len]; omega) hs1.len.symm
      have hf := ho.frozenAt hs1.len.symm k
      have HZ := Lib.hid hs1.len
      have hc2 := ho.cellAt (i := k + 1) (by rw [hs1.len]; omega) hs1.len.symm
      have hf2 := ho.frozenAt hs1.len.symm (k + 1)
      obtain ⟨hst, hz0', hmod, hv0, hv1, hq, hsum⟩ := HS.out
      have hor := or_add (at0 zs k) (at0 xs k * (2 : Int) ^ s % 4294967296) s ⟨hz0', hs1.top⟩ ⟨Int.emod_nonneg _ (by decide), Int.emod_lt_of_pos _ (by decide)⟩ hmod (by have := dg_at hs1.dg (by decide) k; rw [b32_eq] at this; exact this.2)
      have HST := Lib.hid hst
      have HO := Lib.hid ho
      clear hst hz0' hmod hq hsum hs1 ho HS
      go_wp2
      refine ⟨⟨k + 1, _, by go_num, ((HO.out.set HZ.out.symm k _).set (by simp [HZ.out]) (k + 1) _), HST.out, (hn.set (Nat.le_refl _) _).set (Nat.le_refl _) _⟩, by simp [intOf]; omega⟩
    · have hke : k = xs.length := by omega
      have hd := hs1.eq
      rw [hke, List.take_length] at hd
      have HD := Lib.hid hd
      have HZ := Lib.hid hs1.len
      have dz := hs1.dg
      clear hd hke hs1
      go_wp2
      go_ret
      have hlz : xs.length + 1 = zs.length := HZ.out.symm
      have HO2 : RowKit.Hid (Own wr w.heap.size 92 .u32 (.slice (some ⟨w.heap.size, 0, none⟩) (xs.length + 1) (xs.length + 1)) zs) := Lib.hid ho
      refine ⟨_, rfl, ⟨zs, w.heap.size, xs.length + 1, ?_, HO2.out, dz, HD.out, HZ.out⟩, hn⟩
      rw [← hlz]; rfl
end Go.Proofs.Ytcgkgcciogibkaa
/- The estimate of a digit of a long division: no program in sight. -/
set_option linter.unusedVariables false
set_option linter.unusedSimpArgs false
namespace Go.Proofs.Ytcgkgcciogibkaa.Ma

/-- The first estimate is not too small. -/
theorem est_start {b t v2 P V' V u2 W' W head digit rest : Int} (hb : 0 < b) (hP : 0 < P) (hV : V = (t * b + v2) * P + V') (hV0 : 0 ≤ V') (hv2 : 0 ≤ v2)
    (hW : W = (head * b + u2) * P + W') (hW1 : W' < P) (hu2 : u2 < b) (hd : digit * t + rest = head) (hr : rest < t) (hd0 : 0 ≤ digit) : W < (digit + 1) * V := by
  subst hd hV hW
  have h0 : 0 ≤ (t - rest - 1) * b := Int.mul_nonneg (by omega) (by omega)
  have h1 : 0 ≤ ((t - rest - 1) * b) * P := Int.mul_nonneg h0 (by omega)
  have h2 : 0 ≤ (b - u2 - 1) * P := Int.mul_nonneg (by omega) (by omega)
  have h3 : 0 ≤ (digit + 1) * (v2 * P) := Int.mul_nonneg (by omega) (Int.mul_nonneg hv2 (by omega))
  have h4 : 0 ≤ (digit + 1) * V' := Int.mul_nonneg (by omega) hV0
  simp only [Int.add_mul, Int.mul_add, Int.sub_mul, Int.mul_sub, Int.one_mul, Int.mul_one, Int.mul_assoc, Int.mul_comm, Int.mul_left_comm] at *
  omega
/-- An estimate that fails the test is too great. -/
theorem est_less {b t v2 P V' V u2 W' W head digit rest : Int} (hb : 0 < b) (hP : 0 < P) (hV : V = (t * b + v2) * P + V') (hV0 : 0 ≤ V')
    (hW : W = (head * b + u2) * P + W') (hW1 : W' < P) (hd : digit * t + rest = head) (hd0 : 0 ≤ digit) (h : rest * b + u2 < digit * v2) : W < digit * V := by
  subst hd hV hW
  have h1 : 0 ≤ (digit * v2 - rest * b - u2 - 1) * P := Int.mul_nonneg (by omega) (by omega)
  have h2 : 0 ≤ digit * V' := Int.mul_nonneg hd0 hV0
  simp only [Int.add_mul, Int.mul_add, Int.sub_mul, Int.mul_sub, Int.one_mul, Int.mul_one, Int.mul_assoc, Int.mul_comm, Int.mul_left_comm] at *
  omega
theorem est_base {b V W digit : Int} (hV : 0 ≤ V) (hW : W < V * b) (h : b ≤ digit) : W < digit * V := by
  have : V * b ≤ V * digit := Int.mul_le_mul_of_nonneg_left h hV
  rw [Int.mul_comm digit V]; omega
/-- An estimate that passes the test is too great by at most one. -/
theorem est_end {b t v2 P V' V u2 W' W head digit rest : Int} (hb : 0 < b) (hP : 0 < P) (hV : V = (t * b + v2) * P + V') (hV0 : 0 ≤ V') (hV1 : V' < P) (hv2 : 0 ≤ v2) (ht : 1 ≤ t)
    (hW : W = (head * b + u2) * P + W') (hW0 : 0 ≤ W') (hd : digit * t + rest = head) (hd0 : 0 ≤ digit) (hdb : digit ≤ b) (h : digit * v2 ≤ rest * b + u2) : (digit - 1) * V ≤ W := by
  subst hd hV hW
  have h1 : 0 ≤ (rest * b + u2 - digit * v2) * P := Int.mul_nonneg (by omega) (by omega)
  have h2 : 0 ≤ (b - digit) * V' := Int.mul_nonneg (by omega) hV0
  have h3 : 0 ≤ b * (P - V') := Int.mul_nonneg (by omega) (by omega)
  have h4 : 0 ≤ (t - 1) * (b * P) := Int.mul_nonneg (by omega) (Int.le_of_lt (Int.mul_pos hb hP))
  have h5 : 0 ≤ v2 * P := Int.mul_nonneg hv2 (by omega)
  simp only [Int.add_mul, Int.mul_add, Int.sub_mul, Int.mul_sub, Int.one_mul, Int.mul_one, Int.mul_assoc, Int.mul_comm, Int.mul_left_comm] at *
  omega

end Go.Proofs.Ytcgkgcciogibkaa.Ma
/- Long division of limbs: what its loops keep. No program in sight. -/
set_option linter.unusedVariables false
set_option linter.unusedSimpArgs false
namespace Go.Proofs.Ytcgkgcciogibkaa.Ma
theorem BB_pos : (0 : Int) < (4294967296 : Int) := by decide
theorem at0_set {xs : List Int} {i m : Nat} (x : Int) (h : i < xs.length) : at0 (xs.set i x) m = if i = m then x else at0 xs m := by
  unfold at0
  simp only [List.getD_eq_getElem?_getD, List.getElem?_set]
  by_cases e : i = m
  · subst e; simp [h]
  · simp [e]
/-- Zeros at the top. -/
theorem lt_of_zeros {b : Int} (hb : 0 < b) {zs : List Int} (d : dg b zs) {t : Nat} (h : ∀ m, t ≤ m → at0 zs m = 0) : lv b zs < b ^ t := by
  by_cases hl : zs.length ≤ t
  · exact Int.lt_of_lt_of_le (lv_lt hb d) (pow_le (by omega) hl)
  · have e := lv_split b zs t (by omega)
    have z : lv b (zs.drop t) = 0 := by
      have : zs.drop t = List.replicate (zs.drop t).length 0 := by
        apply List.eq_replicate_iff.2
        refine ⟨rfl, fun x hx => ?_⟩
        obtain ⟨m, hm, rfl⟩ := List.mem_iff_getElem.1 hx
        have := h (t + m) (by omega)
        simp only [at0, List.getD_eq_getElem?_getD] at this
        rw [List.getElem_drop]
        rw [List.length_drop] at hm
        rw [List.getElem?_eq_getElem (by omega)] at this
        simpa using this
      rw [this, lv_zeros]
    rw [e, z, Int.mul_zero, Int.add_zero]
    have := lv_lt hb (dg_take d t)
    rw [List.length_take, Nat.min_eq_left (by omega)] at this
    exact this
theorem zeros_of_lt {b : Int} (hb : 0 < b) {zs : List Int} (d : dg b zs) {t : Nat} (h : lv b zs < b ^ t) (m : Nat) (hm : t ≤ m) : at0 zs m = 0 := by
  by_cases hl : m < zs.length
  · obtain ⟨a0, a1⟩ := dg_at d hb m
    have e := lv_split b zs m (by omega)
    have e2 := lv_drop b zs m hl
    have n1 := lv_nonneg hb (dg_take d m)
    have n2 := lv_nonneg hb (dg_drop d (m + 1))
    have hp := pos_pow hb m
    have hq := pow_le (b := b) (by omega) hm
    apply Classical.byContradiction
    intro hne
    have h1 : 1 ≤ lv b (zs.drop m) := by rw [e2]; have := Int.mul_nonneg (Int.le_of_lt hb) n2; omega
    have h2 : b ^ m * 1 ≤ b ^ m * lv b (zs.drop m) := Int.mul_le_mul_of_nonneg_left h1 (Int.le_of_lt hp)
    omega
  · exact at0_ge (by omega)
/-- The three highest digits. -/
theorem three {b : Int} (hb : 0 < b) {zs : List Int} (d : dg b zs) {k : Nat} (hk : 2 ≤ k) (h : ∀ m, k < m → at0 zs m = 0) : lv b zs = ((at0 zs k * b + at0 zs (k - 1)) * b + at0 zs (k - 2)) * b ^ (k - 2) + lv b (zs.take (k - 2)) := by
  obtain ⟨j, rfl⟩ : ∃ j, k = j + 2 := ⟨k - 2, by omega⟩
  simp only [Nat.add_sub_cancel, show j + 2 - 1 = j + 1 by omega]
  have key : ∀ m, lv b (zs.drop m) = at0 zs m + b * lv b (zs.drop (m + 1)) := fun m => by
    by_cases hm : m < zs.length
    · exact lv_drop b zs m hm
    · rw [at0_ge (by omega), List.drop_eq_nil_of_le (by omega), List.drop_eq_nil_of_le (by omega)]; simp [lv]
  have z : lv b (zs.drop (j + 3)) = 0 := by
    have h1 : lv b (zs.drop (j + 3)) < b ^ 0 := lt_of_zeros hb (dg_drop d _) fun m _ => by
      have := h (j + 3 + m) (by omega)
      simp only [at0, List.getD_eq_getElem?_getD, List.getElem?_drop] at this ⊢
      exact this
    have := lv_nonneg hb (dg_drop d (j + 3))
    rw [Int.pow_zero] at h1
    omega
  have e : lv b zs = lv b (zs.take j) + b ^ j * lv b (zs.drop j) := by
    by_cases hj : j ≤ zs.length
    · exact lv_split b zs j hj
    · rw [List.take_of_length_le (by omega), List.drop_eq_nil_of_le (by omega)]; simp [lv]
  rw [e, key j, key (j + 1), key (j + 2), z]
  grind
/-! ### Multiply and subtract -/
def MS (us0 vs : List Int) (i : Nat) (D : Int) (j : Nat) (us : List Int) (cc bb : Int) : Prop :=
  us.length = us0.length ∧ dg 4294967296 us ∧ lv 4294967296 us = lv 4294967296 us0 - 4294967296 ^ i * (D * lv 4294967296 (vs.take j)) + 4294967296 ^ (i + j) * (cc + bb) ∧ (∀ m, i + j ≤ m → at0 us m = at0 us0 m) ∧ 0 ≤ cc ∧ cc < 4294967296 ∧ 0 ≤ bb ∧ bb ≤ 1 ∧ j ≤ vs.length
theorem MS.start {us0 vs : List Int} {i : Nat} {D : Int} (d : dg 4294967296 us0) : MS us0 vs i D 0 us0 0 0 := ⟨rfl, d, by simp [lv], fun _ _ => rfl, by omega, by decide, by omega, by omega, by omega⟩
/-- A borrow. -/
theorem borrow64 {x : Int} (h0 : -4294967296 ≤ x) (h1 : x < 4294967296) : x % 18446744073709551616 % 4294967296 = x + 4294967296 * (x % 18446744073709551616 / 9223372036854775808) ∧ (x % 18446744073709551616 / 9223372036854775808 = if x < 0 then 1 else 0) := by
  by_cases h : x < 0
  · have : x % 18446744073709551616 = x + 18446744073709551616 := by omega
    rw [this, if_pos h]
    constructor <;> omega
  · have : x % 18446744073709551616 = x := by omega
    rw [this, if_neg h]
    constructor <;> omega
theorem MS.bound {us0 vs : List Int} {i : Nat} {D : Int} {j : Nat} {us : List Int} {cc bb : Int} (h : MS us0 vs i D j us cc bb) (dv : dg 4294967296 vs) (hD0 : 0 ≤ D) (hD : D < 4294967296) : 0 ≤ D * at0 vs j + cc ∧ D * at0 vs j + cc < 18446744073709551616 ∧ 0 ≤ (D * at0 vs j + cc) / 4294967296 ∧ (D * at0 vs j + cc) / 4294967296 < 4294967296 := by
  obtain ⟨_, _, _, _, c0, c1, _, _, _⟩ := h
  obtain ⟨v0, v1⟩ := dg_at dv BB_pos j
  have p0 := Int.mul_nonneg hD0 v0
  have p1 : D * at0 vs j ≤ 4294967295 * 4294967295 := by
    have a : D * at0 vs j ≤ D * 4294967295 := Int.mul_le_mul_of_nonneg_left (by omega) hD0
    have c : D * 4294967295 ≤ 4294967295 * 4294967295 := Int.mul_le_mul_of_nonneg_right (by omega) (by decide)
    omega
  omega
theorem MS.step {us0 vs : List Int} {i : Nat} {D : Int} {j : Nat} {us : List Int} {cc bb : Int} (h : MS us0 vs i D j us cc bb) (dv : dg 4294967296 vs) (hD0 : 0 ≤ D) (hD : D < 4294967296) (hj : j < vs.length) (hi : i + vs.length < us0.length) :
    MS us0 vs i D (j + 1) (us.set (i + j) ((at0 us (i + j) - (D * at0 vs j + cc) % 4294967296 - bb) % 18446744073709551616 % 4294967296)) ((D * at0 vs j + cc) / 4294967296) ((at0 us (i + j) - (D * at0 vs j + cc) % 4294967296 - bb) % 18446744073709551616 / 9223372036854775808) := by
  have hb := h.bound dv hD0 hD
  obtain ⟨hl, du, hv, ha, c0, c1, b0, b1, _⟩ := h
  obtain ⟨u0, u1⟩ := dg_at du BB_pos (i + j)
  generalize hp : D * at0 vs j + cc = p at *
  have hm0 := Int.emod_nonneg p (show 4294967296 ≠ 0 by decide)
  have hm1 := Int.emod_lt_of_pos p BB_pos
  obtain ⟨e1, e2⟩ := borrow64 (x := at0 us (i + j) - p % 4294967296 - bb) (by omega) (by omega)
  have hlt : i + j < us.length := by omega
  refine ⟨by rw [List.length_set, hl], dg_set du _ (Int.emod_nonneg _ (by decide)) (Int.emod_lt_of_pos _ BB_pos), ?_, fun m hm => ?_, hb.2.2.1, hb.2.2.2, ?_, ?_, by omega⟩
  · rw [lv_set 4294967296 us (i + j) _ hlt, e1, hv, lv_take_succ 4294967296 vs j hj, show i + (j + 1) = (i + j) + 1 by omega, Int.pow_succ, Int.pow_add]
    have hpp := Int.mul_ediv_add_emod p 4294967296
    generalize at0 us (i + j) = u at *
    generalize (u - p % 4294967296 - bb) % 18446744073709551616 / 9223372036854775808 = bb' at *
    generalize lv 4294967296 (vs.take j) = T at *
    generalize at0 vs j = w at *
    generalize lv 4294967296 us0 = X at *
    generalize (4294967296 : Int) ^ i = A at *
    generalize (4294967296 : Int) ^ j = C at *
    generalize p / 4294967296 = q at *
    generalize p % 4294967296 = r at *
    have : r = D * w + cc - 4294967296 * q := by omega
    rw [this]
    grind
  · rw [at0_set _ hlt, if_neg (by omega)]
    exact ha m (by omega)
  · rw [e2]; split <;> omega
  · rw [e2]; split <;> omega
/-- Behind it. -/
theorem MS.fin {us0 vs : List Int} {i : Nat} {D : Int} {us : List Int} {cc bb : Int} (h : MS us0 vs i D vs.length us cc bb) (hi : i + vs.length < us0.length) {us2 : List Int} {ng : Int}
    (e2 : us2 = us.set (i + vs.length) ((at0 us (i + vs.length) - cc - bb) % 18446744073709551616 % 4294967296)) (en : ng = (at0 us (i + vs.length) - cc - bb) % 18446744073709551616 / 9223372036854775808) :
    us2.length = us0.length ∧ dg 4294967296 us2 ∧ lv 4294967296 us2 = lv 4294967296 us0 - 4294967296 ^ i * (D * lv 4294967296 vs) + 4294967296 ^ (i + vs.length + 1) * ng ∧ (∀ m, i + vs.length < m → at0 us2 m = at0 us0 m) ∧ (ng = 0 ∨ ng = 1) := by
  obtain ⟨hl, du, hv, ha, c0, c1, b0, b1, _⟩ := h
  obtain ⟨u0, u1⟩ := dg_at du BB_pos (i + vs.length)
  obtain ⟨x1, x2⟩ := borrow64 (x := at0 us (i + vs.length) - cc - bb) (by omega) (by omega)
  have hlt : i + vs.length < us.length := by omega
  rw [List.take_length] at hv
  subst e2 en
  refine ⟨by rw [List.length_set, hl], dg_set du _ (Int.emod_nonneg _ (by decide)) (Int.emod_lt_of_pos _ BB_pos), ?_, fun m hm => ?_, ?_⟩
  · rw [lv_set 4294967296 us _ _ hlt, x1, hv, Int.pow_succ]
    generalize (at0 us (i + vs.length) - cc - bb) % 18446744073709551616 / 9223372036854775808 = ng at *
    generalize at0 us (i + vs.length) = u at *
    generalize (4294967296 : Int) ^ (i + vs.length) = C at *
    generalize (4294967296 : Int) ^ i = A at *
    grind
  · rw [at0_set _ hlt, if_neg (by omega)]; exact ha m (by omega)
  · rw [x2]; split
    · exact .inr rfl
    · exact .inl rfl
/-! ### Add back -/
def AB (us2 vs : List Int) (i j : Nat) (us : List Int) (c : Int) : Prop :=
  us.length = us2.length ∧ dg 4294967296 us ∧ lv 4294967296 us = lv 4294967296 us2 + 4294967296 ^ i * lv 4294967296 (vs.take j) - 4294967296 ^ (i + j) * c ∧ (∀ m, i + j ≤ m → at0 us m = at0 us2 m) ∧ 0 ≤ c ∧ c ≤ 1 ∧ j ≤ vs.length
theorem AB.start {us2 vs : List Int} {i : Nat} (d : dg 4294967296 us2) : AB us2 vs i 0 us2 0 := ⟨rfl, d, by simp [lv], fun _ _ => rfl, by omega, by omega, by omega⟩
theorem AB.step {us2 vs : List Int} {i j : Nat} {us : List Int} {c : Int} (h : AB us2 vs i j us c) (dv : dg 4294967296 vs) (hj : j < vs.length) (hi : i + vs.length < us2.length) :
    AB us2 vs i (j + 1) (us.set (i + j) ((at0 us (i + j) + at0 vs j + c) % 4294967296)) ((at0 us (i + j) + at0 vs j + c) / 4294967296) := by
  obtain ⟨hl, du, hv, ha, c0, c1, _⟩ := h
  obtain ⟨u0, u1⟩ := dg_at du BB_pos (i + j)
  obtain ⟨v0, v1⟩ := dg_at dv BB_pos j
  have hlt : i + j < us.length := by omega
  refine ⟨by rw [List.length_set, hl], dg_set du _ (Int.emod_nonneg _ (by decide)) (Int.emod_lt_of_pos _ BB_pos), ?_, fun m hm => ?_, by omega, by omega, by omega⟩
  · rw [lv_set 4294967296 us _ _ hlt, hv, lv_take_succ 4294967296 vs j hj, show i + (j + 1) = (i + j) + 1 by omega, Int.pow_succ, Int.pow_add]
    have hs := Int.mul_ediv_add_emod (at0 us (i + j) + at0 vs j + c) 4294967296
    generalize (at0 us (i + j) + at0 vs j + c) / 4294967296 = q at *
    generalize (at0 us (i + j) + at0 vs j + c) % 4294967296 = r at *
    generalize at0 us (i + j) = u at *
    generalize at0 vs j = w at *
    generalize lv 4294967296 (vs.take j) = T at *
    generalize (4294967296 : Int) ^ i = A at *
    generalize (4294967296 : Int) ^ j = C at *
    have : r = u + w + c - 4294967296 * q := by omega
    rw [this]
    grind
  · rw [at0_set _ hlt, if_neg (by omega)]; exact ha m (by omega)
theorem AB.fin {us2 vs : List Int} {i : Nat} {us : List Int} {c : Int} (h : AB us2 vs i vs.length us c) (hi : i + vs.length < us2.length) {us3 : List Int} (e3 : us3 = us.set (i + vs.length) ((at0 us (i + vs.length) + c) % 4294967296)) :
    us3.length = us2.length ∧ dg 4294967296 us3 ∧ (∃ c2, (c2 = 0 ∨ c2 = 1) ∧ lv 4294967296 us3 = lv 4294967296 us2 + 4294967296 ^ i * lv 4294967296 vs - 4294967296 ^ (i + vs.length + 1) * c2) ∧ (∀ m, i + vs.length < m → at0 us3 m = at0 us2 m) := by
  obtain ⟨hl, du, hv, ha, c0, c1, _⟩ := h
  obtain ⟨u0, u1⟩ := dg_at du BB_pos (i + vs.length)
  have hlt : i + vs.length < us.length := by omega
  rw [List.take_length] at hv
  subst e3
  refine ⟨by rw [List.length_set, hl], dg_set du _ (Int.emod_nonneg _ (by decide)) (Int.emod_lt_of_pos _ BB_pos), ⟨(at0 us (i + vs.length) + c) / 4294967296, by omega, ?_⟩, fun m hm => ?_⟩
  · rw [lv_set 4294967296 us _ _ hlt, hv, Int.pow_succ]
    have hs := Int.mul_ediv_add_emod (at0 us (i + vs.length) + c) 4294967296
    generalize (at0 us (i + vs.length) + c) / 4294967296 = q at *
    generalize (at0 us (i + vs.length) + c) % 4294967296 = r at *
    generalize at0 us (i + vs.length) = u at *
    generalize (4294967296 : Int) ^ (i + vs.length) = C at *
    generalize (4294967296 : Int) ^ i = A at *
    have : r = u + c - 4294967296 * q := by omega
    rw [this]
    grind
  · rw [at0_set _ hlt, if_neg (by omega)]; exact ha m (by omega)
/-! ### A round -/
/-- What is left: less than b^i times the divisor; what is above it is 0. -/
def Lft (vs : List Int) (i : Nat) (us : List Int) : Prop := dg 4294967296 us ∧ lv 4294967296 us < 4294967296 ^ i * lv 4294967296 vs
theorem lft_zeros {vs us : List Int} {i : Nat} (h : Lft vs (i + 1) us) (dv : dg 4294967296 vs) (m : Nat) (hm : i + vs.length < m) : at0 us m = 0 := by
  refine zeros_of_lt BB_pos h.1 (t := i + vs.length + 1) ?_ m (by omega)
  have h1 := lv_lt BB_pos dv
  have h2 := h.2
  have h3 := pos_pow BB_pos (i + 1)
  have h4 : 4294967296 ^ (i + 1) * lv 4294967296 vs ≤ 4294967296 ^ (i + 1) * 4294967296 ^ vs.length := Int.mul_le_mul_of_nonneg_left (Int.le_of_lt h1) (Int.le_of_lt h3)
  rw [← Int.pow_add, show i + 1 + vs.length = i + vs.length + 1 by omega] at h4
  omega
theorem round_pos {us0 vs us2 : List Int} {i : Nat} {D ng : Int} (h : Lft vs (i + 1) us0) (hd2 : dg 4294967296 us2) (hW : lv 4294967296 us0 < 4294967296 ^ i * ((D + 1) * lv 4294967296 vs)) (e : lv 4294967296 us2 = lv 4294967296 us0 - 4294967296 ^ i * (D * lv 4294967296 vs) + 4294967296 ^ (i + vs.length + 1) * ng) (hn : ng = 0) : Lft vs i us2 ∧ lv 4294967296 us0 = lv 4294967296 us2 + 4294967296 ^ i * (D * lv 4294967296 vs) := by
  rw [hn, Int.mul_zero, Int.add_zero] at e
  rw [Int.add_mul, Int.one_mul, Int.mul_add] at hW
  exact ⟨⟨hd2, by omega⟩, by omega⟩
theorem round_neg {us0 vs us2 us3 : List Int} {i : Nat} {D ng c2 : Int} (h : Lft vs (i + 1) us0) (dv : dg 4294967296 vs) (hd2 : dg 4294967296 us2) (hd3 : dg 4294967296 us3) (hD : 4294967296 ^ i * ((D - 1) * lv 4294967296 vs) ≤ lv 4294967296 us0) (e : lv 4294967296 us2 = lv 4294967296 us0 - 4294967296 ^ i * (D * lv 4294967296 vs) + 4294967296 ^ (i + vs.length + 1) * ng) (hn : ng = 1)
    (z2 : ∀ m, i + vs.length < m → at0 us2 m = at0 us0 m) (z3 : ∀ m, i + vs.length < m → at0 us3 m = at0 us2 m) (e3 : lv 4294967296 us3 = lv 4294967296 us2 + 4294967296 ^ i * lv 4294967296 vs - 4294967296 ^ (i + vs.length + 1) * c2) (hc : c2 = 0 ∨ c2 = 1) :
    Lft vs i us3 ∧ lv 4294967296 us0 = lv 4294967296 us3 + 4294967296 ^ i * ((D - 1) * lv 4294967296 vs) := by
  have zz : ∀ m, i + vs.length + 1 ≤ m → at0 us3 m = 0 := fun m hm => by rw [z3 m (by omega), z2 m (by omega)]; exact lft_zeros h dv m (by omega)
  have zz2 : ∀ m, i + vs.length + 1 ≤ m → at0 us2 m = 0 := fun m hm => by rw [z2 m (by omega)]; exact lft_zeros h dv m (by omega)
  have l3 := lt_of_zeros BB_pos hd3 zz
  have l2 := lt_of_zeros BB_pos hd2 zz2
  have n3 := lv_nonneg BB_pos hd3
  subst hn
  rw [Int.mul_one] at e
  rw [Int.sub_mul, Int.one_mul, Int.mul_sub] at hD ⊢
  generalize (4294967296 : Int) ^ (i + vs.length + 1) = P at *
  generalize hAV : (4294967296 : Int) ^ i * lv 4294967296 vs = AV at *
  generalize (4294967296 : Int) ^ i * (D * lv 4294967296 vs) = DV at *
  rcases hc with rfl | rfl
  · rw [Int.mul_zero] at e3; omega
  · rw [Int.mul_one] at e3
    exact ⟨⟨hd3, by rw [hAV]; omega⟩, by omega⟩
/-! ### The estimate -/
/-- head, and so on, of what is left at i, by a divisor of at least two digits. -/
structure Es (us vs : List Int) (i : Nat) (D r : Int) : Prop where
  d0 : 0 ≤ D
  r0 : 0 ≤ r
  eq : D * at0 vs (vs.length - 1) + r = at0 us (i + vs.length) * 4294967296 + at0 us (i + vs.length - 1)
  lt : lv 4294967296 us < 4294967296 ^ i * ((D + 1) * lv 4294967296 vs)
theorem dropAt (us : List Int) (i m : Nat) : at0 (us.drop i) m = at0 us (i + m) := by
  simp only [at0, List.getD_eq_getElem?_getD, List.getElem?_drop]
/-- The window over the divisor. -/
theorem window {us vs : List Int} {i : Nat} (h : Lft vs (i + 1) us) (dv : dg 4294967296 vs) (hk : 2 ≤ vs.length) (hi : i + vs.length < us.length) :
    ∃ W W' V' : Int, lv 4294967296 us / 4294967296 ^ i = W ∧ W = ((at0 us (i + vs.length) * 4294967296 + at0 us (i + vs.length - 1)) * 4294967296 + at0 us (i + vs.length - 2)) * 4294967296 ^ (vs.length - 2) + W' ∧ 0 ≤ W' ∧ W' < 4294967296 ^ (vs.length - 2) ∧
      lv 4294967296 vs = (at0 vs (vs.length - 1) * 4294967296 + at0 vs (vs.length - 2)) * 4294967296 ^ (vs.length - 2) + V' ∧ 0 ≤ V' ∧ V' < 4294967296 ^ (vs.length - 2) ∧ W < lv 4294967296 vs * 4294967296 := by
  have du := h.1
  have dd := dg_drop du i
  have e1 := lv_ediv BB_pos du i (by omega)
  have t1 := three BB_pos dd (k := vs.length) hk fun m hm => by rw [dropAt]; exact lft_zeros h dv _ (by omega)
  have t2 := three BB_pos dv (k := vs.length) hk fun m hm => at0_ge (by omega)
  rw [at0_ge (Nat.le_refl vs.length), Int.zero_mul, Int.zero_add] at t2
  rw [dropAt, dropAt, dropAt, show i + (vs.length - 1) = i + vs.length - 1 by omega, show i + (vs.length - 2) = i + vs.length - 2 by omega] at t1
  have w0 := lv_nonneg BB_pos (dg_take dd (vs.length - 2))
  have w1 := lv_lt BB_pos (dg_take dd (vs.length - 2))
  have v0 := lv_nonneg BB_pos (dg_take dv (vs.length - 2))
  have v1 := lv_lt BB_pos (dg_take dv (vs.length - 2))
  rw [List.length_take, List.length_drop, Nat.min_eq_left (by omega)] at w1
  rw [List.length_take, Nat.min_eq_left (by omega)] at v1
  refine ⟨_, _, _, e1, t1, w0, w1, t2, v0, v1, ?_⟩
  rw [← e1]
  have hp := pos_pow BB_pos i
  apply Int.ediv_lt_of_lt_mul hp
  have := h.2
  rw [Int.pow_succ, Int.mul_assoc] at this
  rw [Int.mul_comm (lv 4294967296 vs * 4294967296), Int.mul_comm (lv 4294967296 vs)]
  exact this
/-- From floors to the numbers themselves. -/
theorem lt_win {X A Y : Int} (hA : 0 < A) (h : X / A < Y) : X < A * Y := by
  have a := Int.mul_ediv_add_emod X A
  have b := Int.emod_lt_of_pos X hA
  have c : A * (X / A + 1) ≤ A * Y := Int.mul_le_mul_of_nonneg_left (by omega) (Int.le_of_lt hA)
  rw [Int.mul_add, Int.mul_one] at c
  omega
theorem win_lt {X A Y : Int} (hA : 0 < A) (h : X < A * Y) : X / A < Y := Int.ediv_lt_of_lt_mul hA (by rw [Int.mul_comm]; exact h)
theorem le_win {X A Y : Int} (hA : 0 < A) (h : Y ≤ X / A) : A * Y ≤ X := by
  have a := Int.mul_ediv_add_emod X A
  have b := Int.emod_nonneg X (Int.ne_of_gt hA)
  have c : A * Y ≤ A * (X / A) := Int.mul_le_mul_of_nonneg_left h (Int.le_of_lt hA)
  omega
section
variable {us vs : List Int} {i : Nat}
theorem Es.start (h : Lft vs (i + 1) us) (dv : dg 4294967296 vs) (hk : 2 ≤ vs.length) (hi : i + vs.length < us.length) (ht : 1 ≤ at0 vs (vs.length - 1)) {H : Int} (hH : H = at0 us (i + vs.length) * 4294967296 + at0 us (i + vs.length - 1)) : Es us vs i (H / at0 vs (vs.length - 1)) (H % at0 vs (vs.length - 1)) := by
  obtain ⟨W, W', V', e, eW, w0, w1, eV, v0, v1, wb⟩ := window h dv hk hi
  have du := h.1
  obtain ⟨a0, a1⟩ := dg_at du BB_pos (i + vs.length)
  obtain ⟨c0, c1⟩ := dg_at du BB_pos (i + vs.length - 1)
  obtain ⟨x0, x1⟩ := dg_at du BB_pos (i + vs.length - 2)
  obtain ⟨y0, y1⟩ := dg_at dv BB_pos (vs.length - 2)
  have hH0 : 0 ≤ H := by rw [hH]; have := Int.mul_nonneg a0 (show (0 : Int) ≤ 4294967296 by decide); omega
  have q0 := Int.ediv_nonneg hH0 (show 0 ≤ at0 vs (vs.length - 1) by omega)
  have r0 := Int.emod_nonneg H (show at0 vs (vs.length - 1) ≠ 0 by omega)
  have r1 := Int.emod_lt_of_pos H (show 0 < at0 vs (vs.length - 1) by omega)
  have hs : H / at0 vs (vs.length - 1) * at0 vs (vs.length - 1) + H % at0 vs (vs.length - 1) = H := by rw [Int.mul_comm]; exact Int.mul_ediv_add_emod _ _
  refine ⟨q0, r0, by rw [hs, hH], ?_⟩
  have := est_start BB_pos (pos_pow BB_pos (vs.length - 2)) eV v0 y0 eW w1 x1 (by rw [hs, hH]) r1 q0
  exact lt_win (pos_pow BB_pos i) (by rw [e]; exact this)
/-- The test says that the estimate is too great. -/
theorem Es.down {D r : Int} (he : Es us vs i D r) (h : Lft vs (i + 1) us) (dv : dg 4294967296 vs) (hk : 2 ≤ vs.length) (hi : i + vs.length < us.length) (ht : 1 ≤ at0 vs (vs.length - 1)) (hc : 4294967296 ≤ D ∨ r * 4294967296 + at0 us (i + vs.length - 2) < D * at0 vs (vs.length - 2)) : Es us vs i (D - 1) (r + at0 vs (vs.length - 1)) ∧ 1 ≤ D := by
  obtain ⟨W, W', V', e, eW, w0, w1, eV, v0, v1, wb⟩ := window h dv hk hi
  have du := h.1
  obtain ⟨x0, x1⟩ := dg_at du BB_pos (i + vs.length - 2)
  obtain ⟨y0, y1⟩ := dg_at dv BB_pos (vs.length - 2)
  have hV0 := lv_nonneg BB_pos dv
  have hD1 : 1 ≤ D := by
    rcases hc with h1 | h1
    · have : (1 : Int) ≤ 4294967296 := by decide
      omega
    · have := Int.mul_nonneg he.r0 (show (0 : Int) ≤ 4294967296 by decide)
      apply Classical.byContradiction
      intro hn
      have hz : D = 0 := by have := he.d0; omega
      rw [hz, Int.zero_mul] at h1
      omega
  have hlt : W < D * lv 4294967296 vs := by
    rcases hc with h1 | h1
    · exact est_base hV0 wb h1
    · exact est_less BB_pos (pos_pow BB_pos (vs.length - 2)) eV v0 eW w1 he.eq he.d0 h1
  refine ⟨⟨by omega, by have := he.r0; omega, ?_, ?_⟩, hD1⟩
  · rw [Int.sub_mul, Int.one_mul]; have := he.eq; omega
  · rw [Int.sub_add_cancel]; exact lt_win (pos_pow BB_pos i) (by rw [e]; exact hlt)
/-- It is too great by at most one. -/
theorem Es.near {D r : Int} (he : Es us vs i D r) (h : Lft vs (i + 1) us) (dv : dg 4294967296 vs) (hk : 2 ≤ vs.length) (hi : i + vs.length < us.length) (ht : 1 ≤ at0 vs (vs.length - 1)) (hD : D < 4294967296) (hc : D * at0 vs (vs.length - 2) ≤ r * 4294967296 + at0 us (i + vs.length - 2)) : 4294967296 ^ i * ((D - 1) * lv 4294967296 vs) ≤ lv 4294967296 us := by
  obtain ⟨W, W', V', e, eW, w0, w1, eV, v0, v1, wb⟩ := window h dv hk hi
  obtain ⟨y0, y1⟩ := dg_at dv BB_pos (vs.length - 2)
  have := est_end BB_pos (pos_pow BB_pos (vs.length - 2)) eV v0 v1 y0 ht eW w0 he.eq he.d0 (Int.le_of_lt hD) hc
  exact le_win (pos_pow BB_pos i) (by rw [e]; exact this)
/-- The highest digit is not above the divisor's. -/
theorem top_le' (h : Lft vs (i + 1) us) (dv : dg 4294967296 vs) (hk : 2 ≤ vs.length) (hi : i + vs.length < us.length) : at0 us (i + vs.length) ≤ at0 vs (vs.length - 1) := by
  obtain ⟨W, W', V', e, eW, w0, w1, eV, v0, v1, wb⟩ := window h dv hk hi
  have du := h.1
  obtain ⟨c0, c1⟩ := dg_at du BB_pos (i + vs.length - 1)
  obtain ⟨x0, x1⟩ := dg_at du BB_pos (i + vs.length - 2)
  obtain ⟨y0, y1⟩ := dg_at dv BB_pos (vs.length - 2)
  have hP := pos_pow BB_pos (vs.length - 2)
  apply Classical.byContradiction
  intro hn
  generalize (4294967296 : Int) ^ (vs.length - 2) = P at *
  generalize at0 us (i + vs.length) = a at *
  generalize at0 us (i + vs.length - 1) = c at *
  generalize at0 us (i + vs.length - 2) = x at *
  generalize at0 vs (vs.length - 1) = t at *
  generalize at0 vs (vs.length - 2) = y at *
  have e0 : (t * 4294967296 + y + 1) * P = (t * 4294967296 + y) * P + P := by grind
  have h1 : lv 4294967296 vs < (t * 4294967296 + y + 1) * P := by rw [e0]; omega
  have h2 : (t * 4294967296 + y + 1) * P ≤ (t + 1) * 4294967296 * P := Int.mul_le_mul_of_nonneg_right (by rw [Int.add_mul]; omega) (Int.le_of_lt hP)
  have h3 : ((a * 4294967296 + c) * 4294967296 + x) * P ≥ (a * 4294967296 * 4294967296) * P := Int.mul_le_mul_of_nonneg_right (by rw [Int.add_mul]; have := Int.mul_nonneg c0 (show (0 : Int) ≤ 4294967296 by decide); omega) (Int.le_of_lt hP)
  have h4 : (t + 1) * 4294967296 * P * 4294967296 ≤ a * 4294967296 * 4294967296 * P := by
    have h5 : (t + 1) * (4294967296 * 4294967296 * P) ≤ a * (4294967296 * 4294967296 * P) := Int.mul_le_mul_of_nonneg_right (by omega) (Int.mul_nonneg (by decide) (Int.le_of_lt hP))
    have e1 : (t + 1) * 4294967296 * P * 4294967296 = (t + 1) * (4294967296 * 4294967296 * P) := by grind
    have e2 : a * 4294967296 * 4294967296 * P = a * (4294967296 * 4294967296 * P) := by grind
    rw [e1, e2]; exact h5
  have h6 : lv 4294967296 vs * 4294967296 < (t + 1) * 4294967296 * P * 4294967296 := Int.mul_lt_mul_of_pos_right (by omega) (by decide)
  omega
/-- The loop breaks off: the remainder of the estimate no longer fits a digit. -/
theorem Es.brk {D r : Int} (he : Es us vs i D r) (h : Lft vs (i + 1) us) (dv : dg 4294967296 vs) (hk : 2 ≤ vs.length) (hi : i + vs.length < us.length) (ht : 1 ≤ at0 vs (vs.length - 1)) (hr : 4294967296 ≤ r) : D < 4294967296 ∧ D * at0 vs (vs.length - 2) ≤ r * 4294967296 + at0 us (i + vs.length - 2) := by
  have h1 := top_le' h dv hk hi
  have du := h.1
  obtain ⟨c0, c1⟩ := dg_at du BB_pos (i + vs.length - 1)
  obtain ⟨x0, x1⟩ := dg_at du BB_pos (i + vs.length - 2)
  obtain ⟨y0, y1⟩ := dg_at dv BB_pos (vs.length - 2)
  have e := he.eq
  have d0 := he.d0
  have hD : D < 4294967296 := by
    apply Classical.byContradiction
    intro hn
    have h2 : 4294967296 * at0 vs (vs.length - 1) ≤ D * at0 vs (vs.length - 1) := Int.mul_le_mul_of_nonneg_right (by omega) (by omega)
    have h3 : at0 us (i + vs.length) * 4294967296 ≤ at0 vs (vs.length - 1) * 4294967296 := Int.mul_le_mul_of_nonneg_right h1 (by decide)
    rw [Int.mul_comm 4294967296] at h2
    omega
  refine ⟨hD, ?_⟩
  have h4 : D * at0 vs (vs.length - 2) ≤ 4294967296 * 4294967296 := Int.le_trans (Int.mul_le_mul_of_nonneg_left (Int.le_of_lt y1) d0) (Int.mul_le_mul_of_nonneg_right (Int.le_of_lt hD) (by decide))
  have h5 : 4294967296 * 4294967296 ≤ r * 4294967296 := Int.mul_le_mul_of_nonneg_right hr (by decide)
  omega
end
end Go.Proofs.Ytcgkgcciogibkaa.Ma
/- Long division of limbs: its rounds together. No program in sight. -/
set_option linter.unusedVariables false
set_option linter.unusedSimpArgs false
namespace Go.Proofs.Ytcgkgcciogibkaa.Ma
/-- Behind the rounds down to t. -/
structure Ro (U0 vs : List Int) (L t : Nat) (us qs : List Int) : Prop where
  ul : us.length = U0.length
  lf : Lft vs t us
  ql : qs.length = L
  qd : dg 4294967296 qs
  eq : lv 4294967296 U0 = lv 4294967296 us + lv 4294967296 qs * lv 4294967296 vs
  qz : ∀ m, m < t → at0 qs m = 0
  tL : t ≤ L
theorem at0_zeros (n m : Nat) : at0 (List.replicate n 0) m = 0 := by
  unfold at0
  simp only [List.getD_eq_getElem?_getD, List.getElem?_replicate]
  split <;> rfl
theorem Ro.start {U0 vs : List Int} {L : Nat} (h : Lft vs L U0) : Ro U0 vs L L U0 (List.replicate L 0) :=
  ⟨rfl, h, List.length_replicate, dg_replicate L (by decide) (by decide), by rw [lv_zeros, Int.zero_mul, Int.add_zero], fun m _ => at0_zeros L m, Nat.le_refl _⟩
theorem Ro.step {U0 vs us us' qs : List Int} {L i : Nat} {D : Int} (h : Ro U0 vs L (i + 1) us qs) (hl : us'.length = us.length) (lf : Lft vs i us') (e : lv 4294967296 us = lv 4294967296 us' + 4294967296 ^ i * (D * lv 4294967296 vs)) (h0 : 0 ≤ D) (h1 : D < 4294967296) : Ro U0 vs L i us' (qs.set i D) := by
  have hi : i < qs.length := by rw [h.ql]; have := h.tL; omega
  refine ⟨by rw [hl, h.ul], lf, by rw [List.length_set, h.ql], dg_set h.qd _ h0 h1, ?_, fun m hm => ?_, by have := h.tL; omega⟩
  · rw [lv_set _ _ _ _ hi, h.qz i (by omega), h.eq, e, Int.sub_zero]
    generalize (4294967296 : Int) ^ i = A
    generalize lv 4294967296 vs = V
    grind
  · rw [at0_set _ hi, if_neg (by omega)]; exact h.qz m (by omega)
/-- The shift that fills the divisor's top digit. -/
theorem shift_fits {y : Int} (h0 : 1 ≤ y) (h1 : y < 4294967296) : wid y ≤ 32 ∧ 1 ≤ wid y ∧ (y + 1) * 2 ^ (32 - wid y) ≤ 4294967296 := by
  have h2 : wid y ≤ 32 := wid_le_of (by have e : (2 : Int) ^ 32 = 4294967296 := rfl; rw [e]; exact h1)
  have h3 := wid_pos (z := y) (by omega)
  have h4 := wid_lt y
  refine ⟨h2, h3, ?_⟩
  have e : (4294967296 : Int) = 2 ^ wid y * 2 ^ (32 - wid y) := by rw [← Int.pow_add, show wid y + (32 - wid y) = 32 by omega]; rfl
  conv => rhs; rw [e]
  exact Int.mul_le_mul_of_nonneg_right (by omega) (Int.le_of_lt (Int.pow_pos (by decide)))
section
variable {xs ys U0 vs : List Int} {s : Nat}
/-- The divisor, shifted, keeps its length. -/
theorem same_len (dy : dg 4294967296 ys) (hn : 1 ≤ ys.length) (h1 : 1 ≤ at0 ys (ys.length - 1)) (hs : s = 32 - wid (at0 ys (ys.length - 1))) (dv : dg 4294967296 vs) (tv : top vs) (e : lv 4294967296 vs = lv 4294967296 ys * 2 ^ s) : vs.length = ys.length ∧ 1 ≤ at0 vs (vs.length - 1) ∧ 4294967296 ^ (ys.length - 1) * 2 ^ s ≤ lv 4294967296 vs := by
  obtain ⟨y0, y1⟩ := dg_at dy BB_pos (ys.length - 1)
  obtain ⟨w0, w1, w2⟩ := shift_fits h1 y1
  rw [← hs] at w2
  obtain ⟨n, hn'⟩ : ∃ n, ys.length = n + 1 := ⟨ys.length - 1, by omega⟩
  have hp : (0 : Int) < 2 ^ s := Int.pow_pos (by decide)
  have hA := pos_pow BB_pos n
  have sp := lv_split 4294967296 ys n (by omega)
  rw [lv_drop 4294967296 ys n (by omega), List.drop_eq_nil_of_le (show ys.length ≤ n + 1 by omega)] at sp
  have t0 := lv_nonneg BB_pos (dg_take dy n)
  have t1 := lv_lt BB_pos (dg_take dy n)
  rw [List.length_take, Nat.min_eq_left (by omega)] at t1
  simp only [lv, Int.mul_zero, Int.add_zero] at sp
  rw [hn', Nat.add_sub_cancel] at h1 w2 ⊢
  have lo : 4294967296 ^ n * 2 ^ s ≤ lv 4294967296 vs := by
    rw [e]
    refine Int.mul_le_mul_of_nonneg_right ?_ (Int.le_of_lt hp)
    have : 4294967296 ^ n * 1 ≤ 4294967296 ^ n * at0 ys n := Int.mul_le_mul_of_nonneg_left h1 (Int.le_of_lt hA)
    omega
  have hi : lv 4294967296 vs < 4294967296 ^ (n + 1) := by
    rw [e, Int.pow_succ]
    have a1 : lv 4294967296 ys < 4294967296 ^ n * (at0 ys n + 1) := by rw [Int.mul_add, Int.mul_one]; omega
    have a2 : lv 4294967296 ys * 2 ^ s < 4294967296 ^ n * (at0 ys n + 1) * 2 ^ s := Int.mul_lt_mul_of_pos_right a1 hp
    have a3 : 4294967296 ^ n * ((at0 ys n + 1) * 2 ^ s) ≤ 4294967296 ^ n * 4294967296 := Int.mul_le_mul_of_nonneg_left w2 (Int.le_of_lt hA)
    rw [← Int.mul_assoc] at a3
    omega
  have p1 : (1 : Int) ≤ 2 ^ s := hp
  have lo1 : 4294967296 ^ n ≤ lv 4294967296 vs := by
    have : (4294967296 : Int) ^ n * 1 ≤ 4294967296 ^ n * 2 ^ s := Int.mul_le_mul_of_nonneg_left p1 (Int.le_of_lt hA)
    omega
  have hne : vs ≠ [] := fun h => by rw [h] at lo1; simp only [lv] at lo1; omega
  have l1 := top_le BB_pos dv tv hne
  have l2 := lv_lt BB_pos dv
  have len : vs.length = n + 1 := by
    apply Classical.byContradiction
    intro hne'
    rcases Nat.lt_or_gt_of_ne hne' with hlt | hgt
    · have := pow_le (b := 4294967296) (by decide) (show vs.length ≤ n by omega)
      omega
    · have := pow_le (b := 4294967296) (by decide) (show n + 1 ≤ vs.length - 1 by omega)
      omega
  refine ⟨len, ?_, lo⟩
  have := (top_at hne).1 tv
  have := (dg_at dv BB_pos (vs.length - 1)).1
  omega
theorem lft_start (dx : dg 4294967296 xs) (hn : 1 ≤ ys.length) (hle : ys.length ≤ xs.length) (dU : dg 4294967296 U0) (eU : lv 4294967296 U0 = lv 4294967296 xs * 2 ^ s) (lo : 4294967296 ^ (ys.length - 1) * 2 ^ s ≤ lv 4294967296 vs) {L : Nat} (hL : L = xs.length + 1 - ys.length) : Lft vs L U0 := by
  refine ⟨dU, ?_⟩
  have hp : (0 : Int) < 2 ^ s := Int.pow_pos (by decide)
  have h1 := lv_lt BB_pos dx
  have h2 : lv 4294967296 xs * 2 ^ s < 4294967296 ^ xs.length * 2 ^ s := Int.mul_lt_mul_of_pos_right h1 hp
  have h3 : 4294967296 ^ L * (4294967296 ^ (ys.length - 1) * 2 ^ s) ≤ 4294967296 ^ L * lv 4294967296 vs := Int.mul_le_mul_of_nonneg_left lo (Int.le_of_lt (pos_pow BB_pos L))
  rw [← Int.mul_assoc, ← Int.pow_add, show L + (ys.length - 1) = xs.length by omega] at h3
  omega
end
/-- At the end. -/
theorem Ro.fin {U0 vs us qs : List Int} {L s : Nat} {X Y : Int} (h : Ro U0 vs L 0 us qs) (eU : lv 4294967296 U0 = X * 2 ^ s) (eV : lv 4294967296 vs = Y * 2 ^ s) : lv 4294967296 qs = X / Y ∧ lv 4294967296 us / 2 ^ s = X % Y ∧ 0 < Y := by
  have hp : (0 : Int) < 2 ^ s := Int.pow_pos (by decide)
  have h1 := h.lf.2
  rw [Int.pow_zero, Int.one_mul] at h1
  have h0 := lv_nonneg BB_pos h.lf.1
  have e := h.eq
  rw [eU, eV] at e
  rw [eV] at h1
  have hY : 0 < Y := by
    apply Classical.byContradiction
    intro hn
    have : Y * 2 ^ s ≤ 0 * 2 ^ s := Int.mul_le_mul_of_nonneg_right (by omega) (Int.le_of_lt hp)
    omega
  -- what is left is divisible by 2^s
  have e1 : lv 4294967296 us = (X - lv 4294967296 qs * Y) * 2 ^ s := by rw [Int.sub_mul, Int.mul_assoc]; omega
  have e2 : lv 4294967296 us / 2 ^ s = X - lv 4294967296 qs * Y := by rw [e1, Int.mul_ediv_cancel _ (Int.ne_of_gt hp)]
  rw [e1] at h0 h1
  have r0 : 0 ≤ X - lv 4294967296 qs * Y := by
    apply Classical.byContradiction
    intro hn
    have : (X - lv 4294967296 qs * Y) * 2 ^ s < 0 * 2 ^ s := Int.mul_lt_mul_of_pos_right (by omega) hp
    omega
  have r1 : X - lv 4294967296 qs * Y < Y := Int.lt_of_mul_lt_mul_right h1 (Int.le_of_lt hp)
  have ex : X = (X - lv 4294967296 qs * Y) + Y * lv 4294967296 qs := by rw [Int.mul_comm Y]; omega
  refine ⟨?_, ?_, hY⟩
  · conv => rhs; rw [ex]
    rw [Int.add_mul_ediv_left _ _ (Int.ne_of_gt hY), Int.ediv_eq_zero_of_lt r0 r1, Int.zero_add]
  · rw [e2]
    conv => rhs; rw [ex]
    rw [Int.add_mul_emod_self_left, Int.emod_eq_of_lt r0 r1]
/-- The remainder's digits. -/
structure Rm (us : List Int) (n s k : Nat) (rs : List Int) : Prop where
  len : rs.length = n
  d : dg 4294967296 rs
  eq : ∀ j, j < k → at0 rs j = lv 4294967296 us / 2 ^ s / 4294967296 ^ j % 4294967296
  le : k ≤ n
theorem Rm.start (us : List Int) (n s : Nat) : Rm us n s 0 (List.replicate n 0) := ⟨List.length_replicate, dg_replicate n (by decide) (by decide), fun j hj => by omega, by omega⟩
theorem Rm.step {us rs : List Int} {n s k : Nat} (h : Rm us n s k rs) (du : dg 4294967296 us) (hs : s < 32) (hk : k < n) (hl : n < us.length) : Rm us n s (k + 1) (rs.set k (((at0 us (k + 1) * 4294967296 + at0 us k) / 2 ^ s) % 4294967296)) := by
  have hk' : k < rs.length := by rw [h.len]; exact hk
  refine ⟨by rw [List.length_set, h.len], dg_set h.d _ (Int.emod_nonneg _ (by decide)) (Int.emod_lt_of_pos _ BB_pos), fun j hj => ?_, hk⟩
  rw [at0_set _ hk']
  by_cases e : k = j
  · rw [if_pos e, low_digit du hs (by omega), e]
  · rw [if_neg e]; exact h.eq j (by omega)
theorem Rm.fin {us rs : List Int} {n s : Nat} (h : Rm us n s n rs) {R : Int} (e : lv 4294967296 us / 2 ^ s = R) (h0 : 0 ≤ R) (h1 : R < 4294967296 ^ n) : lv 4294967296 rs = R := by
  have := lv_digits BB_pos (V := lv 4294967296 us / 2 ^ s) (zs := rs) n (by rw [h.len]; exact Nat.le_refl _) h.eq
  rw [List.take_of_length_le (by rw [h.len]; exact Nat.le_refl _), e, Int.emod_eq_of_lt h0 h1] at this
  exact this
/-- The digit was at least 1 if it is put down by one. -/
theorem down_pos {vs us us3 : List Int} {i : Nat} {D : Int} (d : dg 4294967296 us) (h : Lft vs i us3) (e : lv 4294967296 us = lv 4294967296 us3 + 4294967296 ^ i * ((D - 1) * lv 4294967296 vs)) (h0 : 0 ≤ D) : 1 ≤ D := by
  apply Classical.byContradiction
  intro hn
  have hD : D = 0 := by omega
  subst hD
  have h1 := lv_nonneg BB_pos d
  have h2 := h.2
  rw [Int.zero_sub, Int.neg_mul, Int.one_mul, Int.mul_neg] at e
  omega
end Go.Proofs.Ytcgkgcciogibkaa.Ma
