/- Parts Syj, Ja, Pwm, Jf, Syk, Syl, Jk, in one file. -/
import Derived.Laws.OwnMore
import Derived.Test.YthpjmhhfcechmaaGreatLRExpansions2
import Derived.Test.YthpjmhhfcechmaaGreatLRExpansions3
import Derived.Test.YthpjmhhfcechmaaGreatLRExpansions4
/- A walk by rules: slices that came in; digits of the reference. -/
set_option linter.unusedVariables false
set_option linter.unusedSimpArgs false
namespace Go.Proofs.YthpjmhhfcechmaaGreat.Sy
open Go Go.RowKit Ma
def padd (A : Option Addr) (i : Nat) : Option Addr := A.map (·.add i)
section
variable {x y : Operand} {dst : Option Tmp} {ty : TypeId} {pos : String} {after : Array Edge} {guard : Option (Nat × Bool)} {ρ : Operand → Value} {W : World} {a b c : Int}
theorem r_idxR {w0 : World} {k : IntKind} {A : Option Addr} {xs : List Int} {cap i : Nat} (rA : Rd w0 k A xs) (h1 : ρ x = .slice A xs.length cap) (h2 : ρ y = .int .i64 (i : Int)) (hi : i < xs.length) : (execOp ρ ⟨dst, .indexAddr 22 x y, ty, pos, after, guard⟩).run Tryz.prog W = .ok (.value (.pointer (padd A i))) W := by
 obtain ⟨ad, rfl, _⟩ := rA.2 i hi
 unfold padd
 go_simp
theorem r_idxRI {w0 : World} {k : IntKind} {A : Option Addr} {xs : List Int} {cap i : Nat} (rA : Rd w0 k A xs) (h1 : ρ x = .slice A xs.length cap) (h2 : ρ y = .int .i64 (i : Int)) (hi : i < xs.length) : (execOp ρ ⟨dst, .indexAddr 32 x y, ty, pos, after, guard⟩).run Tryz.prog W = .ok (.value (.pointer (padd A i))) W := by
 obtain ⟨ad, rfl, _⟩ := rA.2 i hi
 unfold padd
 go_simp
theorem r_lenI {A : Option Addr} {n cap : Nat} (h1 : ρ x = .slice A n cap) : (execOp ρ ⟨dst, .call ⟨.builtin .len, #[x], #[32]⟩, ty, pos, after, guard⟩).run Tryz.prog W = .ok (.value (.int .i64 (n : Int))) W := by
 go_simp
 done
theorem r_idxI {g n cap i : Nat} (h1 : ρ x = .slice (some ⟨g, 0, none⟩) n cap) (h2 : ρ y = .int .i64 (i : Int)) (hi : i < n) : (execOp ρ ⟨dst, .indexAddr 32 x y, ty, pos, after, guard⟩).run Tryz.prog W = .ok (.value (.pointer (some ⟨g, i, none⟩))) W := by
 go_simp
theorem r_neT (h1 : ρ x = .int .i64 a) (h2 : ρ y = .int .i64 b) (e : a ≠ b) : (execOp ρ ⟨dst, .binOp .neq 3 x y 3, ty, pos, after, guard⟩).run Tryz.prog W = .ok (.value (.bool true)) W := by
 have e1 : (a == b) = false := by simpa using e
 have e2 : (a != b) = true := by simpa using e
 go_simp
theorem r_neF (h1 : ρ x = .int .i64 a) (h2 : ρ y = .int .i64 b) (e : a = b) : (execOp ρ ⟨dst, .binOp .neq 3 x y 3, ty, pos, after, guard⟩).run Tryz.prog W = .ok (.value (.bool false)) W := by
 subst e
 go_simp
theorem r_eqT (h1 : ρ x = .int .i64 a) (h2 : ρ y = .int .i64 b) (e : a = b) : (execOp ρ ⟨dst, .binOp .eql 3 x y 3, ty, pos, after, guard⟩).run Tryz.prog W = .ok (.value (.bool true)) W := by
 subst e
 go_simp
theorem r_eqF (h1 : ρ x = .int .i64 a) (h2 : ρ y = .int .i64 b) (e : a ≠ b) : (execOp ρ ⟨dst, .binOp .eql 3 x y 3, ty, pos, after, guard⟩).run Tryz.prog W = .ok (.value (.bool false)) W := by
 have e1 : (a == b) = false := by simpa using e
 go_simp
end
theorem r_l64 (W : World) (p : Addr) (x : Int) (h : W.cell? p = some (.int .i64 x)) : (Instr.loadAt 3 (.pointer (some p))).run Tryz.prog W = .ok (.int .i64 x) W := by
 go_simp
theorem r_s64 (W : World) (p : Addr) (x y : Int) (h : W.cell? p = some (.int .i64 x)) (hf : W.frozen? p = false) : (Instr.storeAt 3 (.pointer (some p)) (.int .i64 y)).run Tryz.prog W = .ok () (W.setCell p (.int .i64 y)) := by
 go_simp
theorem r_b1I {x : Operand} {dst : Option Tmp} {ty : TypeId} {pos : String} {after : Array Edge} {guard : Option (Nat × Bool)} {ρ : Operand → Value} {W : World} {a : Int} (h1 : ρ x = .int .i64 a) : (execOp ρ ⟨dst, .buildSlice 32 1 #[(0, x)], ty, pos, after, guard⟩).run Tryz.prog W = .ok (.value (.slice (some ⟨W.heap.size, 0, none⟩) [a].length [a].length)) (W.alloc (.cells ([a].map (Value.int .i64)).toArray 3)) := by
 go_simp
def tv (v : Value) (n : Nat) : Value := match v with
 | .slice A _ c => .slice A n c
 | v => v
theorem tv_blk {W : World} {b : Nat} {e : TypeId} {f : Int → Value} {v : Value} {zs : List Int} (h : OwF W b e f v zs) (n : Nat) : (tv v n).ownBlock = v.ownBlock := by
 rcases h.form with ⟨rfl, _⟩ | ⟨g, c, rfl, _⟩ <;> rfl
theorem tv_own {W : World} {b : Nat} {e : TypeId} {k : IntKind} {v : Value} {zs : List Int} (h : OwF W b e (.int k) v zs) : OwF W b e (.int k) (tv v (trim zs).length) (trim zs) := by
 rcases h.form with ⟨rfl, rfl⟩ | ⟨g, c, rfl, _⟩
 ·exact h
 ·exact Own.trims (k := k) h
theorem tv_calls {W : World} {b : Nat} {e : TypeId} {v : Value} {zs : List Int} (h : OwF W b e (.int .i64) v zs) : Calls Tryz.prog 126 #[v] W (Ret W (KV (tv v (trim zs).length))) := by
 rcases h.form with ⟨rfl, rfl⟩ | ⟨g, c, rfl, hc⟩
 ·exact (rtrimmed_c rfl (Rd.nil _ _ _) (by decide)).mono fun e W' ⟨e1, e2⟩ => ⟨_, e1, rfl, e2 ▸ Nw.refl _⟩
 ·have ho : Own W b e .i64 _ zs := h
  exact (rtrimmed_c rfl ho.rdg.2.2 hc).mono fun e W' ⟨e1, e2⟩ => ⟨_, e1, rfl, e2 ▸ Nw.refl _⟩
theorem Fr.trimv {B N : Nat} {w0 : World} {fr : List (Nat × AV)} {a : Act} {W : World} {K : Nat} {v : Value} {e : TypeId} {k : IntKind} {zs : List Int} (h : Fr B N w0 fr a W) (hK : look fr K = some (.ro v e (Value.int k) zs)) : Fr B N w0 ((K, .ro (tv v (trim zs).length) e (Value.int k) (trim zs)) :: fr) a W :=
 h.more' (tv_own (h.ho K _ hK)) fun j v' p e hj e1 e2 => h.di K j _ v' p e hK hj ((tv_blk (h.ho K _ hK) _).symm.trans e1) e2
theorem Fr.nilrow {B N : Nat} {w0 : World} {fr : List (Nat × AV)} {a : Act} {W : World} (K : Nat) (e : TypeId) (f : Int → Value) (h : Fr B N w0 fr a W) : Fr B N w0 ((K, .ro (.slice none 0 0) e f []) :: fr) a W :=
 h.more (World.ownsRow_nil W B e 1) fun j v' p hj e1 e2 => by cases e1
theorem info_i64 : (Tryz.prog.info? 3).map (fun i => (i.zero, i.size, i.bytes)) = some (some (.int .i64 0), 1, 8) := by kernel_rfl
section
variable {B N : Nat} {w0 : World} {ops : Array Oper} {o : Oper} {rest : List Oper} {fr : List (Nat × AV)} {Q : Exit → Act → World → Prop} {d : Nat}
theorem iget_run {T : TypeId} {s i : Nat} {A : Option Addr} {k : IntKind} {xs : List Int} {a : Act} {W : World} (hf : Fr B N w0 fr a W) (ho : o.op = .load T (.tmp s)) (hs : look fr s = some (.vl (.pointer (padd A i)))) (hB : B = w0.heap.size) (rA : Rd w0 k A xs) (hi : i < xs.length)
  (hl : ∀ (W : World) (p : Addr) (x : Int), W.cell? p = some (.int k x) → (Instr.loadAt T (.pointer (some p))).run Tryz.prog W = .ok (.int k x) W) : (execOp a.eval o).run Tryz.prog W = .ok (.value (.int k (at0 xs i))) W := by
 obtain ⟨ad, rfl, hc⟩ := rA.2 i hi
 have h1 : a.tmps.getD s undef = .pointer (some (ad.add i)) := hf.ho s _ hs
 have h2 : W.cell? (ad.add i) = some (.int k (at0 xs i)) := by
  rw [hf.be.cell (by rw [hB]; exact World.block_lt_of_cell? w0 _ hc)]; exact hc
 unfold execOp
 rw [ho]
 show (do pure (.value (← Instr.loadAt T (a.tmps.getD s undef))) : Sem Next).run Tryz.prog W = _
 rw [h1]
 exact run_val (hl W _ _ h2)
theorem PW.iget {T : TypeId} {s i : Nat} {A : Option Addr} {k : IntKind} {xs : List Int} (hw : wantB ops fr o = some true) (hd : o.dst = some d) (hN : Nat.blt d N = true) (ho : o.op = .load T (.tmp s)) (hs : look fr s = some (.vl (.pointer (padd A i)))) (hB : B = w0.heap.size) (rA : Rd w0 k A xs) (hi : i < xs.length)
  (hl : ∀ (W : World) (p : Addr) (x : Int), W.cell? p = some (.int k x) → (Instr.loadAt T (.pointer (some p))).run Tryz.prog W = .ok (.int k x) W) (hk : PW B N w0 ops rest ((d, .vl (.int k (at0 xs i))) :: fr) Q) : PW B N w0 ops (o :: rest) fr Q :=
 PW.val (r := .vl (.int k (at0 xs i))) hw hd hN rfl (fun a W hf => ⟨_, iget_run hf ho hs hB rA hi hl, rfl⟩) hk
theorem DX.iget {T : TypeId} {s i : Nat} {A : Option Addr} {k : IntKind} {xs : List Int} (hw : wantB ops fr o = some true) (hd : o.dst = some d) (hN : Nat.blt d N = true) (ho : o.op = .load T (.tmp s)) (hs : look fr s = some (.vl (.pointer (padd A i)))) (hB : B = w0.heap.size) (rA : Rd w0 k A xs) (hi : i < xs.length)
  (hl : ∀ (W : World) (p : Addr) (x : Int), W.cell? p = some (.int k x) → (Instr.loadAt T (.pointer (some p))).run Tryz.prog W = .ok (.int k x) W) : Eo B N w0 ops o fr (.val d (.vl (.int k (at0 xs i)))) :=
 DX.val hw hd hN rfl (fun a W hf => ⟨_, iget_run hf ho hs hB rA hi hl, rfl⟩)
def KR (base : Nat) (e : TypeId) (k : IntKind) (p : List Int → Prop) : Know := fun v W => ∃ zs, Own W base e k v zs ∧ p zs
theorem KR.l {base : Nat} {e : TypeId} {k : IntKind} {p : List Int → Prop} {v : Value} {W : World} (h : KR base e k p v W) : KL k p v W := by
 obtain ⟨zs, ho, hp⟩ := h
 obtain ⟨A, c, rfl, h1, h2⟩ := ho.rd
 exact ⟨zs, A, c, rfl, h1, h2, hp⟩
theorem SX.doneL {fn : Func} {e : Exit} {s K1 : Nat} {v1 : Value} {et : TypeId} {k : IntKind} {p1 : List Int → Prop} {z1 : List Int} (he : e = .ret ∨ e = .normal) (hr : fn.results = #[.tmp s]) (hs : look fr s = some (.vl v1)) (h1 : look fr K1 = some (.ro v1 et (Value.int k) z1)) (q1 : p1 z1) (hB : B = w0.heap.size) :
  SX B N w0 e fr (bodyPost Tryz.prog fn (Ret w0 (KL k p1))) := fun a W hf => by
 have a1 : a.tmps.getD s undef = _ := hf.ho s _ hs
 have o1 : Own W B et k v1 z1 := hf.ho K1 _ h1
 have hrun : (results fn a.tmps).run Tryz.prog W = .ok (a.tmps.getD s undef) W := by
  unfold results
  simp [hr, go_sem]
 rw [a1] at hrun
 have key : a.defers = [] ∧ ∃ v, (results fn a.tmps).run Tryz.prog W = .ok v W ∧ Ret w0 (KL k p1) (.returned v) W := by
  obtain ⟨A1, d1, e1, m1, r1⟩ := o1.rd
  exact ⟨hf.df, _, hrun, ⟨_, rfl, ⟨z1, A1, d1, e1, m1, r1, q1⟩, by have := hf.be; rw [hB] at this; exact this⟩⟩
 rcases he with rfl | rfl <;> exact key
end
/-! ### Boxes at a place that is known -/
section
variable {B N : Nat} {w0 : World} {ops : Array Oper} {o : Oper} {rest : List Oper} {fr : List (Nat × AV)} {Q : Exit → Act → World → Prop} {d : Nat}
theorem SC.fix {c : Code} {s : Nat} {b : BT} {k : Know} (hs : look fr s = some (.bx b k)) (h : ∀ p, SC B N w0 c ((s, .bp b p k) :: fr) Q) : SC B N w0 c fr Q := fun a W hf => by
 obtain ⟨p, v, e, hB, hh, hk, hst, ok⟩ := hf.ho s _ hs
 exact h p a W (hf.more' ⟨v, e, hB, hh, hk, hst, ok⟩ fun j v' q hj h1 h2 h3 => hf.di s j _ v' q hj hs h1 (by rw [← h2]; show blk0 (a.tmps.getD s undef) = some p; rw [e]; rfl) h3)
theorem Fr.unfix {a : Act} {W : World} {s p : Nat} {b : BT} {k : Know} (hf : Fr B N w0 fr a W) (hs : look fr s = some (.bp b p k)) : Fr B N w0 ((s, .bx b k) :: fr) a W := by
 obtain ⟨v, e, hB, hh, hk, hst, ok⟩ := hf.ho s _ hs
 exact hf.more' ⟨p, v, e, hB, hh, hk, hst, ok⟩ fun j v' q hj h1 h2 h3 => hf.di s j _ v' q hj hs h1 (by rw [← h2]; show some p = blk0 (a.tmps.getD s undef); rw [e]; rfl) h3
theorem SX.unfix {e : Exit} {s p : Nat} {b : BT} {k : Know} (hs : look fr s = some (.bp b p k)) (h : SX B N w0 e ((s, .bx b k) :: fr) Q) : SX B N w0 e fr Q := fun a W hf => h a W (hf.unfix hs)
theorem DX.fa {T : TypeId} {s j p : Nat} {b : BT} {k : Know} (q : Addr) (hw : wantB ops fr o = some true) (hd : o.dst = some d) (hN : Nat.blt d N = true) (ho : o.op = .fieldAddr T (.tmp s) j) (hs : look fr s = some (.bp b p k))
  (hx : ∀ v W, Holds b p v W → k v W → (Instr.fieldAt T (ptr p) j).run Tryz.prog W = .ok (.pointer (some q)) W) : Eo B N w0 ops o fr (.val d (.vl (.pointer (some q)))) :=
 DX.val hw hd hN rfl fun a W hf => by
  obtain ⟨v, e, hB, hh, hk, hst, ok⟩ := hf.ho s _ hs
  refine ⟨_, ?_, rfl⟩
  unfold execOp
  rw [ho]
  show (do pure (.value (← Instr.fieldAt T (a.tmps.getD s undef) j)) : Sem Next).run Tryz.prog W = _
  rw [e]
  exact run_val (hx v W hh hk)
theorem DX.fl {T : TypeId} {s t p : Nat} {b : BT} {k : Know} {r : AV} {q : Addr} (hw : wantB ops fr o = some true) (hd : o.dst = some d) (hN : Nat.blt d N = true) (ho : o.op = .load T (.tmp t)) (ht : look fr t = some (.vl (.pointer (some q)))) (hs : look fr s = some (.bp b p k)) (hr : r.isBx = false) (hst : St r.of)
  (hx : ∀ v W, Holds b p v W → k v W → ∃ u, (Instr.loadAt T (.pointer (some q))).run Tryz.prog W = .ok u W ∧ r.of u W) : Eo B N w0 ops o fr (.val d r) :=
 DX.val hw hd hN hr fun a W hf => by
  obtain ⟨v, e, hB, hh, hk, _, ok⟩ := hf.ho s _ hs
  have h1 := hf.vl ht
  obtain ⟨u, h2, h3⟩ := hx v W hh hk
  refine ⟨u, ?_, Ho.mk hr h3 hst⟩
  unfold execOp
  rw [ho]
  show (do pure (.value (← Instr.loadAt T (a.tmps.getD t undef))) : Sem Next).run Tryz.prog W = _
  rw [h1]
  exact run_val h2
theorem DX.loadp {T : TypeId} {s p : Nat} {b : BT} {k : Know} (hw : wantB ops fr o = some true) (hd : o.dst = some d) (hN : Nat.blt d N = true) (ho : o.op = .load T (.tmp s)) (hs : look fr s = some (.bp b p k)) (hT : b.T = T) : Eo B N w0 ops o fr (.val d (.kw k)) :=
 DX.val hw hd hN rfl fun a W hf => by
  obtain ⟨v, e, _, ⟨cs, hs1, hc⟩, hv, st, ok⟩ := hf.ho s _ hs
  refine ⟨v, ?_, hv, st⟩
  have := run_val (ok.load v cs W p hs1 fun i x hx => (hc i x hx).1)
  unfold execOp
  rw [ho]
  show (do pure (.value (← Instr.loadAt T (a.tmps.getD s undef))) : Sem Next).run Tryz.prog W = _
  rw [e, ← hT]
  exact this
end
/-! ### The reference's digits -/
def KDt (z : Int) : Know := KL .i64 fun zs => dg 65536 zs ∧ lv 65536 zs = z ∧ top zs
def KDn (m : Nat) (z : Int) : Know := KL .i64 fun zs => dg 65536 zs ∧ lv 65536 zs = z ∧ zs.length ≤ m
theorem KDt.st (z : Int) : St (KDt z) := KL.st _ _
theorem KDn.st (m : Nat) (z : Int) : St (KDn m z) := KL.st _ _
theorem pow65 (n : Nat) : b32 ^ n = (65536 : Int) ^ (2 * n) := by rw [Int.pow_mul]; rfl
theorem len_bd {zs : List Int} {z : Int} {n : Nat} (d : dg 65536 zs) (e : lv 65536 zs = z) (t : top zs) (Z : bd n z) : zs.length ≤ 2 * n := by
 apply Classical.byContradiction
 intro hn
 have hne : zs ≠ [] := fun h => by rw [h] at hn; simp at hn
 have h1 := top_le BJ_pos d t hne
 have h2 := pow_le (b := 65536) (by decide) (show 2 * n ≤ zs.length - 1 by omega)
 have h3 := Z.2
 rw [pow65] at h3
 omega
theorem ce_rtrimmed : CE 126 := fun args W => by go_simp
theorem ce_rmade : CE 117 := fun args W => by go_simp
theorem k_rmadeN {n : Bool} {z : Int} {m : Nat} : CallOk 117 [KV (.bool n), KDn m z] (KJ (sg n z)) :=
 call2 ce_rmade fun W u v e ⟨zs, A, c, e2, hc, rd, d, ez, _⟩ => by obtain rfl : u = _ := e; subst e2 ez; exact rmade_c rfl rd hc d
theorem k_rmadeT {n : Bool} {z : Int} : CallOk 117 [KV (.bool n), KDt z] (KJ (sg n z)) :=
 call2 ce_rmade fun W u v e ⟨zs, A, c, e2, hc, rd, d, ez, _⟩ => by obtain rfl : u = _ := e; subst e2 ez; exact rmade_c rfl rd hc d
end Go.Proofs.YthpjmhhfcechmaaGreat.Sy
/- The reference's compare, plus, minus, times, by rules. -/
namespace Go.Proofs.YthpjmhhfcechmaaGreat.Sy
open Go Go.RowKit Ma
theorem cmp_gt {a b : Int} (h : b < a) : cmp a b = 1 := by unfold cmp; rw [if_neg (by omega), if_neg (by omega)]
theorem cmp_eq {a b : Int} (h : a = b) : cmp a b = 0 := by unfold cmp; rw [if_neg (by omega), if_pos h]
set_option maxHeartbeats 3200000 in
set_option maxRecDepth 100000 in
theorem rcompare_c {A A2 : Option Addr} {c d : Nat} {xs ys : List Int} {w : World} (rA : Rd w .i64 A xs) (rB : Rd w .i64 A2 ys) (dx : dg 65536 xs) (dy : dg 65536 ys) (hx : xs.length ≤ 2000000) (hy : ys.length ≤ 2000000) (tx : top xs) (ty : top ys) :
  Calls Tryz.prog 145 #[.slice A xs.length c, .slice A2 ys.length d] w (Ret w (KV (.int .i64 (cmp (lv 65536 xs) (lv 65536 ys))))) := by
 refine calls_sc (l := [.vl (.slice A xs.length c), .vl (.slice A2 ys.length d)]) (us := [.slice A xs.length c, .slice A2 ys.length d]) 41 Tryz.func145 rfl Tryz.ntmps145 (by simp) ⟨rfl, rfl, rfl, rfl, trivial⟩ ?_
 refine SC.seq (SC.region (PW.assign rfl rfl rfl rfl rfl (PW.nil (SX.then (SC.seq (SC.seq ?_))))))
 by_cases hd : xs.length ≠ ys.length
 ·refine SC.region ?_
  refine PW.move rfl rfl rfl rfl rfl ?_
  refine PW.qn [(.tmp 6, .slice A xs.length c)] (.int .i64 (xs.length : Int)) rfl rfl rfl ⟨rfl, trivial⟩ (fun ρ W h => by obtain ⟨h1, _⟩ := h; exact r_lenI h1) ?_
  refine PW.move rfl rfl rfl rfl rfl ?_
  refine PW.qn [(.tmp 8, .slice A2 ys.length d)] (.int .i64 (ys.length : Int)) rfl rfl rfl ⟨rfl, trivial⟩ (fun ρ W h => by obtain ⟨h1, _⟩ := h; exact r_lenI h1) ?_
  refine PW.q2 (x := .tmp 7) (y := .tmp 9) (.bool true) rfl rfl rfl rfl rfl (fun ρ W h1 h2 => by exact r_neT h1 h2 (by omega)) ?_
  refine PW.nil (SX.then (SC.cond (t := true) rfl (SC.seq (SC.seq ?_))))
  by_cases hl : xs.length < ys.length
  ·refine SC.region ?_
   refine PW.move rfl rfl rfl rfl rfl ?_
   refine PW.qn [(.tmp 11, .slice A xs.length c)] (.int .i64 (xs.length : Int)) rfl rfl rfl ⟨rfl, trivial⟩ (fun ρ W h => by obtain ⟨h1, _⟩ := h; exact r_lenI h1) ?_
   refine PW.move rfl rfl rfl rfl rfl ?_
   refine PW.qn [(.tmp 13, .slice A2 ys.length d)] (.int .i64 (ys.length : Int)) rfl rfl rfl ⟨rfl, trivial⟩ (fun ρ W h => by obtain ⟨h1, _⟩ := h; exact r_lenI h1) ?_
   refine PW.q2 (x := .tmp 12) (y := .tmp 14) (.bool true) rfl rfl rfl rfl rfl (fun ρ W h1 h2 => by exact r_lt h1 h2 (decide_eq_true (by omega))) ?_
   refine PW.nil (SX.then (SC.cond (t := true) rfl (SC.seq (SC.region (PW.assign rfl rfl rfl rfl rfl (PW.nil (SX.then (SC.ret (SX.thenR (SX.thenR ?_))))))))))
   have hr : cmp (lv 65536 xs) (lv 65536 ys) = (-1) := cmp_lt (lt_of_len dx dy ty (by omega))
   rw [hr]
   exact SX.done (s := 4) (r := .vl (.int .i64 (-1))) rfl rfl rfl
  ·refine SC.region ?_
   refine PW.move rfl rfl rfl rfl rfl ?_
   refine PW.qn [(.tmp 11, .slice A xs.length c)] (.int .i64 (xs.length : Int)) rfl rfl rfl ⟨rfl, trivial⟩ (fun ρ W h => by obtain ⟨h1, _⟩ := h; exact r_lenI h1) ?_
   refine PW.move rfl rfl rfl rfl rfl ?_
   refine PW.qn [(.tmp 13, .slice A2 ys.length d)] (.int .i64 (ys.length : Int)) rfl rfl rfl ⟨rfl, trivial⟩ (fun ρ W h => by obtain ⟨h1, _⟩ := h; exact r_lenI h1) ?_
   refine PW.q2 (x := .tmp 12) (y := .tmp 14) (.bool false) rfl rfl rfl rfl rfl (fun ρ W h1 h2 => by exact r_lt h1 h2 (decide_eq_false (by omega))) ?_
   refine PW.nil (SX.then (SC.cond (t := false) rfl (SC.skip (SX.then (SC.seq (SC.region (PW.assign rfl rfl rfl rfl rfl (PW.nil (SX.then (SC.ret (SX.thenR ?_)))))))))))
   have hr : cmp (lv 65536 xs) (lv 65536 ys) = 1 := cmp_gt (lt_of_len dy dx tx (by omega))
   rw [hr]
   exact SX.done (s := 4) (r := .vl (.int .i64 1)) rfl rfl rfl
 ·have hd : xs.length = ys.length := by omega
  refine SC.region (PW.move rfl rfl rfl rfl rfl ?_)
  refine PW.qn [(.tmp 6, .slice A xs.length c)] (.int .i64 (xs.length : Int)) rfl rfl rfl ⟨rfl, trivial⟩ (fun ρ W h => by obtain ⟨h1, _⟩ := h; exact r_lenI h1) ?_
  refine PW.move rfl rfl rfl rfl rfl ?_
  refine PW.qn [(.tmp 8, .slice A2 ys.length d)] (.int .i64 (ys.length : Int)) rfl rfl rfl ⟨rfl, trivial⟩ (fun ρ W h => by obtain ⟨h1, _⟩ := h; exact r_lenI h1) ?_
  refine PW.q2 (x := .tmp 7) (y := .tmp 9) (.bool false) rfl rfl rfl rfl rfl (fun ρ W h1 h2 => by exact r_neF h1 h2 (by omega)) ?_
  refine PW.nil (SX.then (SC.cond (t := false) rfl (SC.skip (SX.then (SC.seq (SC.seq (SC.region (PW.move rfl rfl rfl rfl rfl ?_))))))))
  refine PW.qn [(.tmp 16, .slice A xs.length c)] (.int .i64 (xs.length : Int)) rfl rfl rfl ⟨rfl, trivial⟩ (fun ρ W h => by obtain ⟨h1, _⟩ := h; exact r_lenI h1) ?_
  refine PW.q2 (x := .tmp 17) (y := .const (.int .i64 1)) (.int .i64 ((xs.length : Int) - 1)) rfl rfl rfl rfl rfl (fun ρ W h1 h2 => by exact r_sub h1 h2 (by omega) (by omega)) ?_
  refine PW.assign rfl rfl rfl rfl rfl (PW.nil (SX.then (SC.block ?_)))
  refine SC.loop (S := Nat) (fun t => [(0, .vl (.slice A xs.length c)), (1, .vl (.slice A2 ys.length d)), (5, .vl (.int .i64 ((t : Int) - 1)))]) (fun t => t ≤ xs.length ∧ xs.drop t = ys.drop t) (fun t => t) xs.length ⟨Nat.le_refl _, by rw [List.drop_eq_nil_of_le (Nat.le_refl _), List.drop_eq_nil_of_le (by omega)]⟩ ⟨rfl, rfl, rfl, trivial⟩ ?_
  rintro t ⟨hP1, hP2⟩
  refine SC.seq (SC.seq ?_)
  by_cases ht : (0 : Int) ≤ (t : Int) - 1
  ·obtain ⟨i, rfl⟩ : ∃ i, t = i + 1 := ⟨t - 1, by omega⟩
   rw [show ((i + 1 : Nat) : Int) - 1 = (i : Int) by omega]
   rw [show ((i + 1 : Nat) : Int) - 1 = (i : Int) by omega] at ht
   refine SC.region (PW.move rfl rfl rfl rfl rfl ?_)
   refine PW.q2 (x := .tmp 19) (y := .const (.int .i64 0)) (.bool true) rfl rfl rfl rfl rfl (fun ρ W h1 h2 => by exact r_ge h1 h2 (decide_eq_true ht)) ?_
   refine PW.nil (SX.then (SC.cond (t := true) rfl (SC.skip (SX.then (SC.seq (SC.block (SC.seq (SC.seq ?_))))))))
   by_cases g1 : at0 xs i < at0 ys i
   ·refine SC.dx [.val 23 (.vl (.slice A xs.length c)), .val 24 (.vl (.int .i64 (i : Int))), .val 25 (.vl (.pointer (padd A i))), .val 26 (.vl (.int .i64 (at0 xs i))), .val 27 (.vl (.slice A2 ys.length d)), .val 28 (.vl (.int .i64 (i : Int))), .val 29 (.vl (.pointer (padd A2 i))), .val 30 (.vl (.int .i64 (at0 ys i))), .val 31 (.vl (.bool true))] [([], [0]), ([], [5]), ([0, 1], []), ([2], []), ([], [1]), ([], [5]), ([4, 5], []), ([6], []), ([3, 7], [])] rfl (by kernel_rfl) (by kernel_rfl) (by kernel_rfl) rfl ⟨?_, ?_, ?_, ?_, ?_, ?_, ?_, ?_, ?_, trivial⟩ ?_
    ·exact DX.move rfl rfl rfl rfl rfl rfl
    ·exact DX.move rfl rfl rfl rfl rfl rfl
    ·exact DX.q2 (x := .tmp 23) (y := .tmp 24) (.pointer (padd A i)) rfl rfl rfl rfl rfl (fun ρ W h1 h2 => r_idxRI rA h1 h2 (by omega))
    ·exact DX.iget (i := i) rfl rfl rfl rfl rfl rfl rA (by omega) r_l64
    ·exact DX.move rfl rfl rfl rfl rfl rfl
    ·exact DX.move rfl rfl rfl rfl rfl rfl
    ·exact DX.q2 (x := .tmp 27) (y := .tmp 28) (.pointer (padd A2 i)) rfl rfl rfl rfl rfl (fun ρ W h1 h2 => r_idxRI rB h1 h2 (by omega))
    ·exact DX.iget (i := i) rfl rfl rfl rfl rfl rfl rB (by omega) r_l64
    ·exact DX.q2 (x := .tmp 26) (y := .tmp 30) (.bool true) rfl rfl rfl rfl rfl (fun ρ W h1 h2 => by exact r_lt h1 h2 (decide_eq_true g1))
    refine SX.then (SC.cond (t := true) rfl (SC.seq (SC.region (PW.assign rfl rfl rfl rfl rfl (PW.nil (SX.then (SC.ret (SX.thenR (SX.blockR (SX.thenR (SX.thenR (SX.blockR (SX.thenR ?_)))))))))))))
    have hr : cmp (lv 65536 xs) (lv 65536 ys) = (-1) := cmp_lt (cmp_top dx dy hd (by omega) hP2 g1)
    rw [hr]
    exact SX.done (s := 4) (r := .vl (.int .i64 (-1))) rfl rfl rfl
   ·refine SC.dx [.val 23 (.vl (.slice A xs.length c)), .val 24 (.vl (.int .i64 (i : Int))), .val 25 (.vl (.pointer (padd A i))), .val 26 (.vl (.int .i64 (at0 xs i))), .val 27 (.vl (.slice A2 ys.length d)), .val 28 (.vl (.int .i64 (i : Int))), .val 29 (.vl (.pointer (padd A2 i))), .val 30 (.vl (.int .i64 (at0 ys i))), .val 31 (.vl (.bool false))] [([], [0]), ([], [5]), ([0, 1], []), ([2], []), ([], [1]), ([], [5]), ([4, 5], []), ([6], []), ([3, 7], [])] rfl (by kernel_rfl) (by kernel_rfl) (by kernel_rfl) rfl ⟨?_, ?_, ?_, ?_, ?_, ?_, ?_, ?_, ?_, trivial⟩ ?_
    ·exact DX.move rfl rfl rfl rfl rfl rfl
    ·exact DX.move rfl rfl rfl rfl rfl rfl
    ·exact DX.q2 (x := .tmp 23) (y := .tmp 24) (.pointer (padd A i)) rfl rfl rfl rfl rfl (fun ρ W h1 h2 => r_idxRI rA h1 h2 (by omega))
    ·exact DX.iget (i := i) rfl rfl rfl rfl rfl rfl rA (by omega) r_l64
    ·exact DX.move rfl rfl rfl rfl rfl rfl
    ·exact DX.move rfl rfl rfl rfl rfl rfl
    ·exact DX.q2 (x := .tmp 27) (y := .tmp 28) (.pointer (padd A2 i)) rfl rfl rfl rfl rfl (fun ρ W h1 h2 => r_idxRI rB h1 h2 (by omega))
    ·exact DX.iget (i := i) rfl rfl rfl rfl rfl rfl rB (by omega) r_l64
    ·exact DX.q2 (x := .tmp 26) (y := .tmp 30) (.bool false) rfl rfl rfl rfl rfl (fun ρ W h1 h2 => by exact r_lt h1 h2 (decide_eq_false g1))
    refine SX.then (SC.cond (t := false) rfl (SC.skip (SX.then (SC.seq ?_))))
    by_cases g2 : at0 ys i < at0 xs i
    ·refine SC.dx [.val 32 (.vl (.slice A xs.length c)), .val 33 (.vl (.int .i64 (i : Int))), .val 34 (.vl (.pointer (padd A i))), .val 35 (.vl (.int .i64 (at0 xs i))), .val 36 (.vl (.slice A2 ys.length d)), .val 37 (.vl (.int .i64 (i : Int))), .val 38 (.vl (.pointer (padd A2 i))), .val 39 (.vl (.int .i64 (at0 ys i))), .val 40 (.vl (.bool true))] [([], [0]), ([], [5]), ([0, 1], []), ([2], []), ([], [1]), ([], [5]), ([4, 5], []), ([6], []), ([3, 7], [])] rfl (by kernel_rfl) (by kernel_rfl) (by kernel_rfl) rfl ⟨?_, ?_, ?_, ?_, ?_, ?_, ?_, ?_, ?_, trivial⟩ ?_
     ·exact DX.move rfl rfl rfl rfl rfl rfl
     ·exact DX.move rfl rfl rfl rfl rfl rfl
     ·exact DX.q2 (x := .tmp 32) (y := .tmp 33) (.pointer (padd A i)) rfl rfl rfl rfl rfl (fun ρ W h1 h2 => r_idxRI rA h1 h2 (by omega))
     ·exact DX.iget (i := i) rfl rfl rfl rfl rfl rfl rA (by omega) r_l64
     ·exact DX.move rfl rfl rfl rfl rfl rfl
     ·exact DX.move rfl rfl rfl rfl rfl rfl
     ·exact DX.q2 (x := .tmp 36) (y := .tmp 37) (.pointer (padd A2 i)) rfl rfl rfl rfl rfl (fun ρ W h1 h2 => r_idxRI rB h1 h2 (by omega))
     ·exact DX.iget (i := i) rfl rfl rfl rfl rfl rfl rB (by omega) r_l64
     ·exact DX.q2 (x := .tmp 35) (y := .tmp 39) (.bool true) rfl rfl rfl rfl rfl (fun ρ W h1 h2 => by exact r_gt h1 h2 (decide_eq_true g2))
     refine SX.then (SC.cond (t := true) rfl (SC.seq (SC.region (PW.assign rfl rfl rfl rfl rfl (PW.nil (SX.then (SC.ret (SX.blockR (SX.thenR (SX.thenR (SX.blockR (SX.thenR ?_))))))))))))
     have hr : cmp (lv 65536 xs) (lv 65536 ys) = 1 := cmp_gt (cmp_top dy dx hd.symm (by omega) hP2.symm g2)
     rw [hr]
     exact SX.done (s := 4) (r := .vl (.int .i64 1)) rfl rfl rfl
    ·refine SC.dx [.val 32 (.vl (.slice A xs.length c)), .val 33 (.vl (.int .i64 (i : Int))), .val 34 (.vl (.pointer (padd A i))), .val 35 (.vl (.int .i64 (at0 xs i))), .val 36 (.vl (.slice A2 ys.length d)), .val 37 (.vl (.int .i64 (i : Int))), .val 38 (.vl (.pointer (padd A2 i))), .val 39 (.vl (.int .i64 (at0 ys i))), .val 40 (.vl (.bool false))] [([], [0]), ([], [5]), ([0, 1], []), ([2], []), ([], [1]), ([], [5]), ([4, 5], []), ([6], []), ([3, 7], [])] rfl (by kernel_rfl) (by kernel_rfl) (by kernel_rfl) rfl ⟨?_, ?_, ?_, ?_, ?_, ?_, ?_, ?_, ?_, trivial⟩ ?_
     ·exact DX.move rfl rfl rfl rfl rfl rfl
     ·exact DX.move rfl rfl rfl rfl rfl rfl
     ·exact DX.q2 (x := .tmp 32) (y := .tmp 33) (.pointer (padd A i)) rfl rfl rfl rfl rfl (fun ρ W h1 h2 => r_idxRI rA h1 h2 (by omega))
     ·exact DX.iget (i := i) rfl rfl rfl rfl rfl rfl rA (by omega) r_l64
     ·exact DX.move rfl rfl rfl rfl rfl rfl
     ·exact DX.move rfl rfl rfl rfl rfl rfl
     ·exact DX.q2 (x := .tmp 36) (y := .tmp 37) (.pointer (padd A2 i)) rfl rfl rfl rfl rfl (fun ρ W h1 h2 => r_idxRI rB h1 h2 (by omega))
     ·exact DX.iget (i := i) rfl rfl rfl rfl rfl rfl rB (by omega) r_l64
     ·exact DX.q2 (x := .tmp 35) (y := .tmp 39) (.bool false) rfl rfl rfl rfl rfl (fun ρ W h1 h2 => by exact r_gt h1 h2 (decide_eq_false g2))
     refine SX.then (SC.cond (t := false) rfl (SC.skip ?_))
     refine SX.blockN ?_
     refine SX.then (SC.region (PW.move rfl rfl rfl rfl rfl ?_))
     refine PW.q2 (x := .tmp 21) (y := .const (.int .i64 1)) (.int .i64 ((i : Int) - 1)) rfl rfl rfl rfl rfl (fun ρ W h1 h2 => by exact r_sub h1 h2 (by omega) (by omega)) ?_
     refine PW.assign rfl rfl rfl rfl rfl (PW.nil ?_)
     refine SX.back i ?_ ?_ ?_
     ·exact ⟨by omega, drop_at hd (by omega) hP2 (by omega)⟩
     ·exact (show i < i + 1 by omega)
     ·exact ⟨rfl, rfl, rfl, trivial⟩
  ·obtain rfl : t = 0 := by omega
   refine SC.region (PW.move rfl rfl rfl rfl rfl ?_)
   refine PW.q2 (x := .tmp 19) (y := .const (.int .i64 0)) (.bool false) rfl rfl rfl rfl rfl (fun ρ W h1 h2 => by exact r_ge h1 h2 (decide_eq_false ht)) ?_
   refine PW.nil (SX.then (SC.cond (t := false) rfl (SC.exit (SX.thenE (SX.thenE (SX.blockE (SX.then (SC.seq (SC.region (PW.assign rfl rfl rfl rfl rfl (PW.nil (SX.then (SC.ret ?_)))))))))))))
   have hr : cmp (lv 65536 xs) (lv 65536 ys) = 0 := cmp_eq (by rw [List.drop_zero, List.drop_zero] at hP2; rw [hP2])
   rw [hr]
   exact SX.done (s := 4) (r := .vl (.int .i64 0)) rfl rfl rfl
set_option maxHeartbeats 3200000 in
set_option maxRecDepth 100000 in
theorem rplus_c {A A2 : Option Addr} {c d : Nat} {xs ys : List Int} {w : World} (rA : Rd w .i64 A xs) (rB : Rd w .i64 A2 ys) (dx : dg 65536 xs) (dy : dg 65536 ys) (hx : xs.length ≤ 2000000) (hy : ys.length ≤ 2000000) :
  Calls Tryz.prog 144 #[.slice A xs.length c, .slice A2 ys.length d] w (Ret w (KL .i64 fun zs => dg 65536 zs ∧ lv 65536 zs = lv 65536 xs + lv 65536 ys ∧ zs.length ≤ max xs.length ys.length + 1)) := by
 refine calls_sc (l := [.vl (.slice A xs.length c), .vl (.slice A2 ys.length d)]) (us := [.slice A xs.length c, .slice A2 ys.length d]) 54 Tryz.func144 rfl Tryz.ntmps144 (by simp) ⟨rfl, rfl, rfl, rfl, trivial⟩ ?_
 refine SC.seq (SC.region (PW.assign rfl rfl rfl rfl rfl (PW.nil (SX.then (SC.seq (SC.region (PW.assign rfl rfl rfl rfl rfl (PW.nil (SX.then (SC.seq (SC.region (PW.assign rfl rfl rfl rfl rfl ?_))))))))))))
 refine PW.nil (SX.then (SC.seq (SC.seq (SC.region (PW.assign rfl rfl rfl rfl rfl (PW.nil (SX.then (SC.block ?_))))))))
 refine SC.weak (fun a W hf => Fr.nilrow 54 3 (.int .i64) hf) ?_
 refine SC.loop (S := Nat × Value × List Int × Int) (fun ⟨i, v, zs, cc⟩ => [(0, .vl (.slice A xs.length c)), (1, .vl (.slice A2 ys.length d)), (5, .vl (v)), (6, .vl (.int .i64 (cc))), (7, .vl (.int .i64 (i : Int))), (54, .ro (v) 3 (.int .i64) (zs))]) (fun ⟨i, v, zs, cc⟩ => Pl xs ys i zs cc) (fun ⟨i, v, zs, cc⟩ => 2 * (max xs.length ys.length - i) + cc.toNat) (0, .slice none 0 0, [], 0) (Pl.start xs ys) ⟨rfl, rfl, rfl, rfl, rfl, rfl, trivial⟩ ?_
 rintro ⟨i, v, zs, cc⟩ hP
 show SC _ _ _ _ [(0, .vl (.slice A xs.length c)), (1, .vl (.slice A2 ys.length d)), (5, .vl (v)), (6, .vl (.int .i64 (cc))), (7, .vl (.int .i64 (i : Int))), (54, .ro (v) 3 (.int .i64) (zs))] _
 refine SC.seq (SC.seq ?_)
 by_cases ha : (i : Int) < (xs.length : Int)
 ·refine SC.region ?_
  refine PW.move rfl rfl rfl rfl rfl (PW.move rfl rfl rfl rfl rfl ?_)
  refine PW.qn [(.tmp 10, .slice A xs.length c)] (.int .i64 (xs.length : Int)) rfl rfl rfl ⟨rfl, trivial⟩ (fun ρ W h => by obtain ⟨h1, _⟩ := h; exact r_lenI h1) ?_
  refine PW.q2 (x := .tmp 9) (y := .tmp 11) (.bool true) rfl rfl rfl rfl rfl (fun ρ W h1 h2 => by exact r_lt h1 h2 (decide_eq_true ha)) ?_
  refine PW.move rfl rfl rfl rfl rfl ?_
  refine PW.skip rfl rfl rfl ?_
  refine PW.skip rfl rfl rfl ?_
  refine PW.skip rfl rfl rfl ?_
  refine PW.skip rfl rfl rfl ?_
  refine PW.pick (t := true) rfl rfl rfl rfl rfl rfl ?_
  refine PW.move rfl rfl rfl rfl rfl ?_
  refine PW.skip rfl rfl rfl ?_
  refine PW.skip rfl rfl rfl ?_
  refine PW.pick (t := true) rfl rfl rfl rfl rfl rfl ?_
  refine PW.nil (SX.then (SC.cond (t := true) rfl (SC.skip (SX.then (SC.seq (SC.block (SC.seq (SC.region (PW.move rfl rfl rfl rfl rfl (PW.assign rfl rfl rfl rfl rfl (PW.nil (SX.then (SC.seq ?_)))))))))))))
  refine SC.seq (SC.region (PW.move rfl rfl rfl rfl rfl (PW.move rfl rfl rfl rfl rfl ?_)))
  refine PW.qn [(.tmp 27, .slice A xs.length c)] (.int .i64 (xs.length : Int)) rfl rfl rfl ⟨rfl, trivial⟩ (fun ρ W h => by obtain ⟨h1, _⟩ := h; exact r_lenI h1) ?_
  refine PW.q2 (x := .tmp 26) (y := .tmp 28) (.bool true) rfl rfl rfl rfl rfl (fun ρ W h1 h2 => by exact r_lt h1 h2 (decide_eq_true ha)) ?_
  refine PW.nil (SX.then (SC.cond (t := true) rfl (SC.region (PW.move rfl rfl rfl rfl rfl (PW.move rfl rfl rfl rfl rfl (PW.move rfl rfl rfl rfl rfl ?_))))))
  refine PW.q2 (x := .tmp 31) (y := .tmp 32) (.pointer (padd A i)) rfl rfl rfl rfl rfl (fun ρ W h1 h2 => r_idxRI rA h1 h2 (by omega)) ?_
  refine PW.iget (i := i) rfl rfl rfl rfl rfl rfl rA (by omega) r_l64 ?_
  refine PW.q2 (x := .tmp 30) (y := .tmp 34) (.int .i64 ((cc) + at0 xs i)) rfl rfl rfl rfl rfl (fun ρ W h1 h2 => by exact r_add h1 h2 rfl (by have := dg_at dx BJ_pos i; have := hP.c0; have := hP.c1; omega)) ?_
  refine PW.assign rfl rfl rfl rfl rfl (PW.nil (SX.then (SC.seq (SC.seq ?_))))
  by_cases hb : (i : Int) < (ys.length : Int)
  ·refine SC.region ?_
   refine PW.move rfl rfl rfl rfl rfl (PW.move rfl rfl rfl rfl rfl ?_)
   refine PW.qn [(.tmp 37, .slice A2 ys.length d)] (.int .i64 (ys.length : Int)) rfl rfl rfl ⟨rfl, trivial⟩ (fun ρ W h => by obtain ⟨h1, _⟩ := h; exact r_lenI h1) ?_
   refine PW.q2 (x := .tmp 36) (y := .tmp 38) (.bool true) rfl rfl rfl rfl rfl (fun ρ W h1 h2 => by exact r_lt h1 h2 (decide_eq_true hb)) ?_
   refine PW.nil (SX.then (SC.cond (t := true) rfl (SC.region (PW.move rfl rfl rfl rfl rfl (PW.move rfl rfl rfl rfl rfl (PW.move rfl rfl rfl rfl rfl ?_))))))
   refine PW.q2 (x := .tmp 41) (y := .tmp 42) (.pointer (padd A2 i)) rfl rfl rfl rfl rfl (fun ρ W h1 h2 => r_idxRI rB h1 h2 (by omega)) ?_
   refine PW.iget (i := i) rfl rfl rfl rfl rfl rfl rB (by omega) r_l64 ?_
   refine PW.q2 (x := .tmp 40) (y := .tmp 44) (.int .i64 (((cc) + at0 xs i) + at0 ys i)) rfl rfl rfl rfl rfl (fun ρ W h1 h2 => by exact r_add h1 h2 rfl (by have := dg_at dx BJ_pos i; have := dg_at dy BJ_pos i; have := hP.c0; have := hP.c1; omega)) ?_
   refine PW.assign rfl rfl rfl rfl rfl (PW.nil (SX.then (SC.seq ?_)))
   obtain ⟨hp, hn0, hn1, hmu⟩ := hP.step dx dy (n := (((cc) + at0 xs i) + at0 ys i)) (by omega) (by omega)
   refine SC.region (PW.move rfl rfl rfl rfl rfl (PW.move rfl rfl rfl rfl rfl ?_))
   refine PW.q2 (x := .tmp 47) (y := .const (.int .i64 65536)) (.int .i64 (((((cc) + at0 xs i) + at0 ys i)) % 65536)) rfl rfl rfl rfl rfl (fun ρ W h1 h2 => by exact r_rem h1 h2 rfl (by omega) (by decide)) ?_
   refine PW.app (K := 54) (f := .int .i64) [(((((cc) + at0 xs i) + at0 ys i)) % 65536)] rfl rfl rfl (fun a W hf => r_b1I (hf.vl (s := 48) rfl)) rfl rfl rfl rfl rfl rfl rfl rfl Tryz.underlying32 info_i64 rfl (fun _ => rfl) (by have l1 := hP.len; have l2 := hP.le; unfold maxLen; show _ + 1 ≤ _; omega) (by have l1 := hP.len; have l2 := hP.le; show (_ + 1) * 8 ≤ _; omega) rfl fun vq1 uq1 => ?_
   refine PW.assign rfl rfl rfl rfl rfl (PW.nil (SX.then (SC.region (PW.move rfl rfl rfl rfl rfl ?_))))
   refine PW.q2 (x := .tmp 51) (y := .const (.int .i64 65536)) (.int .i64 (((((cc) + at0 xs i) + at0 ys i)) / 65536)) rfl rfl rfl rfl rfl (fun ρ W h1 h2 => by exact r_quo h1 h2 rfl (by omega) (by decide)) ?_
   refine PW.assign rfl rfl rfl rfl rfl (PW.nil ?_)
   refine SX.blockN ?_
   refine SX.then (SC.region (PW.move rfl rfl rfl rfl rfl ?_))
   refine PW.q2 (x := .tmp 23) (y := .const (.int .i64 1)) (.int .i64 (((i + 1 : Nat) : Int))) rfl rfl rfl rfl rfl (fun ρ W h1 h2 => by exact r_add h1 h2 (by omega) (by have := hP.le; omega)) ?_
   refine PW.assign rfl rfl rfl rfl rfl (PW.nil ?_)
   refine SX.back (i + 1, vq1, zs ++ [(((((cc) + at0 xs i) + at0 ys i)) % 65536)], (((((cc) + at0 xs i) + at0 ys i)) / 65536)) ?_ ?_ ?_
   ·exact hp
   ·exact hmu
   ·exact ⟨rfl, rfl, rfl, rfl, rfl, rfl, trivial⟩
  ·refine SC.region ?_
   refine PW.move rfl rfl rfl rfl rfl (PW.move rfl rfl rfl rfl rfl ?_)
   refine PW.qn [(.tmp 37, .slice A2 ys.length d)] (.int .i64 (ys.length : Int)) rfl rfl rfl ⟨rfl, trivial⟩ (fun ρ W h => by obtain ⟨h1, _⟩ := h; exact r_lenI h1) ?_
   refine PW.q2 (x := .tmp 36) (y := .tmp 38) (.bool false) rfl rfl rfl rfl rfl (fun ρ W h1 h2 => by exact r_lt h1 h2 (decide_eq_false hb)) ?_
   refine PW.nil (SX.then (SC.cond (t := false) rfl (SC.skip (SX.then (SC.seq ?_)))))
   have ay : at0 ys i = 0 := at0_ge (by omega)
   obtain ⟨hp, hn0, hn1, hmu⟩ := hP.step dx dy (n := ((cc) + at0 xs i)) (by omega) (by omega)
   refine SC.region (PW.move rfl rfl rfl rfl rfl (PW.move rfl rfl rfl rfl rfl ?_))
   refine PW.q2 (x := .tmp 47) (y := .const (.int .i64 65536)) (.int .i64 ((((cc) + at0 xs i)) % 65536)) rfl rfl rfl rfl rfl (fun ρ W h1 h2 => by exact r_rem h1 h2 rfl (by omega) (by decide)) ?_
   refine PW.app (K := 54) (f := .int .i64) [((((cc) + at0 xs i)) % 65536)] rfl rfl rfl (fun a W hf => r_b1I (hf.vl (s := 48) rfl)) rfl rfl rfl rfl rfl rfl rfl rfl Tryz.underlying32 info_i64 rfl (fun _ => rfl) (by have l1 := hP.len; have l2 := hP.le; unfold maxLen; show _ + 1 ≤ _; omega) (by have l1 := hP.len; have l2 := hP.le; show (_ + 1) * 8 ≤ _; omega) rfl fun vq2 uq2 => ?_
   refine PW.assign rfl rfl rfl rfl rfl (PW.nil (SX.then (SC.region (PW.move rfl rfl rfl rfl rfl ?_))))
   refine PW.q2 (x := .tmp 51) (y := .const (.int .i64 65536)) (.int .i64 ((((cc) + at0 xs i)) / 65536)) rfl rfl rfl rfl rfl (fun ρ W h1 h2 => by exact r_quo h1 h2 rfl (by omega) (by decide)) ?_
   refine PW.assign rfl rfl rfl rfl rfl (PW.nil ?_)
   refine SX.blockN ?_
   refine SX.then (SC.region (PW.move rfl rfl rfl rfl rfl ?_))
   refine PW.q2 (x := .tmp 23) (y := .const (.int .i64 1)) (.int .i64 (((i + 1 : Nat) : Int))) rfl rfl rfl rfl rfl (fun ρ W h1 h2 => by exact r_add h1 h2 (by omega) (by have := hP.le; omega)) ?_
   refine PW.assign rfl rfl rfl rfl rfl (PW.nil ?_)
   refine SX.back (i + 1, vq2, zs ++ [((((cc) + at0 xs i)) % 65536)], ((((cc) + at0 xs i)) / 65536)) ?_ ?_ ?_
   ·exact hp
   ·exact hmu
   ·exact ⟨rfl, rfl, rfl, rfl, rfl, rfl, trivial⟩
 ·by_cases hb : (i : Int) < (ys.length : Int)
  ·refine SC.region ?_
   refine PW.move rfl rfl rfl rfl rfl (PW.move rfl rfl rfl rfl rfl ?_)
   refine PW.qn [(.tmp 10, .slice A xs.length c)] (.int .i64 (xs.length : Int)) rfl rfl rfl ⟨rfl, trivial⟩ (fun ρ W h => by obtain ⟨h1, _⟩ := h; exact r_lenI h1) ?_
   refine PW.q2 (x := .tmp 9) (y := .tmp 11) (.bool false) rfl rfl rfl rfl rfl (fun ρ W h1 h2 => by exact r_lt h1 h2 (decide_eq_false ha)) ?_
   refine PW.move rfl rfl rfl rfl rfl (PW.move rfl rfl rfl rfl rfl (PW.move rfl rfl rfl rfl rfl ?_))
   refine PW.qn [(.tmp 15, .slice A2 ys.length d)] (.int .i64 (ys.length : Int)) rfl rfl rfl ⟨rfl, trivial⟩ (fun ρ W h => by obtain ⟨h1, _⟩ := h; exact r_lenI h1) ?_
   refine PW.q2 (x := .tmp 14) (y := .tmp 16) (.bool true) rfl rfl rfl rfl rfl (fun ρ W h1 h2 => by exact r_lt h1 h2 (decide_eq_true hb)) ?_
   refine PW.pick (t := false) rfl rfl rfl rfl rfl rfl ?_
   refine PW.move rfl rfl rfl rfl rfl ?_
   refine PW.skip rfl rfl rfl ?_
   refine PW.skip rfl rfl rfl ?_
   refine PW.pick (t := true) rfl rfl rfl rfl rfl rfl ?_
   refine PW.nil (SX.then (SC.cond (t := true) rfl (SC.skip (SX.then (SC.seq (SC.block (SC.seq (SC.region (PW.move rfl rfl rfl rfl rfl (PW.assign rfl rfl rfl rfl rfl (PW.nil (SX.then ?_))))))))))))
   refine SC.seq (SC.seq (SC.region (PW.move rfl rfl rfl rfl rfl (PW.move rfl rfl rfl rfl rfl ?_))))
   refine PW.qn [(.tmp 27, .slice A xs.length c)] (.int .i64 (xs.length : Int)) rfl rfl rfl ⟨rfl, trivial⟩ (fun ρ W h => by obtain ⟨h1, _⟩ := h; exact r_lenI h1) ?_
   refine PW.q2 (x := .tmp 26) (y := .tmp 28) (.bool false) rfl rfl rfl rfl rfl (fun ρ W h1 h2 => by exact r_lt h1 h2 (decide_eq_false ha)) ?_
   refine PW.nil (SX.then (SC.cond (t := false) rfl (SC.skip (SX.then (SC.seq (SC.seq (SC.region (PW.move rfl rfl rfl rfl rfl (PW.move rfl rfl rfl rfl rfl ?_)))))))))
   refine PW.qn [(.tmp 37, .slice A2 ys.length d)] (.int .i64 (ys.length : Int)) rfl rfl rfl ⟨rfl, trivial⟩ (fun ρ W h => by obtain ⟨h1, _⟩ := h; exact r_lenI h1) ?_
   refine PW.q2 (x := .tmp 36) (y := .tmp 38) (.bool true) rfl rfl rfl rfl rfl (fun ρ W h1 h2 => by exact r_lt h1 h2 (decide_eq_true hb)) ?_
   refine PW.nil (SX.then (SC.cond (t := true) rfl (SC.region (PW.move rfl rfl rfl rfl rfl (PW.move rfl rfl rfl rfl rfl (PW.move rfl rfl rfl rfl rfl ?_))))))
   refine PW.q2 (x := .tmp 41) (y := .tmp 42) (.pointer (padd A2 i)) rfl rfl rfl rfl rfl (fun ρ W h1 h2 => r_idxRI rB h1 h2 (by omega)) ?_
   refine PW.iget (i := i) rfl rfl rfl rfl rfl rfl rB (by omega) r_l64 ?_
   refine PW.q2 (x := .tmp 40) (y := .tmp 44) (.int .i64 ((cc) + at0 ys i)) rfl rfl rfl rfl rfl (fun ρ W h1 h2 => by exact r_add h1 h2 rfl (by have := dg_at dx BJ_pos i; have := dg_at dy BJ_pos i; have := hP.c0; have := hP.c1; omega)) ?_
   refine PW.assign rfl rfl rfl rfl rfl (PW.nil (SX.then (SC.seq ?_)))
   have ax : at0 xs i = 0 := at0_ge (by omega)
   obtain ⟨hp, hn0, hn1, hmu⟩ := hP.step dx dy (n := ((cc) + at0 ys i)) (by omega) (by omega)
   refine SC.region (PW.move rfl rfl rfl rfl rfl (PW.move rfl rfl rfl rfl rfl ?_))
   refine PW.q2 (x := .tmp 47) (y := .const (.int .i64 65536)) (.int .i64 ((((cc) + at0 ys i)) % 65536)) rfl rfl rfl rfl rfl (fun ρ W h1 h2 => by exact r_rem h1 h2 rfl (by omega) (by decide)) ?_
   refine PW.app (K := 54) (f := .int .i64) [((((cc) + at0 ys i)) % 65536)] rfl rfl rfl (fun a W hf => r_b1I (hf.vl (s := 48) rfl)) rfl rfl rfl rfl rfl rfl rfl rfl Tryz.underlying32 info_i64 rfl (fun _ => rfl) (by have l1 := hP.len; have l2 := hP.le; unfold maxLen; show _ + 1 ≤ _; omega) (by have l1 := hP.len; have l2 := hP.le; show (_ + 1) * 8 ≤ _; omega) rfl fun vq3 uq3 => ?_
   refine PW.assign rfl rfl rfl rfl rfl (PW.nil (SX.then (SC.region (PW.move rfl rfl rfl rfl rfl ?_))))
   refine PW.q2 (x := .tmp 51) (y := .const (.int .i64 65536)) (.int .i64 ((((cc) + at0 ys i)) / 65536)) rfl rfl rfl rfl rfl (fun ρ W h1 h2 => by exact r_quo h1 h2 rfl (by omega) (by decide)) ?_
   refine PW.assign rfl rfl rfl rfl rfl (PW.nil ?_)
   refine SX.blockN ?_
   refine SX.then (SC.region (PW.move rfl rfl rfl rfl rfl ?_))
   refine PW.q2 (x := .tmp 23) (y := .const (.int .i64 1)) (.int .i64 (((i + 1 : Nat) : Int))) rfl rfl rfl rfl rfl (fun ρ W h1 h2 => by exact r_add h1 h2 (by omega) (by have := hP.le; omega)) ?_
   refine PW.assign rfl rfl rfl rfl rfl (PW.nil ?_)
   refine SX.back (i + 1, vq3, zs ++ [((((cc) + at0 ys i)) % 65536)], ((((cc) + at0 ys i)) / 65536)) ?_ ?_ ?_
   ·exact hp
   ·exact hmu
   ·exact ⟨rfl, rfl, rfl, rfl, rfl, rfl, trivial⟩
  ·by_cases hc : (0 : Int) < cc
   ·refine SC.region ?_
    refine PW.move rfl rfl rfl rfl rfl (PW.move rfl rfl rfl rfl rfl ?_)
    refine PW.qn [(.tmp 10, .slice A xs.length c)] (.int .i64 (xs.length : Int)) rfl rfl rfl ⟨rfl, trivial⟩ (fun ρ W h => by obtain ⟨h1, _⟩ := h; exact r_lenI h1) ?_
    refine PW.q2 (x := .tmp 9) (y := .tmp 11) (.bool false) rfl rfl rfl rfl rfl (fun ρ W h1 h2 => by exact r_lt h1 h2 (decide_eq_false ha)) ?_
    refine PW.move rfl rfl rfl rfl rfl (PW.move rfl rfl rfl rfl rfl (PW.move rfl rfl rfl rfl rfl ?_))
    refine PW.qn [(.tmp 15, .slice A2 ys.length d)] (.int .i64 (ys.length : Int)) rfl rfl rfl ⟨rfl, trivial⟩ (fun ρ W h => by obtain ⟨h1, _⟩ := h; exact r_lenI h1) ?_
    refine PW.q2 (x := .tmp 14) (y := .tmp 16) (.bool false) rfl rfl rfl rfl rfl (fun ρ W h1 h2 => by exact r_lt h1 h2 (decide_eq_false hb)) ?_
    refine PW.pick (t := false) rfl rfl rfl rfl rfl rfl ?_
    refine PW.move rfl rfl rfl rfl rfl (PW.move rfl rfl rfl rfl rfl ?_)
    refine PW.q2 (x := .tmp 20) (y := .const (.int .i64 0)) (.bool true) rfl rfl rfl rfl rfl (fun ρ W h1 h2 => by exact r_gt h1 h2 (decide_eq_true hc)) ?_
    refine PW.pick (t := false) rfl rfl rfl rfl rfl rfl ?_
    refine PW.nil (SX.then (SC.cond (t := true) rfl (SC.skip (SX.then (SC.seq (SC.block (SC.seq (SC.region (PW.move rfl rfl rfl rfl rfl (PW.assign rfl rfl rfl rfl rfl (PW.nil (SX.then ?_))))))))))))
    refine SC.seq (SC.seq (SC.region (PW.move rfl rfl rfl rfl rfl (PW.move rfl rfl rfl rfl rfl ?_))))
    refine PW.qn [(.tmp 27, .slice A xs.length c)] (.int .i64 (xs.length : Int)) rfl rfl rfl ⟨rfl, trivial⟩ (fun ρ W h => by obtain ⟨h1, _⟩ := h; exact r_lenI h1) ?_
    refine PW.q2 (x := .tmp 26) (y := .tmp 28) (.bool false) rfl rfl rfl rfl rfl (fun ρ W h1 h2 => by exact r_lt h1 h2 (decide_eq_false ha)) ?_
    refine PW.nil (SX.then (SC.cond (t := false) rfl (SC.skip (SX.then (SC.seq (SC.seq (SC.region (PW.move rfl rfl rfl rfl rfl (PW.move rfl rfl rfl rfl rfl ?_)))))))))
    refine PW.qn [(.tmp 37, .slice A2 ys.length d)] (.int .i64 (ys.length : Int)) rfl rfl rfl ⟨rfl, trivial⟩ (fun ρ W h => by obtain ⟨h1, _⟩ := h; exact r_lenI h1) ?_
    refine PW.q2 (x := .tmp 36) (y := .tmp 38) (.bool false) rfl rfl rfl rfl rfl (fun ρ W h1 h2 => by exact r_lt h1 h2 (decide_eq_false hb)) ?_
    refine PW.nil (SX.then (SC.cond (t := false) rfl (SC.skip (SX.then (SC.seq ?_)))))
    have ax : at0 xs i = 0 := at0_ge (by omega)
    have ay : at0 ys i = 0 := at0_ge (by omega)
    obtain ⟨hp, hn0, hn1, hmu⟩ := hP.step dx dy (n := (cc)) (by omega) (by omega)
    refine SC.region (PW.move rfl rfl rfl rfl rfl (PW.move rfl rfl rfl rfl rfl ?_))
    refine PW.q2 (x := .tmp 47) (y := .const (.int .i64 65536)) (.int .i64 (((cc)) % 65536)) rfl rfl rfl rfl rfl (fun ρ W h1 h2 => by exact r_rem h1 h2 rfl (by omega) (by decide)) ?_
    refine PW.app (K := 54) (f := .int .i64) [(((cc)) % 65536)] rfl rfl rfl (fun a W hf => r_b1I (hf.vl (s := 48) rfl)) rfl rfl rfl rfl rfl rfl rfl rfl Tryz.underlying32 info_i64 rfl (fun _ => rfl) (by have l1 := hP.len; have l2 := hP.le; unfold maxLen; show _ + 1 ≤ _; omega) (by have l1 := hP.len; have l2 := hP.le; show (_ + 1) * 8 ≤ _; omega) rfl fun vq4 uq4 => ?_
    refine PW.assign rfl rfl rfl rfl rfl (PW.nil (SX.then (SC.region (PW.move rfl rfl rfl rfl rfl ?_))))
    refine PW.q2 (x := .tmp 51) (y := .const (.int .i64 65536)) (.int .i64 (((cc)) / 65536)) rfl rfl rfl rfl rfl (fun ρ W h1 h2 => by exact r_quo h1 h2 rfl (by omega) (by decide)) ?_
    refine PW.assign rfl rfl rfl rfl rfl (PW.nil ?_)
    refine SX.blockN ?_
    refine SX.then (SC.region (PW.move rfl rfl rfl rfl rfl ?_))
    refine PW.q2 (x := .tmp 23) (y := .const (.int .i64 1)) (.int .i64 (((i + 1 : Nat) : Int))) rfl rfl rfl rfl rfl (fun ρ W h1 h2 => by exact r_add h1 h2 (by omega) (by have := hP.le; omega)) ?_
    refine PW.assign rfl rfl rfl rfl rfl (PW.nil ?_)
    refine SX.back (i + 1, vq4, zs ++ [(((cc)) % 65536)], (((cc)) / 65536)) ?_ ?_ ?_
    ·exact hp
    ·exact hmu
    ·exact ⟨rfl, rfl, rfl, rfl, rfl, rfl, trivial⟩
   ·refine SC.region ?_
    refine PW.move rfl rfl rfl rfl rfl (PW.move rfl rfl rfl rfl rfl ?_)
    refine PW.qn [(.tmp 10, .slice A xs.length c)] (.int .i64 (xs.length : Int)) rfl rfl rfl ⟨rfl, trivial⟩ (fun ρ W h => by obtain ⟨h1, _⟩ := h; exact r_lenI h1) ?_
    refine PW.q2 (x := .tmp 9) (y := .tmp 11) (.bool false) rfl rfl rfl rfl rfl (fun ρ W h1 h2 => by exact r_lt h1 h2 (decide_eq_false ha)) ?_
    refine PW.move rfl rfl rfl rfl rfl (PW.move rfl rfl rfl rfl rfl (PW.move rfl rfl rfl rfl rfl ?_))
    refine PW.qn [(.tmp 15, .slice A2 ys.length d)] (.int .i64 (ys.length : Int)) rfl rfl rfl ⟨rfl, trivial⟩ (fun ρ W h => by obtain ⟨h1, _⟩ := h; exact r_lenI h1) ?_
    refine PW.q2 (x := .tmp 14) (y := .tmp 16) (.bool false) rfl rfl rfl rfl rfl (fun ρ W h1 h2 => by exact r_lt h1 h2 (decide_eq_false hb)) ?_
    refine PW.pick (t := false) rfl rfl rfl rfl rfl rfl ?_
    refine PW.move rfl rfl rfl rfl rfl (PW.move rfl rfl rfl rfl rfl ?_)
    refine PW.q2 (x := .tmp 20) (y := .const (.int .i64 0)) (.bool false) rfl rfl rfl rfl rfl (fun ρ W h1 h2 => by exact r_gt h1 h2 (decide_eq_false hc)) ?_
    refine PW.pick (t := false) rfl rfl rfl rfl rfl rfl ?_
    refine PW.nil (SX.then (SC.cond (t := false) rfl (SC.exit (SX.thenE (SX.thenE (SX.blockE (SX.then (SC.seq (SC.region (PW.move rfl rfl rfl rfl rfl (PW.assign rfl rfl rfl rfl rfl (PW.nil ?_))))))))))))
    refine SX.then (SC.ret ?_)
    exact SX.doneL (s := 4) (K1 := 54) (.inl rfl) rfl rfl rfl (hP.fin (by omega) (by omega) hc) rfl
set_option maxHeartbeats 3200000 in
set_option maxRecDepth 100000 in
theorem rminus_o {A A2 : Option Addr} {c d : Nat} {xs ys : List Int} {w : World} (rA : Rd w .i64 A xs) (rB : Rd w .i64 A2 ys) (dx : dg 65536 xs) (dy : dg 65536 ys) (hx : xs.length ≤ 2000000) (hy : ys.length ≤ 2000000) (ty : top ys) (hle : lv 65536 ys ≤ lv 65536 xs) :
  Calls Tryz.prog 146 #[.slice A xs.length c, .slice A2 ys.length d] w (Ret w (KR w.heap.size 3 .i64 fun zs => dg 65536 zs ∧ lv 65536 zs = lv 65536 xs - lv 65536 ys ∧ top zs)) := by
 refine calls_sc (l := [.vl (.slice A xs.length c), .vl (.slice A2 ys.length d)]) (us := [.slice A xs.length c, .slice A2 ys.length d]) 41 Tryz.func146 rfl Tryz.ntmps146 (by simp) ⟨rfl, rfl, rfl, rfl, trivial⟩ ?_
 refine SC.seq (SC.region (PW.assign rfl rfl rfl rfl rfl (PW.nil (SX.then (SC.seq (SC.region (PW.assign rfl rfl rfl rfl rfl (PW.nil (SX.then (SC.seq (SC.region (PW.assign rfl rfl rfl rfl rfl ?_))))))))))))
 refine PW.nil (SX.then (SC.seq (SC.seq (SC.region (PW.assign rfl rfl rfl rfl rfl (PW.nil (SX.then (SC.block ?_))))))))
 refine SC.weak (fun a W hf => Fr.nilrow 41 3 (.int .i64) hf) ?_
 refine SC.loop (S := Nat × Value × List Int × Int) (fun ⟨i, v, zs, bb⟩ => [(0, .vl (.slice A xs.length c)), (1, .vl (.slice A2 ys.length d)), (5, .vl (v)), (6, .vl (.int .i64 (bb))), (7, .vl (.int .i64 (i : Int))), (41, .ro (v) 3 (.int .i64) (zs))]) (fun ⟨i, v, zs, bb⟩ => Mn xs ys i zs bb) (fun ⟨i, v, zs, bb⟩ => xs.length - i) (0, .slice none 0 0, [], 0) (Mn.start xs ys) ⟨rfl, rfl, rfl, rfl, rfl, rfl, trivial⟩ ?_
 rintro ⟨i, v, zs, bb⟩ hP
 show SC _ _ _ _ [(0, .vl (.slice A xs.length c)), (1, .vl (.slice A2 ys.length d)), (5, .vl (v)), (6, .vl (.int .i64 (bb))), (7, .vl (.int .i64 (i : Int))), (41, .ro (v) 3 (.int .i64) (zs))] _
 refine SC.seq (SC.seq ?_)
 by_cases ha : (i : Int) < (xs.length : Int)
 ·refine SC.region ?_
  refine PW.move rfl rfl rfl rfl rfl (PW.move rfl rfl rfl rfl rfl ?_)
  refine PW.qn [(.tmp 10, .slice A xs.length c)] (.int .i64 (xs.length : Int)) rfl rfl rfl ⟨rfl, trivial⟩ (fun ρ W h => by obtain ⟨h1, _⟩ := h; exact r_lenI h1) ?_
  refine PW.q2 (x := .tmp 9) (y := .tmp 11) (.bool true) rfl rfl rfl rfl rfl (fun ρ W h1 h2 => by exact r_lt h1 h2 (decide_eq_true ha)) ?_
  refine PW.nil (SX.then (SC.cond (t := true) rfl (SC.skip (SX.then (SC.seq (SC.block (SC.seq (SC.region (PW.move rfl rfl rfl rfl rfl (PW.move rfl rfl rfl rfl rfl ?_))))))))))
  refine PW.q2 (x := .tmp 15) (y := .tmp 16) (.pointer (padd A i)) rfl rfl rfl rfl rfl (fun ρ W h1 h2 => r_idxRI rA h1 h2 (by omega)) ?_
  refine PW.iget (i := i) rfl rfl rfl rfl rfl rfl rA (by omega) r_l64 ?_
  refine PW.move rfl rfl rfl rfl rfl ?_
  refine PW.q2 (x := .tmp 18) (y := .tmp 19) (.int .i64 (at0 xs i - bb)) rfl rfl rfl rfl rfl (fun ρ W h1 h2 => by exact r_sub h1 h2 rfl (by have := dg_at dx BJ_pos i; have := dg_at dy BJ_pos i; have := hP.c0; have := hP.c1; omega)) ?_
  refine PW.assign rfl rfl rfl rfl rfl (PW.nil (SX.then (SC.seq (SC.seq ?_))))
  by_cases hb : (i : Int) < (ys.length : Int)
  ·refine SC.region ?_
   refine PW.move rfl rfl rfl rfl rfl (PW.move rfl rfl rfl rfl rfl ?_)
   refine PW.qn [(.tmp 22, .slice A2 ys.length d)] (.int .i64 (ys.length : Int)) rfl rfl rfl ⟨rfl, trivial⟩ (fun ρ W h => by obtain ⟨h1, _⟩ := h; exact r_lenI h1) ?_
   refine PW.q2 (x := .tmp 21) (y := .tmp 23) (.bool true) rfl rfl rfl rfl rfl (fun ρ W h1 h2 => by exact r_lt h1 h2 (decide_eq_true hb)) ?_
   refine PW.nil (SX.then (SC.cond (t := true) rfl (SC.region (PW.move rfl rfl rfl rfl rfl (PW.move rfl rfl rfl rfl rfl (PW.move rfl rfl rfl rfl rfl ?_))))))
   refine PW.q2 (x := .tmp 26) (y := .tmp 27) (.pointer (padd A2 i)) rfl rfl rfl rfl rfl (fun ρ W h1 h2 => r_idxRI rB h1 h2 (by omega)) ?_
   refine PW.iget (i := i) rfl rfl rfl rfl rfl rfl rB (by omega) r_l64 ?_
   refine PW.q2 (x := .tmp 25) (y := .tmp 29) (.int .i64 (at0 xs i - bb - at0 ys i)) rfl rfl rfl rfl rfl (fun ρ W h1 h2 => by exact r_sub h1 h2 rfl (by have := dg_at dx BJ_pos i; have := dg_at dy BJ_pos i; have := hP.c0; have := hP.c1; omega)) ?_
   refine PW.assign rfl rfl rfl rfl rfl (PW.nil (SX.then (SC.seq (SC.region (PW.assign rfl rfl rfl rfl rfl (PW.nil (SX.then (SC.seq (SC.seq ?_)))))))))
   by_cases hn : (at0 xs i - bb - at0 ys i) < 0
   ·refine SC.region ?_
    refine PW.move rfl rfl rfl rfl rfl ?_
    refine PW.q2 (x := .tmp 31) (y := .const (.int .i64 0)) (.bool true) rfl rfl rfl rfl rfl (fun ρ W h1 h2 => by exact r_lt h1 h2 (decide_eq_true hn)) ?_
    refine PW.nil (SX.then (SC.cond (t := true) rfl (SC.seq (SC.region (PW.move rfl rfl rfl rfl rfl ?_)))))
    refine PW.q2 (x := .tmp 33) (y := .const (.int .i64 65536)) (.int .i64 ((at0 xs i - bb - at0 ys i) + 65536)) rfl rfl rfl rfl rfl (fun ρ W h1 h2 => by exact r_add h1 h2 rfl (by have := dg_at dx BJ_pos i; have := dg_at dy BJ_pos i; have := hP.c0; have := hP.c1; omega)) ?_
    refine PW.assign rfl rfl rfl rfl rfl (PW.nil (SX.then (SC.region (PW.assign rfl rfl rfl rfl rfl (PW.nil (SX.then (SC.region (PW.move rfl rfl rfl rfl rfl (PW.move rfl rfl rfl rfl rfl ?_)))))))))
    refine PW.app (K := 41) (f := .int .i64) [((at0 xs i - bb - at0 ys i) + 65536)] rfl rfl rfl (fun a W hf => r_b1I (hf.vl (s := 36) rfl)) rfl rfl rfl rfl rfl rfl rfl rfl Tryz.underlying32 info_i64 rfl (fun _ => rfl) (by have l1 := hP.len; unfold maxLen; show _ + 1 ≤ _; omega) (by have l1 := hP.len; show (_ + 1) * 8 ≤ _; omega) rfl fun vq1 uq1 => ?_
    refine PW.assign rfl rfl rfl rfl rfl (PW.nil ?_)
    refine SX.blockN ?_
    refine SX.then (SC.region (PW.move rfl rfl rfl rfl rfl ?_))
    refine PW.q2 (x := .tmp 13) (y := .const (.int .i64 1)) (.int .i64 (((i + 1 : Nat) : Int))) rfl rfl rfl rfl rfl (fun ρ W h1 h2 => by exact r_add h1 h2 (by omega) (by omega)) ?_
    refine PW.assign rfl rfl rfl rfl rfl (PW.nil ?_)
    refine SX.back (i + 1, vq1, zs ++ [((at0 xs i - bb - at0 ys i) + 65536)], 1) ?_ ?_ ?_
    ·exact (hP.step dx dy (by omega) (n := (at0 xs i - bb - at0 ys i)) (by omega) (.inl ⟨hn, rfl, rfl⟩))
    ·exact (show xs.length - (i + 1) < xs.length - i by omega)
    ·exact ⟨rfl, rfl, rfl, rfl, rfl, rfl, trivial⟩
   ·refine SC.region ?_
    refine PW.move rfl rfl rfl rfl rfl ?_
    refine PW.q2 (x := .tmp 31) (y := .const (.int .i64 0)) (.bool false) rfl rfl rfl rfl rfl (fun ρ W h1 h2 => by exact r_lt h1 h2 (decide_eq_false hn)) ?_
    refine PW.nil (SX.then (SC.cond (t := false) rfl (SC.skip (SX.then (SC.region (PW.move rfl rfl rfl rfl rfl (PW.move rfl rfl rfl rfl rfl ?_)))))))
    refine PW.app (K := 41) (f := .int .i64) [(at0 xs i - bb - at0 ys i)] rfl rfl rfl (fun a W hf => r_b1I (hf.vl (s := 36) rfl)) rfl rfl rfl rfl rfl rfl rfl rfl Tryz.underlying32 info_i64 rfl (fun _ => rfl) (by have l1 := hP.len; unfold maxLen; show _ + 1 ≤ _; omega) (by have l1 := hP.len; show (_ + 1) * 8 ≤ _; omega) rfl fun vq2 uq2 => ?_
    refine PW.assign rfl rfl rfl rfl rfl (PW.nil ?_)
    refine SX.blockN ?_
    refine SX.then (SC.region (PW.move rfl rfl rfl rfl rfl ?_))
    refine PW.q2 (x := .tmp 13) (y := .const (.int .i64 1)) (.int .i64 (((i + 1 : Nat) : Int))) rfl rfl rfl rfl rfl (fun ρ W h1 h2 => by exact r_add h1 h2 (by omega) (by omega)) ?_
    refine PW.assign rfl rfl rfl rfl rfl (PW.nil ?_)
    refine SX.back (i + 1, vq2, zs ++ [(at0 xs i - bb - at0 ys i)], 0) ?_ ?_ ?_
    ·exact (hP.step dx dy (by omega) (n := (at0 xs i - bb - at0 ys i)) (by omega) (.inr ⟨hn, rfl, rfl⟩))
    ·exact (show xs.length - (i + 1) < xs.length - i by omega)
    ·exact ⟨rfl, rfl, rfl, rfl, rfl, rfl, trivial⟩
  ·have ay : at0 ys i = 0 := at0_ge (by omega)
   refine SC.region (PW.move rfl rfl rfl rfl rfl (PW.move rfl rfl rfl rfl rfl ?_))
   refine PW.qn [(.tmp 22, .slice A2 ys.length d)] (.int .i64 (ys.length : Int)) rfl rfl rfl ⟨rfl, trivial⟩ (fun ρ W h => by obtain ⟨h1, _⟩ := h; exact r_lenI h1) ?_
   refine PW.q2 (x := .tmp 21) (y := .tmp 23) (.bool false) rfl rfl rfl rfl rfl (fun ρ W h1 h2 => by exact r_lt h1 h2 (decide_eq_false hb)) ?_
   refine PW.nil (SX.then (SC.cond (t := false) rfl (SC.skip (SX.then (SC.seq (SC.region (PW.assign rfl rfl rfl rfl rfl (PW.nil (SX.then (SC.seq (SC.seq ?_)))))))))))
   by_cases hn : (at0 xs i - bb) < 0
   ·refine SC.region ?_
    refine PW.move rfl rfl rfl rfl rfl ?_
    refine PW.q2 (x := .tmp 31) (y := .const (.int .i64 0)) (.bool true) rfl rfl rfl rfl rfl (fun ρ W h1 h2 => by exact r_lt h1 h2 (decide_eq_true hn)) ?_
    refine PW.nil (SX.then (SC.cond (t := true) rfl (SC.seq (SC.region (PW.move rfl rfl rfl rfl rfl ?_)))))
    refine PW.q2 (x := .tmp 33) (y := .const (.int .i64 65536)) (.int .i64 ((at0 xs i - bb) + 65536)) rfl rfl rfl rfl rfl (fun ρ W h1 h2 => by exact r_add h1 h2 rfl (by have := dg_at dx BJ_pos i; have := dg_at dy BJ_pos i; have := hP.c0; have := hP.c1; omega)) ?_
    refine PW.assign rfl rfl rfl rfl rfl (PW.nil (SX.then (SC.region (PW.assign rfl rfl rfl rfl rfl (PW.nil (SX.then (SC.region (PW.move rfl rfl rfl rfl rfl (PW.move rfl rfl rfl rfl rfl ?_)))))))))
    refine PW.app (K := 41) (f := .int .i64) [((at0 xs i - bb) + 65536)] rfl rfl rfl (fun a W hf => r_b1I (hf.vl (s := 36) rfl)) rfl rfl rfl rfl rfl rfl rfl rfl Tryz.underlying32 info_i64 rfl (fun _ => rfl) (by have l1 := hP.len; unfold maxLen; show _ + 1 ≤ _; omega) (by have l1 := hP.len; show (_ + 1) * 8 ≤ _; omega) rfl fun vq3 uq3 => ?_
    refine PW.assign rfl rfl rfl rfl rfl (PW.nil ?_)
    refine SX.blockN ?_
    refine SX.then (SC.region (PW.move rfl rfl rfl rfl rfl ?_))
    refine PW.q2 (x := .tmp 13) (y := .const (.int .i64 1)) (.int .i64 (((i + 1 : Nat) : Int))) rfl rfl rfl rfl rfl (fun ρ W h1 h2 => by exact r_add h1 h2 (by omega) (by omega)) ?_
    refine PW.assign rfl rfl rfl rfl rfl (PW.nil ?_)
    refine SX.back (i + 1, vq3, zs ++ [((at0 xs i - bb) + 65536)], 1) ?_ ?_ ?_
    ·exact (hP.step dx dy (by omega) (n := (at0 xs i - bb)) (by omega) (.inl ⟨hn, rfl, rfl⟩))
    ·exact (show xs.length - (i + 1) < xs.length - i by omega)
    ·exact ⟨rfl, rfl, rfl, rfl, rfl, rfl, trivial⟩
   ·refine SC.region ?_
    refine PW.move rfl rfl rfl rfl rfl ?_
    refine PW.q2 (x := .tmp 31) (y := .const (.int .i64 0)) (.bool false) rfl rfl rfl rfl rfl (fun ρ W h1 h2 => by exact r_lt h1 h2 (decide_eq_false hn)) ?_
    refine PW.nil (SX.then (SC.cond (t := false) rfl (SC.skip (SX.then (SC.region (PW.move rfl rfl rfl rfl rfl (PW.move rfl rfl rfl rfl rfl ?_)))))))
    refine PW.app (K := 41) (f := .int .i64) [(at0 xs i - bb)] rfl rfl rfl (fun a W hf => r_b1I (hf.vl (s := 36) rfl)) rfl rfl rfl rfl rfl rfl rfl rfl Tryz.underlying32 info_i64 rfl (fun _ => rfl) (by have l1 := hP.len; unfold maxLen; show _ + 1 ≤ _; omega) (by have l1 := hP.len; show (_ + 1) * 8 ≤ _; omega) rfl fun vq4 uq4 => ?_
    refine PW.assign rfl rfl rfl rfl rfl (PW.nil ?_)
    refine SX.blockN ?_
    refine SX.then (SC.region (PW.move rfl rfl rfl rfl rfl ?_))
    refine PW.q2 (x := .tmp 13) (y := .const (.int .i64 1)) (.int .i64 (((i + 1 : Nat) : Int))) rfl rfl rfl rfl rfl (fun ρ W h1 h2 => by exact r_add h1 h2 (by omega) (by omega)) ?_
    refine PW.assign rfl rfl rfl rfl rfl (PW.nil ?_)
    refine SX.back (i + 1, vq4, zs ++ [(at0 xs i - bb)], 0) ?_ ?_ ?_
    ·exact (hP.step dx dy (by omega) (n := (at0 xs i - bb)) (by omega) (.inr ⟨hn, rfl, rfl⟩))
    ·exact (show xs.length - (i + 1) < xs.length - i by omega)
    ·exact ⟨rfl, rfl, rfl, rfl, rfl, rfl, trivial⟩
 ·obtain rfl : i = xs.length := by have := hP.le; omega
  refine SC.region (PW.move rfl rfl rfl rfl rfl (PW.move rfl rfl rfl rfl rfl ?_))
  refine PW.qn [(.tmp 10, .slice A xs.length c)] (.int .i64 (xs.length : Int)) rfl rfl rfl ⟨rfl, trivial⟩ (fun ρ W h => by obtain ⟨h1, _⟩ := h; exact r_lenI h1) ?_
  refine PW.q2 (x := .tmp 9) (y := .tmp 11) (.bool false) rfl rfl rfl rfl rfl (fun ρ W h1 h2 => by exact r_lt h1 h2 (decide_eq_false ha)) ?_
  refine PW.nil (SX.then (SC.cond (t := false) rfl (SC.exit (SX.thenE (SX.thenE (SX.blockE (SX.then (SC.seq (SC.region (PW.move rfl rfl rfl rfl rfl ?_))))))))))
  refine PW.callG (r := .vl (tv (v) (trim zs).length)) ce_rtrimmed rfl rfl rfl rfl rfl (KV.st _) rfl (fun a W hf => by have h1 := hf.vl (s := 39) rfl; have h2 : OwF W _ _ (.int .i64) (v) (zs) := hf.ho 41 _ rfl; show Calls Tryz.prog _ #[a.tmps.getD 39 undef] W _; rw [h1]; exact tv_calls h2) ?_
  refine PW.more _ (fun a W hf => Fr.trimv (K := 41) hf rfl) ?_
  refine PW.assign rfl rfl rfl rfl rfl (PW.nil (SX.then (SC.ret ?_)))
  obtain ⟨f1, f2⟩ := hP.fin (len_le_of dy dx ty hle) hle
  exact SX.doneO (s := 4) (K1 := 41) (.inl rfl) rfl rfl rfl ⟨trim_dg f1, (trim_lv _ _).trans f2, trim_top _⟩ rfl
theorem rminus_c {A A2 : Option Addr} {c d : Nat} {xs ys : List Int} {w : World} (rA : Rd w .i64 A xs) (rB : Rd w .i64 A2 ys) (dx : dg 65536 xs) (dy : dg 65536 ys) (hx : xs.length ≤ 2000000) (hy : ys.length ≤ 2000000) (ty : top ys) (hle : lv 65536 ys ≤ lv 65536 xs) : Calls Tryz.prog 146 #[.slice A xs.length c, .slice A2 ys.length d] w (Ret w (KL .i64 fun zs => dg 65536 zs ∧ lv 65536 zs = lv 65536 xs - lv 65536 ys ∧ top zs)) :=
 (rminus_o rA rB dx dy hx hy ty hle).mono fun e W' ⟨v, e1, h, hn⟩ => ⟨v, e1, h.l, hn⟩
set_option maxHeartbeats 3200000 in
set_option maxRecDepth 100000 in
theorem rtimes_c {A A2 : Option Addr} {c d : Nat} {xs ys : List Int} {w : World} (rA : Rd w .i64 A xs) (rB : Rd w .i64 A2 ys) (dx : dg 65536 xs) (dy : dg 65536 ys) (hx : xs.length ≤ 2000000) (hy : ys.length ≤ 2000000) :
  Calls Tryz.prog 147 #[.slice A xs.length c, .slice A2 ys.length d] w (Ret w (KL .i64 fun zs => dg 65536 zs ∧ lv 65536 zs = lv 65536 xs * lv 65536 ys ∧ top zs)) := by
 refine calls_sc (l := [.vl (.slice A xs.length c), .vl (.slice A2 ys.length d)]) (us := [.slice A xs.length c, .slice A2 ys.length d]) 68 Tryz.func147 rfl Tryz.ntmps147 (by simp) ⟨rfl, rfl, rfl, rfl, trivial⟩ ?_
 refine SC.seq (SC.region (PW.assign rfl rfl rfl rfl rfl (PW.nil (SX.then (SC.seq (SC.region (PW.move rfl rfl rfl rfl rfl ?_)))))))
 refine PW.qn [(.tmp 10, .slice A xs.length c)] (.int .i64 (xs.length : Int)) rfl rfl rfl ⟨rfl, trivial⟩ (fun ρ W h => by obtain ⟨h1, _⟩ := h; exact r_lenI h1) ?_
 refine PW.move rfl rfl rfl rfl rfl ?_
 refine PW.qn [(.tmp 12, .slice A2 ys.length d)] (.int .i64 (ys.length : Int)) rfl rfl rfl ⟨rfl, trivial⟩ (fun ρ W h => by obtain ⟨h1, _⟩ := h; exact r_lenI h1) ?_
 refine PW.q2 (x := .tmp 11) (y := .tmp 13) (.int .i64 (((xs.length + ys.length : Nat) : Int))) rfl rfl rfl rfl rfl (fun ρ W h1 h2 => by exact r_add h1 h2 (by omega) (by omega)) ?_
 refine PW.q2 (x := .tmp 14) (y := .const (.int .i64 1)) (.int .i64 (((xs.length + ys.length + 1 : Nat) : Int))) rfl rfl rfl rfl rfl (fun ρ W h1 h2 => by exact r_add h1 h2 (by omega) (by omega)) ?_
 refine PW.make (n := (xs.length + ys.length + 1)) 68 rfl rfl rfl rfl rfl Tryz.underlying32 info_i64 (by omega) (by unfold maxLen; omega) fun g1 => ?_
 refine PW.assign rfl rfl rfl rfl rfl (PW.nil (SX.then (SC.seq (SC.seq (SC.region (PW.assign rfl rfl rfl rfl rfl (PW.nil (SX.then (SC.block ?_)))))))))
 refine SC.loop (S := Nat × List Int) (fun ⟨k, zs⟩ => [(0, .vl (.slice A xs.length c)), (1, .vl (.slice A2 ys.length d)), (5, .vl (.slice (some ⟨g1, 0, none⟩) (xs.length + ys.length + 1) (xs.length + ys.length + 1))), (6, .vl (.int .i64 (k : Int))), (68, .ro (.slice (some ⟨g1, 0, none⟩) (xs.length + ys.length + 1) (xs.length + ys.length + 1)) 3 (.int .i64) (zs))]) (fun ⟨k, zs⟩ => Tm xs ys k zs) (fun ⟨k, zs⟩ => xs.length - k) (0, List.replicate (xs.length + ys.length + 1) 0) (Tm.start xs ys) ⟨rfl, rfl, rfl, rfl, rfl, trivial⟩ ?_
 rintro ⟨k, zs⟩ hT0
 show SC _ _ _ _ [(0, .vl (.slice A xs.length c)), (1, .vl (.slice A2 ys.length d)), (5, .vl (.slice (some ⟨g1, 0, none⟩) (xs.length + ys.length + 1) (xs.length + ys.length + 1))), (6, .vl (.int .i64 (k : Int))), (68, .ro (.slice (some ⟨g1, 0, none⟩) (xs.length + ys.length + 1) (xs.length + ys.length + 1)) 3 (.int .i64) (zs))] _
 have hlen := hT0.len
 refine SC.seq (SC.seq ?_)
 by_cases ha : (k : Int) < (xs.length : Int)
 ·refine SC.region ?_
  refine PW.move rfl rfl rfl rfl rfl (PW.move rfl rfl rfl rfl rfl ?_)
  refine PW.qn [(.tmp 18, .slice A xs.length c)] (.int .i64 (xs.length : Int)) rfl rfl rfl ⟨rfl, trivial⟩ (fun ρ W h => by obtain ⟨h1, _⟩ := h; exact r_lenI h1) ?_
  refine PW.q2 (x := .tmp 17) (y := .tmp 19) (.bool true) rfl rfl rfl rfl rfl (fun ρ W h1 h2 => by exact r_lt h1 h2 (decide_eq_true ha)) ?_
  refine PW.nil (SX.then (SC.cond (t := true) rfl (SC.skip (SX.then (SC.seq (SC.block (SC.seq (SC.region (PW.assign rfl rfl rfl rfl rfl (PW.nil (SX.then (SC.seq (SC.seq (SC.region (PW.assign rfl rfl rfl rfl rfl ?_)))))))))))))))
  refine PW.nil (SX.then (SC.block ?_))
  refine SC.loop (S := Nat × List Int × Int) (fun ⟨j, zs, cc⟩ => [(0, .vl (.slice A xs.length c)), (1, .vl (.slice A2 ys.length d)), (5, .vl (.slice (some ⟨g1, 0, none⟩) (xs.length + ys.length + 1) (xs.length + ys.length + 1))), (6, .vl (.int .i64 (k : Int))), (7, .vl (.int .i64 (cc))), (8, .vl (.int .i64 (j : Int))), (68, .ro (.slice (some ⟨g1, 0, none⟩) (xs.length + ys.length + 1) (xs.length + ys.length + 1)) 3 (.int .i64) (zs))]) (fun ⟨j, zs, cc⟩ => Ti xs ys k j zs cc) (fun ⟨j, zs, cc⟩ => ys.length - j) (0, zs, 0) hT0.inner ⟨rfl, rfl, rfl, rfl, rfl, rfl, rfl, trivial⟩ ?_
  rintro ⟨j, zs, cc⟩ hT
  show SC _ _ _ _ [(0, .vl (.slice A xs.length c)), (1, .vl (.slice A2 ys.length d)), (5, .vl (.slice (some ⟨g1, 0, none⟩) (xs.length + ys.length + 1) (xs.length + ys.length + 1))), (6, .vl (.int .i64 (k : Int))), (7, .vl (.int .i64 (cc))), (8, .vl (.int .i64 (j : Int))), (68, .ro (.slice (some ⟨g1, 0, none⟩) (xs.length + ys.length + 1) (xs.length + ys.length + 1)) 3 (.int .i64) (zs))] _
  have hlen := hT.len
  refine SC.seq (SC.seq ?_)
  by_cases hb : (j : Int) < (ys.length : Int)
  ·refine SC.region ?_
   refine PW.move rfl rfl rfl rfl rfl (PW.move rfl rfl rfl rfl rfl ?_)
   refine PW.qn [(.tmp 24, .slice A2 ys.length d)] (.int .i64 (ys.length : Int)) rfl rfl rfl ⟨rfl, trivial⟩ (fun ρ W h => by obtain ⟨h1, _⟩ := h; exact r_lenI h1) ?_
   refine PW.q2 (x := .tmp 23) (y := .tmp 25) (.bool true) rfl rfl rfl rfl rfl (fun ρ W h1 h2 => by exact r_lt h1 h2 (decide_eq_true hb)) ?_
   refine PW.nil (SX.then (SC.cond (t := true) rfl (SC.skip (SX.then (SC.seq (SC.block (SC.seq ?_)))))))
   refine SC.dx [.val 29 (.vl (.slice (some ⟨g1, 0, none⟩) (xs.length + ys.length + 1) (xs.length + ys.length + 1))), .val 30 (.vl (.int .i64 (k : Int))), .val 31 (.vl (.int .i64 (j : Int))), .val 32 (.vl (.int .i64 (((k + j : Nat) : Int)))), .val 33 (.vl (.pointer (some ⟨g1, k + j, none⟩))), .val 34 (.vl (.int .i64 (at0 zs (k + j)))), .val 35 (.vl (.slice A xs.length c)), .val 36 (.vl (.int .i64 (k : Int))), .val 37 (.vl (.pointer (padd A k))), .val 38 (.vl (.int .i64 (at0 xs k))), .val 39 (.vl (.slice A2 ys.length d)), .val 40 (.vl (.int .i64 (j : Int))), .val 41 (.vl (.pointer (padd A2 j))), .val 42 (.vl (.int .i64 (at0 ys j))), .val 43 (.vl (.int .i64 (at0 xs k * at0 ys j))), .val 44 (.vl (.int .i64 (at0 zs (k + j) + at0 xs k * at0 ys j))), .val 45 (.vl (.int .i64 (cc))), .val 46 (.vl (.int .i64 (at0 zs (k + j) + at0 xs k * at0 ys j + cc))), .val 9 (.vl (.int .i64 (at0 zs (k + j) + at0 xs k * at0 ys j + cc)))] [([], [5]), ([], [6]), ([], [8]), ([1, 2], []), ([0, 3], []), ([4], [68]), ([], [0]), ([], [6]), ([6, 7], []), ([8], []), ([], [1]), ([], [8]), ([10, 11], []), ([12], []), ([9, 13], []), ([5, 14], []), ([], [7]), ([15, 16], []), ([17], [])] rfl (by kernel_rfl) (by kernel_rfl) (by kernel_rfl) rfl ⟨?_, ?_, ?_, ?_, ?_, ?_, ?_, ?_, ?_, ?_, ?_, ?_, ?_, ?_, ?_, ?_, ?_, ?_, ?_, trivial⟩ ?_
   ·exact DX.move rfl rfl rfl rfl rfl rfl
   ·exact DX.move rfl rfl rfl rfl rfl rfl
   ·exact DX.move rfl rfl rfl rfl rfl rfl
   ·exact DX.q2 (x := .tmp 30) (y := .tmp 31) (.int .i64 (((k + j : Nat) : Int))) rfl rfl rfl rfl rfl (fun ρ W h1 h2 => by exact r_add h1 h2 (by omega) (by omega))
   ·exact DX.q2 (x := .tmp 29) (y := .tmp 32) (.pointer (some ⟨g1, k + j, none⟩)) rfl rfl rfl rfl rfl (fun ρ W h1 h2 => r_idxI h1 h2 (by omega))
   ·exact DX.rload (K := 68) (i := k + j) rfl rfl rfl rfl rfl rfl (by omega) r_l64
   ·exact DX.move rfl rfl rfl rfl rfl rfl
   ·exact DX.move rfl rfl rfl rfl rfl rfl
   ·exact DX.q2 (x := .tmp 35) (y := .tmp 36) (.pointer (padd A k)) rfl rfl rfl rfl rfl (fun ρ W h1 h2 => r_idxRI rA h1 h2 (by omega))
   ·exact DX.iget (i := k) rfl rfl rfl rfl rfl rfl rA (by omega) r_l64
   ·exact DX.move rfl rfl rfl rfl rfl rfl
   ·exact DX.move rfl rfl rfl rfl rfl rfl
   ·exact DX.q2 (x := .tmp 39) (y := .tmp 40) (.pointer (padd A2 j)) rfl rfl rfl rfl rfl (fun ρ W h1 h2 => r_idxRI rB h1 h2 (by omega))
   ·exact DX.iget (i := j) rfl rfl rfl rfl rfl rfl rB (by omega) r_l64
   ·exact DX.q2 (x := .tmp 38) (y := .tmp 42) (.int .i64 (at0 xs k * at0 ys j)) rfl rfl rfl rfl rfl (fun ρ W h1 h2 => by exact r_mul h1 h2 rfl (by have := hT.bound dx dy; omega))
   ·exact DX.q2 (x := .tmp 34) (y := .tmp 43) (.int .i64 (at0 zs (k + j) + at0 xs k * at0 ys j)) rfl rfl rfl rfl rfl (fun ρ W h1 h2 => by exact r_add h1 h2 rfl (by have := hT.bound dx dy; omega))
   ·exact DX.move rfl rfl rfl rfl rfl rfl
   ·exact DX.q2 (x := .tmp 44) (y := .tmp 45) (.int .i64 (at0 zs (k + j) + at0 xs k * at0 ys j + cc)) rfl rfl rfl rfl rfl (fun ρ W h1 h2 => by exact r_add h1 h2 rfl (by have := hT.bound dx dy; have := hT.c0; have := hT.c1; omega))
   ·exact DX.assign rfl rfl rfl rfl rfl rfl
   refine SX.then (SC.seq (SC.region (PW.move rfl rfl rfl rfl rfl (PW.move rfl rfl rfl rfl rfl (PW.move rfl rfl rfl rfl rfl ?_)))))
   refine PW.q2 (x := .tmp 48) (y := .tmp 49) (.int .i64 (((k + j : Nat) : Int))) rfl rfl rfl rfl rfl (fun ρ W h1 h2 => by exact r_add h1 h2 (by omega) (by omega)) ?_
   refine PW.move rfl rfl rfl rfl rfl ?_
   refine PW.q2 (x := .tmp 51) (y := .const (.int .i64 65536)) (.int .i64 ((at0 zs (k + j) + at0 xs k * at0 ys j + cc) % 65536)) rfl rfl rfl rfl rfl (fun ρ W h1 h2 => by exact r_rem h1 h2 rfl (by have := hT.bound dx dy; have := hT.c0; have := hT.c1; omega) (by decide)) ?_
   refine PW.q2 (x := .tmp 47) (y := .tmp 50) (.pointer (some ⟨g1, k + j, none⟩)) rfl rfl rfl rfl rfl (fun ρ W h1 h2 => r_idxI h1 h2 (by omega)) ?_
   refine PW.rstore (K := 68) (x := .tmp 52) (i := k + j) (y := ((at0 zs (k + j) + at0 xs k * at0 ys j + cc) % 65536)) rfl rfl rfl rfl rfl (by omega) rfl rfl r_s64 ?_
   refine PW.nil (SX.then (SC.region (PW.move rfl rfl rfl rfl rfl ?_)))
   refine PW.q2 (x := .tmp 54) (y := .const (.int .i64 65536)) (.int .i64 ((at0 zs (k + j) + at0 xs k * at0 ys j + cc) / 65536)) rfl rfl rfl rfl rfl (fun ρ W h1 h2 => by exact r_quo h1 h2 rfl (by have := hT.bound dx dy; have := hT.c0; have := hT.c1; omega) (by decide)) ?_
   refine PW.assign rfl rfl rfl rfl rfl (PW.nil ?_)
   refine SX.blockN ?_
   refine SX.then (SC.region (PW.move rfl rfl rfl rfl rfl ?_))
   refine PW.q2 (x := .tmp 27) (y := .const (.int .i64 1)) (.int .i64 (((j + 1 : Nat) : Int))) rfl rfl rfl rfl rfl (fun ρ W h1 h2 => by exact r_add h1 h2 (by omega) (by omega)) ?_
   refine PW.assign rfl rfl rfl rfl rfl (PW.nil ?_)
   refine SX.back (j + 1, zs.set (k + j) ((at0 zs (k + j) + at0 xs k * at0 ys j + cc) % 65536), ((at0 zs (k + j) + at0 xs k * at0 ys j + cc) / 65536)) ?_ ?_ ?_
   ·exact (hT.step dx dy (by omega) (by omega) rfl)
   ·exact (show ys.length - (j + 1) < ys.length - j by omega)
   ·exact ⟨rfl, rfl, rfl, rfl, rfl, rfl, rfl, trivial⟩
  ·obtain rfl : j = ys.length := by have := hT.le; omega
   obtain ⟨o1, o2⟩ := hT.outer (by omega)
   refine SC.region (PW.move rfl rfl rfl rfl rfl (PW.move rfl rfl rfl rfl rfl ?_))
   refine PW.qn [(.tmp 24, .slice A2 ys.length d)] (.int .i64 (ys.length : Int)) rfl rfl rfl ⟨rfl, trivial⟩ (fun ρ W h => by obtain ⟨h1, _⟩ := h; exact r_lenI h1) ?_
   refine PW.q2 (x := .tmp 23) (y := .tmp 25) (.bool false) rfl rfl rfl rfl rfl (fun ρ W h1 h2 => by exact r_lt h1 h2 (decide_eq_false hb)) ?_
   refine PW.nil (SX.then (SC.cond (t := false) rfl (SC.exit (SX.thenE (SX.thenE (SX.blockE (SX.then (SC.region (PW.move rfl rfl rfl rfl rfl (PW.move rfl rfl rfl rfl rfl (PW.move rfl rfl rfl rfl rfl ?_)))))))))))
   refine PW.qn [(.tmp 58, .slice A2 ys.length d)] (.int .i64 (ys.length : Int)) rfl rfl rfl ⟨rfl, trivial⟩ (fun ρ W h => by obtain ⟨h1, _⟩ := h; exact r_lenI h1) ?_
   refine PW.q2 (x := .tmp 57) (y := .tmp 59) (.int .i64 (((k + ys.length : Nat) : Int))) rfl rfl rfl rfl rfl (fun ρ W h1 h2 => by exact r_add h1 h2 (by omega) (by omega)) ?_
   refine PW.q2 (x := .tmp 56) (y := .tmp 60) (.pointer (some ⟨g1, k + ys.length, none⟩)) rfl rfl rfl rfl rfl (fun ρ W h1 h2 => r_idxI h1 h2 (by omega)) ?_
   refine PW.rload (K := 68) (i := k + ys.length) rfl rfl rfl rfl rfl rfl (by omega) r_l64 ?_
   refine PW.move rfl rfl rfl rfl rfl ?_
   refine PW.q2 (x := .tmp 62) (y := .tmp 63) (.int .i64 (at0 zs (k + ys.length) + cc)) rfl rfl rfl rfl rfl (fun ρ W h1 h2 => by exact r_add h1 h2 rfl (by have := hT.c0; have := hT.c1; omega)) ?_
   refine PW.q2 (x := .tmp 56) (y := .tmp 60) (.pointer (some ⟨g1, k + ys.length, none⟩)) rfl rfl rfl rfl rfl (fun ρ W h1 h2 => r_idxI h1 h2 (by omega)) ?_
   refine PW.rstore (K := 68) (x := .tmp 64) (i := k + ys.length) (y := (at0 zs (k + ys.length) + cc)) rfl rfl rfl rfl rfl (by omega) rfl rfl r_s64 ?_
   refine PW.nil ?_
   refine SX.blockN ?_
   refine SX.then (SC.region (PW.move rfl rfl rfl rfl rfl ?_))
   refine PW.q2 (x := .tmp 21) (y := .const (.int .i64 1)) (.int .i64 (((k + 1 : Nat) : Int))) rfl rfl rfl rfl rfl (fun ρ W h1 h2 => by exact r_add h1 h2 (by omega) (by omega)) ?_
   refine PW.assign rfl rfl rfl rfl rfl (PW.nil ?_)
   refine SX.back (k + 1, zs.set (k + ys.length) (at0 zs (k + ys.length) + cc)) ?_ ?_ ?_
   ·exact o1
   ·exact (show xs.length - (k + 1) < xs.length - k by omega)
   ·exact ⟨rfl, rfl, rfl, rfl, rfl, trivial⟩
 ·obtain rfl : k = xs.length := by have := hT0.le; omega
  refine SC.region (PW.move rfl rfl rfl rfl rfl (PW.move rfl rfl rfl rfl rfl ?_))
  refine PW.qn [(.tmp 18, .slice A xs.length c)] (.int .i64 (xs.length : Int)) rfl rfl rfl ⟨rfl, trivial⟩ (fun ρ W h => by obtain ⟨h1, _⟩ := h; exact r_lenI h1) ?_
  refine PW.q2 (x := .tmp 17) (y := .tmp 19) (.bool false) rfl rfl rfl rfl rfl (fun ρ W h1 h2 => by exact r_lt h1 h2 (decide_eq_false ha)) ?_
  refine PW.nil (SX.then (SC.cond (t := false) rfl (SC.exit (SX.thenE (SX.thenE (SX.blockE (SX.then (SC.seq (SC.region (PW.move rfl rfl rfl rfl rfl ?_))))))))))
  refine PW.callG (r := .vl (tv (.slice (some ⟨g1, 0, none⟩) (xs.length + ys.length + 1) (xs.length + ys.length + 1)) (trim zs).length)) ce_rtrimmed rfl rfl rfl rfl rfl (KV.st _) rfl (fun a W hf => by have h1 := hf.vl (s := 66) rfl; have h2 : OwF W _ _ (.int .i64) (.slice (some ⟨g1, 0, none⟩) (xs.length + ys.length + 1) (xs.length + ys.length + 1)) (zs) := hf.ho 68 _ rfl; show Calls Tryz.prog _ #[a.tmps.getD 66 undef] W _; rw [h1]; exact tv_calls h2) ?_
  refine PW.more _ (fun a W hf => Fr.trimv (K := 68) hf rfl) ?_
  refine PW.assign rfl rfl rfl rfl rfl (PW.nil (SX.then (SC.ret ?_)))
  obtain ⟨f1, f2⟩ := hT0.fin
  exact SX.doneL (s := 4) (K1 := 68) (.inl rfl) rfl rfl rfl ⟨trim_dg f1, (trim_lv _ _).trans f2, trim_top _⟩ rfl
end Go.Proofs.YthpjmhhfcechmaaGreat.Sy
/- Powers: what their loop keeps, and how long they are. No program in sight. -/
namespace Go.Proofs.YthpjmhhfcechmaaGreat
open Go Go.RowKit Ma
theorem bd.zero {a : Nat} : bd a 0 := by
 have := pos_pow (b := b32) (by decide) a
 unfold bd; omega
theorem bd.abs {a : Nat} {x : Int} (h : bd a x) : bd a (x.natAbs : Int) := by unfold bd at *; omega
end Go.Proofs.YthpjmhhfcechmaaGreat
/- Fields of the reference's integers in boxes; contracts of its digit functions in the form that the rules want. -/
namespace Go.Proofs.YthpjmhhfcechmaaGreat.Sy
open Go Go.RowKit Ma
theorem RJ.num {W : World} {n : Bool} {A : Option Addr} {l c : Nat} {z : Int} (h : RJ W n A l c z) : ∃ xs, l = xs.length ∧ l ≤ c ∧ Rd W .i64 A xs ∧ dg 65536 xs ∧ lv 65536 xs = (z.natAbs : Int) ∧ top xs ∧ n = decide (z < 0) := by
 obtain ⟨xs, h1, h2, h3, d, t, hn, e⟩ := h
 have l0 : 0 ≤ lv 65536 xs := lv_nonneg BJ_pos d
 have e' : z = sg n (lv 65536 xs) := e
 refine ⟨xs, h1, h2, h3, d, ?_, t, ?_⟩
 ·rw [e']; cases n <;> simp [sg] <;> omega
 ·cases n with
  | false => rw [e']; simp [sg]; omega
  | true =>
   have h5 := top_le BJ_pos d t (hn rfl)
   have h6 := pos_pow BJ_pos (xs.length - 1)
   rw [e']; simp [sg]; omega
theorem holdsJ {T : TypeId} {p : Nat} {v : Value} {W : World} {z : Int} (hh : Holds (BI T) p v W) (hk : KJ z v W) : ∃ m A l c, v = .agg #[.bool m, .slice A l c] ∧ RJ W m A l c z ∧ W.cell? ⟨p, 0, none⟩ = some (.bool m) ∧ W.cell? ⟨p, 1, none⟩ = some (.slice A l c) := by
 obtain ⟨m, A, l, c, rfl, hi⟩ := hk
 obtain ⟨cs, ⟨m', A', l', c', e1, rfl⟩, hc⟩ := hh
 simp only [Value.agg.injEq, Array.mk.injEq, List.cons.injEq, Value.bool.injEq, Value.slice.injEq, and_true] at e1
 obtain ⟨rfl, rfl, rfl, rfl⟩ := e1
 exact ⟨m, A, l, c, rfl, hi, (hc 0 _ rfl).1, (hc 1 _ rfl).1⟩
section
variable {z : Int} {p : Nat}
theorem faJ0 (v : Value) (W : World) (hh : Holds (BI 34) p v W) (hk : KJ z v W) : (Instr.fieldAt 34 (ptr p) 0).run Tryz.prog W = .ok (.pointer (some ⟨p, 0, none⟩)) W := by
 obtain ⟨m, A, l, c, rfl, hi, h0, h1⟩ := holdsJ hh hk
 go_simp
theorem faJ1 (v : Value) (W : World) (hh : Holds (BI 34) p v W) (hk : KJ z v W) : (Instr.fieldAt 34 (ptr p) 1).run Tryz.prog W = .ok (.pointer (some ⟨p, 1, none⟩)) W := by
 obtain ⟨m, A, l, c, rfl, hi, h0, h1⟩ := holdsJ hh hk
 go_simp
theorem flJ0 {t : Bool} (e : decide (z < 0) = t) (v : Value) (W : World) (hh : Holds (BI 34) p v W) (hk : KJ z v W) : ∃ u, (Instr.loadAt 4 (.pointer (some ⟨p, 0, none⟩))).run Tryz.prog W = .ok u W ∧ (AV.vl (.bool t)).of u W := by
 obtain ⟨m, A, l, c, rfl, hi, h0, h1⟩ := holdsJ hh hk
 obtain ⟨xs, _, _, _, _, _, _, hn⟩ := RJ.num hi
 refine ⟨.bool m, by go_simp, ?_⟩
 show Value.bool m = .bool t
 rw [hn, e]
theorem flJ1 (v : Value) (W : World) (hh : Holds (BI 34) p v W) (hk : KJ z v W) : ∃ u, (Instr.loadAt 32 (.pointer (some ⟨p, 1, none⟩))).run Tryz.prog W = .ok u W ∧ (AV.kw (KDt (z.natAbs : Int))).of u W := by
 obtain ⟨m, A, l, c, rfl, hi, h0, h1⟩ := holdsJ hh hk
 obtain ⟨xs, rfl, hc, rd, d, e, t, _⟩ := RJ.num hi
 exact ⟨.slice A xs.length c, by go_simp, xs, A, c, rfl, hc, rd, d, e, t⟩
theorem fldJ0 {t : Bool} (e : decide (z < 0) = t) (v : Value) (W : World) (p : Nat) (hh : Holds (BI 34) p v W) (hk : KJ z v W) : ∃ q u, (Instr.fieldAt 34 (ptr p) 0).run Tryz.prog W = .ok q W ∧ (Instr.loadAt 4 q).run Tryz.prog W = .ok u W ∧ (AV.vl (.bool t)).of u W := by
 obtain ⟨u, h1, h2⟩ := flJ0 e v W hh hk
 exact ⟨_, u, faJ0 v W hh hk, h1, h2⟩
theorem fldJ1 (v : Value) (W : World) (p : Nat) (hh : Holds (BI 34) p v W) (hk : KJ z v W) : ∃ q u, (Instr.fieldAt 34 (ptr p) 1).run Tryz.prog W = .ok q W ∧ (Instr.loadAt 32 q).run Tryz.prog W = .ok u W ∧ (AV.kw (KDt (z.natAbs : Int))).of u W := by
 obtain ⟨u, h1, h2⟩ := flJ1 v W hh hk
 exact ⟨_, u, faJ1 v W hh hk, h1, h2⟩
end
theorem PW.openL {B N : Nat} {w0 : World} {ops : Array Oper} {rest : List Oper} {fr : List (Nat × AV)} {Q : Exit → Act → World → Prop} {t : Nat} {k : IntKind} {p : List Int → Prop} (hs : look fr t = some (.kw (KL k p))) (h : ∀ zs A c, p zs → zs.length ≤ c → PW B N w0 ops rest ((t, .vl (.slice A zs.length c)) :: fr) Q) : PW B N w0 ops rest fr Q := fun a W hf => by
 obtain ⟨⟨zs, A, c, e, hc, rd, hp⟩, _⟩ := hf.ho t _ hs
 exact h zs A c hp hc a W (hf.know rfl e)
theorem k_mkT {n : Bool} {z y : Int} (e : sg n z = y) : CallOk 117 [KV (.bool n), KDt z] (KJ y) := e ▸ k_rmadeT
theorem k_mkN {n : Bool} {m : Nat} {z y : Int} (e : sg n z = y) : CallOk 117 [KV (.bool n), KDn m z] (KJ y) := e ▸ k_rmadeN
theorem sgJ_mul {x y : Int} {t : Bool} (e : (decide (x < 0) != decide (y < 0)) = t) : sg t ((x.natAbs : Int) * (y.natAbs : Int)) = x * y := by
 subst e
 by_cases hx : x < 0 <;> by_cases hy : y < 0
 ·have e1 : (x.natAbs : Int) = -x := by omega
  have e2 : (y.natAbs : Int) = -y := by omega
  simp only [sg, hx, hy, e1, e2, decide_true, decide_false, bne_self_eq_false, Bool.false_bne, Bool.bne_false, if_true, Bool.false_eq_true, if_false] <;> grind
 ·have e1 : (x.natAbs : Int) = -x := by omega
  have e2 : (y.natAbs : Int) = y := by omega
  simp only [sg, hx, hy, e1, e2, decide_true, decide_false, bne_self_eq_false, Bool.false_bne, Bool.bne_false, if_true, Bool.false_eq_true, if_false] <;> grind
 ·have e1 : (x.natAbs : Int) = x := by omega
  have e2 : (y.natAbs : Int) = -y := by omega
  simp only [sg, hx, hy, e1, e2, decide_true, decide_false, bne_self_eq_false, Bool.false_bne, Bool.bne_false, if_true, Bool.false_eq_true, if_false] <;> grind
 ·have e1 : (x.natAbs : Int) = x := by omega
  have e2 : (y.natAbs : Int) = y := by omega
  simp only [sg, hx, hy, e1, e2, decide_true, decide_false, bne_self_eq_false, Bool.false_bne, Bool.bne_false, if_true, Bool.false_eq_true, if_false] <;> grind
theorem KDt.zero_iff {z : Int} {zs : List Int} (h : dg 65536 zs ∧ lv 65536 zs = z ∧ top zs) : z = 0 ↔ zs.length = 0 := by
 obtain ⟨d, e, t⟩ := h
 constructor
 ·intro hz
  apply Classical.byContradiction
  intro hn
  have hne : zs ≠ [] := fun h => hn (by rw [h]; rfl)
  have h1 := top_le BJ_pos d t hne
  have h2 := pos_pow BJ_pos (zs.length - 1)
  omega
 ·intro hl
  rw [List.eq_nil_of_length_eq_zero hl] at e
  exact e.symm
theorem cmp_nn {a b : Int} (h : b ≤ a) : cmp a b ≥ 0 := by unfold cmp; rw [if_neg (by omega)]; split <;> decide
theorem buildJ {W : World} {u : Value} {z : Int} (h : KDt z u W) (hz : 0 ≤ z) : KJ z (.agg #[.bool false, u]) W := by
 obtain ⟨zs, A, c, rfl, hc, rd, d, e, t⟩ := h
 exact ⟨false, A, zs.length, c, rfl, zs, rfl, hc, rd, d, t, (fun h => by cases h), e.symm⟩
theorem ce_rplus : CE 144 := fun args W => by go_simp
theorem ce_rminus : CE 146 := fun args W => by go_simp
theorem ce_rtimes : CE 147 := fun args W => by go_simp
theorem ce_rcompare : CE 145 := fun args W => by go_simp
section
variable {x y : Int} {a b : Nat}
theorem k_rplus (X : bd a x) (Y : bd b y) (ha : a ≤ 1000000) (hb : b ≤ 1000000) : CallOk 144 [KDt x, KDt y] (KDn (2 * max a b + 1) (x + y)) :=
 call2 ce_rplus fun W u v ⟨xs, A, c, e, hc, rd, d, ex, t⟩ ⟨ys, A2, c2, e2, hc2, rd2, d2, ey, t2⟩ => by
  subst e e2
  have l1 := len_bd d ex t X
  have l2 := len_bd d2 ey t2 Y
  exact (rplus_c rd rd2 d d2 (by omega) (by omega)).mono fun e W' ⟨v, e1, ⟨zs, A3, c3, ev, hc3, rd3, d3, e3, l3⟩, hn⟩ => ⟨v, e1, ⟨zs, A3, c3, ev, hc3, rd3, d3, by rw [e3, ex, ey], by omega⟩, hn⟩
theorem k_rminus (X : bd a x) (Y : bd b y) (ha : a ≤ 1000000) (hb : b ≤ 1000000) (h : y ≤ x) : CallOk 146 [KDt x, KDt y] (KDt (x - y)) :=
 call2 ce_rminus fun W u v ⟨xs, A, c, e, hc, rd, d, ex, t⟩ ⟨ys, A2, c2, e2, hc2, rd2, d2, ey, t2⟩ => by
  subst e e2
  have l1 := len_bd d ex t X
  have l2 := len_bd d2 ey t2 Y
  exact (rminus_c rd rd2 d d2 (by omega) (by omega) t2 (by rw [ex, ey]; exact h)).mono fun e W' ⟨v, e1, ⟨zs, A3, c3, ev, hc3, rd3, d3, e3, l3⟩, hn⟩ => ⟨v, e1, ⟨zs, A3, c3, ev, hc3, rd3, d3, by rw [e3, ex, ey], l3⟩, hn⟩
theorem k_rtimes (X : bd a x) (Y : bd b y) (ha : a ≤ 1000000) (hb : b ≤ 1000000) : CallOk 147 [KDt x, KDt y] (KDt (x * y)) :=
 call2 ce_rtimes fun W u v ⟨xs, A, c, e, hc, rd, d, ex, t⟩ ⟨ys, A2, c2, e2, hc2, rd2, d2, ey, t2⟩ => by
  subst e e2
  have l1 := len_bd d ex t X
  have l2 := len_bd d2 ey t2 Y
  exact (rtimes_c rd rd2 d d2 (by omega) (by omega)).mono fun e W' ⟨v, e1, ⟨zs, A3, c3, ev, hc3, rd3, d3, e3, l3⟩, hn⟩ => ⟨v, e1, ⟨zs, A3, c3, ev, hc3, rd3, d3, by rw [e3, ex, ey], l3⟩, hn⟩
theorem k_rcompare {z : Int} (X : bd a x) (Y : bd b y) (ha : a ≤ 1000000) (hb : b ≤ 1000000) (h : cmp x y = z) : CallOk 145 [KDt x, KDt y] (KV (.int .i64 z)) :=
 call2 ce_rcompare fun W u v ⟨xs, A, c, e, hc, rd, d, ex, t⟩ ⟨ys, A2, c2, e2, hc2, rd2, d2, ey, t2⟩ => by
  subst e e2
  have l1 := len_bd d ex t X
  have l2 := len_bd d2 ey t2 Y
  have := rcompare_c (w := W) (c := c) (d := c2) rd rd2 d d2 (by omega) (by omega) t t2
  rw [ex, ey, h] at this
  exact this
end
end Go.Proofs.YthpjmhhfcechmaaGreat.Sy
/- A walk by rules: calls that hand back rows that may be nil; append of a row to a row. -/
namespace Go.Proofs.YthpjmhhfcechmaaGreat.Sy
open Go Go.RowKit Ma
section
variable {B N : Nat} {w0 : World} {ops : Array Oper} {o : Oper} {rest : List Oper} {fr : List (Nat × AV)} {Q : Exit → Act → World → Prop} {d : Nat}
theorem Own.weaken {W : World} {b b' : Nat} {e : TypeId} {k : IntKind} {v : Value} {zs : List Int} (h : Own W b e k v zs) (hb : b' ≤ b) : Own W b' e k v zs :=
 ⟨h.1, h.2.imp id fun ⟨g', cap, cur, h1, h2, h3⟩ => ⟨g', cap, cur, h1, Nat.le_trans hb h2, h3⟩⟩
theorem PW.callR {c : Call} {f : FuncId} {e : TypeId} {k : IntKind} {p : List Int → Prop} (K : Nat) (ce : CE f) (hw : wantB ops fr o = some true) (hd : o.dst = some d) (hN : Nat.blt d N = true) (ho : o.op = .call c) (hc : c.callee = .value (.func f))
  (h : ∀ a W, Fr B N w0 fr a W → Calls Tryz.prog f (c.args.toList.map a.eval).toArray W (Ret W (KR W.heap.size e k p))) (hk : ∀ v zs, p zs → PW B N w0 ops rest ((K, .ro v e (Value.int k) zs) :: (d, .vl v) :: fr) Q) : PW B N w0 ops (o :: rest) fr Q :=
 PW.step hw fun a W hf K' hK' => by
  obtain ⟨dst, op, ty, pos, after, guard⟩ := o
  simp only at ho hd
  subst ho
  subst hd
  unfold Oper.wp
  rw [run_call ce hc a.eval rfl ty W]
  simp only [Oper.upon]
  have e0 : (c.args.toList.map a.eval).toArray = c.args.map a.eval := by rw [← Array.toList_map]
  have h0 := h a W hf
  rw [e0] at h0
  refine h0.mono fun e W' ⟨v, he, ⟨zs, hown, hp⟩, hn⟩ => ?_
  subst he
  have hf2 := hf.set (v := .vl v) hN (u := v) rfl rfl
  exact hK' _ _ (hk v zs hp _ _ (hf2.row hn (fun g' hg' => hown.base g' hg') (Own.weaken hown hf.bs)))
theorem SC.rename {c0 : Code} {K1 K2 : Nat} {v : Value} {e : TypeId} {f : Int → Value} {zs : List Int} (hK : look fr K2 = some (.ro v e f zs)) (h1 : Nat.ble N K1 = true) (h2 : Nat.ble N K2 = true) (h : SC B N w0 c0 ((K1, .ro v e f zs) :: (K2, .vl undef) :: fr) Q) : SC B N w0 c0 fr Q := fun a W hf => by
 have u2 : a.tmps.getD K2 undef = undef := by
  have : ¬ K2 < a.tmps.size := by rw [hf.sz]; have := Nat.le_of_ble_eq_true h2; omega
  simp [Array.getD_eq_getD_getElem?, this]
 have hf1 := hf.know (i := K2) (v := .vl undef) rfl u2
 refine h a W (hf1.more' (i := K1) (hf.ho K2 _ hK) fun j v' p hj e1 e2 e3 => ?_)
 rw [look_cons] at e1
 by_cases ej : K2 = j
 ·rw [if_pos ej] at e1; injection e1 with e1; subst e1; cases e3
 ·rw [if_neg ej] at e1; exact hf.di K2 j _ v' p ej hK e1 e2 e3
theorem PW.bs {e : TypeId} {f : Int → Value} (K : Nat) (news : List Int) (hne : news ≠ []) (hw : wantB ops fr o = some true) (hd : o.dst = some d) (hN : Nat.blt d N = true)
  (hq : ∀ a W, Fr B N w0 fr a W → (execOp a.eval o).run Tryz.prog W = .ok (.value (.slice (some ⟨W.heap.size, 0, none⟩) news.length news.length)) (W.alloc (.cells (news.map f).toArray e))) (hm : news.length ≤ maxLen)
  (hk : ∀ g, PW B N w0 ops rest ((K, .ro (.slice (some ⟨g, 0, none⟩) news.length news.length) e f news) :: (d, .vl (.slice (some ⟨g, 0, none⟩) news.length news.length)) :: fr) Q) : PW B N w0 ops (o :: rest) fr Q :=
 PW.step hw fun a W hf K' hK' => by
  unfold Oper.wp
  rw [hq a W hf, Oper.upon_value, hd]
  have hf2 := hf.set (v := .vl (.slice (some ⟨W.heap.size, 0, none⟩) news.length news.length)) hN (u := .slice (some ⟨W.heap.size, 0, none⟩) news.length news.length) rfl rfl
  have hn : Nw W (W.alloc (.cells (news.map f).toArray e)) := (Nw.refl W).alloc _
  refine hK' _ _ (hk W.heap.size _ _ (hf2.row hn (fun g hg => by injection hg with hg; rw [← hg]; exact Nat.le_refl _) ?_))
  refine ⟨by simp, .inr ⟨W.heap.size, news.length, (news.map f).toArray, rfl, hf.bs, heap_alloc_new W _, Nat.le_refl _, hm, by simp, ?_⟩⟩
  simp [List.take_of_length_le]
theorem PW.apr {T e : TypeId} {K K2 s x by_ : Nat} {v v2 : Value} {f : Int → Value} {zs zs2 : List Int} (hg : o.guard = none) (hd : o.dst = some d) (hN : Nat.blt d N = true) (ho : o.op = .call { callee := .builtin .append, args := #[.tmp s, .tmp x], argTypes := #[T, T] }) (hs : look fr s = some (.vl v)) (hx : look fr x = some (.vl v2))
  (hK : look fr K = some (.ro v e f zs)) (hK2 : look fr K2 = some (.ro v2 e f zs2)) (hc : calmB fr = true)
  (hu : Tryz.prog.underlying T = some (.slice e)) (hi : (Tryz.prog.info? e).map (fun i => (i.zero, i.size, i.bytes)) = some (some (f 0), 1, by_)) (hz : (f 0).cells.size = 1) (h1c : ∀ x, (f x).oneCell' = true) (hn : zs.length + zs2.length ≤ maxLen) (hb : (zs.length + zs2.length) * by_ ≤ 140737488355328)
  (hKN : Nat.ble N K = true) (hk : ∀ v', PW B N w0 ops rest ((K, .ro v' e f (zs ++ zs2)) :: (d, .vl v') :: fr) Q) : PW B N w0 ops (o :: rest) fr Q :=
 fun a W hf => wpList_step fun K' hK' => by
  rw [if_pos (by simp [Region.wanted, hg])]
  have s1 : a.eval (.tmp s) = v := hf.ho s _ hs
  have s2 : a.eval (.tmp x) = v2 := hf.ho x _ hx
  have own : W.ownsRow B e 1 v zs.length (zs.map f) := hf.ho K _ hK
  have own2 : OwF W B e f v2 zs2 := hf.ho K2 _ hK2
  obtain ⟨i0, q1, q2, q3, q4⟩ := info_parts hi
  have ex : ∃ v' W', (Builtin.append_ #[T, T] o.type #[v, v2]).run Tryz.prog W = .ok v' W' ∧ W'.ownsRow B e 1 v' (zs.length + zs2.length) (zs.map f ++ zs2.map f) ∧ W.grownBy W' v.ownBlock ∧ (v'.ownBlock = v.ownBlock ∨ v'.ownBlock = some W.heap.size) := by
   rcases own2.form with ⟨rfl, rfl⟩ | ⟨g2, c2, rfl, hc2⟩
   ·exact ⟨v, W, run_append_owned_none (P := Tryz.prog) W B T o.type e i0 1 hu q1 v zs.length (zs.map f) own, by simpa using own, ⟨rfl, rfl, rfl, Nat.le_refl _, fun _ _ _ => rfl⟩, .inl rfl⟩
   ·obtain ⟨v', W2, r1, r2, r3, _, r5⟩ := run_append_own_at (P := Tryz.prog) W B T o.type e i0 (f 0) 1 by_ hu q1 q2 q3 q4 hz (by decide) v zs.length (zs.map f) own ⟨g2, 0, none⟩ zs2.length c2 (zs2.map f) (by simp) (fun j u hj => by
     rw [add_at]
     rw [List.getElem?_map] at hj
     obtain ⟨z, hz1, rfl⟩ := Option.map_eq_some_iff.1 hj
     obtain ⟨hjl, rfl⟩ := List.getElem?_eq_some_iff.1 hz1
     have := own2.cellAt hjl
     rw [at0_of_lt hjl] at this
     exact this) (fun u hu => by obtain ⟨x, _, rfl⟩ := List.mem_map.1 hu; exact h1c x) hn hb hf.bs
    exact ⟨v', W2, r1, r2, r3, r5⟩
  obtain ⟨v', W', r1, r2, r3, r5⟩ := ex
  have e2 : (execOp a.eval o).run Tryz.prog W = .ok (.value v') W' := by
   unfold execOp
   simp only [ho, resolve, invoke, builtin, Sem.run_bind, Sem.run_pure, Result.andThen_ok, List.map_toArray, List.map_cons, List.map_nil, s1, s2, r1]
  unfold Oper.wp
  rw [e2, Oper.upon_value, hd]
  have own3 : OwF W' B e f v' (zs ++ zs2) := by
   unfold OwF
   rw [List.length_append, List.map_append]
   exact r2
  have hf2 := hf.rgrow hK hc r3 own3 r5 (Nat.le_refl _)
  have hf3 := hf2.set (v := .vl v') hN (u := v') rfl rfl
  refine hK' _ _ (hk v' _ _ (hf3.ext fun s' => ?_))
  have hdK : ¬ d = K := fun e => by subst e; simp [Nat.blt_eq] at hN hKN; omega
  simp only [look_cons]
  by_cases a1 : K = s'
  ·subst a1; rw [if_pos rfl, if_neg hdK, if_pos rfl]
  ·rw [if_neg a1, if_neg a1]
end
end Go.Proofs.YthpjmhhfcechmaaGreat.Sy
/- A walk by rules: statements that draw their order, whose last operations wait for all else. -/
namespace Go.Proofs.YthpjmhhfcechmaaGreat.Sy
open Go Go.RowKit Ma
def tailB (ops : Array Oper) (m : Nat) : Bool :=
 ((List.range m).all fun j => (List.range (m + 1)).any fun k => Nat.blt j k && wt ops k j) &&
 (List.range ops.size).all fun s => !(Nat.blt m s) || wt ops s (s - 1)
theorem tailB_spec {ops : Array Oper} {m : Nat} (h : tailB ops m = true) {L : Nat → Bool} (hd : Dn ops L) {i : Nat} (hm : m ≤ i) (hi : i < ops.size) (hL : ∀ j, wt ops i j = true → L j = true) : ∀ j, j < i → L j = true := by
 unfold tailB at h
 rw [Bool.and_eq_true, List.all_eq_true, List.all_eq_true] at h
 obtain ⟨h1, h2⟩ := h
 -- those from m on
 have up : ∀ n j, i - j = n → m ≤ j → j < i → L j = true := by
  intro n
  induction n using Nat.strongRecOn with
  | _ n ih =>
   intro j hn hj hji
   have h3 := h2 (j + 1) (List.mem_range.2 (by omega))
   have h3 : wt ops (j + 1) j = true := by
    have h4 : Nat.blt m (j + 1) = true := by rw [Nat.blt_eq]; omega
    rw [h4] at h3
    simpa using h3
   by_cases e : j + 1 = i
   ·subst e; exact hL j h3
   ·exact hd _ _ (ih (i - (j + 1)) (by omega) (j + 1) rfl (by omega) (by omega)) h3
 have dn : ∀ n j, m - j = n → j < m → L j = true := by
  intro n
  induction n using Nat.strongRecOn with
  | _ n ih =>
   intro j hn hjm
   have h3 := h1 j (List.mem_range.2 hjm)
   rw [List.any_eq_true] at h3
   obtain ⟨k, hk, hk2⟩ := h3
   rw [Bool.and_eq_true] at hk2
   have hk1 : j < k := by simpa [Nat.blt_eq] using hk2.1
   have hk3 : k < m + 1 := by simpa using hk
   by_cases e : k = i
   ·subst e; exact hL j hk2.2
   ·by_cases e2 : k = m
    ·subst e2; exact hd _ _ (up _ k rfl (Nat.le_refl _) (by omega)) hk2.2
    ·exact hd _ _ (ih (m - k) (by omega) k rfl (by omega)) hk2.2
 intro j hj
 by_cases hjm : j < m
 ·exact dn _ j rfl hjm
 ·exact up _ j rfl (by omega) hj
theorem ready_min {ops : Array Oper} (h1 : backB ops = true) {listed : Array Bool} (hz : listed.size = ops.size) {k : Nat} (hk : k < ops.size) (hn : listed.getD k false = false) (hb : ∀ j, j < k → listed.getD j false = true) : k ∈ Region.ready .any ops listed := by
 refine mem_ready.2 ⟨?_, ops[k], by simp [hk], fun e he hbd => ?_⟩
 ·have : k < listed.size := by omega
  simp [this] at hn ⊢; exact hn
 ·have hw : wt ops k e.on = true := by
   unfold wt
   rw [show ops[k]? = some ops[k] by simp [hk]]
   simp only []
   rw [Array.any_eq_true']
   exact ⟨e, he, by rw [hbd]; simp⟩
  exact hb _ (back_spec h1 hw)
theorem set_add {listed : Array Bool} {i : Nat} (hi : i < listed.size) : (fun j => (listed.setIfInBounds i true).getD j false) = add (fun j => listed.getD j false) i := by
 funext j
 unfold add
 by_cases hji : j = i
 ·subst hji
  simp [hi]
 ·rw [if_neg hji]
  simp only [Array.getD_eq_getD_getElem?, Array.getElem?_setIfInBounds, if_neg (Ne.symm hji)]
theorem wt_ready {ops : Array Oper} {listed : Array Bool} {i : Nat} (hi : i ∈ Region.ready .any ops listed) : i < ops.size ∧ listed.getD i false = false ∧ ∀ j, wt ops i j = true → listed.getD j false = true := by
 obtain ⟨hun, o, hoo, haft⟩ := mem_ready.1 hi
 refine ⟨(Array.getElem?_eq_some_iff.1 hoo).1, Rh.listed_not hun, fun j hj => ?_⟩
 unfold wt at hj
 rw [hoo] at hj
 simp only [] at hj
 rw [Array.any_eq_true'] at hj
 obtain ⟨e, he, hb⟩ := hj
 rw [Bool.and_eq_true] at hb
 have : e.on = j := by simpa using hb.2
 rw [← this]
 exact haft e he hb.1
theorem dn_set {ops : Array Oper} {L : Nat → Bool} {i : Nat} (hD : Dn ops L) (hw : ∀ j, wt ops i j = true → L j = true) : Dn ops (add L i) := by
 intro p q hp hpq
 unfold add at hp ⊢
 by_cases hqi : q = i
 ·rw [if_pos hqi]
 ·rw [if_neg hqi]
  by_cases hpi : p = i
  ·subst hpi; exact hw q hpq
  ·rw [if_neg hpi] at hp; exact hD p q hp hpq
theorem tail_run {l : List Oper} {m : Nat} {Q : Exit → Act → World → Prop} (h1 : backB l.toArray = true) (hc : tailB l.toArray m = true) : ∀ (rest : List Oper) (k fuel : Nat) (listed : Array Bool) (a : Act) (W : World), l.drop k = rest → m ≤ k → listed.size = l.length → Dn l.toArray (fun j => listed.getD j false) → (∀ j, j < l.length → listed.getD j false = decide (j < k)) → rest.length ≤ fuel →
  wpList Tryz.prog l.toArray Q rest a W → wpAny Tryz.prog .any l.toArray Q fuel listed a W
 | [], k, fuel, listed, a, W, he, hm, hz, hD, hL, hf, h => by
  have hkl : l.length ≤ k := by have := congrArg List.length he; simp at this; omega
  have hnil : Region.ready .any l.toArray listed = [] := by
   cases hr : Region.ready .any l.toArray listed with
   | nil => rfl
   | cons i t =>
    exfalso
    have hi : i ∈ Region.ready .any l.toArray listed := by rw [hr]; exact List.mem_cons_self
    obtain ⟨a1, a2, _⟩ := wt_ready hi
    have a1 : i < l.length := by simpa using a1
    rw [hL i a1] at a2
    have : ¬ i < k := by simpa using a2
    omega
  cases fuel with
  | zero => exact ⟨hnil, h⟩
  | succ f => exact ⟨fun _ => h, fun i hi => by rw [hnil] at hi; cases hi⟩
 | o :: rest, k, fuel, listed, a, W, he, hm, hz, hD, hL, hf, h => by
  have hkl : k < l.length := by have := congrArg List.length he; simp at this; omega
  have hok : l.toArray[k]? = some o := by
   have : (l.drop k)[0]? = some o := by rw [he]; rfl
   rw [List.getElem?_drop] at this
   simpa using this
  have hzz : listed.size = l.toArray.size := by simpa using hz
  cases fuel with
  | zero => simp at hf
  | succ f =>
   have hnk : listed.getD k false = false := by rw [hL k hkl]; simp
   refine ⟨fun hr => ?_, fun i hi => ?_⟩
   ·have := ready_min h1 hzz (k := k) (by simpa using hkl) hnk (fun j hj => by rw [hL j (by omega)]; simpa using hj)
    rw [hr] at this
    cases this
   ·obtain ⟨a1, a2, a3⟩ := wt_ready hi
    have a1' : i < l.length := by simpa using a1
    have hki : ¬ i < k := by have := a2; rw [hL i a1'] at this; simpa using this
    have hik : i = k := by
     have h5 := tailB_spec hc hD (i := i) (by omega) a1 a3
     by_cases e : k < i
     ·have := h5 k e; rw [hnk] at this; cases this
     ·omega
    subst hik
    have nxt : ∀ a' W', wpList Tryz.prog l.toArray Q rest a' W' → wpAny Tryz.prog .any l.toArray Q f (listed.setIfInBounds i true) a' W' := fun a' W' h' =>
     tail_run h1 hc rest (i + 1) f _ a' W' (by rw [← List.drop_drop, he]; rfl) (by omega) (by simpa using hz) (by rw [set_add (by omega)]; exact dn_set hD a3) (fun j hj => by
      have := congrFun (set_add (listed := listed) (i := i) (by omega)) j
      rw [this]
      unfold add
      by_cases e : j = i
      ·rw [if_pos e]; subst e; simp
      ·rw [if_neg e]
       show listed.getD j false = _
       rw [hL j hj]; simp; omega) (by simp at hf; omega) h'
    unfold wpOp
    rw [hok]
    simp only []
    unfold wpList at h
    by_cases hw : Region.wanted o (yielded l.toArray a.tmps) = true
    ·rw [if_pos hw] at h ⊢
     exact h.imp (fun h => Oper.wp_mono nxt h) id
    ·rw [if_neg hw] at h ⊢
     exact nxt _ _ h
theorem lft_ge {L : Nat → Bool} {m : Nat} : ∀ n, (∀ j, m ≤ j → j < n → L j = false) → n - m ≤ lft n L
 | 0, _ => by omega
 | n + 1, h => by
  unfold lft
  have := lft_ge n fun j h1 h2 => h j h1 (by omega)
  by_cases e : m ≤ n
  ·rw [h n e (by omega)]; simp; omega
  ·omega
theorem least {L : Nat → Bool} {m : Nat} (h : ¬ ∀ j, j < m → L j = true) : ∃ k, k < m ∧ L k = false ∧ ∀ j, j < k → L j = true := by
 induction m with
 | zero => exact absurd (fun j hj => by omega) h
 | succ m ih =>
  by_cases h2 : ∀ j, j < m → L j = true
  ·refine ⟨m, by omega, ?_, h2⟩
   cases hm : L m with
   | false => rfl
   | true => exact absurd (fun j hj => by by_cases e : j = m; (subst e; exact hm); exact h2 j (by omega)) h
  ·obtain ⟨k, h3, h4, h5⟩ := ih h2
   exact ⟨k, by omega, h4, h5⟩
theorem SC.dxl {B N : Nat} {w0 : World} {id : Nat} {l : List Oper} {fr : List (Nat × AV)} {Q : Exit → Act → World → Prop} (es : List Eff) (sees : List (List Nat × List Nat)) (hlen : Nat.ble es.length l.length = true)
  (h1 : backB l.toArray = true) (h2 : twiceB l.toArray es = true) (h3 : seesB l.toArray es 0 sees = true) (h4 : dxcalm es fr = true) (hc : tailB l.toArray es.length = true) (ho : Eos B N w0 l.toArray es fr (l.take es.length) es sees) (hk : PW B N w0 l.toArray (l.drop es.length) (ents es fr) Q) : SC B N w0 (.region id l.toArray true) fr Q := fun a W hf => by
 have hd : Nw W W.drew := (Nw.refl W).drew
 have hlen : es.length ≤ l.length := Nat.le_of_ble_eq_true hlen
 refine wp_region_any (by kernel_rfl) ?_
 have key : ∀ (fuel : Nat) (listed : Array Bool) (a : Act) (W : World), listed.size = l.length → Dn l.toArray (fun j => listed.getD j false) → (∀ j, es.length ≤ j → j < l.length → listed.getD j false = false) → lft l.length (fun j => listed.getD j false) ≤ fuel → Fr B N w0 (cur 0 es (fun j => listed.getD j false) fr) a W → wpAny Tryz.prog .any l.toArray Q fuel listed a W := by
  intro fuel
  induction fuel with
  | zero =>
   intro listed a W hz hD hT hl hf
   have hall := lft_zero l.length (Nat.le_zero.1 hl)
   refine tail_run h1 hc (l.drop es.length) es.length 0 listed a W rfl (Nat.le_refl _) hz hD (fun j hj => ?_) ?_ (hk a W (by rw [cur_all es 0 fr fun k _ hk2 => hall k (by omega)] at hf; exact hf))
   ·rw [hall j hj]
    by_cases e : j < es.length
    ·simp [e]
    ·have := hT j (by omega) hj; rw [hall j hj] at this; cases this
   ·have := lft_ge l.length hT
    simp; omega
  | succ fuel ih =>
   intro listed a W hz hD hT hl hf
   have hzz : listed.size = l.toArray.size := by simpa using hz
   by_cases hall : ∀ j, j < es.length → listed.getD j false = true
   ·refine tail_run h1 hc (l.drop es.length) es.length (fuel + 1) listed a W rfl (Nat.le_refl _) hz hD (fun j hj => ?_) ?_ (hk a W (by rw [cur_all es 0 fr fun k _ hk2 => hall k (by omega)] at hf; exact hf))
    ·by_cases e : j < es.length
     ·rw [hall j e]; simp [e]
     ·rw [hT j (by omega) hj]; simp [e]
    ·have := lft_ge l.length hT
     simp; omega
   ·obtain ⟨k, hk1, hk2, hk3⟩ := least hall
    refine ⟨fun hr => ?_, fun i hi => ?_⟩
    ·have := ready_min h1 hzz (k := k) (by simp; omega) hk2 hk3
     rw [hr] at this
     cases this
    ·obtain ⟨a1, a2, a3⟩ := wt_ready hi
     have a1' : i < l.length := by simpa using a1
     have him : i < es.length := by
      by_cases e : i < es.length
      ·exact e
      ·have := tailB_spec hc hD (i := i) (by omega) a1 a3 k (by omega)
       rw [hk2] at this; cases this
     have hoo : l.toArray[i]? = some l[i] := by simp [a1']
     obtain ⟨e, js, ss, he, hs, hE⟩ := ho.at (i := i) (o := l[i]) (by rw [List.getElem?_take]; simp [him, a1'])
     have hsb := seesB_at h3 (k := i) hs
     rw [Nat.zero_add] at hsb
     have hLadd := set_add (listed := listed) (i := i) (by omega)
     refine hE.step hoo hf (see_spec hD a2 a3 js ss hsb) (fun hr => dxcalm_spec h4 he hr _) fun a' W' hf' => ih _ a' W' (by simpa using hz) ?_ ?_ ?_ ?_
     ·rw [hLadd]; exact dn_set hD a3
     ·intro j hj hj2
      rw [congrFun hLadd j]
      unfold add
      rw [if_neg (by omega)]
      exact hT j hj hj2
     ·rw [hLadd]
      have := lft_add (L := fun j => listed.getD j false) (i := i) a2 l.length a1'
      omega
     ·rw [hLadd]
      refine hf'.ext fun s => look_add he a2 (fun k e' hik hk' hsl => ?_) s
      cases hk2 : listed.getD k false with
      | false => rfl
      | true => exact absurd ((hD k i hk2 (twice_spec h2 hik hk' he hsl)).symm.trans a2) (by simp)
 refine key _ _ a W.drew (by simp) (fun i j hi => ?_) (fun j _ hj => by simp [hj]) ?_ ?_
 ·exfalso
  rcases Nat.lt_or_ge i l.length with h' | h'
  ·simp [h'] at hi
  ·simp [Array.getElem?_eq_none, h'] at hi
 ·have : ∀ n, lft n (fun j => (Array.replicate l.toArray.size false).getD j false) ≤ n := by
   intro n
   induction n with
   | zero => exact Nat.le_refl _
   | succ n ih => unfold lft; split <;> omega
  simpa using this l.length
 ·rw [cur_no es 0 fr fun k => by
   rcases Nat.lt_or_ge k l.length with h' | h'
   ·simp [h']
   ·simp [Array.getElem?_eq_none, h']]
  exact hf.nw hd
/-! ### Rows of the call's own, wherever they lie -/
section
variable {B N : Nat} {w0 : World} {ops : Array Oper} {o : Oper} {rest : List Oper} {fr : List (Nat × AV)} {Q : Exit → Act → World → Prop} {d : Nat}
theorem DX.bs {e : TypeId} {f : Int → Value} (news : List Int) (hg : o.guard = none) (hd : o.dst = some d) (hN : Nat.blt d N = true)
  (hq : ∀ a W, Fr B N w0 fr a W → (execOp a.eval o).run Tryz.prog W = .ok (.value (.slice (some ⟨W.heap.size, 0, none⟩) news.length news.length)) (W.alloc (.cells (news.map f).toArray e))) (hm : news.length ≤ maxLen) : Eo B N w0 ops o fr (.row d e f (fun zs => zs = news)) :=
 ⟨hd, hN, hg, fun a W hf => by
  unfold Rh.gives
  rw [hq a W hf]
  refine ⟨(Nw.refl W).alloc _, news, ⟨by simp, .inr ⟨W.heap.size, news.length, (news.map f).toArray, rfl, Nat.le_refl _, heap_alloc_new W _, Nat.le_refl _, hm, by simp, ?_⟩⟩, rfl⟩
  simp [List.take_of_length_le]⟩
theorem DX.callG {c : Call} {f : FuncId} {r : AV} (ce : CE f) (hw : wantB ops fr o = some true) (hd : o.dst = some d) (hN : Nat.blt d N = true) (ho : o.op = .call c) (hc : c.callee = .value (.func f)) (hst : St r.of) (hr : r.isBx = false)
  (h : ∀ a W, Fr B N w0 fr a W → Calls Tryz.prog f (c.args.toList.map a.eval).toArray W (Ret W r.of)) : Eo B N w0 ops o fr (.val d r) := by
 refine ⟨hd, hN, hr, fun a W hf => .inl ⟨wantB_spec hf hw, ?_⟩⟩
 obtain ⟨dst, op, ty, pos, after, guard⟩ := o
 simp only at ho
 subst ho
 unfold Rh.gives
 rw [run_call ce hc a.eval rfl ty W]
 have e0 : (c.args.toList.map a.eval).toArray = c.args.map a.eval := by rw [← Array.toList_map]
 have := h a W hf
 rw [e0] at this
 exact Rh.gives_enter (this.mono fun e W' ⟨v, he, hv, hn⟩ => ⟨v, he, hn, Ho.mk hr hv hst⟩)
theorem Fr.openx {a : Act} {W : World} {s K : Nat} {e : TypeId} {f : Int → Value} {p : List Int → Prop} (hf : Fr B N w0 fr a W) (hs : look fr s = some (.rx e f p)) (hKs : Nat.beq s K = false) : ∃ v zs, p zs ∧ Fr B N w0 ((K, .ro v e f zs) :: (s, .vl v) :: fr) a W := by
 obtain ⟨zs, ho, hp⟩ := hf.ho s _ hs
 refine ⟨a.tmps.getD s undef, zs, hp, ?_⟩
 have hf1 := hf.know (i := s) (v := .vl (a.tmps.getD s undef)) rfl rfl
 refine hf1.more' (i := K) (v := .ro (a.tmps.getD s undef) e f zs) ho fun j v' q hj e1 e2 e3 => ?_
 rw [look_cons] at e1
 by_cases ej : s = j
 ·rw [if_pos ej] at e1; injection e1 with e1; subst e1; cases e3
 ·rw [if_neg ej] at e1; exact hf.di s j _ v' q ej hs e1 e2 e3
theorem PW.openx {s : Nat} {e : TypeId} {f : Int → Value} {p : List Int → Prop} (K : Nat) (hs : look fr s = some (.rx e f p)) (hKs : Nat.beq s K = false) (hk : ∀ v zs, p zs → PW B N w0 ops rest ((K, .ro v e f zs) :: (s, .vl v) :: fr) Q) : PW B N w0 ops rest fr Q := fun a W hf => by
 obtain ⟨v, zs, hp, h⟩ := hf.openx hs hKs
 exact hk v zs hp a W h
theorem PW.keep (fr' : List (Nat × AV)) (hs : Sub fr' fr) (h : PW B N w0 ops rest fr' Q) : PW B N w0 ops rest fr Q := fun a W hf => h a W (hf.sub hs.spec)
theorem SX.done2C {fn : Func} {e : Exit} {s s' : Nat} {b b' : BT} {k k' : Know} (he : e = .ret ∨ e = .normal) (hr : fn.results = #[.cell s b.T, .cell s' b'.T]) (hs : look fr s = some (.bx b k)) (hs' : look fr s' = some (.bx b' k')) (hB : B = w0.heap.size) : SX B N w0 e fr (bodyPost Tryz.prog fn (Ret w0 (K2 k k'))) := fun a W hf => by
 obtain ⟨p, v, ep, _, hh, hv, st, ok⟩ := hf.ho s _ hs
 obtain ⟨p', v', ep', _, hh', hv', st', ok'⟩ := hf.ho s' _ hs'
 have hrun : (results fn a.tmps).run Tryz.prog W = .ok (.tuple #[v, v']) W := by
  have h1 := run_cell ok hh
  have h2 := run_cell ok' hh'
  have e1 : a.tmps[s]?.getD undef = ptr p := by simpa [Array.getD_eq_getD_getElem?] using ep
  have e2 : a.tmps[s']?.getD undef = ptr p' := by simpa [Array.getD_eq_getD_getElem?] using ep'
  unfold results
  generalize loadVar = G at h1 h2 ⊢
  simp [hr, go_sem, e1, e2, asAddr, h1, h2]
 have key : a.defers = [] ∧ ∃ v, (results fn a.tmps).run Tryz.prog W = .ok v W ∧ Ret w0 (K2 k k') (.returned v) W :=
  ⟨hf.df, _, hrun, ⟨_, rfl, ⟨v, v', rfl, hv, hv'⟩, by have := hf.be; rw [hB] at this; exact this⟩⟩
 rcases he with rfl | rfl <;> exact key
end
/-! ### Boxes that hold just a value -/
section
variable {B N : Nat} {w0 : World} {ops : Array Oper} {o : Oper} {rest : List Oper} {fr : List (Nat × AV)} {Q : Exit → Act → World → Prop} {d : Nat}
theorem PW.boxc {T : TypeId} {x : Operand} {v : Value} (b : BT) (hw : wantB ops fr o = some true) (hd : o.dst = some d) (hN : Nat.blt d N = true) (ho : o.op = .box T x) (hT : b.T = T) (ok : b.Ok) (hx : opv fr x = some (.vl v)) (hsh : ∃ cs, b.sh v cs) (hk : ∀ p, PW B N w0 ops rest ((d, .bc b p v) :: fr) Q) : PW B N w0 ops (o :: rest) fr Q :=
 PW.step hw fun a W hf K hK => by
  have h1 := opv_vl hf hx
  obtain ⟨cs, hcs⟩ := hsh
  obtain ⟨ob, hbx⟩ := ok.box _ _ hcs
  obtain ⟨h5, h6⟩ := hbx W
  have e : (execOp a.eval o).run Tryz.prog W = .ok (.value (ptr W.heap.size)) (W.alloc ob) := by
   unfold execOp
   rw [ho, ← hT]
   show (do pure (.value (← Instr.box b.T (a.eval x))) : Sem Next).run Tryz.prog W = _
   rw [h1]
   exact run_val h5
  unfold Oper.wp
  rw [e, Oper.upon_value, hd]
  exact hK _ _ (hk W.heap.size _ _ (hf.fresh ((Nw.refl W).alloc ob) hN (Nat.le_refl _) (v := .bc b W.heap.size v) rfl ⟨rfl, ⟨cs, hcs, h6⟩, ok⟩))
theorem loadc_run {T : TypeId} {s p : Nat} {b : BT} {v : Value} {a : Act} {W : World} (hf : Fr B N w0 fr a W) (ho : o.op = .load T (.tmp s)) (hs : look fr s = some (.bc b p v)) (hT : b.T = T) : (execOp a.eval o).run Tryz.prog W = .ok (.value v) W := by
 obtain ⟨e, ⟨cs, hs1, hc⟩, ok⟩ := hf.ho s _ hs
 have := run_val (ok.load v cs W p hs1 fun i x hx => (hc i x hx).1)
 unfold execOp
 rw [ho]
 show (do pure (.value (← Instr.loadAt T (a.tmps.getD s undef))) : Sem Next).run Tryz.prog W = _
 rw [e, ← hT]
 exact this
theorem fac_run {T : TypeId} {s j p : Nat} {b : BT} {v : Value} {q : Addr} {a : Act} {W : World} (hf : Fr B N w0 fr a W) (ho : o.op = .fieldAddr T (.tmp s) j) (hs : look fr s = some (.bc b p v)) (hx : ∀ W, Holds b p v W → (Instr.fieldAt T (ptr p) j).run Tryz.prog W = .ok (.pointer (some q)) W) : (execOp a.eval o).run Tryz.prog W = .ok (.value (.pointer (some q))) W := by
 obtain ⟨e, hh, ok⟩ := hf.ho s _ hs
 unfold execOp
 rw [ho]
 show (do pure (.value (← Instr.fieldAt T (a.tmps.getD s undef) j)) : Sem Next).run Tryz.prog W = _
 rw [e]
 exact run_val (hx W hh)
theorem PW.fac {T : TypeId} {s j p : Nat} {b : BT} {v : Value} (q : Addr) (hw : wantB ops fr o = some true) (hd : o.dst = some d) (hN : Nat.blt d N = true) (ho : o.op = .fieldAddr T (.tmp s) j) (hs : look fr s = some (.bc b p v)) (hx : ∀ W, Holds b p v W → (Instr.fieldAt T (ptr p) j).run Tryz.prog W = .ok (.pointer (some q)) W)
  (hk : PW B N w0 ops rest ((d, .vl (.pointer (some q))) :: fr) Q) : PW B N w0 ops (o :: rest) fr Q :=
 PW.val (r := .vl (.pointer (some q))) hw hd hN rfl (fun a W hf => ⟨_, fac_run hf ho hs hx, rfl⟩) hk
theorem flc_run {T : TypeId} {s t p : Nat} {b : BT} {v u : Value} {q : Addr} {a : Act} {W : World} (hf : Fr B N w0 fr a W) (ho : o.op = .load T (.tmp t)) (ht : look fr t = some (.vl (.pointer (some q)))) (hs : look fr s = some (.bc b p v)) (hx : ∀ W, Holds b p v W → (Instr.loadAt T (.pointer (some q))).run Tryz.prog W = .ok u W) : (execOp a.eval o).run Tryz.prog W = .ok (.value u) W := by
 obtain ⟨e, hh, ok⟩ := hf.ho s _ hs
 have h1 := hf.ho t _ ht
 unfold execOp
 rw [ho]
 show (do pure (.value (← Instr.loadAt T (a.tmps.getD t undef))) : Sem Next).run Tryz.prog W = _
 rw [show a.tmps.getD t undef = .pointer (some q) from h1]
 exact run_val (hx W hh)
theorem PW.flc {T : TypeId} {s t p : Nat} {b : BT} {v : Value} {q : Addr} (u : Value) (hw : wantB ops fr o = some true) (hd : o.dst = some d) (hN : Nat.blt d N = true) (ho : o.op = .load T (.tmp t)) (ht : look fr t = some (.vl (.pointer (some q)))) (hs : look fr s = some (.bc b p v)) (hx : ∀ W, Holds b p v W → (Instr.loadAt T (.pointer (some q))).run Tryz.prog W = .ok u W)
  (hk : PW B N w0 ops rest ((d, .vl u) :: fr) Q) : PW B N w0 ops (o :: rest) fr Q :=
 PW.val (r := .vl u) hw hd hN rfl (fun a W hf => ⟨_, flc_run hf ho ht hs hx, rfl⟩) hk
def AV.free : AV → Bool
 | .vl _ => true
 | .kw _ => true
 | .bc _ _ _ => true
 | _ => false
def freeB : List (Nat × AV) → Bool
 | [] => true
 | (_, v) :: l => v.free && freeB l
theorem free_look : ∀ {fr : List (Nat × AV)}, freeB fr = true → ∀ s v, look fr s = some v → v.free = true
 | [], _, s, v, h => by cases h
 | (j, u) :: l, hc, s, v, h => by
  unfold freeB at hc
  rw [Bool.and_eq_true] at hc
  rw [look_cons] at h
  by_cases e : j = s
  ·rw [if_pos e] at h; injection h with h; subst h; exact hc.1
  ·rw [if_neg e] at h; exact free_look hc.2 s v h
theorem Ho.base {B' : Nat} {v : AV} {u : Value} {W : World} (hv : v.free = true) (h : Ho B v u W) : Ho B' v u W := by
 cases v with
 | vl v => exact h
 | kw k => exact h
 | bc b p v => exact h
 | _ => cases hv
end
/-! ### More operations on numbers -/
section
variable {x y : Operand} {dst : Option Tmp} {ty : TypeId} {pos : String} {after : Array Edge} {guard : Option (Nat × Bool)} {ρ : Operand → Value} {W : World} {a b c : Int}
theorem r_quoU {z : Int} (h1 : ρ x = .int .u32 a) (h2 : ρ y = .int .u32 b) (e : a / b = z) (ha : 0 ≤ a ∧ a < 4294967296) (hb : 0 < b) : (execOp ρ ⟨dst, .binOp .quo 140 x y 140, ty, pos, after, guard⟩).run Tryz.prog W = .ok (.value (.int .u32 z)) W := by
 subst e
 have e1 : a.tdiv b = a / b := Int.tdiv_eq_ediv_of_nonneg ha.1
 have e3 : a / b ≤ a := Int.ediv_le_self _ ha.1
 have e4 := Int.ediv_nonneg ha.1 (Int.le_of_lt hb)
 have e : IntKind.u32.wrap (a / b) = a / b := IntWalk.u32_in _ (by omega)
 have e2 : ¬ b = 0 := by omega
 clear ha hb e3 e4
 go_simp
 first | done | rw [if_neg e2, e1, e]
theorem r_remU {z : Int} (h1 : ρ x = .int .u32 a) (h2 : ρ y = .int .u32 b) (e : a % b = z) (ha : 0 ≤ a ∧ a < 4294967296) (hb : 0 < b) : (execOp ρ ⟨dst, .binOp .rem 140 x y 140, ty, pos, after, guard⟩).run Tryz.prog W = .ok (.value (.int .u32 z)) W := by
 subst e
 have e1 : a.tmod b = a % b := Int.tmod_eq_emod_of_nonneg ha.1
 have e3 : a % b ≤ a := by have a1 := Int.mul_ediv_add_emod a b; have a2 := Int.mul_nonneg (Int.le_of_lt hb) (Int.ediv_nonneg ha.1 (Int.le_of_lt hb)); omega
 have e4 := Int.emod_nonneg a (Int.ne_of_gt hb)
 have e : IntKind.u32.wrap (a % b) = a % b := IntWalk.u32_in _ (by omega)
 have e2 : ¬ b = 0 := by omega
 clear ha hb e3 e4
 go_simp
 first | done | rw [if_neg e2, e1, e]
theorem r_U64 (h1 : ρ x = .int .u32 a) (h : 0 ≤ a ∧ a < 4294967296) : (execOp ρ ⟨dst, .convert 140 3 x, ty, pos, after, guard⟩).run Tryz.prog W = .ok (.value (.int .i64 a)) W := by
 have e : IntKind.i64.wrap a = a := IntWalk.i64_in _ (by omega)
 go_simp
 done
theorem r_b2I (h1 : ρ x = .int .i64 a) (h2 : ρ y = .int .i64 b) : (execOp ρ ⟨dst, .buildSlice 32 2 #[(0, x), (1, y)], ty, pos, after, guard⟩).run Tryz.prog W = .ok (.value (.slice (some ⟨W.heap.size, 0, none⟩) [a, b].length [a, b].length)) (W.alloc (.cells ([a, b].map (Value.int .i64)).toArray 3)) := by
 go_simp
end
end Go.Proofs.YthpjmhhfcechmaaGreat.Sy
/- The reference's Make, the law's Of and Is, by rules. -/
namespace Go.Proofs.YthpjmhhfcechmaaGreat.Sy
open Go Go.RowKit Ma
theorem dg32 {xs : List Int} (d : dg b32 xs) (i : Nat) : 0 ≤ at0 xs i ∧ at0 xs i < 4294967296 := dg_at d (by decide) i
def Mk (xs : List Int) (i : Nat) (zs : List Int) : Prop := i ≤ xs.length ∧ zs.length = 2 * i ∧ dg 65536 zs ∧ lv 65536 zs = lv b32 (xs.take i)
theorem Mk.start (xs : List Int) : Mk xs 0 [] := ⟨by omega, rfl, dg_nil _, by simp [lv]⟩
theorem Mk.step {xs zs : List Int} {i : Nat} (h : Mk xs i zs) (d : dg b32 xs) (hi : i < xs.length) : Mk xs (i + 1) (zs ++ [at0 xs i % 65536, at0 xs i / 65536]) := by
 obtain ⟨h1, h2, h3, h4⟩ := h
 have a := dg32 d i
 refine ⟨by omega, by simp [h2]; omega, dg_append.2 ⟨h3, fun x hx => ?_⟩, ?_⟩
 ·simp at hx
  rcases hx with rfl | rfl <;> omega
 ·rw [lv_append, lv_take_succ _ _ _ hi, h4, h2, pow65]
  simp only [lv]
  have : at0 xs i % 65536 + 65536 * (at0 xs i / 65536 + 65536 * 0) = at0 xs i := by omega
  rw [this]
theorem Mk.fin {xs zs : List Int} (h : Mk xs xs.length zs) : lv 65536 zs = lv b32 xs := by
 have := h.2.2.2
 rwa [List.take_length] at this
section
variable {p : Nat} {m : Bool} {A : Option Addr} {l c : Nat}
theorem holdsV {T : TypeId} {v : Value} {W : World} (hh : Holds (BI T) p v W) (hk : KV (.agg #[.bool m, .slice A l c]) v W) : v = .agg #[.bool m, .slice A l c] ∧ W.cell? ⟨p, 0, none⟩ = some (.bool m) ∧ W.cell? ⟨p, 1, none⟩ = some (.slice A l c) := by
 obtain rfl : v = _ := hk
 obtain ⟨cs, ⟨m', A', l', c', e1, rfl⟩, hc⟩ := hh
 simp only [Value.agg.injEq, Array.mk.injEq, List.cons.injEq, Value.bool.injEq, Value.slice.injEq, and_true] at e1
 obtain ⟨rfl, rfl, rfl, rfl⟩ := e1
 exact ⟨rfl, (hc 0 _ rfl).1, (hc 1 _ rfl).1⟩
theorem sh_V {T : TypeId} (v : Value) (W : World) (h : (AV.vl (.agg #[.bool m, .slice A l c])).of v W) : ∃ cs, (BI T).sh v cs := by obtain rfl : v = _ := h; exact ⟨_, m, A, l, c, rfl, rfl⟩
theorem faV0 (v : Value) (W : World) (hh : Holds (BI 24) p v W) (hk : KV (.agg #[.bool m, .slice A l c]) v W) : (Instr.fieldAt 24 (ptr p) 0).run Tryz.prog W = .ok (.pointer (some ⟨p, 0, none⟩)) W := by
 obtain ⟨rfl, h0, h1⟩ := holdsV hh hk
 go_simp
theorem faV1 (v : Value) (W : World) (hh : Holds (BI 24) p v W) (hk : KV (.agg #[.bool m, .slice A l c]) v W) : (Instr.fieldAt 24 (ptr p) 1).run Tryz.prog W = .ok (.pointer (some ⟨p, 1, none⟩)) W := by
 obtain ⟨rfl, h0, h1⟩ := holdsV hh hk
 go_simp
theorem flV0 (v : Value) (W : World) (hh : Holds (BI 24) p v W) (hk : KV (.agg #[.bool m, .slice A l c]) v W) : ∃ u, (Instr.loadAt 4 (.pointer (some ⟨p, 0, none⟩))).run Tryz.prog W = .ok u W ∧ (AV.vl (.bool m)).of u W := by
 obtain ⟨rfl, h0, h1⟩ := holdsV hh hk
 exact ⟨_, by go_simp, rfl⟩
theorem flV1 (v : Value) (W : World) (hh : Holds (BI 24) p v W) (hk : KV (.agg #[.bool m, .slice A l c]) v W) : ∃ u, (Instr.loadAt 22 (.pointer (some ⟨p, 1, none⟩))).run Tryz.prog W = .ok u W ∧ (AV.vl (.slice A l c)).of u W := by
 obtain ⟨rfl, h0, h1⟩ := holdsV hh hk
 exact ⟨_, by go_simp, rfl⟩
end
theorem ce_make : CE 73 := fun args W => by go_simp
theorem ce_rmake : CE 74 := fun args W => by go_simp
theorem ce_of : CE 14 := fun args W => by go_simp
set_option maxHeartbeats 3200000 in
set_option maxRecDepth 100000 in
theorem rmake_c {n : Bool} {A : Option Addr} {c : Nat} {xs : List Int} {w : World} (rA : Rd w .u32 A xs) (dx : dg b32 xs) (hl : xs.length ≤ 1000000) :
  Calls Tryz.prog 74 #[.bool n, .slice A xs.length c] w (Ret w (KJ (sg n (lv b32 xs)))) := by
 refine calls_sc (l := [.vl (.bool n), .vl (.slice A xs.length c)]) (us := [.bool n, .slice A xs.length c]) 31 Tryz.func74 rfl Tryz.ntmps74 (by simp) ⟨rfl, rfl, rfl, rfl, trivial⟩ ?_
 refine SC.seq (SC.region ?_)
 refine PW.alloc (BI 34) rfl rfl rfl rfl rfl bJ ?_
 refine PW.nil (SX.then (SC.seq (SC.region (PW.assign rfl rfl rfl rfl rfl (PW.nil (SX.then (SC.seq (SC.seq (SC.region (PW.assign rfl rfl rfl rfl rfl (PW.nil (SX.then (SC.block ?_)))))))))))))
 refine SC.weak (fun a W hf => Fr.nilrow 31 3 (.int .i64) hf) ?_
 refine SC.loop (S := Nat × Value × List Int) (fun ⟨i, v, zs⟩ => [(0, .vl (.bool n)), (1, .vl (.slice A xs.length c)), (4, .nb (BI 34)), (5, .vl (v)), (6, .vl (.int .i64 (i : Int))), (31, .ro (v) 3 (.int .i64) (zs))]) (fun ⟨i, v, zs⟩ => Mk xs i zs) (fun ⟨i, v, zs⟩ => xs.length - i) (0, .slice none 0 0, []) (Mk.start xs) ⟨rfl, rfl, rfl, rfl, rfl, rfl, trivial⟩ ?_
 rintro ⟨i, v, zs⟩ hP
 show SC _ _ _ _ [(0, .vl (.bool n)), (1, .vl (.slice A xs.length c)), (4, .nb (BI 34)), (5, .vl (v)), (6, .vl (.int .i64 (i : Int))), (31, .ro (v) 3 (.int .i64) (zs))] _
 refine SC.seq (SC.seq ?_)
 by_cases ha : (i : Int) < (xs.length : Int)
 ·refine SC.region ?_
  refine PW.move rfl rfl rfl rfl rfl (PW.move rfl rfl rfl rfl rfl ?_)
  refine PW.qn [(.tmp 8, .slice A xs.length c)] (.int .i64 (xs.length : Int)) rfl rfl rfl ⟨rfl, trivial⟩ (fun ρ W h => by obtain ⟨h1, _⟩ := h; exact r_len h1) ?_
  refine PW.q2 (x := .tmp 7) (y := .tmp 9) (.bool true) rfl rfl rfl rfl rfl (fun ρ W h1 h2 => by exact r_lt h1 h2 (decide_eq_true ha)) ?_
  refine PW.nil (SX.then (SC.cond (t := true) rfl (SC.skip (SX.then (SC.seq (SC.block ?_))))))
  refine SC.dxl [.val 13 (.vl (v)), .val 14 (.vl (.slice A xs.length c)), .val 15 (.vl (.int .i64 (i : Int))), .val 16 (.vl (.pointer (padd A i))), .val 17 (.vl (.int .u32 (at0 xs i))), .val 18 (.vl (.int .u32 (at0 xs i % 65536))), .val 19 (.vl (.int .i64 (at0 xs i % 65536))), .val 20 (.vl (.slice A xs.length c)), .val 21 (.vl (.int .i64 (i : Int))), .val 22 (.vl (.pointer (padd A i))), .val 23 (.vl (.int .u32 (at0 xs i))), .val 24 (.vl (.int .u32 (at0 xs i / 65536))), .val 25 (.vl (.int .i64 (at0 xs i / 65536))), .row 26 3 (.int .i64) (fun zs => zs = [(at0 xs i % 65536), (at0 xs i / 65536)])] [([], [5]), ([], [1]), ([], [6]), ([1, 2], []), ([3], []), ([4], []), ([5], []), ([], [1]), ([], [6]), ([7, 8], []), ([9], []), ([10], []), ([11], []), ([6, 12], [])] rfl (by kernel_rfl) (by kernel_rfl) (by kernel_rfl) rfl (by kernel_rfl) ⟨?_, ?_, ?_, ?_, ?_, ?_, ?_, ?_, ?_, ?_, ?_, ?_, ?_, ?_, trivial⟩ ?_
  ·exact DX.move rfl rfl rfl rfl rfl rfl
  ·exact DX.move rfl rfl rfl rfl rfl rfl
  ·exact DX.move rfl rfl rfl rfl rfl rfl
  ·exact DX.q2 (x := .tmp 14) (y := .tmp 15) (.pointer (padd A i)) rfl rfl rfl rfl rfl (fun ρ W h1 h2 => r_idxR rA h1 h2 (by omega))
  ·exact DX.iget (i := i) rfl rfl rfl rfl rfl rfl rA (by omega) r_l32
  ·exact DX.q2 (x := .tmp 17) (y := .const (.int .u32 65536)) (.int .u32 (at0 xs i % 65536)) rfl rfl rfl rfl rfl (fun ρ W h1 h2 => by exact r_remU h1 h2 rfl (dg32 dx i) (by decide))
  ·exact DX.q1 (x := .tmp 18) (.int .i64 (at0 xs i % 65536)) rfl rfl rfl rfl (fun ρ W h1 => by exact r_U64 h1 (by have := dg32 dx i; omega))
  ·exact DX.move rfl rfl rfl rfl rfl rfl
  ·exact DX.move rfl rfl rfl rfl rfl rfl
  ·exact DX.q2 (x := .tmp 20) (y := .tmp 21) (.pointer (padd A i)) rfl rfl rfl rfl rfl (fun ρ W h1 h2 => r_idxR rA h1 h2 (by omega))
  ·exact DX.iget (i := i) rfl rfl rfl rfl rfl rfl rA (by omega) r_l32
  ·exact DX.q2 (x := .tmp 23) (y := .const (.int .u32 65536)) (.int .u32 (at0 xs i / 65536)) rfl rfl rfl rfl rfl (fun ρ W h1 h2 => by exact r_quoU h1 h2 rfl (dg32 dx i) (by decide))
  ·exact DX.q1 (x := .tmp 24) (.int .i64 (at0 xs i / 65536)) rfl rfl rfl rfl (fun ρ W h1 => by exact r_U64 h1 (by have := dg32 dx i; omega))
  ·exact DX.bs (f := .int .i64) [(at0 xs i % 65536), (at0 xs i / 65536)] rfl rfl rfl (fun a W hf => r_b2I (hf.vl (s := 19) rfl) (hf.vl (s := 25) rfl)) (by unfold maxLen; show 2 ≤ _; omega)
  refine PW.openx (s := 26) 32 rfl rfl ?_
  rintro vx1 _ rfl
  refine PW.keep [(0, .vl (.bool n)), (1, .vl (.slice A xs.length c)), (4, .nb (BI 34)), (5, .vl (v)), (6, .vl (.int .i64 (i : Int))), (7, .vl (.int .i64 (i : Int))), (8, .vl (.slice A xs.length c)), (9, .vl (.int .i64 (xs.length : Int))), (10, .vl (.bool true)), (13, .vl (v)), (14, .vl (.slice A xs.length c)), (15, .vl (.int .i64 (i : Int))), (16, .vl (.pointer (padd A i))), (17, .vl (.int .u32 (at0 xs i))), (18, .vl (.int .u32 (at0 xs i % 65536))), (19, .vl (.int .i64 (at0 xs i % 65536))), (20, .vl (.slice A xs.length c)), (21, .vl (.int .i64 (i : Int))), (22, .vl (.pointer (padd A i))), (23, .vl (.int .u32 (at0 xs i))), (24, .vl (.int .u32 (at0 xs i / 65536))), (25, .vl (.int .i64 (at0 xs i / 65536))), (26, .vl (vx1)), (31, .ro (v) 3 (.int .i64) (zs)), (32, .ro (vx1) 3 (.int .i64) ([(at0 xs i % 65536), (at0 xs i / 65536)]))] ⟨rfl, rfl, rfl, rfl, rfl, rfl, rfl, rfl, rfl, rfl, rfl, rfl, rfl, rfl, rfl, rfl, rfl, rfl, rfl, rfl, rfl, rfl, rfl, rfl, rfl, trivial⟩ ?_
  refine PW.apr (K := 31) (K2 := 32) (f := .int .i64) rfl rfl rfl rfl rfl rfl rfl rfl rfl Tryz.underlying32 info_i64 rfl (fun _ => rfl) (by have l1 := hP.2.1; have l2 := hP.1; unfold maxLen; show _ + 2 ≤ _; omega) (by have l1 := hP.2.1; have l2 := hP.1; show (_ + 2) * 8 ≤ _; omega) rfl fun vq2 => ?_
  refine PW.assign rfl rfl rfl rfl rfl (PW.nil ?_)
  refine SX.blockN ?_
  refine SX.then (SC.region (PW.move rfl rfl rfl rfl rfl ?_))
  refine PW.q2 (x := .tmp 11) (y := .const (.int .i64 1)) (.int .i64 (((i + 1 : Nat) : Int))) rfl rfl rfl rfl rfl (fun ρ W h1 h2 => by exact r_add h1 h2 (by omega) (by have := hP.1; omega)) ?_
  refine PW.assign rfl rfl rfl rfl rfl (PW.nil ?_)
  refine SX.back (i + 1, vq2, zs ++ ([(at0 xs i % 65536), (at0 xs i / 65536)])) ?_ ?_ ?_
  ·exact hP.step dx (by omega)
  ·exact (show xs.length - (i + 1) < xs.length - i by omega)
  ·exact ⟨rfl, rfl, rfl, rfl, rfl, rfl, trivial⟩
 ·obtain rfl : i = xs.length := by have := hP.1; omega
  refine SC.region (PW.move rfl rfl rfl rfl rfl (PW.move rfl rfl rfl rfl rfl ?_))
  refine PW.qn [(.tmp 8, .slice A xs.length c)] (.int .i64 (xs.length : Int)) rfl rfl rfl ⟨rfl, trivial⟩ (fun ρ W h => by obtain ⟨h1, _⟩ := h; exact r_len h1) ?_
  refine PW.q2 (x := .tmp 7) (y := .tmp 9) (.bool false) rfl rfl rfl rfl rfl (fun ρ W h1 h2 => by exact r_lt h1 h2 (decide_eq_false ha)) ?_
  refine PW.nil (SX.then (SC.cond (t := false) rfl (SC.exit (SX.thenE (SX.thenE (SX.blockE (SX.then (SC.seq (SC.region (PW.move rfl rfl rfl rfl rfl (PW.move rfl rfl rfl rfl rfl ?_)))))))))))
  refine PW.callG (r := .kw (KJ (sg n (lv b32 xs)))) ce_rmade rfl rfl rfl rfl rfl (KJ.st _) rfl (fun a W hf => by have h1 := hf.vl (s := 28) rfl; have h2 := hf.vl (s := 29) rfl; have own : OwF W _ _ (.int .i64) v zs := hf.ho 31 _ rfl; obtain ⟨A4, c4, e4, hc4, rd4⟩ := Own.rd own; show Calls Tryz.prog _ #[a.tmps.getD 28 undef, a.tmps.getD 29 undef] W _; rw [h1, h2, e4, ← hP.fin]; exact rmade_c rfl rd4 hc4 hP.2.2.1) ?_
  refine PW.store (x := .tmp 30) (r := .kw (KJ (sg n (lv b32 xs)))) rfl rfl rfl rfl rfl rfl sh_J ?_
  refine PW.nil (SX.then (SC.ret ?_))
  exact SX.doneC (s := 4) (.inl rfl) rfl rfl rfl
set_option maxHeartbeats 3200000 in
set_option maxRecDepth 100000 in
theorem lawof_c {n : Bool} {A : Option Addr} {c : Nat} {xs : List Int} {w : World} (rA : Rd w .u32 A xs) (dx : dg b32 xs) (hl : xs.length ≤ 1000000) :
  Calls Tryz.prog 14 #[.agg #[.bool n, .slice A xs.length c]] w (Ret w (K2 (KI (sg n (lv b32 xs))) (KJ (sg n (lv b32 xs))))) := by
 refine calls_sc (l := [.vl (.agg #[.bool n, .slice A xs.length c])]) (us := [.agg #[.bool n, .slice A xs.length c]]) 14 Tryz.func14 rfl Tryz.ntmps14 (by simp) ⟨rfl, rfl, trivial⟩ ?_
 refine SC.seq (SC.region ?_)
 refine PW.box (x := .tmp 0) (r := .vl (.agg #[.bool n, .slice A xs.length c])) (BI 24) rfl rfl rfl rfl rfl bN rfl sh_V ?_
 refine PW.alloc (BI 31) rfl rfl rfl rfl rfl bI ?_
 refine PW.alloc (BI 34) rfl rfl rfl rfl rfl bJ ?_
 refine PW.nil (SX.then (SC.seq ?_))
 refine SC.fix (s := 1) rfl fun p1 => ?_
 refine SC.dx [.val 4 (.vl (.pointer (some ⟨p1, 0, none⟩))), .val 5 (.vl (.bool n)), .val 6 (.vl (.pointer (some ⟨p1, 1, none⟩))), .val 7 (.vl (.slice A xs.length c)), .val 8 (.kw (KI (sg n (lv b32 xs)))), .val 9 (.vl (.pointer (some ⟨p1, 0, none⟩))), .val 10 (.vl (.bool n)), .val 11 (.vl (.pointer (some ⟨p1, 1, none⟩))), .val 12 (.vl (.slice A xs.length c)), .val 13 (.kw (KJ (sg n (lv b32 xs)))), .put 2 (BI 31) (.kw (KI (sg n (lv b32 xs)))), .put 3 (BI 34) (.kw (KJ (sg n (lv b32 xs))))] [([], [1]), ([0], [1]), ([], [1]), ([2], [1]), ([1, 3], []), ([], [1]), ([5], [1]), ([], [1]), ([7], [1]), ([6, 8], []), ([4], [2]), ([9], [3])] rfl (by kernel_rfl) (by kernel_rfl) (by kernel_rfl) rfl ⟨?_, ?_, ?_, ?_, ?_, ?_, ?_, ?_, ?_, ?_, ?_, ?_, trivial⟩ ?_
 ·exact DX.fa ⟨p1, 0, none⟩ rfl rfl rfl rfl rfl faV0
 ·exact DX.fl (s := 1) (r := .vl (.bool n)) rfl rfl rfl rfl rfl rfl rfl (KV.st _) flV0
 ·exact DX.fa ⟨p1, 1, none⟩ rfl rfl rfl rfl rfl faV1
 ·exact DX.fl (s := 1) (r := .vl (.slice A xs.length c)) rfl rfl rfl rfl rfl rfl rfl (KV.st _) flV1
 ·exact DX.callG (r := .kw (KI (sg n (lv b32 xs)))) ce_make rfl rfl rfl rfl rfl (KI.st _) rfl (fun a W hf => by have h1 := hf.vl (s := 5) rfl; have h2 := hf.vl (s := 7) rfl; show Calls Tryz.prog _ #[a.tmps.getD 5 undef, a.tmps.getD 7 undef] W _; rw [h1, h2]; exact make_c (Rd.below rA hf.be) dx hl)
 ·exact DX.fa ⟨p1, 0, none⟩ rfl rfl rfl rfl rfl faV0
 ·exact DX.fl (s := 1) (r := .vl (.bool n)) rfl rfl rfl rfl rfl rfl rfl (KV.st _) flV0
 ·exact DX.fa ⟨p1, 1, none⟩ rfl rfl rfl rfl rfl faV1
 ·exact DX.fl (s := 1) (r := .vl (.slice A xs.length c)) rfl rfl rfl rfl rfl rfl rfl (KV.st _) flV1
 ·exact DX.callG (r := .kw (KJ (sg n (lv b32 xs)))) ce_rmake rfl rfl rfl rfl rfl (KJ.st _) rfl (fun a W hf => by have h1 := hf.vl (s := 10) rfl; have h2 := hf.vl (s := 12) rfl; show Calls Tryz.prog _ #[a.tmps.getD 10 undef, a.tmps.getD 12 undef] W _; rw [h1, h2]; exact rmake_c (Rd.below rA hf.be) dx hl)
 ·exact DX.store (x := .tmp 8) (r := .kw (KI (sg n (lv b32 xs)))) rfl rfl rfl rfl rfl rfl sh_I
 ·exact DX.store (x := .tmp 13) (r := .kw (KJ (sg n (lv b32 xs)))) rfl rfl rfl rfl rfl rfl sh_J
 refine SX.unfix (s := 1) rfl ?_
 refine SX.then (SC.ret ?_)
 exact SX.done2C (s := 2) (s' := 3) (.inl rfl) rfl rfl rfl rfl
theorem k_is {x y : Int} {a : Nat} (X : bd a x) (ha : a ≤ 300000) (e : x = y) : CallOk 52 [KI x, KJ y] (KV (.bool true)) :=
 call2 ce_is fun W u v ⟨n, A, l, c, e1, h1⟩ ⟨n2, A2, l2, c2, e2, h2⟩ => by
  subst e1 e2
  have hx := h1.le X ha
  refine is_c h1 h2 e (by omega) (Nat.le_trans (h2.len_le (2 * a) ?_ ?_) (by omega))
  ·have := X.1; rw [← e]; unfold b16; rw [← pow65]; exact this
  ·have := X.2; rw [← e]; unfold b16; rw [← pow65]; exact this
end Go.Proofs.YthpjmhhfcechmaaGreat.Sy
