/- Parts Sz, Lz, Rc, Lt, Syw, Jp, Jq, Js, Jt, in one file. -/
import Derived.Test.YthpjmhhfcechmaaGreatLRExpansions1
import Derived.Test.YthpjmhhfcechmaaGreatLRExpansions3
import Derived.Test.YthpjmhhfcechmaaGreatLRExpansions6
import Derived.Test.YthpjmhhfcechmaaGreatLRExpansions8
/- A walk by rules: rows of the program's integers. -/
set_option linter.unusedVariables false
set_option linter.unusedSimpArgs false
namespace Go.Proofs.YthpjmhhfcechmaaGreat.Sy
open Go Go.RowKit Ma
def RsI (zs : List Int) : List Value → World → Prop := fun xs w => ∃ rs, xs = flat rs ∧ Rs w rs zs
theorem RsI.st (zs : List Int) : ∀ xs w1 w2, IntK w1 w2 → RsI zs xs w1 → RsI zs xs w2 := fun xs w1 w2 hk ⟨rs, e, h1, h2⟩ => ⟨rs, e, h1, fun i n A l c e => (h2 i n A l c e).kept hk⟩
theorem flat_one : ∀ (rs : List Nn) (u : Value), u ∈ flat rs → u.oneCell' = true ∧ notInt u
 | [], u, h => by simp [flat] at h
 | x :: rs, u, h => by
  have : u = .bool x.1 ∨ u = .slice x.2.1 x.2.2.1 x.2.2.2 ∨ u ∈ flat rs := by simpa [flat] using h
  rcases this with rfl | rfl | h
  ·exact ⟨rfl, fun k x => by simp⟩
  ·exact ⟨rfl, fun k x => by simp⟩
  ·exact flat_one rs u h
theorem flat_append (a b : List Nn) : flat (a ++ b) = flat a ++ flat b := by simp [flat]
theorem RsI.append {zs ys : List Int} {xs us : List Value} {w : World} (h : RsI zs xs w) (k : RsI ys us w) : RsI (zs ++ ys) (xs ++ us) w := by
 obtain ⟨rs, rfl, h1, h2⟩ := h
 obtain ⟨qs, rfl, k1, k2⟩ := k
 refine ⟨rs ++ qs, (flat_append _ _).symm, by simp [h1, k1], fun i n A l c e => ?_⟩
 by_cases hi : i < rs.length
 ·rw [List.getElem?_append_left hi] at e
  have := h2 i n A l c e
  simpa only [at0, List.getD_eq_getElem?_getD, List.getElem?_append_left (show i < zs.length by omega)] using this
 ·rw [List.getElem?_append_right (by omega)] at e
  have := k2 _ n A l c e
  simpa only [at0, List.getD_eq_getElem?_getD, List.getElem?_append_right (show zs.length ≤ i by omega), h1] using this
theorem RsI.nil (w : World) : RsI [] [] w := ⟨[], rfl, rfl, fun i n A l c e => by simp at e⟩
section
variable {B N : Nat} {w0 : World} {ops : Array Oper} {o : Oper} {rest : List Oper} {fr : List (Nat × AV)} {Q : Exit → Act → World → Prop} {d : Nat}
theorem Ho.turn {B : Nat} {v : AV} {u : Value} {W W' : World} {q : Nat} (h : Ho B v u W) (kg : W.grownBy W' (some q)) (kn : IntK W W') (hne : v.blk u ≠ some q) : Ho B v u W' := by
 have hold : ∀ {b : BT} {p : Nat} {x : Value}, b.Ok → Holds b p x W → p ≠ q → Holds b p x W' := fun ok hh hp => hh.same (kg.block _ (hh.lt ok) (fun e => hp (by injection e)))
 cases v with
 | vl v => exact h
 | kw kk => exact ⟨h.2 _ _ _ kn h.1, h.2⟩
 | bx b kk =>
  obtain ⟨p, x, e, hp, hh, hk, hs, ok⟩ := h
  subst e
  exact ⟨p, x, rfl, hp, hold ok hh (fun e2 => hne (by rw [e2]; rfl)), hs _ _ _ kn hk, hs, ok⟩
 | nb b =>
  obtain ⟨p, x, e, hp, hh, ok⟩ := h
  subst e
  exact ⟨p, x, rfl, hp, hold ok hh (fun e2 => hne (by rw [e2]; rfl)), ok⟩
 | bp b p kk =>
  obtain ⟨x, e, hp, hh, hk, hs, ok⟩ := h
  exact ⟨x, e, hp, hold ok hh (fun e2 => hne (by rw [e2]; rfl)), hs _ _ _ kn hk, hs, ok⟩
 | ro v e f zs => exact OwF.off h kg hne
 | rx e f p => obtain ⟨zs, h1, h2⟩ := h; exact ⟨zs, OwF.off h1 kg hne, h2⟩
 | bc b p v => obtain ⟨e, hh, ok⟩ := h; exact ⟨e, hold ok hh (fun e2 => hne (by rw [e2]; rfl)), ok⟩
 | rs v e s n R => exact OwS.off h kg kn hne
 | rz e s n R => exact OwS.off h kg kn hne
theorem Fr.sgrow {a : Act} {W W' : World} {K s n n' g0 : Nat} {e : TypeId} {v v' : Value} {R R' : List Value → World → Prop} (h : Fr B N w0 fr a W) (hK : look fr K = some (.rs v e s n R)) (hgr : W.grownBy W' v.ownBlock) (hown : OwS W' B e s v' n' R') (hat : v'.ownBlock = v.ownBlock ∨ v'.ownBlock = some g0) (hg0 : W.heap.size ≤ g0) : Fr B N w0 ((K, .rs v' e s n' R') :: fr) a W' := by
 have ho : OwS W B e s v n R := h.ho K _ hK
 have hin : IntK W W' := ho.2.1.intK hgr
 have keep : ∀ j x, K ≠ j → look fr j = some x → Ho B x (a.tmps.getD j undef) W' := fun j x e' hj => by
  cases hv : v.ownBlock with
  | none =>
   rw [hv] at hgr
   exact (h.ho j x hj).nw ⟨hgr.os, hgr.tape, hgr.output, hgr.size, fun k hk => hgr.block k hk (fun e => by cases e)⟩
  | some q =>
   rw [hv] at hgr
   exact Ho.turn (h.ho j x hj) hgr hin (h.di K j _ x q e' hK hj hv)
 have size : W.heap.size ≤ W'.heap.size := hgr.size
 refine ⟨h.df, h.sz, Below.grown h.be hgr h.bs (fun k e => ho.base k e), Nat.le_trans h.bs size, fun j x hj => ?_, fun j l x x' p hjl hj hl => ?_⟩
 ·rw [look_cons] at hj
  by_cases e' : K = j
  ·rw [if_pos e'] at hj
   injection hj with hj
   subst hj
   exact hown
  ·rw [if_neg e'] at hj; exact keep j x e' hj
 ·rw [look_cons] at hj hl
  have new : ∀ l x', K ≠ l → look fr l = some x' → v'.ownBlock = some p → x'.blk (a.tmps.getD l undef) ≠ some p := fun l x' hKl hl hp y => by
   rcases hat with h1 | h1
   ·exact h.di K l _ x' p hKl hK hl (h1.symm.trans hp) y
   ·have e1 : g0 = p := by rw [h1] at hp; injection hp
    have := (h.ho l x' hl).blk y
    omega
  by_cases e1 : K = j
  ·have e2 : K ≠ l := fun x => hjl (e1.symm.trans x)
   rw [if_pos e1] at hj
   rw [if_neg e2] at hl
   injection hj with hj
   subst hj
   exact fun x => new l x' e2 hl x
  ·rw [if_neg e1] at hj
   by_cases e2 : K = l
   ·rw [if_pos e2] at hl
    injection hl with hl
    subst hl
    exact fun x y => new j _ e1 hj y x
   ·rw [if_neg e2] at hl; exact h.di j l x x' p hjl hj hl
theorem OwS.one {W : World} {m : Bool} {A : Option Addr} {l c : Nat} {z : Int} (h : RI W m A l c z) : OwS (W.alloc (.cells #[.bool m, .slice A l c] 31)) W.heap.size 31 2 (.slice (some ⟨W.heap.size, 0, none⟩) 1 1) 1 (RsI [z]) := by
 refine ⟨⟨[.bool m, .slice A l c], ⟨by simp, .inr ⟨W.heap.size, 1, _, rfl, Nat.le_refl _, heap_alloc_new W _, Nat.le_refl _, by unfold maxLen; omega, by simp, by simp⟩⟩, [(m, A, l, c)], rfl, rfl, fun i n' A' l' c' e => ?_⟩, ?_, RsI.st _⟩
 ·match i, e with
  | 0, e =>
   simp at e
   obtain ⟨rfl, rfl, rfl, rfl⟩ := e
   exact h.kept (IntK.alloc _ _)
  | i + 1, e => simp at e
 ·intro g hg
  injection hg with hg
  subst hg
  refine ⟨_, _, _, heap_alloc_new W _, fun u hu => ?_⟩
  have : u = .bool m ∨ u = .slice A l c := by simpa using hu
  rcases this with rfl | rfl
  ·exact fun k x => by simp
  ·exact fun k x => by simp
theorem DX.bz {z : Int} {x : Operand} (hg : o.guard = none) (hd : o.dst = some d) (hN : Nat.blt d N = true) (hx : opv fr x = some (.kw (KI z)))
  (hr : ∀ (ρ : Operand → Value) (W : World) (m : Bool) (A : Option Addr) (l c : Nat), ρ x = .agg #[.bool m, .slice A l c] → (execOp ρ o).run Tryz.prog W = .ok (.value (.slice (some ⟨W.heap.size, 0, none⟩) 1 1)) (W.alloc (.cells #[.bool m, .slice A l c] 31))) : Eo B N w0 ops o fr (.gs d 31 2 1 (RsI [z])) :=
 ⟨hd, hN, hg, fun a W hf => by
  obtain ⟨⟨m, A, l, c, e1, h1⟩, _⟩ := (opv_spec hf hx).1
  unfold Rh.gives
  rw [hr a.eval W m A l c e1]
  exact ⟨(Nw.refl W).alloc _, OwS.one h1⟩⟩
theorem PW.bz {z : Int} {x : Operand} (hw : wantB ops fr o = some true) (hd : o.dst = some d) (hN : Nat.blt d N = true) (hx : opv fr x = some (.kw (KI z)))
  (hr : ∀ (ρ : Operand → Value) (W : World) (m : Bool) (A : Option Addr) (l c : Nat), ρ x = .agg #[.bool m, .slice A l c] → (execOp ρ o).run Tryz.prog W = .ok (.value (.slice (some ⟨W.heap.size, 0, none⟩) 1 1)) (W.alloc (.cells #[.bool m, .slice A l c] 31))) (hk : PW B N w0 ops rest ((d, .rz 31 2 1 (RsI [z])) :: fr) Q) : PW B N w0 ops (o :: rest) fr Q :=
 PW.step hw fun a W hf K' hK' => by
  obtain ⟨⟨m, A, l, c, e1, h1⟩, _⟩ := (opv_spec hf hx).1
  unfold Oper.wp
  rw [hr a.eval W m A l c e1, Oper.upon_value, hd]
  have hn : Nw W (W.alloc (.cells #[.bool m, .slice A l c] 31)) := (Nw.refl W).alloc _
  refine hK' _ _ (hk _ _ ((hf.nw hn).put hN (v := .rz 31 2 1 (RsI [z])) (OwS.weaken (OwS.one h1) hf.bs) fun i v' q hi e1 e2 => ?_))
  have a1 := (OwS.one h1).base q e1
  have a2 := (hf.ho i _ hi).blk e2
  omega
theorem OwS.form {w : World} {b : Nat} {e : TypeId} {s n : Nat} {v : Value} {R : List Value → World → Prop} (h : OwS w b e s v n R) : ∃ A c, v = .slice A n c ∧ n ≤ c ∧ (n = 0 ∨ ∃ g, A = some ⟨g, 0, none⟩) := by
 obtain ⟨⟨xs, h1, h2⟩, _⟩ := h
 rcases h1.2 with ⟨rfl, rfl⟩ | ⟨g, cap, cur, rfl, _, _, hc, _⟩
 ·exact ⟨none, 0, rfl, Nat.le_refl _, .inl rfl⟩
 ·exact ⟨_, cap, rfl, hc, .inr ⟨g, rfl⟩⟩
theorem PW.apz {T : TypeId} {K s x : Nat} {v : Value} {zs : List Int} {z : Int} (hw : wantB ops fr o = some true) (hd : o.dst = some d) (hN : Nat.blt d N = true) (ho : o.op = .call { callee := .builtin .append, args := #[.tmp s, .tmp x], argTypes := #[T, T] }) (hs : look fr s = some (.vl v)) (hx : look fr x = some (.rz 31 2 1 (RsI [z])))
  (hK : look fr K = some (.rs v 31 2 zs.length (RsI zs))) (hu : Tryz.prog.underlying T = some (.slice 31)) (hn : zs.length + 1 ≤ 4000000) (hKN : Nat.ble N K = true) (hk : ∀ v', PW B N w0 ops rest ((K, .rs v' 31 2 (zs ++ [z]).length (RsI (zs ++ [z]))) :: (d, .vl v') :: fr) Q) : PW B N w0 ops (o :: rest) fr Q :=
 PW.step hw fun a W hf K' hK' => by
  have s1 : a.eval (.tmp s) = v := hf.ho s _ hs
  have own : OwS W B 31 2 v zs.length (RsI zs) := hf.ho K _ hK
  have ownx : OwS W B 31 2 (a.eval (.tmp x)) 1 (RsI [z]) := hf.ho x _ hx
  obtain ⟨⟨xs, p1, p2⟩, p3, p4⟩ := own
  obtain ⟨⟨us, x1, x2⟩, x3, x4⟩ := ownx
  rcases x1.2 with ⟨_, h0⟩ | ⟨gx, cx, curx, ex, _⟩
  ·cases h0
  obtain ⟨i0, q1, q2, q3, q4⟩ := info_parts info_Int
  obtain ⟨qs, rfl, hq⟩ := id x2
  have hone := flat_one qs
  have hcells : ∀ j u, (flat qs)[j]? = some u → W.cell? ((⟨gx, 0, none⟩ : Addr).add j) = some u := x1.cells (g := gx) (by rw [ex]; rfl)
  have hbytes : (zs.length + 1) * 32 ≤ 140737488355328 := by omega
  have h63 : zs.length + 1 ≤ maxLen := by unfold maxLen; omega
  have hz0 : ∀ u ∈ (Value.agg #[.bool false, .slice none 0 0]).cells.toList, notInt u := by
   intro u hu
   have : u = .bool false ∨ u = .slice none 0 0 := by simpa [Value.cells] using hu
   rcases this with rfl | rfl
   ·exact fun k x => by simp
   ·exact fun k x => by simp
  obtain ⟨v', W2, r1, r2, r3, _, r5⟩ := run_append_own_at (P := Tryz.prog) W B T o.type 31 i0 (.agg #[.bool false, .slice none 0 0]) 2 32 hu q1 q2 q3 q4 rfl (by decide) v zs.length xs p1 ⟨gx, 0, none⟩ 1 cx (flat qs) x1.1 hcells (fun u hu => (hone u hu).1) h63 hbytes hf.bs
  have r6 := append_noI (P := Tryz.prog) W B T o.type 31 i0 (.agg #[.bool false, .slice none 0 0]) 2 32 hu q1 q2 q3 q4 rfl (by decide) v zs.length xs p1 ⟨gx, 0, none⟩ 1 cx (flat qs) x1.1 hcells (fun u hu => (hone u hu).1) h63 hbytes hz0 (fun u hu => (hone u hu).2) p3 r1
  have hin : IntK W W2 := p3.intK r3
  have e2 : (execOp a.eval o).run Tryz.prog W = .ok (.value v') W2 := by
   unfold execOp
   simp only [ho, resolve, invoke, builtin, Sem.run_bind, Sem.run_pure, Result.andThen_ok, List.map_toArray, List.map_cons, List.map_nil, s1, ex, r1]
  unfold Oper.wp
  rw [e2, Oper.upon_value, hd]
  have own2 : OwS W2 B 31 2 v' (zs ++ [z]).length (RsI (zs ++ [z])) := by
   rw [List.length_append]
   exact ⟨⟨xs ++ flat qs, r2, RsI.st _ _ _ _ hin (p2.append x2)⟩, r6, RsI.st _⟩
  have hf2 := hf.sgrow hK r3 own2 r5 (Nat.le_refl _)
  have hf3 := hf2.set (v := .vl v') hN (u := v') rfl rfl
  refine hK' _ _ (hk v' _ _ (hf3.ext fun s' => ?_))
  have hdK : ¬ d = K := fun e => by subst e; simp [Nat.blt_eq] at hN hKN; omega
  simp only [look_cons]
  by_cases a1 : K = s'
  ·subst a1; rw [if_pos rfl, if_neg hdK, if_pos rfl]
  ·rw [if_neg a1, if_neg a1]
theorem Fr.nilz {a : Act} {W : World} (K : Nat) (hf : Fr B N w0 fr a W) : Fr B N w0 ((K, .rs (.slice none 0 0) 31 2 ([] : List Int).length (RsI [])) :: fr) a W :=
 hf.more (OwS.nil W B _ 2 _ (RsI.nil W) (RsI.st _)) fun j v' p hj e => by cases e
end
theorem addq (g q n : Nat) : (⟨g, q, none⟩ : Addr).add n = ⟨g, q + n, none⟩ := by unfold Addr.add; split <;> simp_all
def LIn (w : World) (A : Option Addr) (zs : List Int) : Prop := ∀ i, i < zs.length → ∃ g q m D l c, A = some ⟨g, q, none⟩ ∧ w.cell? ⟨g, q + i * 2, none⟩ = some (.bool m) ∧ w.cell? ⟨g, q + i * 2 + 1, none⟩ = some (.slice D l c) ∧ RI w m D l c (at0 zs i)
theorem OwS.lin {w : World} {b n : Nat} {A : Option Addr} {c : Nat} {zs : List Int} (h : OwS w b 31 2 (.slice A n c) n (RsI zs)) (hn : n = zs.length) : LIn w A zs := fun i hi => by
 obtain ⟨⟨xs, h1, rs, rfl, hr1, hr2⟩, _⟩ := h
 rcases id h1.2 with ⟨_, h0⟩ | ⟨g, cap, cur, hv, _⟩
 ·omega
 injection hv with hA _ _
 subst hA
 have hcells : ∀ j u, (flat rs)[j]? = some u → w.cell? ((⟨g, 0, none⟩ : Addr).add j) = some u := h1.cells (g := g) rfl
 obtain ⟨⟨m, D, l, c'⟩, he⟩ : ∃ x, rs[i]? = some x := ⟨_, List.getElem?_eq_getElem (by omega)⟩
 obtain ⟨f1, f2⟩ := flat_at rs i m D l c' he
 exact ⟨g, 0, m, D, l, c', rfl, by have := hcells _ _ f1; rwa [addq] at this, by have := hcells _ _ f2; rwa [addq, ← Nat.add_assoc] at this, hr2 i m D l c' he⟩
section
variable {x y : Operand} {dst : Option Tmp} {ty : TypeId} {pos : String} {after : Array Edge} {guard : Option (Nat × Bool)} {ρ : Operand → Value} {W : World} {m : Bool} {A : Option Addr} {l c n : Nat}
theorem r_bz (h1 : ρ x = .agg #[.bool m, .slice A l c]) : (execOp ρ ⟨dst, .buildSlice 66 1 #[(0, x)], ty, pos, after, guard⟩).run Tryz.prog W = .ok (.value (.slice (some ⟨W.heap.size, 0, none⟩) 1 1)) (W.alloc (.cells #[.bool m, .slice A l c] 31)) := by
 go_simp
theorem r_idxz {g q i : Nat} (h1 : ρ x = .slice (some ⟨g, q, none⟩) n c) (h2 : ρ y = .int .i64 (i : Int)) (hi : i < n) : (execOp ρ ⟨dst, .indexAddr 66 x y, ty, pos, after, guard⟩).run Tryz.prog W = .ok (.value (.pointer (some ⟨g, q + i * 2, none⟩))) W := by
 go_simp
theorem r_ldz {g q : Nat} (h1 : ρ x = .pointer (some ⟨g, q, none⟩)) (h2 : W.cell? ⟨g, q, none⟩ = some (.bool m)) (h3 : W.cell? ⟨g, q + 1, none⟩ = some (.slice A l c)) : (execOp ρ ⟨dst, .load 31 x, ty, pos, after, guard⟩).run Tryz.prog W = .ok (.value (.agg #[.bool m, .slice A l c])) W := by
 go_simp
theorem r_lenz (h1 : ρ x = .slice A n c) : (execOp ρ ⟨dst, .call ⟨.builtin .len, #[x], #[66]⟩, ty, pos, after, guard⟩).run Tryz.prog W = .ok (.value (.int .i64 (n : Int))) W := by
 go_simp
end
section
variable {B N : Nat} {w0 : World} {ops : Array Oper} {rest : List Oper} {fr : List (Nat × AV)} {Q : Exit → Act → World → Prop} {d : Nat} {ty : TypeId} {pos : String} {after : Array Edge}
theorem ldz_of {a : Act} {W : World} {A : Option Addr} {zs : List Int} {i s : Nat} {guard : Option (Nat × Bool)} (hL : LIn w0 A zs) (hi : i < zs.length) (hB : B = w0.heap.size) (hs : look fr s = some (.vl (.pointer (padd A (i * 2))))) (hf : Fr B N w0 fr a W) :
  ∃ u, (execOp a.eval ⟨some d, .load 31 (.tmp s), ty, pos, after, guard⟩).run Tryz.prog W = .ok (.value u) W ∧ Ho B (.kw (KI (at0 zs i))) u W := by
 obtain ⟨g, q, m, D, l, c, rfl, c0, c1, hr⟩ := hL i hi
 have h1 : a.eval (.tmp s) = .pointer (some ⟨g, q + i * 2, none⟩) := by rw [← addq]; exact hf.ho s _ hs
 have k0 : W.cell? ⟨g, q + i * 2, none⟩ = some (.bool m) := by rw [hf.be.cell (by rw [hB]; exact World.block_lt_of_cell? w0 _ c0)]; exact c0
 have k1 : W.cell? ⟨g, q + i * 2 + 1, none⟩ = some (.slice D l c) := by rw [hf.be.cell (by rw [hB]; exact World.block_lt_of_cell? w0 _ c1)]; exact c1
 exact ⟨_, r_ldz h1 k0 k1, ⟨m, D, l, c, rfl, hr.kept (IntK.of_below (by have := hf.be; rw [hB] at this; exact this))⟩, KI.st _⟩
theorem PW.ldz {A : Option Addr} {zs : List Int} {i s : Nat} {guard : Option (Nat × Bool)} (hL : LIn w0 A zs) (hi : i < zs.length) (hB : B = w0.heap.size) (hw : wantB ops fr ⟨some d, .load 31 (.tmp s), ty, pos, after, guard⟩ = some true) (hN : Nat.blt d N = true) (hs : look fr s = some (.vl (.pointer (padd A (i * 2)))))
  (hk : PW B N w0 ops rest ((d, .kw (KI (at0 zs i))) :: fr) Q) : PW B N w0 ops (⟨some d, .load 31 (.tmp s), ty, pos, after, guard⟩ :: rest) fr Q :=
 PW.val (r := .kw (KI (at0 zs i))) hw rfl hN rfl (fun a W hf => ldz_of hL hi hB hs hf) hk
theorem DX.ldz {A : Option Addr} {zs : List Int} {i s : Nat} {guard : Option (Nat × Bool)} (hL : LIn w0 A zs) (hi : i < zs.length) (hB : B = w0.heap.size) (hw : wantB ops fr ⟨some d, .load 31 (.tmp s), ty, pos, after, guard⟩ = some true) (hN : Nat.blt d N = true) (hs : look fr s = some (.vl (.pointer (padd A (i * 2))))) :
  Eo B N w0 ops ⟨some d, .load 31 (.tmp s), ty, pos, after, guard⟩ fr (.val d (.kw (KI (at0 zs i)))) :=
 DX.val (r := .kw (KI (at0 zs i))) hw rfl hN rfl (fun a W hf => ldz_of hL hi hB hs hf)
end
theorem r_idxzA {x y : Operand} {dst : Option Tmp} {ty : TypeId} {pos : String} {after : Array Edge} {guard : Option (Nat × Bool)} {ρ : Operand → Value} {W w : World} {A : Option Addr} {c i : Nat} {zs : List Int} (hL : LIn w A zs) (hi : i < zs.length) (h1 : ρ x = .slice A zs.length c) (h2 : ρ y = .int .i64 (i : Int)) : (execOp ρ ⟨dst, .indexAddr 66 x y, ty, pos, after, guard⟩).run Tryz.prog W = .ok (.value (.pointer (padd A (i * 2)))) W := by
 obtain ⟨g, q, m, D, l, c', rfl, _⟩ := hL i hi
 rw [r_idxz h1 h2 hi, ← addq]
 rfl
end Go.Proofs.YthpjmhhfcechmaaGreat.Sy
/- Plain laws for continued fractions: what Contract hands back, the steps of simplest. -/
namespace Go.Proofs.YthpjmhhfcechmaaGreat.Ma
open Go
def ctrR : List Int → Except Int Rat
 | [] => .error 5
 | [n] => .ok (n : Rat)
 | n :: m :: l => match ctrR (m :: l) with
  | .error e => .error e
  | .ok q => if q = 0 then .error 6 else .ok ((n : Rat) + ((1 : Int) : Rat) / q)
theorem ctr_step {n : Int} {l : List Int} {q : Rat} (h : ctrR l = .ok q) (hq : q ≠ 0) : ctrR (n :: l) = .ok ((n : Rat) + ((1 : Int) : Rat) / q) := by
 cases l with
 | nil => cases h
 | cons m l => unfold ctrR; rw [h]; exact if_neg hq
theorem ctr_zero {n : Int} {l : List Int} {q : Rat} (h : ctrR l = .ok q) (hq : q = 0) : ctrR (n :: l) = .error 6 := by
 cases l with
 | nil => cases h
 | cons m l => unfold ctrR; rw [h]; exact if_pos hq
theorem ctr_err {n e : Int} {l : List Int} (h : ctrR l = .error e) (hl : l ≠ []) : ctrR (n :: l) = .error e := by
 cases l with
 | nil => exact absurd rfl hl
 | cons m l => unfold ctrR; rw [h]
theorem ctr_up {e : Int} : ∀ (zs : List Int) (j : Nat), j < zs.length → ctrR (zs.drop j) = .error e → ctrR zs = .error e
 | [], j, h, _ => by simp at h
 | z :: zs, 0, _, h => h
 | z :: zs, j + 1, hj, h => by
  have hj : j < zs.length := by simpa using hj
  exact ctr_err (ctr_up zs j hj h) (fun e => by rw [e] at hj; simp at hj)
theorem dropz {zs : List Int} {k : Nat} (h : k < zs.length) : zs.drop k = at0 zs k :: zs.drop (k + 1) := by rw [List.drop_eq_getElem_cons h, at0_of_lt h]
structure CrI (m : Nat) (zs : List Int) (k : Nat) (q : Rat) : Prop where
 k0 : k < zs.length
 eq : ctrR (zs.drop k) = .ok q
 b : bq ((m + 4) * (zs.length - k)) q
theorem CrI.start {m : Nat} {zs : List Int} (h : 0 < zs.length) (hb : ∀ i, bd (m + 1) (at0 zs i)) : CrI m zs (zs.length - 1) ((at0 zs (zs.length - 1) : Int) : Rat) := by
 refine ⟨by omega, ?_, ?_⟩
 ·rw [dropz (by omega), show zs.length - 1 + 1 = zs.length by omega, List.drop_length]; rfl
 ·exact (bq.int (hb _)).mono (by rw [show zs.length - (zs.length - 1) = 1 by omega]; omega)
theorem CrI.step {m k : Nat} {zs : List Int} {q : Rat} (h : CrI m zs (k + 1) q) (hb : ∀ i, bd (m + 1) (at0 zs i)) (hq : q ≠ 0) : CrI m zs k ((at0 zs k : Rat) + ((1 : Int) : Rat) / q) := by
 have h0 := h.k0
 refine ⟨by omega, ?_, ?_⟩
 ·rw [dropz (by omega)]; exact ctr_step h.eq hq
 ·have b1 : bq (0 + 1) (((1 : Int) : Int) : Rat) := bq.int (bd.lit (by decide))
  refine ((bq.int (hb k)).add (b1.div h.b hq)).mono ?_
  rw [show zs.length - k = zs.length - (k + 1) + 1 by omega, Nat.mul_add]
  omega
theorem CrI.zero {m k : Nat} {zs : List Int} {q : Rat} (h : CrI m zs (k + 1) q) (hq : q = 0) : ctrR zs = .error 6 := by
 have h0 := h.k0
 refine ctr_up zs k (by omega) ?_
 rw [dropz (by omega)]
 exact ctr_zero h.eq hq
theorem CrI.fin {m : Nat} {zs : List Int} {q : Rat} (h : CrI m zs 0 q) : ctrR zs = .ok q := h.eq
theorem CrI.le {m k : Nat} {zs : List Int} {q : Rat} (h : CrI m zs k q) (hT : (m + 4) * zs.length ≤ 40000) : (m + 4) * (zs.length - k) ≤ 40000 := Nat.le_trans (Nat.mul_le_mul_left _ (Nat.sub_le _ _)) hT
inductive Smp : Rat → Rat → List Int → Prop
 | whole {x y : Rat} : x.den = 1 → Smp x y [Sy.flq x]
 | next {x y : Rat} : x.den ≠ 1 → ((Sy.flq x + 1 : Int) : Rat) ≤ y → Smp x y [Sy.flq x + 1]
 | step {x y : Rat} {l : List Int} : x.den ≠ 1 → ¬ ((Sy.flq x + 1 : Int) : Rat) ≤ y → Smp (((1 : Int) : Rat) / (y - ((Sy.flq x : Int) : Rat))) (((1 : Int) : Rat) / (x - ((Sy.flq x : Int) : Rat))) l → Smp x y (Sy.flq x :: l)
theorem fl_le (x : Rat) : ((Sy.flq x : Int) : Rat) ≤ x := by
 rw [Rat.le_iff, Rat.num_intCast, Rat.den_intCast]
 have h := Int.ediv_mul_le x.num (Int.ne_of_gt (den_pos x))
 unfold Sy.flq
 simpa using h
theorem lt_fl (x : Rat) : x < ((Sy.flq x + 1 : Int) : Rat) := by
 rw [Rat.lt_iff, Rat.num_intCast, Rat.den_intCast]
 have h := Int.lt_ediv_add_one_mul_self x.num (den_pos x)
 unfold Sy.flq
 simpa using h
theorem fl_eq {x : Rat} (h : x = ((Sy.flq x : Int) : Rat)) : x.den = 1 := by rw [h, Rat.den_intCast]
theorem bq.fl {a : Nat} {x : Rat} (X : bq a x) : bd a (Sy.flq x) := by
 have h1 := X.1
 have hd := den_pos x
 unfold Sy.flq
 have e := Int.mul_ediv_add_emod x.num (x.den : Int)
 have m0 := Int.emod_nonneg x.num (Int.ne_of_gt hd)
 have m1 := Int.emod_lt_of_pos x.num hd
 unfold bd at *
 by_cases hn : 0 ≤ x.num
 ·have q0 := Int.ediv_nonneg hn (Int.le_of_lt hd)
  have q1 : x.num / (x.den : Int) ≤ x.num := Int.ediv_le_self _ hn
  omega
 ·have q0 : x.num / (x.den : Int) < 0 := Int.ediv_neg_of_neg_of_pos (by omega) hd
  have q1 : x.num ≤ x.num / (x.den : Int) := by
   rw [Int.le_ediv_iff_mul_le hd]
   have := Int.mul_le_mul_of_nonpos_left (show x.num ≤ 0 by omega) (show (1 : Int) ≤ (x.den : Int) by omega)
   omega
  omega
theorem bq.left {a : Nat} {y : Rat} {n : Int} (Y : bq a y) (h0 : (n : Rat) < y) (h1 : y < ((n + 1 : Int) : Rat)) : bq a (((1 : Int) : Rat) / (y - (n : Rat))) := by
 have hd := den_pos y
 rw [Rat.lt_iff, Rat.num_intCast, Rat.den_intCast] at h0 h1
 have e : ((1 : Int) : Rat) / (y - (n : Rat)) = Rat.divInt (y.den : Int) (y.num - n * (y.den : Int)) := by
  have e1 : y = Rat.divInt y.num (y.den : Int) := (Rat.num_divInt_den y).symm
  have e2 : (n : Rat) = Rat.divInt n 1 := by have := Rat.num_divInt_den (n : Rat); rw [Rat.num_intCast, Rat.den_intCast] at this; exact this.symm
  conv => lhs; rw [e1, e2]
  rw [Rat.divInt_sub_divInt _ _ (Int.ne_of_gt hd) (by decide), Rat.div_def, Rat.inv_divInt]
  rw [Int.mul_one, Int.mul_one]
  exact Rat.one_mul _
 rw [e]
 have hm : 0 < y.num - n * (y.den : Int) := by
  have : n * (y.den : Int) < y.num := by simpa using h0
  omega
 have hm2 : y.num - n * (y.den : Int) < (y.den : Int) := by
  have : y.num < (n + 1) * (y.den : Int) := by simpa using h1
  rw [Int.add_mul] at this
  omega
 have hb : bd a (y.num - n * (y.den : Int)) := by
  have := Y.2
  unfold bd at *
  omega
 exact (bq.over Y.2 hb (Int.ne_of_gt hm)).mono (by omega)
structure SmI (m : Nat) (L ps : List Int) (x y : Rat) (l : List Int) : Prop where
 s : Smp x y l
 eq : ps ++ l = L
 xb : bq m x
 yb : bq m y
 le : x ≤ y
theorem SmI.xne {m : Nat} {L ps : List Int} {x y : Rat} {l : List Int} (h : SmI m L ps x y l) (hd : x.den ≠ 1) : x - ((Sy.flq x : Int) : Rat) ≠ 0 := fun e => hd (fl_eq (by have := congrArg (· + ((Sy.flq x : Int) : Rat)) e; simpa [Rat.sub_add_cancel, Rat.zero_add] using this))
theorem SmI.xlt {m : Nat} {L ps : List Int} {x y : Rat} {l : List Int} (h : SmI m L ps x y l) (hd : x.den ≠ 1) : ((Sy.flq x : Int) : Rat) < x := Rat.lt_of_le_of_ne (fl_le x) (fun e => hd (fl_eq e.symm))
theorem SmI.yne {m : Nat} {L ps : List Int} {x y : Rat} {l : List Int} (h : SmI m L ps x y l) (hd : x.den ≠ 1) : y - ((Sy.flq x : Int) : Rat) ≠ 0 := fun e => by
 have h1 := h.xlt hd
 have h2 : y = ((Sy.flq x : Int) : Rat) := by have := congrArg (· + ((Sy.flq x : Int) : Rat)) e; simpa [Rat.sub_add_cancel, Rat.zero_add] using this
 have h3 := h.le
 rw [h2] at h3
 exact Rat.not_le.2 h1 h3
theorem cmpq_le {x y : Rat} : cmpq x y ≤ 0 ↔ x ≤ y := by
 unfold cmpq
 by_cases h : x < y
 ·rw [if_pos h]; exact ⟨fun _ => Rat.le_of_lt h, fun _ => by decide⟩
 ·rw [if_neg h]
  by_cases e : x = y
  ·rw [if_pos e]; exact ⟨fun _ => e ▸ Rat.le_refl, fun _ => by decide⟩
  ·rw [if_neg e]; exact ⟨fun k => absurd k (by decide), fun k => absurd (Rat.lt_of_le_of_ne k e) h⟩
theorem ltle {a b c : Rat} (h : a < b) (k : b ≤ c) : a < c := Rat.lt_of_le_of_ne (Rat.le_trans (Rat.le_of_lt h) k) (fun e => Rat.not_le.2 h (e ▸ k))
theorem one_div_le {a b : Rat} (h0 : 0 < a) (h : a ≤ b) : ((1 : Int) : Rat) / b ≤ ((1 : Int) : Rat) / a := by
 have hb : 0 < b := ltle h0 h
 apply Rat.not_lt.1
 intro hc
 rw [Rat.lt_div_iff hb] at hc
 have e : ((1 : Int) : Rat) / a * a = ((1 : Int) : Rat) := Rat.div_mul_cancel (Rat.ne_of_gt h0)
 have h1 : 0 ≤ ((1 : Int) : Rat) / a := by
  rw [Rat.div_def]
  have : ((1 : Int) : Rat) * a⁻¹ = a⁻¹ := Rat.one_mul _
  rw [this]
  exact Rat.le_of_lt (Rat.inv_pos.2 h0)
 have h2 := Rat.mul_le_mul_of_nonneg_left h h1
 rw [e] at h2
 exact Rat.not_le.2 hc h2
theorem sub_pos' {a b : Rat} (h : a < b) : 0 < b - a := (Rat.lt_iff_sub_pos a b).1 h
theorem SmI.step {m : Nat} {L ps : List Int} {x y : Rat} {l : List Int} (h : SmI m L ps x y l) (hd : x.den ≠ 1) (hn : ¬ ((Sy.flq x + 1 : Int) : Rat) ≤ y) : ∃ l', l = Sy.flq x :: l' ∧ SmI m L (ps ++ [Sy.flq x]) (((1 : Int) : Rat) / (y - ((Sy.flq x : Int) : Rat))) (((1 : Int) : Rat) / (x - ((Sy.flq x : Int) : Rat))) l' := by
 have hx := h.xlt hd
 have hle := h.le
 cases h.s with
 | whole h1 => exact absurd h1 hd
 | next _ h1 => exact absurd h1 hn
 | step _ _ h2 =>
  rename_i l' _ _
  refine ⟨l', rfl, h2, by rw [List.append_assoc]; exact h.eq, h.yb.left (ltle hx hle) (Rat.not_le.1 hn), h.xb.left hx (lt_fl x), ?_⟩
  refine one_div_le (sub_pos' hx) ?_
  rw [Rat.sub_eq_add_neg, Rat.sub_eq_add_neg]
  exact Rat.add_le_add_right.2 hle
theorem SmI.whole {m : Nat} {L ps : List Int} {x y : Rat} {l : List Int} (h : SmI m L ps x y l) (hd : x.den = 1) : L = ps ++ [Sy.flq x] := by
 cases h.s with
 | whole h1 => exact h.eq.symm
 | next h0 h1 => exact absurd hd h0
 | step h0 => exact absurd hd h0
theorem SmI.next {m : Nat} {L ps : List Int} {x y : Rat} {l : List Int} (h : SmI m L ps x y l) (hd : x.den ≠ 1) (hn : ((Sy.flq x + 1 : Int) : Rat) ≤ y) : L = ps ++ [Sy.flq x + 1] := by
 cases h.s with
 | whole h1 => exact absurd h1 hd
 | next h0 h1 => exact h.eq.symm
 | step h0 h1 => exact absurd hn h1
end Go.Proofs.YthpjmhhfcechmaaGreat.Ma
/- Contract, simplest by rules. -/
namespace Go.Proofs.YthpjmhhfcechmaaGreat.Sy
open Go Go.RowKit Ma
theorem callK {f : FuncId} {ks : List Know} {r r' : Know} (h : CallOk f ks r) (e : r = r') : CallOk f ks r' := e ▸ h
def KPR : Except Int Rat → Know
 | .ok q => K2 (KQ q.num ((q.den : Int) - 1)) (KV (.int .i64 0))
 | .error e => K2 (KQ 0 0) (KV (.int .i64 e))
theorem LIn.be {w W : World} {A : Option Addr} {zs : List Int} (h : LIn w A zs) (k : Below w.heap.size w W) : LIn W A zs := fun i hi => by
 obtain ⟨g, q, m, D, l, c, e, c0, c1, hr⟩ := h i hi
 exact ⟨g, q, m, D, l, c, e, (k.cell (World.block_lt_of_cell? w _ c0)).trans c0, (k.cell (World.block_lt_of_cell? w _ c1)).trans c1, hr.kept (IntK.of_below k)⟩
theorem ce_contract : CE 34 := fun args W => by go_simp
theorem ce_contracted : CE 132 := fun args W => by go_simp
set_option maxHeartbeats 6400000 in
set_option maxRecDepth 100000 in
theorem contract_c {A : Option Addr} {c m : Nat} {zs : List Int} {w : World} (hL : LIn w A zs) (hb : ∀ i, bd (m + 1) (at0 zs i)) (hT : (m + 4) * zs.length ≤ 40000) (hm : m ≤ 1000) (hl : zs.length ≤ 1000000) :
  Calls Tryz.prog 34 #[.slice A zs.length c] w (Ret w (KPR (ctrR zs))) := by
 refine calls_sc (l := [.vl (.slice A zs.length c)]) (us := [.slice A zs.length c]) 45 Tryz.func34 rfl Tryz.ntmps34 (by simp) ⟨rfl, rfl, trivial⟩ ?_
 refine SC.seq (SC.region ?_)
 refine PW.alloc (BQ 38) rfl rfl rfl rfl rfl bQ ?_
 refine PW.assign rfl rfl rfl rfl rfl (PW.nil (SX.then (SC.seq (SC.seq ?_))))
 by_cases h0 : (zs.length : Int) = 0
 ·have hz0 : zs = [] := List.eq_nil_of_length_eq_zero (by omega)
  refine SC.region (PW.move rfl rfl rfl rfl rfl ?_)
  refine PW.qn [(.tmp 8, .slice A zs.length c)] (.int .i64 (zs.length : Int)) rfl rfl rfl ⟨rfl, trivial⟩ (fun ρ W h => by obtain ⟨h1, _⟩ := h; exact r_lenz h1) ?_
  refine PW.q2 (x := .tmp 9) (y := .const (.int .i64 0)) (.bool true) rfl rfl rfl rfl rfl (fun ρ W h1 h2 => by exact r_eqT h1 h2 (by omega)) ?_
  refine PW.nil (SX.then (SC.cond (t := true) rfl (SC.seq (SC.region ?_))))
  refine PW.val (r := .kw (KQ (0) (0))) rfl rfl rfl rfl (fun a W hf => ⟨_, r_bldQ0, zeroQ W, KQ.st _ _⟩) ?_
  refine PW.store (x := .tmp 11) (r := .kw (KQ (0) (0))) rfl rfl rfl rfl rfl rfl sh_Q ?_
  refine PW.assign rfl rfl rfl rfl rfl (PW.nil (SX.then (SC.ret (SX.thenR ?_))))
  rw [show ctrR zs = .error 5 by rw [hz0]; rfl]
  exact SX.done2 (s := 2) (t := 3) (r := .vl (.int .i64 5)) (.inl rfl) rfl rfl rfl rfl
 ·refine SC.region ?_
  refine PW.move rfl rfl rfl rfl rfl ?_
  refine PW.qn [(.tmp 8, .slice A zs.length c)] (.int .i64 (zs.length : Int)) rfl rfl rfl ⟨rfl, trivial⟩ (fun ρ W h => by obtain ⟨h1, _⟩ := h; exact r_lenz h1) ?_
  refine PW.q2 (x := .tmp 9) (y := .const (.int .i64 0)) (.bool false) rfl rfl rfl rfl rfl (fun ρ W h1 h2 => by exact r_eqF h1 h2 (by omega)) ?_
  refine PW.nil (SX.then (SC.cond (t := false) rfl (SC.skip (SX.then (SC.seq (SC.region (PW.move rfl rfl rfl rfl rfl (PW.move rfl rfl rfl rfl rfl ?_))))))))
  refine PW.qn [(.tmp 13, .slice A zs.length c)] (.int .i64 (zs.length : Int)) rfl rfl rfl ⟨rfl, trivial⟩ (fun ρ W h => by obtain ⟨h1, _⟩ := h; exact r_lenz h1) ?_
  refine PW.q2 (x := .tmp 14) (y := .const (.int .i64 1)) (.int .i64 (((zs.length - 1 : Nat) : Int))) rfl rfl rfl rfl rfl (fun ρ W h1 h2 => by exact r_sub h1 h2 (by omega) (by omega)) ?_
  refine PW.q2 (x := .tmp 12) (y := .tmp 15) (.pointer (padd A ((zs.length - 1) * 2))) rfl rfl rfl rfl rfl (fun ρ W h1 h2 => r_idxzA hL (by omega) h1 h2) ?_
  refine PW.ldz (i := (zs.length - 1)) hL (by omega) rfl rfl rfl rfl ?_
  refine PW.call (r := .kw (KQ (((at0 zs (zs.length - 1) : Int) : Rat)).num (((((at0 zs (zs.length - 1) : Int) : Rat)).den : Int) - 1))) rfl rfl rfl rfl rfl rfl (KQ.st _ _) rfl (k_rof) ?_
  refine PW.alloc (BQ 38) rfl rfl rfl rfl rfl bQ ?_
  refine PW.store (x := .tmp 18) (r := .kw (KQ (((at0 zs (zs.length - 1) : Int) : Rat)).num (((((at0 zs (zs.length - 1) : Int) : Rat)).den : Int) - 1))) rfl rfl rfl rfl rfl rfl sh_Q ?_
  refine PW.nil (SX.then (SC.seq (SC.seq (SC.region (PW.move rfl rfl rfl rfl rfl ?_)))))
  refine PW.qn [(.tmp 19, .slice A zs.length c)] (.int .i64 (zs.length : Int)) rfl rfl rfl ⟨rfl, trivial⟩ (fun ρ W h => by obtain ⟨h1, _⟩ := h; exact r_lenz h1) ?_
  refine PW.q2 (x := .tmp 20) (y := .const (.int .i64 2)) (.int .i64 (((zs.length - 1 : Nat) : Int) - 1)) rfl rfl rfl rfl rfl (fun ρ W h1 h2 => by exact r_sub h1 h2 (by omega) (by omega)) ?_
  refine PW.assign rfl rfl rfl rfl rfl (PW.nil (SX.then (SC.block ?_)))
  refine SC.loop (S := Nat × Rat) (fun ⟨k, q⟩ => [(0, .vl (.slice A zs.length c)), (2, .nb (BQ 38)), (4, .bx (BQ 38) (KQ (q).num (((q).den : Int) - 1))), (5, .vl (.int .i64 ((k : Int) - 1)))]) (fun ⟨k, q⟩ => CrI m zs k q) (fun ⟨k, q⟩ => k) (zs.length - 1, ((at0 zs (zs.length - 1) : Int) : Rat)) (CrI.start (by omega) hb) ⟨rfl, rfl, rfl, rfl, trivial⟩ ?_
  rintro ⟨k, q⟩ hI
  show SC _ _ _ _ [(0, .vl (.slice A zs.length c)), (2, .nb (BQ 38)), (4, .bx (BQ 38) (KQ (q).num (((q).den : Int) - 1))), (5, .vl (.int .i64 ((k : Int) - 1)))] _
  refine SC.seq (SC.seq ?_)
  by_cases hk : (k : Int) - 1 ≥ 0
  ·obtain ⟨i, rfl⟩ : ∃ i, k = i + 1 := ⟨k - 1, by omega⟩
   rw [show ((i + 1 : Nat) : Int) - 1 = (i : Int) by omega]
   rw [show ((i + 1 : Nat) : Int) - 1 = (i : Int) by omega] at hk
   have hle := hI.le hT
   refine SC.region (PW.move rfl rfl rfl rfl rfl ?_)
   refine PW.q2 (x := .tmp 22) (y := .const (.int .i64 0)) (.bool true) rfl rfl rfl rfl rfl (fun ρ W h1 h2 => by exact r_ge h1 h2 (decide_eq_true hk)) ?_
   refine PW.nil (SX.then (SC.cond (t := true) rfl (SC.skip (SX.then (SC.seq (SC.block (SC.seq ?_)))))))
   by_cases hq : q = 0
   ·refine SC.dx [.val 27 (.kw (KI (1))), .val 28 (.kw (KQ (((1 : Int) : Rat)).num (((((1 : Int) : Rat)).den : Int) - 1))), .val 29 (.kw (KQ (q).num (((q).den : Int) - 1))), .val 30 (.kw (K2 (KQ (0) (0)) (KV (.int .i64 6)))), .val 26 (.kw (K2 (KQ (0) (0)) (KV (.int .i64 6)))), .val 31 (.kw (KQ (0) (0))), .val 32 (.vl (.int .i64 6)), .new 6 (BQ 38), .put 6 (BQ 38) (.kw (KQ (0) (0))), .val 7 (.vl (.int .i64 6))] [([], []), ([0], []), ([], [4]), ([1, 2], []), ([3], []), ([4], []), ([4], []), ([], []), ([7, 5], []), ([6], [])] rfl (by kernel_rfl) (by kernel_rfl) (by kernel_rfl) rfl ⟨?_, ?_, ?_, ?_, ?_, ?_, ?_, ?_, ?_, ?_, trivial⟩ ?_
    ·exact DX.call (r := .kw (KI (1))) rfl rfl rfl rfl rfl rfl (KI.st _) rfl (k_one)
    ·exact DX.call (r := .kw (KQ (((1 : Int) : Rat)).num (((((1 : Int) : Rat)).den : Int) - 1))) rfl rfl rfl rfl rfl rfl (KQ.st _ _) rfl (k_rof)
    ·exact DX.load rfl rfl rfl rfl rfl rfl
    ·exact DX.call (r := .kw (K2 (KQ (0) (0)) (KV (.int .i64 6)))) rfl rfl rfl rfl rfl rfl (K2.st (KQ.st _ _) (KV.st _)) rfl (k_rdiv0 hq)
    ·exact DX.move rfl rfl rfl rfl rfl rfl
    ·exact DX.ext (r := .kw (KQ (0) (0))) rfl rfl rfl rfl rfl ex20 (KQ.st _ _) rfl
    ·exact DX.ext (r := .vl (.int .i64 6)) rfl rfl rfl rfl rfl ex21v (KV.st _) rfl
    ·exact DX.alloc (BQ 38) rfl rfl rfl rfl bQ rfl
    ·exact DX.store (x := .tmp 31) (r := .kw (KQ (0) (0))) rfl rfl rfl rfl rfl rfl sh_Q
    ·exact DX.assign rfl rfl rfl rfl rfl rfl
    refine SX.then (SC.seq (SC.seq (SC.region (PW.move rfl rfl rfl rfl rfl ?_))))
    refine PW.q2 (x := .tmp 33) (y := .const (.int .i64 0)) (.bool true) rfl rfl rfl rfl rfl (fun ρ W h1 h2 => by go_simp) ?_
    refine PW.nil (SX.then (SC.cond (t := true) rfl (SC.seq (SC.region ?_))))
    refine PW.val (r := .kw (KQ (0) (0))) rfl rfl rfl rfl (fun a W hf => ⟨_, r_bldQ0, zeroQ W, KQ.st _ _⟩) ?_
    refine PW.move rfl rfl rfl rfl rfl ?_
    refine PW.store (x := .tmp 35) (r := .kw (KQ (0) (0))) rfl rfl rfl rfl rfl rfl sh_Q ?_
    refine PW.assign rfl rfl rfl rfl rfl (PW.nil (SX.then (SC.ret (SX.thenR (SX.blockR (SX.thenR (SX.thenR (SX.blockR (SX.thenR ?_)))))))))
    rw [hI.zero hq]
    exact SX.done2 (s := 2) (t := 3) (r := .vl (.int .i64 6)) (.inl rfl) rfl rfl rfl rfl
   ·refine SC.dx [.val 27 (.kw (KI (1))), .val 28 (.kw (KQ (((1 : Int) : Rat)).num (((((1 : Int) : Rat)).den : Int) - 1))), .val 29 (.kw (KQ (q).num (((q).den : Int) - 1))), .val 30 (.kw (K2 (KQ ((((1 : Int) : Rat)) / q).num ((((((1 : Int) : Rat)) / q).den : Int) - 1)) (KV (.int .i64 0)))), .val 26 (.kw (K2 (KQ ((((1 : Int) : Rat)) / q).num ((((((1 : Int) : Rat)) / q).den : Int) - 1)) (KV (.int .i64 0)))), .val 31 (.kw (KQ ((((1 : Int) : Rat)) / q).num ((((((1 : Int) : Rat)) / q).den : Int) - 1))), .val 32 (.vl (.int .i64 0)), .new 6 (BQ 38), .put 6 (BQ 38) (.kw (KQ ((((1 : Int) : Rat)) / q).num ((((((1 : Int) : Rat)) / q).den : Int) - 1))), .val 7 (.vl (.int .i64 0))] [([], []), ([0], []), ([], [4]), ([1, 2], []), ([3], []), ([4], []), ([4], []), ([], []), ([7, 5], []), ([6], [])] rfl (by kernel_rfl) (by kernel_rfl) (by kernel_rfl) rfl ⟨?_, ?_, ?_, ?_, ?_, ?_, ?_, ?_, ?_, ?_, trivial⟩ ?_
    ·exact DX.call (r := .kw (KI (1))) rfl rfl rfl rfl rfl rfl (KI.st _) rfl (k_one)
    ·exact DX.call (r := .kw (KQ (((1 : Int) : Rat)).num (((((1 : Int) : Rat)).den : Int) - 1))) rfl rfl rfl rfl rfl rfl (KQ.st _ _) rfl (k_rof)
    ·exact DX.load rfl rfl rfl rfl rfl rfl
    ·exact DX.call (r := .kw (K2 (KQ ((((1 : Int) : Rat)) / q).num ((((((1 : Int) : Rat)) / q).den : Int) - 1)) (KV (.int .i64 0)))) rfl rfl rfl rfl rfl rfl (K2.st (KQ.st _ _) (KV.st _)) rfl (k_rdiv (bq.int1 bd.one) hI.b (by omega) (by omega) hq)
    ·exact DX.move rfl rfl rfl rfl rfl rfl
    ·exact DX.ext (r := .kw (KQ ((((1 : Int) : Rat)) / q).num ((((((1 : Int) : Rat)) / q).den : Int) - 1))) rfl rfl rfl rfl rfl ex20 (KQ.st _ _) rfl
    ·exact DX.ext (r := .vl (.int .i64 0)) rfl rfl rfl rfl rfl ex21v (KV.st _) rfl
    ·exact DX.alloc (BQ 38) rfl rfl rfl rfl bQ rfl
    ·exact DX.store (x := .tmp 31) (r := .kw (KQ ((((1 : Int) : Rat)) / q).num ((((((1 : Int) : Rat)) / q).den : Int) - 1))) rfl rfl rfl rfl rfl rfl sh_Q
    ·exact DX.assign rfl rfl rfl rfl rfl rfl
    refine SX.then (SC.seq (SC.seq (SC.region (PW.move rfl rfl rfl rfl rfl ?_))))
    refine PW.q2 (x := .tmp 33) (y := .const (.int .i64 0)) (.bool false) rfl rfl rfl rfl rfl (fun ρ W h1 h2 => by go_simp) ?_
    refine PW.nil (SX.then (SC.cond (t := false) rfl (SC.skip (SX.then ?_))))
    refine SC.dx [.val 37 (.vl (.slice A zs.length c)), .val 38 (.vl (.int .i64 (i : Int))), .val 39 (.vl (.pointer (padd A (i * 2)))), .val 40 (.kw (KI (at0 zs i))), .val 41 (.kw (KQ (((at0 zs i : Int) : Rat)).num (((((at0 zs i : Int) : Rat)).den : Int) - 1))), .val 42 (.kw (KQ ((((1 : Int) : Rat)) / q).num ((((((1 : Int) : Rat)) / q).den : Int) - 1))), .val 43 (.kw (KQ ((((at0 zs i : Int) : Rat)) + ((((1 : Int) : Rat)) / q)).num ((((((at0 zs i : Int) : Rat)) + ((((1 : Int) : Rat)) / q)).den : Int) - 1))), .put 4 (BQ 38) (.kw (KQ ((((at0 zs i : Int) : Rat)) + ((((1 : Int) : Rat)) / q)).num ((((((at0 zs i : Int) : Rat)) + ((((1 : Int) : Rat)) / q)).den : Int) - 1)))] [([], [0]), ([], [5]), ([0, 1], []), ([2], []), ([3], []), ([], [6]), ([4, 5], []), ([6], [4])] rfl (by kernel_rfl) (by kernel_rfl) (by kernel_rfl) rfl ⟨?_, ?_, ?_, ?_, ?_, ?_, ?_, ?_, trivial⟩ ?_
    ·exact DX.move rfl rfl rfl rfl rfl rfl
    ·exact DX.move rfl rfl rfl rfl rfl rfl
    ·exact DX.q2 (x := .tmp 37) (y := .tmp 38) (.pointer (padd A (i * 2))) rfl rfl rfl rfl rfl (fun ρ W h1 h2 => r_idxzA hL (by have := hI.k0; omega) h1 h2)
    ·exact DX.ldz (i := i) hL (by have := hI.k0; omega) rfl rfl rfl rfl
    ·exact DX.call (r := .kw (KQ (((at0 zs i : Int) : Rat)).num (((((at0 zs i : Int) : Rat)).den : Int) - 1))) rfl rfl rfl rfl rfl rfl (KQ.st _ _) rfl (k_rof)
    ·exact DX.load rfl rfl rfl rfl rfl rfl
    ·exact DX.call (r := .kw (KQ ((((at0 zs i : Int) : Rat)) + ((((1 : Int) : Rat)) / q)).num ((((((at0 zs i : Int) : Rat)) + ((((1 : Int) : Rat)) / q)).den : Int) - 1))) rfl rfl rfl rfl rfl rfl (KQ.st _ _) rfl (k_radd (bq.int1 ((hb (i)))) ((bq.int1 bd.one).div hI.b hq) (by omega) (by omega))
    ·exact DX.store (x := .tmp 43) (r := .kw (KQ ((((at0 zs i : Int) : Rat)) + ((((1 : Int) : Rat)) / q)).num ((((((at0 zs i : Int) : Rat)) + ((((1 : Int) : Rat)) / q)).den : Int) - 1))) rfl rfl rfl rfl rfl rfl sh_Q
    refine SX.blockN ?_
    refine SX.then (SC.region (PW.move rfl rfl rfl rfl rfl ?_))
    refine PW.q2 (x := .tmp 24) (y := .const (.int .i64 1)) (.int .i64 ((i : Int) - 1)) rfl rfl rfl rfl rfl (fun ρ W h1 h2 => by exact r_sub h1 h2 (rfl) (by have := hI.k0; omega)) ?_
    refine PW.assign rfl rfl rfl rfl rfl (PW.nil ?_)
    refine SX.back (i, (((at0 zs i : Int) : Rat)) + ((((1 : Int) : Rat)) / q)) ?_ ?_ ?_
    ·exact (hI.step hb hq)
    ·exact (show i < i + 1 by omega)
    ·exact ⟨rfl, rfl, rfl, rfl, trivial⟩
  ·obtain rfl : k = 0 := by omega
   refine SC.region (PW.move rfl rfl rfl rfl rfl ?_)
   refine PW.q2 (x := .tmp 22) (y := .const (.int .i64 0)) (.bool false) rfl rfl rfl rfl rfl (fun ρ W h1 h2 => by exact r_ge h1 h2 (decide_eq_false hk)) ?_
   refine PW.nil (SX.then (SC.cond (t := false) rfl (SC.exit (SX.thenE (SX.thenE (SX.blockE (SX.then (SC.seq (SC.region ?_)))))))))
   refine PW.load rfl rfl rfl rfl rfl rfl ?_
   refine PW.store (x := .tmp 44) (r := .kw (KQ (q).num (((q).den : Int) - 1))) rfl rfl rfl rfl rfl rfl sh_Q ?_
   refine PW.assign rfl rfl rfl rfl rfl (PW.nil (SX.then (SC.ret ?_)))
   rw [hI.fin]
   exact SX.done2 (s := 2) (t := 3) (r := .vl (.int .i64 0)) (.inl rfl) rfl rfl rfl rfl
set_option maxHeartbeats 3200000 in
set_option maxRecDepth 100000 in
theorem contracted_c {A : Option Addr} {c m : Nat} {zs : List Int} {q : Rat} {w : World} (hL : LIn w A zs) (hb : ∀ i, bd (m + 1) (at0 zs i)) (hT : (m + 4) * zs.length ≤ 40000) (hm : m ≤ 1000) (hl : zs.length ≤ 1000000) (hc : ctrR zs = .ok q) :
  Calls Tryz.prog 132 #[.slice A zs.length c] w (Ret w (KQ (q).num (((q).den : Int) - 1))) := by
 refine calls_sc (l := [.vl (.slice A zs.length c)]) (us := [.slice A zs.length c]) 11 Tryz.func132 rfl Tryz.ntmps132 (by simp) ⟨rfl, rfl, trivial⟩ ?_
 refine SC.seq (SC.region ?_)
 refine PW.alloc (BQ 38) rfl rfl rfl rfl rfl bQ ?_
 refine PW.nil (SX.then (SC.seq (SC.region (PW.move rfl rfl rfl rfl rfl ?_))))
 refine PW.callG (r := .kw (K2 (KQ (q).num (((q).den : Int) - 1)) (KV (.int .i64 0)))) ce_contract rfl rfl rfl rfl rfl (K2.st (KQ.st _ _) (KV.st _)) rfl (fun a W hf => by have h1 := hf.vl (s := 6) rfl; show Calls Tryz.prog _ #[a.tmps.getD 6 undef] W _; rw [h1]; have := contract_c (c := c) (hL.be hf.be) hb hT hm hl; rw [hc] at this; exact this) ?_
 refine PW.move rfl rfl rfl rfl rfl ?_
 refine PW.ext (r := .kw (KQ (q).num (((q).den : Int) - 1))) rfl rfl rfl rfl rfl ex20 (KQ.st _ _) rfl ?_
 refine PW.ext (r := .vl (.int .i64 0)) rfl rfl rfl rfl rfl ex21v (KV.st _) rfl ?_
 refine PW.alloc (BQ 38) rfl rfl rfl rfl rfl bQ ?_
 refine PW.store (x := .tmp 8) (r := .kw (KQ (q).num (((q).den : Int) - 1))) rfl rfl rfl rfl rfl rfl sh_Q ?_
 refine PW.assign rfl rfl rfl rfl rfl (PW.nil (SX.then (SC.seq (SC.region ?_))))
 refine PW.load rfl rfl rfl rfl rfl rfl ?_
 refine PW.store (x := .tmp 10) (r := .kw (KQ (q).num (((q).den : Int) - 1))) rfl rfl rfl rfl rfl rfl sh_Q ?_
 refine PW.nil (SX.then (SC.ret ?_))
 exact SX.doneC (s := 2) (.inl rfl) rfl rfl rfl
theorem ce_k_simplest : CE 91 := fun args W => by go_simp
set_option maxHeartbeats 6400000 in
set_option maxRecDepth 100000 in
theorem k_simplest {x0 y0 z : Rat} {L : List Int} {m : Nat} (X : bq m x0) (Y : bq m y0) (hxy : x0 ≤ y0) (hS0 : Smp x0 y0 L) (hb : ∀ i, bd (m + 1) (at0 L i)) (hT : (m + 4) * L.length ≤ 40000) (hm2 : m ≤ 1000) (hl : L.length ≤ 1000000) (hc0 : ctrR L = .ok z) : CallOk 91 [KQ (x0).num (((x0).den : Int) - 1), KQ (y0).num (((y0).den : Int) - 1)] (KQ (z).num (((z).den : Int) - 1)) := by
 refine CallOk.enter (l := [.kw (KQ (x0).num (((x0).den : Int) - 1)), .kw (KQ (y0).num (((y0).den : Int) - 1))]) 62 ce_k_simplest Tryz.func91 rfl Tryz.ntmps91 (by simp) ⟨(KQ.st _ _), rfl, (KQ.st _ _), rfl, trivial⟩ fun w => ?_
 refine SC.seq (SC.region ?_)
 refine PW.box (x := .tmp 0) (r := .kw (KQ (x0).num (((x0).den : Int) - 1))) (BQ 38) rfl rfl rfl rfl rfl bQ rfl sh_Q ?_
 refine PW.box (x := .tmp 1) (r := .kw (KQ (y0).num (((y0).den : Int) - 1))) (BQ 38) rfl rfl rfl rfl rfl bQ rfl sh_Q ?_
 refine PW.alloc (BQ 38) rfl rfl rfl rfl rfl bQ ?_
 refine PW.nil (SX.then (SC.seq (SC.region (PW.assign rfl rfl rfl rfl rfl (PW.nil (SX.then (SC.block ?_)))))))
 refine SC.weak (fun a W hf => Fr.nilz 62 hf) ?_
 refine SC.loop (S := Value × List Int × Rat × Rat × List Int) (fun ⟨v, ps, x, y, l⟩ => [(2, .bx (BQ 38) (KQ (x).num (((x).den : Int) - 1))), (3, .bx (BQ 38) (KQ (y).num (((y).den : Int) - 1))), (4, .nb (BQ 38)), (5, .vl (v)), (62, .rs (v) 31 2 (ps : List Int).length (RsI (ps)))]) (fun ⟨v, ps, x, y, l⟩ => SmI m L ps x y l) (fun ⟨v, ps, x, y, l⟩ => l.length) (.slice none 0 0, [], x0, y0, L) ⟨hS0, rfl, X, Y, hxy⟩ ⟨rfl, rfl, rfl, rfl, rfl, trivial⟩ ?_
 rintro ⟨v, ps, x, y, l⟩ hS
 show SC _ _ _ _ [(2, .bx (BQ 38) (KQ (x).num (((x).den : Int) - 1))), (3, .bx (BQ 38) (KQ (y).num (((y).den : Int) - 1))), (4, .nb (BQ 38)), (5, .vl (v)), (62, .rs (v) 31 2 (ps : List Int).length (RsI (ps)))] _
 refine SC.block (SC.seq (SC.region ?_))
 refine PW.load rfl rfl rfl rfl rfl rfl ?_
 refine PW.call (r := .kw (KI (flq x))) rfl rfl rfl rfl rfl rfl (KI.st _) rfl (k_rfloor hS.xb (by omega)) ?_
 refine PW.alloc (BI 31) rfl rfl rfl rfl rfl bI ?_
 refine PW.store (x := .tmp 12) (r := .kw (KI (flq x))) rfl rfl rfl rfl rfl rfl sh_I ?_
 refine PW.nil (SX.then (SC.seq (SC.block (SC.seq ?_))))
 by_cases hd : x.den = 1
 ·have hL := hS.whole hd
  refine SC.region ?_
  refine PW.load rfl rfl rfl rfl rfl rfl ?_
  refine PW.call (r := .vl (.bool true)) rfl rfl rfl rfl rfl rfl (KV.st _) rfl (callK k_rwhole (by rw [decide_eq_true hd]; rfl)) ?_
  refine PW.assign rfl rfl rfl rfl rfl (PW.nil (SX.then (SC.cond (t := true) rfl (SC.seq (SC.region (PW.move rfl rfl rfl rfl rfl ?_))))))
  refine PW.load rfl rfl rfl rfl rfl rfl ?_
  refine PW.bz (x := .tmp 17) rfl rfl rfl rfl (fun ρ W m A l c h1 => r_bz h1) ?_
  refine PW.apz (K := 62) rfl rfl rfl rfl rfl rfl rfl Tryz.underlying66 (by have := congrArg List.length hS.eq; rw [List.length_append] at this; omega) rfl fun vz1 => ?_
  refine PW.callG (r := .kw (KQ (z).num (((z).den : Int) - 1))) ce_contracted rfl rfl rfl rfl rfl (KQ.st _ _) rfl (fun a W hf => by have h1 := hf.vl (s := 19) rfl; have own : OwS W _ _ 2 (vz1) (ps ++ [flq x] : List Int).length (RsI (ps ++ [flq x])) := hf.ho 62 _ rfl; obtain ⟨A, c, e1, hc, _⟩ := own.form; rw [e1] at own; show Calls Tryz.prog _ #[a.tmps.getD 19 undef] W _; rw [h1, e1]; exact contracted_c (own.lin rfl) (by rw [← hL]; exact hb) (by rw [← hL]; exact hT) hm2 (by rw [← hL]; omega) (by rw [← hL]; exact hc0)) ?_
  refine PW.store (x := .tmp 20) (r := .kw (KQ (z).num (((z).den : Int) - 1))) rfl rfl rfl rfl rfl rfl sh_Q ?_
  refine PW.nil (SX.then (SC.ret (SX.blockR (SX.thenR (SX.blockR (SX.thenR (SX.blockR ?_)))))))
  exact SX.doneC (s := 4) (.inl rfl) rfl rfl rfl
 ·refine SC.region ?_
  refine PW.load rfl rfl rfl rfl rfl rfl ?_
  refine PW.call (r := .vl (.bool false)) rfl rfl rfl rfl rfl rfl (KV.st _) rfl (callK k_rwhole (by rw [decide_eq_false hd]; rfl)) ?_
  refine PW.assign rfl rfl rfl rfl rfl (PW.nil (SX.then (SC.cond (t := false) rfl (SC.seq ?_))))
  by_cases hn : ((flq x + 1 : Int) : Rat) ≤ y
  ·have hL := hS.next hd hn
   refine SC.dx [.val 22 (.kw (KI (flq x))), .val 23 (.kw (KI (1))), .val 24 (.kw (KI ((flq x) + 1))), .val 25 (.kw (KQ ((((flq x) + 1 : Int) : Rat)).num ((((((flq x) + 1 : Int) : Rat)).den : Int) - 1))), .val 26 (.kw (KQ (y).num (((y).den : Int) - 1))), .val 27 (.vl (.int .i64 (cmpq ((((flq x) + 1 : Int) : Rat)) y))), .val 28 (.vl (.bool true)), .val 21 (.vl (.bool true))] [([], [6]), ([], []), ([0, 1], []), ([2], []), ([], [3]), ([3, 4], []), ([5], []), ([6], [])] rfl (by kernel_rfl) (by kernel_rfl) (by kernel_rfl) rfl ⟨?_, ?_, ?_, ?_, ?_, ?_, ?_, ?_, trivial⟩ ?_
   ·exact DX.load rfl rfl rfl rfl rfl rfl
   ·exact DX.call (r := .kw (KI (1))) rfl rfl rfl rfl rfl rfl (KI.st _) rfl (k_one)
   ·exact DX.call (r := .kw (KI ((flq x) + 1))) rfl rfl rfl rfl rfl rfl (KI.st _) rfl (k_add hS.xb.fl bd.one (by omega) (by omega))
   ·exact DX.call (r := .kw (KQ ((((flq x) + 1 : Int) : Rat)).num ((((((flq x) + 1 : Int) : Rat)).den : Int) - 1))) rfl rfl rfl rfl rfl rfl (KQ.st _ _) rfl (k_rof)
   ·exact DX.load rfl rfl rfl rfl rfl rfl
   ·exact DX.call (r := .vl (.int .i64 (cmpq ((((flq x) + 1 : Int) : Rat)) y))) rfl rfl rfl rfl rfl rfl (KV.st _) rfl (k_rcmp (bq.int1 (hS.xb.fl.add bd.one)) hS.yb (by omega) (by omega))
   ·exact DX.q2 (x := .tmp 27) (y := .const (.int .i64 0)) (.bool true) rfl rfl rfl rfl rfl (fun ρ W h1 h2 => by exact r_le h1 h2 (decide_eq_true (cmpq_le.2 hn)))
   ·exact DX.assign rfl rfl rfl rfl rfl rfl
   refine SX.then (SC.cond (t := true) rfl (SC.seq ?_))
   refine SC.dxl [.val 29 (.vl (v)), .val 30 (.kw (KI (flq x))), .val 31 (.kw (KI (1))), .val 32 (.kw (KI ((flq x) + 1))), .gs 33 31 2 1 (RsI [(flq x) + 1])] [([], [5]), ([], [6]), ([], []), ([1, 2], []), ([3], [])] rfl (by kernel_rfl) (by kernel_rfl) (by kernel_rfl) rfl (by kernel_rfl) ⟨?_, ?_, ?_, ?_, ?_, trivial⟩ ?_
   ·exact DX.move rfl rfl rfl rfl rfl rfl
   ·exact DX.load rfl rfl rfl rfl rfl rfl
   ·exact DX.call (r := .kw (KI (1))) rfl rfl rfl rfl rfl rfl (KI.st _) rfl (k_one)
   ·exact DX.call (r := .kw (KI ((flq x) + 1))) rfl rfl rfl rfl rfl rfl (KI.st _) rfl (k_add hS.xb.fl bd.one (by omega) (by omega))
   ·exact DX.bz (x := .tmp 32) rfl rfl rfl rfl (fun ρ W m A l c h1 => r_bz h1)
   refine PW.apz (K := 62) rfl rfl rfl rfl rfl rfl rfl Tryz.underlying66 (by have := congrArg List.length hS.eq; rw [List.length_append] at this; omega) rfl fun vz2 => ?_
   refine PW.callG (r := .kw (KQ (z).num (((z).den : Int) - 1))) ce_contracted rfl rfl rfl rfl rfl (KQ.st _ _) rfl (fun a W hf => by have h1 := hf.vl (s := 34) rfl; have own : OwS W _ _ 2 (vz2) (ps ++ [(flq x) + 1] : List Int).length (RsI (ps ++ [(flq x) + 1])) := hf.ho 62 _ rfl; obtain ⟨A, c, e1, hc, _⟩ := own.form; rw [e1] at own; show Calls Tryz.prog _ #[a.tmps.getD 34 undef] W _; rw [h1, e1]; exact contracted_c (own.lin rfl) (by rw [← hL]; exact hb) (by rw [← hL]; exact hT) hm2 (by rw [← hL]; omega) (by rw [← hL]; exact hc0)) ?_
   refine PW.store (x := .tmp 35) (r := .kw (KQ (z).num (((z).den : Int) - 1))) rfl rfl rfl rfl rfl rfl sh_Q ?_
   refine PW.nil (SX.then (SC.ret (SX.blockR (SX.thenR (SX.blockR (SX.thenR (SX.blockR ?_)))))))
   exact SX.doneC (s := 4) (.inl rfl) rfl rfl rfl
  ·obtain ⟨l', rfl, hS2⟩ := hS.step hd hn
   refine SC.dx [.val 22 (.kw (KI (flq x))), .val 23 (.kw (KI (1))), .val 24 (.kw (KI ((flq x) + 1))), .val 25 (.kw (KQ ((((flq x) + 1 : Int) : Rat)).num ((((((flq x) + 1 : Int) : Rat)).den : Int) - 1))), .val 26 (.kw (KQ (y).num (((y).den : Int) - 1))), .val 27 (.vl (.int .i64 (cmpq ((((flq x) + 1 : Int) : Rat)) y))), .val 28 (.vl (.bool false)), .val 21 (.vl (.bool false))] [([], [6]), ([], []), ([0, 1], []), ([2], []), ([], [3]), ([3, 4], []), ([5], []), ([6], [])] rfl (by kernel_rfl) (by kernel_rfl) (by kernel_rfl) rfl ⟨?_, ?_, ?_, ?_, ?_, ?_, ?_, ?_, trivial⟩ ?_
   ·exact DX.load rfl rfl rfl rfl rfl rfl
   ·exact DX.call (r := .kw (KI (1))) rfl rfl rfl rfl rfl rfl (KI.st _) rfl (k_one)
   ·exact DX.call (r := .kw (KI ((flq x) + 1))) rfl rfl rfl rfl rfl rfl (KI.st _) rfl (k_add hS.xb.fl bd.one (by omega) (by omega))
   ·exact DX.call (r := .kw (KQ ((((flq x) + 1 : Int) : Rat)).num ((((((flq x) + 1 : Int) : Rat)).den : Int) - 1))) rfl rfl rfl rfl rfl rfl (KQ.st _ _) rfl (k_rof)
   ·exact DX.load rfl rfl rfl rfl rfl rfl
   ·exact DX.call (r := .vl (.int .i64 (cmpq ((((flq x) + 1 : Int) : Rat)) y))) rfl rfl rfl rfl rfl rfl (KV.st _) rfl (k_rcmp (bq.int1 (hS.xb.fl.add bd.one)) hS.yb (by omega) (by omega))
   ·exact DX.q2 (x := .tmp 27) (y := .const (.int .i64 0)) (.bool false) rfl rfl rfl rfl rfl (fun ρ W h1 h2 => by exact r_le h1 h2 (decide_eq_false (fun h => hn (cmpq_le.1 h))))
   ·exact DX.assign rfl rfl rfl rfl rfl rfl
   refine SX.then (SC.cond (t := false) rfl (SC.skip ?_))
   refine SX.blockN ?_
   refine SX.then (SC.seq (SC.region (PW.move rfl rfl rfl rfl rfl ?_)))
   refine PW.load rfl rfl rfl rfl rfl rfl ?_
   refine PW.bz (x := .tmp 37) rfl rfl rfl rfl (fun ρ W m A l c h1 => r_bz h1) ?_
   refine PW.apz (K := 62) rfl rfl rfl rfl rfl rfl rfl Tryz.underlying66 (by have := congrArg List.length hS.eq; rw [List.length_append] at this; omega) rfl fun vz3 => ?_
   refine PW.assign rfl rfl rfl rfl rfl (PW.nil (SX.then (SC.seq ?_)))
   refine SC.dx [.val 41 (.kw (KI (1))), .val 42 (.kw (KQ (((1 : Int) : Rat)).num (((((1 : Int) : Rat)).den : Int) - 1))), .val 43 (.kw (KQ (y).num (((y).den : Int) - 1))), .val 44 (.kw (KI (flq x))), .val 45 (.kw (KQ (((flq x : Int) : Rat)).num (((((flq x : Int) : Rat)).den : Int) - 1))), .val 46 (.kw (KQ (y - (((flq x : Int) : Rat))).num (((y - (((flq x : Int) : Rat))).den : Int) - 1))), .val 47 (.kw (K2 (KQ ((((1 : Int) : Rat)) / (y - (((flq x : Int) : Rat)))).num ((((((1 : Int) : Rat)) / (y - (((flq x : Int) : Rat)))).den : Int) - 1)) (KV (.int .i64 0)))), .val 40 (.kw (K2 (KQ ((((1 : Int) : Rat)) / (y - (((flq x : Int) : Rat)))).num ((((((1 : Int) : Rat)) / (y - (((flq x : Int) : Rat)))).den : Int) - 1)) (KV (.int .i64 0)))), .val 48 (.kw (KQ ((((1 : Int) : Rat)) / (y - (((flq x : Int) : Rat)))).num ((((((1 : Int) : Rat)) / (y - (((flq x : Int) : Rat)))).den : Int) - 1))), .val 49 (.vl (.int .i64 0)), .new 7 (BQ 38), .put 7 (BQ 38) (.kw (KQ ((((1 : Int) : Rat)) / (y - (((flq x : Int) : Rat)))).num ((((((1 : Int) : Rat)) / (y - (((flq x : Int) : Rat)))).den : Int) - 1))), .val 8 (.vl (.int .i64 0))] [([], []), ([0], []), ([], [3]), ([], [6]), ([3], []), ([2, 4], []), ([1, 5], []), ([6], []), ([7], []), ([7], []), ([], []), ([10, 8], []), ([9], [])] rfl (by kernel_rfl) (by kernel_rfl) (by kernel_rfl) rfl ⟨?_, ?_, ?_, ?_, ?_, ?_, ?_, ?_, ?_, ?_, ?_, ?_, ?_, trivial⟩ ?_
   ·exact DX.call (r := .kw (KI (1))) rfl rfl rfl rfl rfl rfl (KI.st _) rfl (k_one)
   ·exact DX.call (r := .kw (KQ (((1 : Int) : Rat)).num (((((1 : Int) : Rat)).den : Int) - 1))) rfl rfl rfl rfl rfl rfl (KQ.st _ _) rfl (k_rof)
   ·exact DX.load rfl rfl rfl rfl rfl rfl
   ·exact DX.load rfl rfl rfl rfl rfl rfl
   ·exact DX.call (r := .kw (KQ (((flq x : Int) : Rat)).num (((((flq x : Int) : Rat)).den : Int) - 1))) rfl rfl rfl rfl rfl rfl (KQ.st _ _) rfl (k_rof)
   ·exact DX.call (r := .kw (KQ (y - (((flq x : Int) : Rat))).num (((y - (((flq x : Int) : Rat))).den : Int) - 1))) rfl rfl rfl rfl rfl rfl (KQ.st _ _) rfl (k_rsub hS.yb (bq.int1 hS.xb.fl) (by omega) (by omega))
   ·exact DX.call (r := .kw (K2 (KQ ((((1 : Int) : Rat)) / (y - (((flq x : Int) : Rat)))).num ((((((1 : Int) : Rat)) / (y - (((flq x : Int) : Rat)))).den : Int) - 1)) (KV (.int .i64 0)))) rfl rfl rfl rfl rfl rfl (K2.st (KQ.st _ _) (KV.st _)) rfl (k_rdiv (bq.int1 bd.one) (hS.yb.sub (bq.int1 hS.xb.fl)) (by omega) (by omega) (hS.yne hd))
   ·exact DX.move rfl rfl rfl rfl rfl rfl
   ·exact DX.ext (r := .kw (KQ ((((1 : Int) : Rat)) / (y - (((flq x : Int) : Rat)))).num ((((((1 : Int) : Rat)) / (y - (((flq x : Int) : Rat)))).den : Int) - 1))) rfl rfl rfl rfl rfl ex20 (KQ.st _ _) rfl
   ·exact DX.ext (r := .vl (.int .i64 0)) rfl rfl rfl rfl rfl ex21v (KV.st _) rfl
   ·exact DX.alloc (BQ 38) rfl rfl rfl rfl bQ rfl
   ·exact DX.store (x := .tmp 48) (r := .kw (KQ ((((1 : Int) : Rat)) / (y - (((flq x : Int) : Rat)))).num ((((((1 : Int) : Rat)) / (y - (((flq x : Int) : Rat)))).den : Int) - 1))) rfl rfl rfl rfl rfl rfl sh_Q
   ·exact DX.assign rfl rfl rfl rfl rfl rfl
   refine SX.then (SC.seq ?_)
   refine SC.dx [.val 51 (.kw (KI (1))), .val 52 (.kw (KQ (((1 : Int) : Rat)).num (((((1 : Int) : Rat)).den : Int) - 1))), .val 53 (.kw (KQ (x).num (((x).den : Int) - 1))), .val 54 (.kw (KI (flq x))), .val 55 (.kw (KQ (((flq x : Int) : Rat)).num (((((flq x : Int) : Rat)).den : Int) - 1))), .val 56 (.kw (KQ (x - (((flq x : Int) : Rat))).num (((x - (((flq x : Int) : Rat))).den : Int) - 1))), .val 57 (.kw (K2 (KQ ((((1 : Int) : Rat)) / (x - (((flq x : Int) : Rat)))).num ((((((1 : Int) : Rat)) / (x - (((flq x : Int) : Rat)))).den : Int) - 1)) (KV (.int .i64 0)))), .val 50 (.kw (K2 (KQ ((((1 : Int) : Rat)) / (x - (((flq x : Int) : Rat)))).num ((((((1 : Int) : Rat)) / (x - (((flq x : Int) : Rat)))).den : Int) - 1)) (KV (.int .i64 0)))), .val 58 (.kw (KQ ((((1 : Int) : Rat)) / (x - (((flq x : Int) : Rat)))).num ((((((1 : Int) : Rat)) / (x - (((flq x : Int) : Rat)))).den : Int) - 1))), .val 59 (.vl (.int .i64 0)), .new 9 (BQ 38), .put 9 (BQ 38) (.kw (KQ ((((1 : Int) : Rat)) / (x - (((flq x : Int) : Rat)))).num ((((((1 : Int) : Rat)) / (x - (((flq x : Int) : Rat)))).den : Int) - 1))), .val 10 (.vl (.int .i64 0))] [([], []), ([0], []), ([], [2]), ([], [6]), ([3], []), ([2, 4], []), ([1, 5], []), ([6], []), ([7], []), ([7], []), ([], []), ([10, 8], []), ([9], [])] rfl (by kernel_rfl) (by kernel_rfl) (by kernel_rfl) rfl ⟨?_, ?_, ?_, ?_, ?_, ?_, ?_, ?_, ?_, ?_, ?_, ?_, ?_, trivial⟩ ?_
   ·exact DX.call (r := .kw (KI (1))) rfl rfl rfl rfl rfl rfl (KI.st _) rfl (k_one)
   ·exact DX.call (r := .kw (KQ (((1 : Int) : Rat)).num (((((1 : Int) : Rat)).den : Int) - 1))) rfl rfl rfl rfl rfl rfl (KQ.st _ _) rfl (k_rof)
   ·exact DX.load rfl rfl rfl rfl rfl rfl
   ·exact DX.load rfl rfl rfl rfl rfl rfl
   ·exact DX.call (r := .kw (KQ (((flq x : Int) : Rat)).num (((((flq x : Int) : Rat)).den : Int) - 1))) rfl rfl rfl rfl rfl rfl (KQ.st _ _) rfl (k_rof)
   ·exact DX.call (r := .kw (KQ (x - (((flq x : Int) : Rat))).num (((x - (((flq x : Int) : Rat))).den : Int) - 1))) rfl rfl rfl rfl rfl rfl (KQ.st _ _) rfl (k_rsub hS.xb (bq.int1 hS.xb.fl) (by omega) (by omega))
   ·exact DX.call (r := .kw (K2 (KQ ((((1 : Int) : Rat)) / (x - (((flq x : Int) : Rat)))).num ((((((1 : Int) : Rat)) / (x - (((flq x : Int) : Rat)))).den : Int) - 1)) (KV (.int .i64 0)))) rfl rfl rfl rfl rfl rfl (K2.st (KQ.st _ _) (KV.st _)) rfl (k_rdiv (bq.int1 bd.one) (hS.xb.sub (bq.int1 hS.xb.fl)) (by omega) (by omega) (hS.xne hd))
   ·exact DX.move rfl rfl rfl rfl rfl rfl
   ·exact DX.ext (r := .kw (KQ ((((1 : Int) : Rat)) / (x - (((flq x : Int) : Rat)))).num ((((((1 : Int) : Rat)) / (x - (((flq x : Int) : Rat)))).den : Int) - 1))) rfl rfl rfl rfl rfl ex20 (KQ.st _ _) rfl
   ·exact DX.ext (r := .vl (.int .i64 0)) rfl rfl rfl rfl rfl ex21v (KV.st _) rfl
   ·exact DX.alloc (BQ 38) rfl rfl rfl rfl bQ rfl
   ·exact DX.store (x := .tmp 58) (r := .kw (KQ ((((1 : Int) : Rat)) / (x - (((flq x : Int) : Rat)))).num ((((((1 : Int) : Rat)) / (x - (((flq x : Int) : Rat)))).den : Int) - 1))) rfl rfl rfl rfl rfl rfl sh_Q
   ·exact DX.assign rfl rfl rfl rfl rfl rfl
   refine SX.then ?_
   refine SC.dx [.val 60 (.kw (KQ ((((1 : Int) : Rat)) / (y - (((flq x : Int) : Rat)))).num ((((((1 : Int) : Rat)) / (y - (((flq x : Int) : Rat)))).den : Int) - 1))), .val 61 (.kw (KQ ((((1 : Int) : Rat)) / (x - (((flq x : Int) : Rat)))).num ((((((1 : Int) : Rat)) / (x - (((flq x : Int) : Rat)))).den : Int) - 1))), .put 2 (BQ 38) (.kw (KQ ((((1 : Int) : Rat)) / (y - (((flq x : Int) : Rat)))).num ((((((1 : Int) : Rat)) / (y - (((flq x : Int) : Rat)))).den : Int) - 1))), .put 3 (BQ 38) (.kw (KQ ((((1 : Int) : Rat)) / (x - (((flq x : Int) : Rat)))).num ((((((1 : Int) : Rat)) / (x - (((flq x : Int) : Rat)))).den : Int) - 1)))] [([], [7]), ([], [9]), ([0], [2]), ([1], [3])] rfl (by kernel_rfl) (by kernel_rfl) (by kernel_rfl) rfl ⟨?_, ?_, ?_, ?_, trivial⟩ ?_
   ·exact DX.load rfl rfl rfl rfl rfl rfl
   ·exact DX.load rfl rfl rfl rfl rfl rfl
   ·exact DX.store (x := .tmp 60) (r := .kw (KQ ((((1 : Int) : Rat)) / (y - (((flq x : Int) : Rat)))).num ((((((1 : Int) : Rat)) / (y - (((flq x : Int) : Rat)))).den : Int) - 1))) rfl rfl rfl rfl rfl rfl sh_Q
   ·exact DX.store (x := .tmp 61) (r := .kw (KQ ((((1 : Int) : Rat)) / (x - (((flq x : Int) : Rat)))).num ((((((1 : Int) : Rat)) / (x - (((flq x : Int) : Rat)))).den : Int) - 1))) rfl rfl rfl rfl rfl rfl sh_Q
   refine SX.blockN ?_
   refine SX.back (vz3, ps ++ [flq x], (((1 : Int) : Rat)) / (y - (((flq x : Int) : Rat))), (((1 : Int) : Rat)) / (x - (((flq x : Int) : Rat))), l') ?_ ?_ ?_
   ·exact hS2
   ·exact (show l'.length < (flq x :: l').length by simp)
   ·exact ⟨rfl, rfl, rfl, rfl, rfl, trivial⟩
end Go.Proofs.YthpjmhhfcechmaaGreat.Sy
/- Plain laws for texts of integers that are written. -/
namespace Go.Proofs.YthpjmhhfcechmaaGreat.Ma
open Go
noncomputable def tstr (r x : Int) : ByteArray := @dite _ (∃ s, Txt r x s) (Classical.propDecidable _) (fun h => Classical.choose h) (fun _ => ⟨#[]⟩)
theorem tstr_eq {r x : Int} {s : ByteArray} (hr : 2 ≤ r) (h : Txt r x s) : s = tstr r x := by
 have hex : ∃ s, Txt r x s := ⟨s, h⟩
 unfold tstr
 rw [dif_pos hex]
 exact Txt.eq hr h (Classical.choose_spec hex)
end Go.Proofs.YthpjmhhfcechmaaGreat.Ma
/- A walk by rules: loops whose rounds begin on a base of their own. -/
namespace Go.Proofs.YthpjmhhfcechmaaGreat.Sy
open Go Go.RowKit Ma
section
variable {B N : Nat} {w0 : World} {ops : Array Oper} {o : Oper} {rest : List Oper} {fr : List (Nat × AV)} {Q : Exit → Act → World → Prop} {d : Nat}
theorem Fr.rebase {a : Act} {W : World} (fr' : List (Nat × AV)) (hf : Fr B N w0 fr a W) (hsub : Sub fr' fr) (hv : freeB fr' = true) : Fr W.heap.size N W fr' a W := by
 have hf1 := hf.sub hsub.spec
 exact ⟨hf.df, hf.sz, Below.refl _ _, Nat.le_refl _, fun i v hi => (hf1.ho i v hi).base (free_look hv i v hi), hf1.di⟩
theorem SC.loopW {c : Code} {S : Type} (wb : S → World) (F : S → List (Nat × AV)) (P : S → Prop) (μ : S → Nat) (h0 : ∀ a W, Fr B N w0 fr a W → ∃ s, P s ∧ Fr (wb s).heap.size N (wb s) (F s) a W)
  (round : ∀ s, P s → SC (wb s).heap.size N (wb s) c (F s) (Exit.then (fun a W => ∃ s', P s' ∧ μ s' < μ s ∧ Fr (wb s').heap.size N (wb s') (F s') a W) Q)) : SC B N w0 (.loop c) fr Q := fun a W hf => by
 obtain ⟨s0, p0, f0⟩ := h0 a W hf
 refine wp_loop_ghost (fun n a w => ∃ s, P s ∧ μ s = n ∧ Fr (wb s).heap.size N (wb s) (F s) a w) (μ s0) ⟨s0, p0, rfl, f0⟩ ?_
 rintro n a w ⟨s, hp, rfl, hf⟩
 refine wp_mono (round s hp a w hf) fun e a' w' hq => ?_
 cases e with
 | normal => obtain ⟨s', h1, h2, h3⟩ := hq; exact ⟨μ s', h2, s', h1, rfl, h3⟩
 | exit id => exact hq
 | goto l => exact hq
 | ret => exact hq
 | panic ch => exact hq
 | outgrown => exact hq
end
section
variable {x y z : Operand} {dst : Option Tmp} {ty : TypeId} {pos : String} {after : Array Edge} {guard : Option (Nat × Bool)} {ρ : Operand → Value} {W : World}
end
end Go.Proofs.YthpjmhhfcechmaaGreat.Sy
/- The program's value, Parse by rules. -/
namespace Go.Proofs.YthpjmhhfcechmaaGreat.Sy
open Go Go.RowKit Ma
theorem r_b1 {x : Operand} {dst : Option Tmp} {ty : TypeId} {pos : String} {after : Array Edge} {guard : Option (Nat × Bool)} {ρ : Operand → Value} {W : World} {a : Int} (h1 : ρ x = .int .u32 a) : (execOp ρ ⟨dst, .buildSlice 22 1 #[(0, x)], ty, pos, after, guard⟩).run Tryz.prog W = .ok (.value (.slice (some ⟨W.heap.size, 0, none⟩) [a].length [a].length)) (W.alloc (.cells ([a].map (Value.int .u32)).toArray 140)) := by
 go_simp
theorem ce_made : CE 95 := fun args W => by go_simp
theorem info_u32 : (Tryz.prog.info? 140).map (fun i => (i.zero, i.size, i.bytes)) = some (some (.int .u32 0), 1, 4) := by kernel_rfl
theorem made_k {n : Bool} {A : Option Addr} {c : Nat} {xs : List Int} {w : World} (rA : Rd w .u32 A xs) (hc : xs.length ≤ c) (hd : dg b32 xs) : Calls Tryz.prog 95 #[.bool n, .slice A xs.length c] w (Ret w (KI (sg n (lv b32 xs)))) := made_c n A c xs w rA hc hd
theorem mulr {a r : Int} (ha : 0 ≤ a ∧ a < 4294967296) (h : 2 ≤ r ∧ r ≤ 36) : 0 ≤ a * r ∧ a * r < 18446744073709551616 := by
 have h1 := Int.mul_nonneg ha.1 (show 0 ≤ r by omega)
 have h2 := Int.mul_le_mul_of_nonneg_left h.2 ha.1
 omega
theorem addr {a r c : Int} (ha : 0 ≤ a ∧ a < 4294967296) (h : 2 ≤ r ∧ r ≤ 36) (h0 : 0 ≤ c) (h1 : c ≤ 36) : 0 ≤ a * r + c ∧ a * r + c < 18446744073709551616 := by
 have h1 := Int.mul_nonneg ha.1 (show 0 ≤ r by omega)
 have h2 := Int.mul_le_mul_of_nonneg_left h.2 ha.1
 omega
theorem pos_of_at0 {s : ByteArray} {c : Int} (h : at0 (byl s) 0 = c) (hc : c ≠ 0) : 0 < s.size := by
 apply Classical.byContradiction
 intro h2
 rw [at0_ge (by rw [byl_len]; omega)] at h
 exact hc h.symm
theorem ce_k_value : CE 128 := fun args W => by go_simp
set_option maxHeartbeats 3200000 in
set_option maxRecDepth 100000 in
theorem k_value {c : Int} (h0 : 0 ≤ c) (h1 : c < 256) : CallOk 128 [KV (.int .u8 (c))] (KV (.int .i64 (dv c))) := by
 refine CallOk.enter (l := [.vl (.int .u8 (c))]) 17 ce_k_value Tryz.func128 rfl Tryz.ntmps128 (by simp) ⟨(KV.st _), rfl, trivial⟩ fun w => ?_
 refine SC.seq (SC.region (PW.assign rfl rfl rfl rfl rfl (PW.nil (SX.then (SC.seq (SC.seq ?_))))))
 by_cases ha : c ≥ 97
 ·by_cases hb : c ≤ 122
  ·refine SC.region ?_
   refine PW.move rfl rfl rfl rfl rfl ?_
   refine PW.q2 (x := .tmp 4) (y := .const (.int .u8 97)) (.bool true) rfl rfl rfl rfl rfl (fun ρ W h1 h2 => by exact r_ge8 h1 h2 (decide_eq_true ha)) ?_
   refine PW.move rfl rfl rfl rfl rfl (PW.move rfl rfl rfl rfl rfl ?_)
   refine PW.q2 (x := .tmp 7) (y := .const (.int .u8 122)) (.bool true) rfl rfl rfl rfl rfl (fun ρ W h1 h2 => by exact r_le8 h1 h2 (decide_eq_true hb)) ?_
   refine PW.pick (t := true) rfl rfl rfl rfl rfl rfl ?_
   refine PW.nil (SX.then (SC.cond (t := true) rfl (SC.region (PW.move rfl rfl rfl rfl rfl ?_))))
   refine PW.q2 (x := .tmp 10) (y := .const (.int .u8 32)) (.int .u8 (c - 32)) rfl rfl rfl rfl rfl (fun ρ W h1 h2 => by exact r_sub8 h1 h2 rfl (by omega)) ?_
   refine PW.assign rfl rfl rfl rfl rfl (PW.nil (SX.then (SC.seq (SC.seq (SC.region (PW.move rfl rfl rfl rfl rfl ?_))))))
   refine PW.call (r := .vl (.int .i64 (ixd (c - 32)))) rfl rfl rfl rfl rfl rfl (KV.st _) rfl (k_indexByte digs (c - 32) (index_digs (by omega) (by omega))) ?_
   refine PW.assign rfl rfl rfl rfl rfl (PW.nil (SX.then (SC.seq ?_)))
   by_cases hx : ixd (c - 32) ≥ 0
   ·refine SC.region ?_
    refine PW.move rfl rfl rfl rfl rfl ?_
    refine PW.q2 (x := .tmp 14) (y := .const (.int .i64 0)) (.bool true) rfl rfl rfl rfl rfl (fun ρ W h1 h2 => by exact r_ge h1 h2 (decide_eq_true hx)) ?_
    refine PW.nil (SX.then (SC.cond (t := true) rfl (SC.seq (SC.region (PW.move rfl rfl rfl rfl rfl (PW.assign rfl rfl rfl rfl rfl (PW.nil (SX.then (SC.ret (SX.thenR ?_))))))))))
    have hr : dv c = ixd (c - 32) := by unfold dv; unfold ixd at hx ⊢; repeat' split at hx; all_goals (repeat' split); all_goals omega
    rw [hr]
    exact SX.done (s := 2) (r := .vl (.int .i64 (ixd (c - 32)))) rfl rfl rfl
   ·refine SC.region ?_
    refine PW.move rfl rfl rfl rfl rfl ?_
    refine PW.q2 (x := .tmp 14) (y := .const (.int .i64 0)) (.bool false) rfl rfl rfl rfl rfl (fun ρ W h1 h2 => by exact r_ge h1 h2 (decide_eq_false hx)) ?_
    refine PW.nil (SX.then (SC.cond (t := false) rfl (SC.skip (SX.then (SC.seq (SC.region (PW.assign rfl rfl rfl rfl rfl (PW.nil (SX.then (SC.ret ?_))))))))))
    have hr : dv c = 36 := by unfold dv; unfold ixd at hx; repeat' split at hx; all_goals (repeat' split); all_goals omega
    rw [hr]
    exact SX.done (s := 2) (r := .vl (.int .i64 36)) rfl rfl rfl
  ·refine SC.region ?_
   refine PW.move rfl rfl rfl rfl rfl ?_
   refine PW.q2 (x := .tmp 4) (y := .const (.int .u8 97)) (.bool true) rfl rfl rfl rfl rfl (fun ρ W h1 h2 => by exact r_ge8 h1 h2 (decide_eq_true ha)) ?_
   refine PW.move rfl rfl rfl rfl rfl (PW.move rfl rfl rfl rfl rfl ?_)
   refine PW.q2 (x := .tmp 7) (y := .const (.int .u8 122)) (.bool false) rfl rfl rfl rfl rfl (fun ρ W h1 h2 => by exact r_le8 h1 h2 (decide_eq_false hb)) ?_
   refine PW.pick (t := true) rfl rfl rfl rfl rfl rfl ?_
   refine PW.nil (SX.then (SC.cond (t := false) rfl (SC.skip (SX.then (SC.seq (SC.seq (SC.region (PW.move rfl rfl rfl rfl rfl ?_))))))))
   refine PW.call (r := .vl (.int .i64 (ixd (c)))) rfl rfl rfl rfl rfl rfl (KV.st _) rfl (k_indexByte digs (c) (index_digs (by omega) (by omega))) ?_
   refine PW.assign rfl rfl rfl rfl rfl (PW.nil (SX.then (SC.seq ?_)))
   by_cases hx : ixd (c) ≥ 0
   ·refine SC.region ?_
    refine PW.move rfl rfl rfl rfl rfl ?_
    refine PW.q2 (x := .tmp 14) (y := .const (.int .i64 0)) (.bool true) rfl rfl rfl rfl rfl (fun ρ W h1 h2 => by exact r_ge h1 h2 (decide_eq_true hx)) ?_
    refine PW.nil (SX.then (SC.cond (t := true) rfl (SC.seq (SC.region (PW.move rfl rfl rfl rfl rfl (PW.assign rfl rfl rfl rfl rfl (PW.nil (SX.then (SC.ret (SX.thenR ?_))))))))))
    have hr : dv c = ixd (c) := by unfold dv; unfold ixd at hx ⊢; repeat' split at hx; all_goals (repeat' split); all_goals omega
    rw [hr]
    exact SX.done (s := 2) (r := .vl (.int .i64 (ixd (c)))) rfl rfl rfl
   ·refine SC.region ?_
    refine PW.move rfl rfl rfl rfl rfl ?_
    refine PW.q2 (x := .tmp 14) (y := .const (.int .i64 0)) (.bool false) rfl rfl rfl rfl rfl (fun ρ W h1 h2 => by exact r_ge h1 h2 (decide_eq_false hx)) ?_
    refine PW.nil (SX.then (SC.cond (t := false) rfl (SC.skip (SX.then (SC.seq (SC.region (PW.assign rfl rfl rfl rfl rfl (PW.nil (SX.then (SC.ret ?_))))))))))
    have hr : dv c = 36 := by unfold dv; unfold ixd at hx; repeat' split at hx; all_goals (repeat' split); all_goals omega
    rw [hr]
    exact SX.done (s := 2) (r := .vl (.int .i64 36)) rfl rfl rfl
 ·refine SC.region ?_
  refine PW.move rfl rfl rfl rfl rfl ?_
  refine PW.q2 (x := .tmp 4) (y := .const (.int .u8 97)) (.bool false) rfl rfl rfl rfl rfl (fun ρ W h1 h2 => by exact r_ge8 h1 h2 (decide_eq_false ha)) ?_
  refine PW.move rfl rfl rfl rfl rfl ?_
  refine PW.skip rfl rfl rfl ?_
  refine PW.skip rfl rfl rfl ?_
  refine PW.pick (t := false) rfl rfl rfl rfl rfl rfl ?_
  refine PW.nil (SX.then (SC.cond (t := false) rfl (SC.skip (SX.then (SC.seq (SC.seq (SC.region (PW.move rfl rfl rfl rfl rfl ?_))))))))
  refine PW.call (r := .vl (.int .i64 (ixd (c)))) rfl rfl rfl rfl rfl rfl (KV.st _) rfl (k_indexByte digs (c) (index_digs (by omega) (by omega))) ?_
  refine PW.assign rfl rfl rfl rfl rfl (PW.nil (SX.then (SC.seq ?_)))
  by_cases hx : ixd (c) ≥ 0
  ·refine SC.region ?_
   refine PW.move rfl rfl rfl rfl rfl ?_
   refine PW.q2 (x := .tmp 14) (y := .const (.int .i64 0)) (.bool true) rfl rfl rfl rfl rfl (fun ρ W h1 h2 => by exact r_ge h1 h2 (decide_eq_true hx)) ?_
   refine PW.nil (SX.then (SC.cond (t := true) rfl (SC.seq (SC.region (PW.move rfl rfl rfl rfl rfl (PW.assign rfl rfl rfl rfl rfl (PW.nil (SX.then (SC.ret (SX.thenR ?_))))))))))
   have hr : dv c = ixd (c) := by unfold dv; unfold ixd at hx ⊢; repeat' split at hx; all_goals (repeat' split); all_goals omega
   rw [hr]
   exact SX.done (s := 2) (r := .vl (.int .i64 (ixd (c)))) rfl rfl rfl
  ·refine SC.region ?_
   refine PW.move rfl rfl rfl rfl rfl ?_
   refine PW.q2 (x := .tmp 14) (y := .const (.int .i64 0)) (.bool false) rfl rfl rfl rfl rfl (fun ρ W h1 h2 => by exact r_ge h1 h2 (decide_eq_false hx)) ?_
   refine PW.nil (SX.then (SC.cond (t := false) rfl (SC.skip (SX.then (SC.seq (SC.region (PW.assign rfl rfl rfl rfl rfl (PW.nil (SX.then (SC.ret ?_))))))))))
   have hr : dv c = 36 := by unfold dv; unfold ixd at hx; repeat' split at hx; all_goals (repeat' split); all_goals omega
   rw [hr]
   exact SX.done (s := 2) (r := .vl (.int .i64 36)) rfl rfl rfl
theorem ce_parse : CE 88 := fun args W => by go_simp
set_option maxHeartbeats 3200000 in
set_option maxRecDepth 100000 in
theorem k_parse_radix {s : ByteArray} {r : Int} (h : ¬ (2 ≤ r ∧ r ≤ 36)) : CallOk 88 [KV (.string s), KV (.int .i64 (r))] (KPI (parseR r (byl s))) := by
 refine CallOk.enter (l := [.vl (.string s), .vl (.int .i64 (r))]) 87 ce_parse Tryz.func88 rfl Tryz.ntmps88 (by simp) ⟨(KV.st _), rfl, (KV.st _), rfl, trivial⟩ fun w => ?_
 refine SC.seq (SC.region ?_)
 refine PW.alloc (BI 31) rfl rfl rfl rfl rfl bI ?_
 refine PW.assign rfl rfl rfl rfl rfl (PW.nil (SX.then (SC.seq (SC.block (SC.seq ?_)))))
 by_cases hr2 : r < 2
 ·refine SC.region ?_
  refine PW.move rfl rfl rfl rfl rfl ?_
  refine PW.q2 (x := .tmp 15) (y := .const (.int .i64 2)) (.bool true) rfl rfl rfl rfl rfl (fun ρ W h1 h2 => by exact r_lt h1 h2 (decide_eq_true hr2)) ?_
  refine PW.move rfl rfl rfl rfl rfl ?_
  refine PW.skip rfl rfl rfl ?_
  refine PW.skip rfl rfl rfl ?_
  refine PW.pick (t := true) rfl rfl rfl rfl rfl rfl ?_
  refine PW.assign rfl rfl rfl rfl rfl (PW.nil (SX.then (SC.cond (t := true) rfl (SC.seq (SC.region ?_)))))
  refine PW.val (r := .kw (KI (0))) rfl rfl rfl rfl (fun a W hf => ⟨.agg #[.bool false, .slice none 0 0], by go_simp, zeroI _ w W⟩) ?_
  refine PW.store (x := .tmp 21) (r := .kw (KI (0))) rfl rfl rfl rfl rfl rfl sh_I ?_
  refine PW.assign rfl rfl rfl rfl rfl (PW.nil (SX.then (SC.ret (SX.blockR (SX.thenR ?_)))))
  rw [parse_radix h]
  exact SX.done2 (s := 4) (t := 5) (r := .vl (.int .i64 1)) (.inl rfl) rfl rfl rfl rfl
 ·refine SC.region ?_
  refine PW.move rfl rfl rfl rfl rfl ?_
  refine PW.q2 (x := .tmp 15) (y := .const (.int .i64 2)) (.bool false) rfl rfl rfl rfl rfl (fun ρ W h1 h2 => by exact r_lt h1 h2 (decide_eq_false hr2)) ?_
  refine PW.move rfl rfl rfl rfl rfl (PW.move rfl rfl rfl rfl rfl ?_)
  refine PW.q2 (x := .tmp 18) (y := .const (.int .i64 36)) (.bool true) rfl rfl rfl rfl rfl (fun ρ W h1 h2 => by exact r_gt h1 h2 (decide_eq_true (by omega))) ?_
  refine PW.pick (t := false) rfl rfl rfl rfl rfl rfl ?_
  refine PW.assign rfl rfl rfl rfl rfl (PW.nil (SX.then (SC.cond (t := true) rfl (SC.seq (SC.region ?_)))))
  refine PW.val (r := .kw (KI (0))) rfl rfl rfl rfl (fun a W hf => ⟨.agg #[.bool false, .slice none 0 0], by go_simp, zeroI _ w W⟩) ?_
  refine PW.store (x := .tmp 21) (r := .kw (KI (0))) rfl rfl rfl rfl rfl rfl sh_I ?_
  refine PW.assign rfl rfl rfl rfl rfl (PW.nil (SX.then (SC.ret (SX.blockR (SX.thenR ?_)))))
  rw [parse_radix h]
  exact SX.done2 (s := 4) (t := 5) (r := .vl (.int .i64 1)) (.inl rfl) rfl rfl rfl rfl
set_option maxHeartbeats 3200000 in
set_option maxRecDepth 100000 in
theorem k_parse_long {s : ByteArray} {r : Int} (h : 2 ≤ r ∧ r ≤ 36) (hl : 20000 < s.size) : CallOk 88 [KV (.string s), KV (.int .i64 (r))] (KPI (parseR r (byl s))) := by
 refine CallOk.enter (l := [.vl (.string s), .vl (.int .i64 (r))]) 87 ce_parse Tryz.func88 rfl Tryz.ntmps88 (by simp) ⟨(KV.st _), rfl, (KV.st _), rfl, trivial⟩ fun w => ?_
 refine SC.seq (SC.region ?_)
 refine PW.alloc (BI 31) rfl rfl rfl rfl rfl bI ?_
 refine PW.assign rfl rfl rfl rfl rfl (PW.nil (SX.then (SC.seq (SC.block (SC.seq (SC.region (PW.move rfl rfl rfl rfl rfl ?_)))))))
 refine PW.q2 (x := .tmp 15) (y := .const (.int .i64 2)) (.bool false) rfl rfl rfl rfl rfl (fun ρ W h1 h2 => by exact r_lt h1 h2 (decide_eq_false (by omega))) ?_
 refine PW.move rfl rfl rfl rfl rfl (PW.move rfl rfl rfl rfl rfl ?_)
 refine PW.q2 (x := .tmp 18) (y := .const (.int .i64 36)) (.bool false) rfl rfl rfl rfl rfl (fun ρ W h1 h2 => by exact r_gt h1 h2 (decide_eq_false (by omega))) ?_
 refine PW.pick (t := false) rfl rfl rfl rfl rfl rfl ?_
 refine PW.assign rfl rfl rfl rfl rfl (PW.nil (SX.then (SC.cond (t := false) rfl (SC.seq (SC.region (PW.move rfl rfl rfl rfl rfl ?_))))))
 refine PW.qn [(.tmp 23, .string s)] (.int .i64 (s.size : Int)) rfl rfl rfl ⟨rfl, trivial⟩ (fun ρ W h => by obtain ⟨h1, _⟩ := h; exact r_slen h1) ?_
 refine PW.q2 (x := .tmp 24) (y := .const (.int .i64 20000)) (.bool true) rfl rfl rfl rfl rfl (fun ρ W h1 h2 => by exact r_gt h1 h2 (decide_eq_true (by omega))) ?_
 refine PW.assign rfl rfl rfl rfl rfl (PW.nil (SX.then (SC.cond (t := true) rfl (SC.seq (SC.region ?_)))))
 refine PW.val (r := .kw (KI (0))) rfl rfl rfl rfl (fun a W hf => ⟨.agg #[.bool false, .slice none 0 0], by go_simp, zeroI _ w W⟩) ?_
 refine PW.store (x := .tmp 26) (r := .kw (KI (0))) rfl rfl rfl rfl rfl rfl sh_I ?_
 refine PW.assign rfl rfl rfl rfl rfl (PW.nil (SX.then (SC.ret (SX.blockR (SX.thenR ?_)))))
 rw [parse_long h (by rw [byl_len]; exact hl)]
 exact SX.done2 (s := 4) (t := 5) (r := .vl (.int .i64 14)) (.inl rfl) rfl rfl rfl rfl
set_option maxHeartbeats 6400000 in
set_option maxRecDepth 100000 in
theorem k_parse_ok {s : ByteArray} {r : Int} (h : 2 ≤ r ∧ r ≤ 36) (hl : ¬ 20000 < s.size) : CallOk 88 [KV (.string s), KV (.int .i64 (r))] (KPI (parseR r (byl s))) := by
 refine CallOk.enter (l := [.vl (.string s), .vl (.int .i64 (r))]) 87 ce_parse Tryz.func88 rfl Tryz.ntmps88 (by simp) ⟨(KV.st _), rfl, (KV.st _), rfl, trivial⟩ fun w => ?_
 refine SC.seq (SC.region ?_)
 refine PW.alloc (BI 31) rfl rfl rfl rfl rfl bI ?_
 refine PW.assign rfl rfl rfl rfl rfl (PW.nil (SX.then (SC.seq (SC.block (SC.seq (SC.region (PW.move rfl rfl rfl rfl rfl ?_)))))))
 refine PW.q2 (x := .tmp 15) (y := .const (.int .i64 2)) (.bool false) rfl rfl rfl rfl rfl (fun ρ W h1 h2 => by exact r_lt h1 h2 (decide_eq_false (by omega))) ?_
 refine PW.move rfl rfl rfl rfl rfl (PW.move rfl rfl rfl rfl rfl ?_)
 refine PW.q2 (x := .tmp 18) (y := .const (.int .i64 36)) (.bool false) rfl rfl rfl rfl rfl (fun ρ W h1 h2 => by exact r_gt h1 h2 (decide_eq_false (by omega))) ?_
 refine PW.pick (t := false) rfl rfl rfl rfl rfl rfl ?_
 refine PW.assign rfl rfl rfl rfl rfl (PW.nil (SX.then (SC.cond (t := false) rfl (SC.seq (SC.region (PW.move rfl rfl rfl rfl rfl ?_))))))
 refine PW.qn [(.tmp 23, .string s)] (.int .i64 (s.size : Int)) rfl rfl rfl ⟨rfl, trivial⟩ (fun ρ W h => by obtain ⟨h1, _⟩ := h; exact r_slen h1) ?_
 refine PW.q2 (x := .tmp 24) (y := .const (.int .i64 20000)) (.bool false) rfl rfl rfl rfl rfl (fun ρ W h1 h2 => by exact r_gt h1 h2 (decide_eq_false (by omega))) ?_
 refine PW.assign rfl rfl rfl rfl rfl (PW.nil (SX.then (SC.cond (t := false) rfl (SC.skip ?_))))
 refine SX.blockN ?_
 refine SX.then (SC.seq ?_)
 by_cases hm : 0 < s.size ∧ at0 (byl s) 0 = 45
 ·refine SC.region ?_
  refine PW.move rfl rfl rfl rfl rfl ?_
  refine PW.call (r := .vl (.bool true)) rfl rfl rfl rfl rfl rfl (KV.st _) rfl (k_hasPrefix s ⟨#[45]⟩ ((pre_one s 45).trans (decide_eq_true hm))) ?_
  refine PW.assign rfl rfl rfl rfl rfl (PW.nil (SX.then (SC.seq (SC.seq (SC.region (PW.move rfl rfl rfl rfl rfl (PW.move rfl rfl rfl rfl rfl ?_)))))))
  refine PW.skip rfl rfl rfl ?_
  refine PW.skip rfl rfl rfl ?_
  refine PW.pick (t := true) rfl rfl rfl rfl rfl rfl ?_
  refine PW.nil (SX.then (SC.cond (t := true) rfl (SC.region (PW.move rfl rfl rfl rfl rfl ?_))))
  refine PW.qn [(.tmp 34, .string s), (.const (.int .i64 1), .int .i64 1)] (.string (s.extract 1 s.size)) rfl rfl rfl ⟨rfl, rfl, trivial⟩ (fun ρ W h => by obtain ⟨h1, h2, _⟩ := h; exact r_sfrom (p := 1) h1 h2 (by omega)) ?_
  refine PW.assign rfl rfl rfl rfl rfl (PW.nil (SX.then (SC.seq (SC.seq ?_))))
  obtain ⟨t, ht⟩ : ∃ t, t = s.extract 1 s.size := ⟨_, rfl⟩
  rw [← ht]
  have htl : t.size ≤ 20000 := by rw [ht, ← byl_len, byl_drop, List.length_drop, byl_len]; omega
  rw [parse_form (b := byl t) h (by rw [byl_len]; omega) (by rw [if_pos (.inl hm.2), ht, byl_drop])]
  by_cases he : t.size = 0
  ·refine SC.region ?_
   refine PW.move rfl rfl rfl rfl rfl ?_
   refine PW.q2 (x := .tmp 36) (y := .const (.string ⟨#[]⟩)) (.bool true) rfl rfl rfl rfl rfl (fun ρ W h1 h2 => by exact r_seq h1 h2 ((empty_eq t).trans (decide_eq_true he))) ?_
   refine PW.nil (SX.then (SC.cond (t := true) rfl (SC.seq (SC.region ?_))))
   refine PW.val (r := .kw (KI (0))) rfl rfl rfl rfl (fun a W hf => ⟨.agg #[.bool false, .slice none 0 0], by go_simp, zeroI _ w W⟩) ?_
   refine PW.store (x := .tmp 38) (r := .kw (KI (0))) rfl rfl rfl rfl rfl rfl sh_I ?_
   refine PW.assign rfl rfl rfl rfl rfl (PW.nil (SX.then (SC.ret (SX.thenR ?_))))
   rw [form_empty (z := 0) (by rw [byl_len]; exact he)]
   exact SX.done2 (s := 4) (t := 5) (r := .vl (.int .i64 2)) (.inl rfl) rfl rfl rfl rfl
  ·refine SC.region ?_
   refine PW.move rfl rfl rfl rfl rfl ?_
   refine PW.q2 (x := .tmp 36) (y := .const (.string ⟨#[]⟩)) (.bool false) rfl rfl rfl rfl rfl (fun ρ W h1 h2 => by exact r_seq h1 h2 ((empty_eq t).trans (decide_eq_false he))) ?_
   refine PW.nil (SX.then (SC.cond (t := false) rfl (SC.skip (SX.then (SC.seq (SC.region (PW.assign rfl rfl rfl rfl rfl (PW.nil (SX.then (SC.seq (SC.seq (SC.region (PW.move rfl rfl rfl rfl rfl ?_)))))))))))))
   refine PW.qn [(.tmp 39, .string t)] (.int .i64 (t.size : Int)) rfl rfl rfl ⟨rfl, trivial⟩ (fun ρ W h => by obtain ⟨h1, _⟩ := h; exact r_slen h1) ?_
   refine PW.move rfl rfl rfl rfl rfl (PW.nil (SX.then (SC.block ?_)))
   refine SC.weak (fun a W hf => Fr.nilrow 87 140 (.int .u32) hf) ?_
   refine SC.loop (S := Nat × Value × List Int) (fun ⟨i, v, zs⟩ => [(0, .vl (.string t)), (1, .vl (.int .i64 (r))), (4, .nb (BI 31)), (5, .vl (.int .i64 0)), (6, .vl (.bool true)), (7, .vl (v)), (40, .vl (.int .i64 (t.size : Int))), (41, .vl (.int .i64 (i : Int))), (87, .ro (v) 140 (.int .u32) (zs))]) (fun ⟨i, v, zs⟩ => PrI b32 r (byl t) i zs) (fun ⟨i, v, zs⟩ => t.size - i) (0, .slice none 0 0, []) (PrI.start b32 r (byl t)) ⟨rfl, rfl, rfl, rfl, rfl, rfl, rfl, rfl, rfl, trivial⟩ ?_
   rintro ⟨i, v, zs⟩ hP
   show SC _ _ _ _ [(0, .vl (.string t)), (1, .vl (.int .i64 (r))), (4, .nb (BI 31)), (5, .vl (.int .i64 0)), (6, .vl (.bool true)), (7, .vl (v)), (40, .vl (.int .i64 (t.size : Int))), (41, .vl (.int .i64 (i : Int))), (87, .ro (v) 140 (.int .u32) (zs))] _
   refine SC.seq ?_
   by_cases hi : (i : Int) < (t.size : Int)
   ·refine SC.region ?_
    refine PW.q2 (x := .tmp 41) (y := .tmp 40) (.bool true) rfl rfl rfl rfl rfl (fun ρ W h1 h2 => by exact r_lt h1 h2 (decide_eq_true hi)) ?_
    refine PW.nil (SX.then (SC.seq (SC.cond (t := true) rfl (SC.skip (SX.then (SC.seq (SC.block (SC.seq (SC.region (PW.move rfl rfl rfl rfl rfl (PW.assign rfl rfl rfl rfl rfl (PW.nil ?_))))))))))))
    refine SX.then (SC.seq (SC.region (PW.move rfl rfl rfl rfl rfl (PW.move rfl rfl rfl rfl rfl ?_))))
    refine PW.qn [(.tmp 44, .string t), (.tmp 45, .int .i64 (i : Int))] (.int .u8 (at0 (byl t) i)) rfl rfl rfl ⟨rfl, rfl, trivial⟩ (fun ρ W h => by obtain ⟨h1, h2, _⟩ := h; exact r_sidx h1 h2 (by omega)) ?_
    refine PW.call (r := .vl (.int .i64 (dv (at0 (byl t) i)))) rfl rfl rfl rfl rfl rfl (KV.st _) rfl (k_value (byl_byte t i).1 (byl_byte t i).2) ?_
    refine PW.assign rfl rfl rfl rfl rfl (PW.nil (SX.then (SC.seq (SC.seq ?_))))
    by_cases hd : dv (at0 (byl t) i) ≥ r
    ·refine SC.region ?_
     refine PW.move rfl rfl rfl rfl rfl (PW.move rfl rfl rfl rfl rfl ?_)
     refine PW.q2 (x := .tmp 48) (y := .tmp 49) (.bool true) rfl rfl rfl rfl rfl (fun ρ W h1 h2 => by exact r_ge h1 h2 (decide_eq_true hd)) ?_
     refine PW.nil (SX.then (SC.cond (t := true) rfl (SC.seq (SC.region ?_))))
     refine PW.val (r := .kw (KI (0))) rfl rfl rfl rfl (fun a W hf => ⟨.agg #[.bool false, .slice none 0 0], by go_simp, zeroI _ w W⟩) ?_
     refine PW.store (x := .tmp 51) (r := .kw (KI (0))) rfl rfl rfl rfl rfl rfl sh_I ?_
     refine PW.assign rfl rfl rfl rfl rfl (PW.nil (SX.then (SC.ret (SX.thenR (SX.blockR (SX.thenR (SX.thenR (SX.blockR (SX.thenR ?_)))))))))
     rw [form_bad (i := i) (by rw [byl_len]; omega) hd]
     exact SX.done2 (s := 4) (t := 5) (r := .vl (.int .i64 2)) (.inl rfl) rfl rfl rfl rfl
    ·refine SC.region ?_
     refine PW.move rfl rfl rfl rfl rfl (PW.move rfl rfl rfl rfl rfl ?_)
     refine PW.q2 (x := .tmp 48) (y := .tmp 49) (.bool false) rfl rfl rfl rfl rfl (fun ρ W h1 h2 => by exact r_ge h1 h2 (decide_eq_false hd)) ?_
     refine PW.nil (SX.then (SC.cond (t := false) rfl (SC.skip (SX.then (SC.seq (SC.region (PW.move rfl rfl rfl rfl rfl ?_)))))))
     refine PW.q1 (x := .tmp 52) (.int .u64 (dv (at0 (byl t) i))) rfl rfl rfl rfl (fun ρ W h1 => by exact r_i64u h1 (by have := dv_le (at0 (byl t) i); omega)) ?_
     refine PW.assign rfl rfl rfl rfl rfl (PW.nil (SX.then (SC.seq (SC.seq (SC.region (PW.move rfl rfl rfl rfl rfl ?_))))))
     refine PW.rlen (s := 54) 87 rfl rfl rfl rfl rfl (fun ρ W A c h => r_len h) ?_
     refine PW.move rfl rfl rfl rfl rfl (PW.nil (SX.then (SC.block ?_)))
     refine SC.loop (S := Nat × List Int × Int) (fun ⟨k, ys, cc⟩ => [(0, .vl (.string t)), (1, .vl (.int .i64 (r))), (4, .nb (BI 31)), (5, .vl (.int .i64 0)), (6, .vl (.bool true)), (7, .vl (v)), (8, .vl (.int .i64 (i : Int))), (10, .vl (.int .u64 (cc))), (40, .vl (.int .i64 (t.size : Int))), (41, .vl (.int .i64 (i : Int))), (54, .vl (v)), (55, .vl (.int .i64 (zs.length : Int))), (56, .vl (.int .i64 (k : Int))), (87, .ro (v) 140 (.int .u32) (ys))]) (fun ⟨k, ys, cc⟩ => PrJ b32 r (dv (at0 (byl t) i)) zs k ys cc) (fun ⟨k, ys, cc⟩ => zs.length - k) (0, zs, dv (at0 (byl t) i)) (PrJ.start hP.dg (dv_le _).1 (dv_le _).2) ⟨rfl, rfl, rfl, rfl, rfl, rfl, rfl, rfl, rfl, rfl, rfl, rfl, rfl, rfl, trivial⟩ ?_
     rintro ⟨k, ys, cc⟩ hJ
     show SC _ _ _ _ [(0, .vl (.string t)), (1, .vl (.int .i64 (r))), (4, .nb (BI 31)), (5, .vl (.int .i64 0)), (6, .vl (.bool true)), (7, .vl (v)), (8, .vl (.int .i64 (i : Int))), (10, .vl (.int .u64 (cc))), (40, .vl (.int .i64 (t.size : Int))), (41, .vl (.int .i64 (i : Int))), (54, .vl (v)), (55, .vl (.int .i64 (zs.length : Int))), (56, .vl (.int .i64 (k : Int))), (87, .ro (v) 140 (.int .u32) (ys))] _
     refine SC.seq ?_
     by_cases hk : (k : Int) < (zs.length : Int)
     ·refine SC.region ?_
      refine PW.q2 (x := .tmp 56) (y := .tmp 55) (.bool true) rfl rfl rfl rfl rfl (fun ρ W h1 h2 => by exact r_lt h1 h2 (decide_eq_true hk)) ?_
      refine PW.nil (SX.then (SC.seq (SC.cond (t := true) rfl (SC.skip (SX.then (SC.seq (SC.block (SC.seq (SC.region (PW.move rfl rfl rfl rfl rfl ?_))))))))))
      refine PW.ridx (i := k) 87 rfl rfl rfl rfl rfl rfl rfl (by have := hJ.len; omega) (fun ρ W g c h1 h2 => r_idx h1 h2 (by have := hJ.len; omega)) ?_
      refine PW.rget (i := k) 87 rfl rfl rfl rfl rfl rfl (by have := hJ.len; omega) r_l32 ?_
      refine PW.assign rfl rfl rfl rfl rfl (PW.assign rfl rfl rfl rfl rfl (PW.nil (SX.then (SC.seq (SC.region (PW.move rfl rfl rfl rfl rfl ?_))))))
      refine PW.q1 (x := .tmp 61) (.int .u64 (at0 ys k)) rfl rfl rfl rfl (fun ρ W h1 => by exact r_64 h1 (dg32 hJ.dg k)) ?_
      refine PW.move rfl rfl rfl rfl rfl ?_
      refine PW.q1 (x := .tmp 63) (.int .u64 (r)) rfl rfl rfl rfl (fun ρ W h1 => by exact r_i64u h1 (by omega)) ?_
      refine PW.q2 (x := .tmp 62) (y := .tmp 64) (.int .u64 (at0 ys k * r)) rfl rfl rfl rfl rfl (fun ρ W h1 h2 => by exact r_mul6 h1 h2 rfl (mulr (dg32 hJ.dg k) h)) ?_
      refine PW.move rfl rfl rfl rfl rfl ?_
      refine PW.q2 (x := .tmp 65) (y := .tmp 66) (.int .u64 (at0 ys k * r + cc)) rfl rfl rfl rfl rfl (fun ρ W h1 h2 => by exact r_add6 h1 h2 rfl (addr (dg32 hJ.dg k) h hJ.c0 hJ.c1)) ?_
      refine PW.assign rfl rfl rfl rfl rfl (PW.nil (SX.then (SC.region (PW.move rfl rfl rfl rfl rfl (PW.move rfl rfl rfl rfl rfl (PW.move rfl rfl rfl rfl rfl ?_))))))
      refine PW.q1 (x := .tmp 70) (.int .u32 ((at0 ys k * r + cc) % 4294967296)) rfl rfl rfl rfl (fun ρ W h1 => by exact r_32 h1) ?_
      refine PW.move rfl rfl rfl rfl rfl ?_
      refine PW.q2 (x := .tmp 72) (y := .const (.int .u64 32)) (.int .u64 ((at0 ys k * r + cc) / 4294967296)) rfl rfl rfl rfl rfl (fun ρ W h1 h2 => by exact r_dn32 h1 h2) ?_
      refine PW.ridx (i := k) 87 rfl rfl rfl rfl rfl rfl rfl (by have := hJ.len; omega) (fun ρ W g c h1 h2 => r_idx h1 h2 (by have := hJ.len; omega)) ?_
      refine PW.rput (i := k) (x := .tmp 71) (((at0 ys k * r + cc) % 4294967296)) 87 rfl rfl rfl rfl rfl (by have := hJ.len; omega) rfl rfl r_s32 ?_
      refine PW.assign rfl rfl rfl rfl rfl (PW.nil ?_)
      refine SX.blockN ?_
      refine SX.then (SC.region ?_)
      refine PW.q2 (x := .tmp 56) (y := .const (.int .i64 1)) (.int .i64 ((k + 1 : Nat))) rfl rfl rfl rfl rfl (fun ρ W h1 h2 => by exact r_add h1 h2 (by omega) (by have := hP.len; have := byl_len t; omega)) ?_
      refine PW.move rfl rfl rfl rfl rfl (PW.nil ?_)
      refine SX.back (k + 1, ys.set k ((at0 ys k * r + cc) % 4294967296), (at0 ys k * r + cc) / 4294967296) ?_ ?_ ?_
      ·exact (hJ.step (by decide) (by omega) h.1 h.2 rfl hP.dg)
      ·exact (show zs.length - (k + 1) < zs.length - k by omega)
      ·exact ⟨rfl, rfl, rfl, rfl, rfl, rfl, rfl, rfl, rfl, rfl, rfl, rfl, rfl, rfl, trivial⟩
     ·obtain rfl : k = zs.length := by have := hJ.le; omega
      refine SC.region ?_
      refine PW.q2 (x := .tmp 56) (y := .tmp 55) (.bool false) rfl rfl rfl rfl rfl (fun ρ W h1 h2 => by exact r_lt h1 h2 (decide_eq_false hk)) ?_
      refine PW.nil (SX.then (SC.seq (SC.cond (t := false) rfl (SC.exit (SX.thenE (SX.thenE (SX.blockE (SX.then (SC.seq ?_)))))))))
      by_cases hc : 0 < cc
      ·refine SC.region ?_
       refine PW.move rfl rfl rfl rfl rfl ?_
       refine PW.q2 (x := .tmp 76) (y := .const (.int .u64 0)) (.bool true) rfl rfl rfl rfl rfl (fun ρ W h1 h2 => by exact r_gt6 h1 h2 (decide_eq_true hc)) ?_
       refine PW.nil (SX.then (SC.cond (t := true) rfl (SC.region (PW.move rfl rfl rfl rfl rfl (PW.move rfl rfl rfl rfl rfl ?_)))))
       refine PW.q1 (x := .tmp 79) (.int .u32 (cc)) rfl rfl rfl rfl (fun ρ W h1 => by exact r_32z h1 (by have := hJ.c0; have := hJ.c1; omega)) ?_
       refine PW.app (K := 87) (f := .int .u32) [(cc)] rfl rfl rfl (fun a W hf => r_b1 (hf.vl (s := 80) rfl)) rfl rfl rfl rfl rfl rfl rfl rfl Tryz.underlying22 info_u32 rfl (fun _ => rfl) (by have l1 := hJ.len; have l2 := hP.len; have l3 := byl_len t; have l4 := hP.le; unfold maxLen; show _ + 1 ≤ _; omega) (by have l1 := hJ.len; have l2 := hP.len; have l3 := byl_len t; have l4 := hP.le; show (_ + 1) * 4 ≤ _; omega) rfl fun vq1 uq1 => ?_
       refine PW.assign rfl rfl rfl rfl rfl (PW.nil ?_)
       refine SX.blockN ?_
       refine SX.then (SC.region ?_)
       refine PW.q2 (x := .tmp 41) (y := .const (.int .i64 1)) (.int .i64 ((i + 1 : Nat))) rfl rfl rfl rfl rfl (fun ρ W h1 h2 => by exact r_add h1 h2 (by omega) (by omega)) ?_
       refine PW.move rfl rfl rfl rfl rfl (PW.nil ?_)
       refine SX.back (i + 1, vq1, ys ++ [(cc)]) ?_ ?_ ?_
       ·exact (hP.yes (by decide) (by rw [byl_len]; omega) (by omega) hJ)
       ·exact (show t.size - (i + 1) < t.size - i by omega)
       ·exact ⟨rfl, rfl, rfl, rfl, rfl, rfl, rfl, rfl, rfl, trivial⟩
      ·obtain rfl : cc = 0 := by have := hJ.c0; omega
       refine SC.region (PW.move rfl rfl rfl rfl rfl ?_)
       refine PW.q2 (x := .tmp 76) (y := .const (.int .u64 0)) (.bool false) rfl rfl rfl rfl rfl (fun ρ W h1 h2 => by exact r_gt6 h1 h2 (decide_eq_false hc)) ?_
       refine PW.nil (SX.then (SC.cond (t := false) rfl (SC.skip ?_)))
       refine SX.blockN ?_
       refine SX.then (SC.region ?_)
       refine PW.q2 (x := .tmp 41) (y := .const (.int .i64 1)) (.int .i64 ((i + 1 : Nat))) rfl rfl rfl rfl rfl (fun ρ W h1 h2 => by exact r_add h1 h2 (by omega) (by omega)) ?_
       refine PW.move rfl rfl rfl rfl rfl (PW.nil ?_)
       refine SX.back (i + 1, v, ys) ?_ ?_ ?_
       ·exact (hP.no (by rw [byl_len]; omega) (by omega) hJ)
       ·exact (show t.size - (i + 1) < t.size - i by omega)
       ·exact ⟨rfl, rfl, rfl, rfl, rfl, rfl, rfl, rfl, rfl, trivial⟩
   ·obtain rfl : i = t.size := by have := hP.le; have := byl_len t; omega
    refine SC.region ?_
    refine PW.q2 (x := .tmp 41) (y := .tmp 40) (.bool false) rfl rfl rfl rfl rfl (fun ρ W h1 h2 => by exact r_lt h1 h2 (decide_eq_false hi)) ?_
    refine PW.nil (SX.then (SC.seq (SC.cond (t := false) rfl (SC.exit (SX.thenE (SX.thenE (SX.blockE (SX.then (SC.seq (SC.region (PW.move rfl rfl rfl rfl rfl (PW.move rfl rfl rfl rfl rfl ?_))))))))))))
    refine PW.callG (r := .kw (KI (sg true (pv r 0 (byl t))))) ce_made rfl rfl rfl rfl rfl (KI.st _) rfl (fun a W hf => by have h1 := hf.vl (s := 84) rfl; have h2 := hf.vl (s := 85) rfl; have own : OwF W _ _ (.int .u32) v zs := hf.ho 87 _ rfl; obtain ⟨A4, c4, e4, hc4, rd4⟩ := Own.rd own; show Calls Tryz.prog _ #[a.tmps.getD 84 undef, a.tmps.getD 85 undef] W _; rw [h1, h2, e4, show pv r 0 (byl t) = lv b32 zs by rw [hP.lv, List.take_of_length_le (by rw [byl_len]; exact Nat.le_refl _)]]; exact made_k rd4 hc4 hP.dg) ?_
    refine PW.store (x := .tmp 86) (r := .kw (KI (sg true (pv r 0 (byl t))))) rfl rfl rfl rfl rfl rfl sh_I ?_
    refine PW.assign rfl rfl rfl rfl rfl (PW.nil (SX.then (SC.ret ?_)))
    rw [form_ok (by rw [byl_len]; exact he) (fun j hj => hP.ok j (by rw [byl_len] at hj; exact hj))]
    rw [show decide (at0 (byl s) 0 = 45) = true by exact decide_eq_true hm.2]
    exact SX.done2 (s := 4) (t := 5) (r := .vl (.int .i64 0)) (.inl rfl) rfl rfl rfl rfl
 ·refine SC.region ?_
  refine PW.move rfl rfl rfl rfl rfl ?_
  refine PW.call (r := .vl (.bool false)) rfl rfl rfl rfl rfl rfl (KV.st _) rfl (k_hasPrefix s ⟨#[45]⟩ ((pre_one s 45).trans (decide_eq_false hm))) ?_
  refine PW.assign rfl rfl rfl rfl rfl (PW.nil (SX.then (SC.seq (SC.seq ?_))))
  by_cases hp : 0 < s.size ∧ at0 (byl s) 0 = 43
  ·refine SC.region ?_
   refine PW.move rfl rfl rfl rfl rfl (PW.move rfl rfl rfl rfl rfl (PW.move rfl rfl rfl rfl rfl ?_))
   refine PW.call (r := .vl (.bool true)) rfl rfl rfl rfl rfl rfl (KV.st _) rfl (k_hasPrefix s ⟨#[43]⟩ ((pre_one s 43).trans (decide_eq_true hp))) ?_
   refine PW.pick (t := false) rfl rfl rfl rfl rfl rfl ?_
   refine PW.nil (SX.then (SC.cond (t := true) rfl (SC.region (PW.move rfl rfl rfl rfl rfl ?_))))
   refine PW.qn [(.tmp 34, .string s), (.const (.int .i64 1), .int .i64 1)] (.string (s.extract 1 s.size)) rfl rfl rfl ⟨rfl, rfl, trivial⟩ (fun ρ W h => by obtain ⟨h1, h2, _⟩ := h; exact r_sfrom (p := 1) h1 h2 (by omega)) ?_
   refine PW.assign rfl rfl rfl rfl rfl (PW.nil (SX.then (SC.seq (SC.seq ?_))))
   obtain ⟨t, ht⟩ : ∃ t, t = s.extract 1 s.size := ⟨_, rfl⟩
   rw [← ht]
   have htl : t.size ≤ 20000 := by rw [ht, ← byl_len, byl_drop, List.length_drop, byl_len]; omega
   rw [parse_form (b := byl t) h (by rw [byl_len]; omega) (by rw [if_pos (.inr hp.2), ht, byl_drop])]
   by_cases he : t.size = 0
   ·refine SC.region ?_
    refine PW.move rfl rfl rfl rfl rfl ?_
    refine PW.q2 (x := .tmp 36) (y := .const (.string ⟨#[]⟩)) (.bool true) rfl rfl rfl rfl rfl (fun ρ W h1 h2 => by exact r_seq h1 h2 ((empty_eq t).trans (decide_eq_true he))) ?_
    refine PW.nil (SX.then (SC.cond (t := true) rfl (SC.seq (SC.region ?_))))
    refine PW.val (r := .kw (KI (0))) rfl rfl rfl rfl (fun a W hf => ⟨.agg #[.bool false, .slice none 0 0], by go_simp, zeroI _ w W⟩) ?_
    refine PW.store (x := .tmp 38) (r := .kw (KI (0))) rfl rfl rfl rfl rfl rfl sh_I ?_
    refine PW.assign rfl rfl rfl rfl rfl (PW.nil (SX.then (SC.ret (SX.thenR ?_))))
    rw [form_empty (z := 0) (by rw [byl_len]; exact he)]
    exact SX.done2 (s := 4) (t := 5) (r := .vl (.int .i64 2)) (.inl rfl) rfl rfl rfl rfl
   ·refine SC.region ?_
    refine PW.move rfl rfl rfl rfl rfl ?_
    refine PW.q2 (x := .tmp 36) (y := .const (.string ⟨#[]⟩)) (.bool false) rfl rfl rfl rfl rfl (fun ρ W h1 h2 => by exact r_seq h1 h2 ((empty_eq t).trans (decide_eq_false he))) ?_
    refine PW.nil (SX.then (SC.cond (t := false) rfl (SC.skip (SX.then (SC.seq (SC.region (PW.assign rfl rfl rfl rfl rfl (PW.nil (SX.then (SC.seq (SC.seq (SC.region (PW.move rfl rfl rfl rfl rfl ?_)))))))))))))
    refine PW.qn [(.tmp 39, .string t)] (.int .i64 (t.size : Int)) rfl rfl rfl ⟨rfl, trivial⟩ (fun ρ W h => by obtain ⟨h1, _⟩ := h; exact r_slen h1) ?_
    refine PW.move rfl rfl rfl rfl rfl (PW.nil (SX.then (SC.block ?_)))
    refine SC.weak (fun a W hf => Fr.nilrow 87 140 (.int .u32) hf) ?_
    refine SC.loop (S := Nat × Value × List Int) (fun ⟨i, v, zs⟩ => [(0, .vl (.string t)), (1, .vl (.int .i64 (r))), (4, .nb (BI 31)), (5, .vl (.int .i64 0)), (6, .vl (.bool false)), (7, .vl (v)), (40, .vl (.int .i64 (t.size : Int))), (41, .vl (.int .i64 (i : Int))), (87, .ro (v) 140 (.int .u32) (zs))]) (fun ⟨i, v, zs⟩ => PrI b32 r (byl t) i zs) (fun ⟨i, v, zs⟩ => t.size - i) (0, .slice none 0 0, []) (PrI.start b32 r (byl t)) ⟨rfl, rfl, rfl, rfl, rfl, rfl, rfl, rfl, rfl, trivial⟩ ?_
    rintro ⟨i, v, zs⟩ hP
    show SC _ _ _ _ [(0, .vl (.string t)), (1, .vl (.int .i64 (r))), (4, .nb (BI 31)), (5, .vl (.int .i64 0)), (6, .vl (.bool false)), (7, .vl (v)), (40, .vl (.int .i64 (t.size : Int))), (41, .vl (.int .i64 (i : Int))), (87, .ro (v) 140 (.int .u32) (zs))] _
    refine SC.seq ?_
    by_cases hi : (i : Int) < (t.size : Int)
    ·refine SC.region ?_
     refine PW.q2 (x := .tmp 41) (y := .tmp 40) (.bool true) rfl rfl rfl rfl rfl (fun ρ W h1 h2 => by exact r_lt h1 h2 (decide_eq_true hi)) ?_
     refine PW.nil (SX.then (SC.seq (SC.cond (t := true) rfl (SC.skip (SX.then (SC.seq (SC.block (SC.seq (SC.region (PW.move rfl rfl rfl rfl rfl (PW.assign rfl rfl rfl rfl rfl (PW.nil ?_))))))))))))
     refine SX.then (SC.seq (SC.region (PW.move rfl rfl rfl rfl rfl (PW.move rfl rfl rfl rfl rfl ?_))))
     refine PW.qn [(.tmp 44, .string t), (.tmp 45, .int .i64 (i : Int))] (.int .u8 (at0 (byl t) i)) rfl rfl rfl ⟨rfl, rfl, trivial⟩ (fun ρ W h => by obtain ⟨h1, h2, _⟩ := h; exact r_sidx h1 h2 (by omega)) ?_
     refine PW.call (r := .vl (.int .i64 (dv (at0 (byl t) i)))) rfl rfl rfl rfl rfl rfl (KV.st _) rfl (k_value (byl_byte t i).1 (byl_byte t i).2) ?_
     refine PW.assign rfl rfl rfl rfl rfl (PW.nil (SX.then (SC.seq (SC.seq ?_))))
     by_cases hd : dv (at0 (byl t) i) ≥ r
     ·refine SC.region ?_
      refine PW.move rfl rfl rfl rfl rfl (PW.move rfl rfl rfl rfl rfl ?_)
      refine PW.q2 (x := .tmp 48) (y := .tmp 49) (.bool true) rfl rfl rfl rfl rfl (fun ρ W h1 h2 => by exact r_ge h1 h2 (decide_eq_true hd)) ?_
      refine PW.nil (SX.then (SC.cond (t := true) rfl (SC.seq (SC.region ?_))))
      refine PW.val (r := .kw (KI (0))) rfl rfl rfl rfl (fun a W hf => ⟨.agg #[.bool false, .slice none 0 0], by go_simp, zeroI _ w W⟩) ?_
      refine PW.store (x := .tmp 51) (r := .kw (KI (0))) rfl rfl rfl rfl rfl rfl sh_I ?_
      refine PW.assign rfl rfl rfl rfl rfl (PW.nil (SX.then (SC.ret (SX.thenR (SX.blockR (SX.thenR (SX.thenR (SX.blockR (SX.thenR ?_)))))))))
      rw [form_bad (i := i) (by rw [byl_len]; omega) hd]
      exact SX.done2 (s := 4) (t := 5) (r := .vl (.int .i64 2)) (.inl rfl) rfl rfl rfl rfl
     ·refine SC.region ?_
      refine PW.move rfl rfl rfl rfl rfl (PW.move rfl rfl rfl rfl rfl ?_)
      refine PW.q2 (x := .tmp 48) (y := .tmp 49) (.bool false) rfl rfl rfl rfl rfl (fun ρ W h1 h2 => by exact r_ge h1 h2 (decide_eq_false hd)) ?_
      refine PW.nil (SX.then (SC.cond (t := false) rfl (SC.skip (SX.then (SC.seq (SC.region (PW.move rfl rfl rfl rfl rfl ?_)))))))
      refine PW.q1 (x := .tmp 52) (.int .u64 (dv (at0 (byl t) i))) rfl rfl rfl rfl (fun ρ W h1 => by exact r_i64u h1 (by have := dv_le (at0 (byl t) i); omega)) ?_
      refine PW.assign rfl rfl rfl rfl rfl (PW.nil (SX.then (SC.seq (SC.seq (SC.region (PW.move rfl rfl rfl rfl rfl ?_))))))
      refine PW.rlen (s := 54) 87 rfl rfl rfl rfl rfl (fun ρ W A c h => r_len h) ?_
      refine PW.move rfl rfl rfl rfl rfl (PW.nil (SX.then (SC.block ?_)))
      refine SC.loop (S := Nat × List Int × Int) (fun ⟨k, ys, cc⟩ => [(0, .vl (.string t)), (1, .vl (.int .i64 (r))), (4, .nb (BI 31)), (5, .vl (.int .i64 0)), (6, .vl (.bool false)), (7, .vl (v)), (8, .vl (.int .i64 (i : Int))), (10, .vl (.int .u64 (cc))), (40, .vl (.int .i64 (t.size : Int))), (41, .vl (.int .i64 (i : Int))), (54, .vl (v)), (55, .vl (.int .i64 (zs.length : Int))), (56, .vl (.int .i64 (k : Int))), (87, .ro (v) 140 (.int .u32) (ys))]) (fun ⟨k, ys, cc⟩ => PrJ b32 r (dv (at0 (byl t) i)) zs k ys cc) (fun ⟨k, ys, cc⟩ => zs.length - k) (0, zs, dv (at0 (byl t) i)) (PrJ.start hP.dg (dv_le _).1 (dv_le _).2) ⟨rfl, rfl, rfl, rfl, rfl, rfl, rfl, rfl, rfl, rfl, rfl, rfl, rfl, rfl, trivial⟩ ?_
      rintro ⟨k, ys, cc⟩ hJ
      show SC _ _ _ _ [(0, .vl (.string t)), (1, .vl (.int .i64 (r))), (4, .nb (BI 31)), (5, .vl (.int .i64 0)), (6, .vl (.bool false)), (7, .vl (v)), (8, .vl (.int .i64 (i : Int))), (10, .vl (.int .u64 (cc))), (40, .vl (.int .i64 (t.size : Int))), (41, .vl (.int .i64 (i : Int))), (54, .vl (v)), (55, .vl (.int .i64 (zs.length : Int))), (56, .vl (.int .i64 (k : Int))), (87, .ro (v) 140 (.int .u32) (ys))] _
      refine SC.seq ?_
      by_cases hk : (k : Int) < (zs.length : Int)
      ·refine SC.region ?_
       refine PW.q2 (x := .tmp 56) (y := .tmp 55) (.bool true) rfl rfl rfl rfl rfl (fun ρ W h1 h2 => by exact r_lt h1 h2 (decide_eq_true hk)) ?_
       refine PW.nil (SX.then (SC.seq (SC.cond (t := true) rfl (SC.skip (SX.then (SC.seq (SC.block (SC.seq (SC.region (PW.move rfl rfl rfl rfl rfl ?_))))))))))
       refine PW.ridx (i := k) 87 rfl rfl rfl rfl rfl rfl rfl (by have := hJ.len; omega) (fun ρ W g c h1 h2 => r_idx h1 h2 (by have := hJ.len; omega)) ?_
       refine PW.rget (i := k) 87 rfl rfl rfl rfl rfl rfl (by have := hJ.len; omega) r_l32 ?_
       refine PW.assign rfl rfl rfl rfl rfl (PW.assign rfl rfl rfl rfl rfl (PW.nil (SX.then (SC.seq (SC.region (PW.move rfl rfl rfl rfl rfl ?_))))))
       refine PW.q1 (x := .tmp 61) (.int .u64 (at0 ys k)) rfl rfl rfl rfl (fun ρ W h1 => by exact r_64 h1 (dg32 hJ.dg k)) ?_
       refine PW.move rfl rfl rfl rfl rfl ?_
       refine PW.q1 (x := .tmp 63) (.int .u64 (r)) rfl rfl rfl rfl (fun ρ W h1 => by exact r_i64u h1 (by omega)) ?_
       refine PW.q2 (x := .tmp 62) (y := .tmp 64) (.int .u64 (at0 ys k * r)) rfl rfl rfl rfl rfl (fun ρ W h1 h2 => by exact r_mul6 h1 h2 rfl (mulr (dg32 hJ.dg k) h)) ?_
       refine PW.move rfl rfl rfl rfl rfl ?_
       refine PW.q2 (x := .tmp 65) (y := .tmp 66) (.int .u64 (at0 ys k * r + cc)) rfl rfl rfl rfl rfl (fun ρ W h1 h2 => by exact r_add6 h1 h2 rfl (addr (dg32 hJ.dg k) h hJ.c0 hJ.c1)) ?_
       refine PW.assign rfl rfl rfl rfl rfl (PW.nil (SX.then (SC.region (PW.move rfl rfl rfl rfl rfl (PW.move rfl rfl rfl rfl rfl (PW.move rfl rfl rfl rfl rfl ?_))))))
       refine PW.q1 (x := .tmp 70) (.int .u32 ((at0 ys k * r + cc) % 4294967296)) rfl rfl rfl rfl (fun ρ W h1 => by exact r_32 h1) ?_
       refine PW.move rfl rfl rfl rfl rfl ?_
       refine PW.q2 (x := .tmp 72) (y := .const (.int .u64 32)) (.int .u64 ((at0 ys k * r + cc) / 4294967296)) rfl rfl rfl rfl rfl (fun ρ W h1 h2 => by exact r_dn32 h1 h2) ?_
       refine PW.ridx (i := k) 87 rfl rfl rfl rfl rfl rfl rfl (by have := hJ.len; omega) (fun ρ W g c h1 h2 => r_idx h1 h2 (by have := hJ.len; omega)) ?_
       refine PW.rput (i := k) (x := .tmp 71) (((at0 ys k * r + cc) % 4294967296)) 87 rfl rfl rfl rfl rfl (by have := hJ.len; omega) rfl rfl r_s32 ?_
       refine PW.assign rfl rfl rfl rfl rfl (PW.nil ?_)
       refine SX.blockN ?_
       refine SX.then (SC.region ?_)
       refine PW.q2 (x := .tmp 56) (y := .const (.int .i64 1)) (.int .i64 ((k + 1 : Nat))) rfl rfl rfl rfl rfl (fun ρ W h1 h2 => by exact r_add h1 h2 (by omega) (by have := hP.len; have := byl_len t; omega)) ?_
       refine PW.move rfl rfl rfl rfl rfl (PW.nil ?_)
       refine SX.back (k + 1, ys.set k ((at0 ys k * r + cc) % 4294967296), (at0 ys k * r + cc) / 4294967296) ?_ ?_ ?_
       ·exact (hJ.step (by decide) (by omega) h.1 h.2 rfl hP.dg)
       ·exact (show zs.length - (k + 1) < zs.length - k by omega)
       ·exact ⟨rfl, rfl, rfl, rfl, rfl, rfl, rfl, rfl, rfl, rfl, rfl, rfl, rfl, rfl, trivial⟩
      ·obtain rfl : k = zs.length := by have := hJ.le; omega
       refine SC.region ?_
       refine PW.q2 (x := .tmp 56) (y := .tmp 55) (.bool false) rfl rfl rfl rfl rfl (fun ρ W h1 h2 => by exact r_lt h1 h2 (decide_eq_false hk)) ?_
       refine PW.nil (SX.then (SC.seq (SC.cond (t := false) rfl (SC.exit (SX.thenE (SX.thenE (SX.blockE (SX.then (SC.seq ?_)))))))))
       by_cases hc : 0 < cc
       ·refine SC.region ?_
        refine PW.move rfl rfl rfl rfl rfl ?_
        refine PW.q2 (x := .tmp 76) (y := .const (.int .u64 0)) (.bool true) rfl rfl rfl rfl rfl (fun ρ W h1 h2 => by exact r_gt6 h1 h2 (decide_eq_true hc)) ?_
        refine PW.nil (SX.then (SC.cond (t := true) rfl (SC.region (PW.move rfl rfl rfl rfl rfl (PW.move rfl rfl rfl rfl rfl ?_)))))
        refine PW.q1 (x := .tmp 79) (.int .u32 (cc)) rfl rfl rfl rfl (fun ρ W h1 => by exact r_32z h1 (by have := hJ.c0; have := hJ.c1; omega)) ?_
        refine PW.app (K := 87) (f := .int .u32) [(cc)] rfl rfl rfl (fun a W hf => r_b1 (hf.vl (s := 80) rfl)) rfl rfl rfl rfl rfl rfl rfl rfl Tryz.underlying22 info_u32 rfl (fun _ => rfl) (by have l1 := hJ.len; have l2 := hP.len; have l3 := byl_len t; have l4 := hP.le; unfold maxLen; show _ + 1 ≤ _; omega) (by have l1 := hJ.len; have l2 := hP.len; have l3 := byl_len t; have l4 := hP.le; show (_ + 1) * 4 ≤ _; omega) rfl fun vq2 uq2 => ?_
        refine PW.assign rfl rfl rfl rfl rfl (PW.nil ?_)
        refine SX.blockN ?_
        refine SX.then (SC.region ?_)
        refine PW.q2 (x := .tmp 41) (y := .const (.int .i64 1)) (.int .i64 ((i + 1 : Nat))) rfl rfl rfl rfl rfl (fun ρ W h1 h2 => by exact r_add h1 h2 (by omega) (by omega)) ?_
        refine PW.move rfl rfl rfl rfl rfl (PW.nil ?_)
        refine SX.back (i + 1, vq2, ys ++ [(cc)]) ?_ ?_ ?_
        ·exact (hP.yes (by decide) (by rw [byl_len]; omega) (by omega) hJ)
        ·exact (show t.size - (i + 1) < t.size - i by omega)
        ·exact ⟨rfl, rfl, rfl, rfl, rfl, rfl, rfl, rfl, rfl, trivial⟩
       ·obtain rfl : cc = 0 := by have := hJ.c0; omega
        refine SC.region (PW.move rfl rfl rfl rfl rfl ?_)
        refine PW.q2 (x := .tmp 76) (y := .const (.int .u64 0)) (.bool false) rfl rfl rfl rfl rfl (fun ρ W h1 h2 => by exact r_gt6 h1 h2 (decide_eq_false hc)) ?_
        refine PW.nil (SX.then (SC.cond (t := false) rfl (SC.skip ?_)))
        refine SX.blockN ?_
        refine SX.then (SC.region ?_)
        refine PW.q2 (x := .tmp 41) (y := .const (.int .i64 1)) (.int .i64 ((i + 1 : Nat))) rfl rfl rfl rfl rfl (fun ρ W h1 h2 => by exact r_add h1 h2 (by omega) (by omega)) ?_
        refine PW.move rfl rfl rfl rfl rfl (PW.nil ?_)
        refine SX.back (i + 1, v, ys) ?_ ?_ ?_
        ·exact (hP.no (by rw [byl_len]; omega) (by omega) hJ)
        ·exact (show t.size - (i + 1) < t.size - i by omega)
        ·exact ⟨rfl, rfl, rfl, rfl, rfl, rfl, rfl, rfl, rfl, trivial⟩
    ·obtain rfl : i = t.size := by have := hP.le; have := byl_len t; omega
     refine SC.region ?_
     refine PW.q2 (x := .tmp 41) (y := .tmp 40) (.bool false) rfl rfl rfl rfl rfl (fun ρ W h1 h2 => by exact r_lt h1 h2 (decide_eq_false hi)) ?_
     refine PW.nil (SX.then (SC.seq (SC.cond (t := false) rfl (SC.exit (SX.thenE (SX.thenE (SX.blockE (SX.then (SC.seq (SC.region (PW.move rfl rfl rfl rfl rfl (PW.move rfl rfl rfl rfl rfl ?_))))))))))))
     refine PW.callG (r := .kw (KI (sg false (pv r 0 (byl t))))) ce_made rfl rfl rfl rfl rfl (KI.st _) rfl (fun a W hf => by have h1 := hf.vl (s := 84) rfl; have h2 := hf.vl (s := 85) rfl; have own : OwF W _ _ (.int .u32) v zs := hf.ho 87 _ rfl; obtain ⟨A4, c4, e4, hc4, rd4⟩ := Own.rd own; show Calls Tryz.prog _ #[a.tmps.getD 84 undef, a.tmps.getD 85 undef] W _; rw [h1, h2, e4, show pv r 0 (byl t) = lv b32 zs by rw [hP.lv, List.take_of_length_le (by rw [byl_len]; exact Nat.le_refl _)]]; exact made_k rd4 hc4 hP.dg) ?_
     refine PW.store (x := .tmp 86) (r := .kw (KI (sg false (pv r 0 (byl t))))) rfl rfl rfl rfl rfl rfl sh_I ?_
     refine PW.assign rfl rfl rfl rfl rfl (PW.nil (SX.then (SC.ret ?_)))
     rw [form_ok (by rw [byl_len]; exact he) (fun j hj => hP.ok j (by rw [byl_len] at hj; exact hj))]
     rw [show decide (at0 (byl s) 0 = 45) = false by exact decide_eq_false (fun h9 => hm ⟨pos_of_at0 h9 (by decide), h9⟩)]
     exact SX.done2 (s := 4) (t := 5) (r := .vl (.int .i64 0)) (.inl rfl) rfl rfl rfl rfl
  ·refine SC.region ?_
   refine PW.move rfl rfl rfl rfl rfl (PW.move rfl rfl rfl rfl rfl (PW.move rfl rfl rfl rfl rfl ?_))
   refine PW.call (r := .vl (.bool false)) rfl rfl rfl rfl rfl rfl (KV.st _) rfl (k_hasPrefix s ⟨#[43]⟩ ((pre_one s 43).trans (decide_eq_false hp))) ?_
   refine PW.pick (t := false) rfl rfl rfl rfl rfl rfl ?_
   refine PW.nil (SX.then (SC.cond (t := false) rfl (SC.skip (SX.then (SC.seq (SC.seq ?_))))))
   obtain ⟨t, ht⟩ : ∃ t, t = s := ⟨_, rfl⟩
   subst ht
   have htl : t.size ≤ 20000 := by omega
   rw [parse_form (b := byl t) h (by rw [byl_len]; omega) ((if_neg (fun h9 => h9.elim (fun h9 => hm ⟨pos_of_at0 h9 (by decide), h9⟩) (fun h9 => hp ⟨pos_of_at0 h9 (by decide), h9⟩))).symm)]
   by_cases he : t.size = 0
   ·refine SC.region ?_
    refine PW.move rfl rfl rfl rfl rfl ?_
    refine PW.q2 (x := .tmp 36) (y := .const (.string ⟨#[]⟩)) (.bool true) rfl rfl rfl rfl rfl (fun ρ W h1 h2 => by exact r_seq h1 h2 ((empty_eq t).trans (decide_eq_true he))) ?_
    refine PW.nil (SX.then (SC.cond (t := true) rfl (SC.seq (SC.region ?_))))
    refine PW.val (r := .kw (KI (0))) rfl rfl rfl rfl (fun a W hf => ⟨.agg #[.bool false, .slice none 0 0], by go_simp, zeroI _ w W⟩) ?_
    refine PW.store (x := .tmp 38) (r := .kw (KI (0))) rfl rfl rfl rfl rfl rfl sh_I ?_
    refine PW.assign rfl rfl rfl rfl rfl (PW.nil (SX.then (SC.ret (SX.thenR ?_))))
    rw [form_empty (z := 0) (by rw [byl_len]; exact he)]
    exact SX.done2 (s := 4) (t := 5) (r := .vl (.int .i64 2)) (.inl rfl) rfl rfl rfl rfl
   ·refine SC.region ?_
    refine PW.move rfl rfl rfl rfl rfl ?_
    refine PW.q2 (x := .tmp 36) (y := .const (.string ⟨#[]⟩)) (.bool false) rfl rfl rfl rfl rfl (fun ρ W h1 h2 => by exact r_seq h1 h2 ((empty_eq t).trans (decide_eq_false he))) ?_
    refine PW.nil (SX.then (SC.cond (t := false) rfl (SC.skip (SX.then (SC.seq (SC.region (PW.assign rfl rfl rfl rfl rfl (PW.nil (SX.then (SC.seq (SC.seq (SC.region (PW.move rfl rfl rfl rfl rfl ?_)))))))))))))
    refine PW.qn [(.tmp 39, .string t)] (.int .i64 (t.size : Int)) rfl rfl rfl ⟨rfl, trivial⟩ (fun ρ W h => by obtain ⟨h1, _⟩ := h; exact r_slen h1) ?_
    refine PW.move rfl rfl rfl rfl rfl (PW.nil (SX.then (SC.block ?_)))
    refine SC.weak (fun a W hf => Fr.nilrow 87 140 (.int .u32) hf) ?_
    refine SC.loop (S := Nat × Value × List Int) (fun ⟨i, v, zs⟩ => [(0, .vl (.string t)), (1, .vl (.int .i64 (r))), (4, .nb (BI 31)), (5, .vl (.int .i64 0)), (6, .vl (.bool false)), (7, .vl (v)), (40, .vl (.int .i64 (t.size : Int))), (41, .vl (.int .i64 (i : Int))), (87, .ro (v) 140 (.int .u32) (zs))]) (fun ⟨i, v, zs⟩ => PrI b32 r (byl t) i zs) (fun ⟨i, v, zs⟩ => t.size - i) (0, .slice none 0 0, []) (PrI.start b32 r (byl t)) ⟨rfl, rfl, rfl, rfl, rfl, rfl, rfl, rfl, rfl, trivial⟩ ?_
    rintro ⟨i, v, zs⟩ hP
    show SC _ _ _ _ [(0, .vl (.string t)), (1, .vl (.int .i64 (r))), (4, .nb (BI 31)), (5, .vl (.int .i64 0)), (6, .vl (.bool false)), (7, .vl (v)), (40, .vl (.int .i64 (t.size : Int))), (41, .vl (.int .i64 (i : Int))), (87, .ro (v) 140 (.int .u32) (zs))] _
    refine SC.seq ?_
    by_cases hi : (i : Int) < (t.size : Int)
    ·refine SC.region ?_
     refine PW.q2 (x := .tmp 41) (y := .tmp 40) (.bool true) rfl rfl rfl rfl rfl (fun ρ W h1 h2 => by exact r_lt h1 h2 (decide_eq_true hi)) ?_
     refine PW.nil (SX.then (SC.seq (SC.cond (t := true) rfl (SC.skip (SX.then (SC.seq (SC.block (SC.seq (SC.region (PW.move rfl rfl rfl rfl rfl (PW.assign rfl rfl rfl rfl rfl (PW.nil ?_))))))))))))
     refine SX.then (SC.seq (SC.region (PW.move rfl rfl rfl rfl rfl (PW.move rfl rfl rfl rfl rfl ?_))))
     refine PW.qn [(.tmp 44, .string t), (.tmp 45, .int .i64 (i : Int))] (.int .u8 (at0 (byl t) i)) rfl rfl rfl ⟨rfl, rfl, trivial⟩ (fun ρ W h => by obtain ⟨h1, h2, _⟩ := h; exact r_sidx h1 h2 (by omega)) ?_
     refine PW.call (r := .vl (.int .i64 (dv (at0 (byl t) i)))) rfl rfl rfl rfl rfl rfl (KV.st _) rfl (k_value (byl_byte t i).1 (byl_byte t i).2) ?_
     refine PW.assign rfl rfl rfl rfl rfl (PW.nil (SX.then (SC.seq (SC.seq ?_))))
     by_cases hd : dv (at0 (byl t) i) ≥ r
     ·refine SC.region ?_
      refine PW.move rfl rfl rfl rfl rfl (PW.move rfl rfl rfl rfl rfl ?_)
      refine PW.q2 (x := .tmp 48) (y := .tmp 49) (.bool true) rfl rfl rfl rfl rfl (fun ρ W h1 h2 => by exact r_ge h1 h2 (decide_eq_true hd)) ?_
      refine PW.nil (SX.then (SC.cond (t := true) rfl (SC.seq (SC.region ?_))))
      refine PW.val (r := .kw (KI (0))) rfl rfl rfl rfl (fun a W hf => ⟨.agg #[.bool false, .slice none 0 0], by go_simp, zeroI _ w W⟩) ?_
      refine PW.store (x := .tmp 51) (r := .kw (KI (0))) rfl rfl rfl rfl rfl rfl sh_I ?_
      refine PW.assign rfl rfl rfl rfl rfl (PW.nil (SX.then (SC.ret (SX.thenR (SX.blockR (SX.thenR (SX.thenR (SX.blockR (SX.thenR ?_)))))))))
      rw [form_bad (i := i) (by rw [byl_len]; omega) hd]
      exact SX.done2 (s := 4) (t := 5) (r := .vl (.int .i64 2)) (.inl rfl) rfl rfl rfl rfl
     ·refine SC.region ?_
      refine PW.move rfl rfl rfl rfl rfl (PW.move rfl rfl rfl rfl rfl ?_)
      refine PW.q2 (x := .tmp 48) (y := .tmp 49) (.bool false) rfl rfl rfl rfl rfl (fun ρ W h1 h2 => by exact r_ge h1 h2 (decide_eq_false hd)) ?_
      refine PW.nil (SX.then (SC.cond (t := false) rfl (SC.skip (SX.then (SC.seq (SC.region (PW.move rfl rfl rfl rfl rfl ?_)))))))
      refine PW.q1 (x := .tmp 52) (.int .u64 (dv (at0 (byl t) i))) rfl rfl rfl rfl (fun ρ W h1 => by exact r_i64u h1 (by have := dv_le (at0 (byl t) i); omega)) ?_
      refine PW.assign rfl rfl rfl rfl rfl (PW.nil (SX.then (SC.seq (SC.seq (SC.region (PW.move rfl rfl rfl rfl rfl ?_))))))
      refine PW.rlen (s := 54) 87 rfl rfl rfl rfl rfl (fun ρ W A c h => r_len h) ?_
      refine PW.move rfl rfl rfl rfl rfl (PW.nil (SX.then (SC.block ?_)))
      refine SC.loop (S := Nat × List Int × Int) (fun ⟨k, ys, cc⟩ => [(0, .vl (.string t)), (1, .vl (.int .i64 (r))), (4, .nb (BI 31)), (5, .vl (.int .i64 0)), (6, .vl (.bool false)), (7, .vl (v)), (8, .vl (.int .i64 (i : Int))), (10, .vl (.int .u64 (cc))), (40, .vl (.int .i64 (t.size : Int))), (41, .vl (.int .i64 (i : Int))), (54, .vl (v)), (55, .vl (.int .i64 (zs.length : Int))), (56, .vl (.int .i64 (k : Int))), (87, .ro (v) 140 (.int .u32) (ys))]) (fun ⟨k, ys, cc⟩ => PrJ b32 r (dv (at0 (byl t) i)) zs k ys cc) (fun ⟨k, ys, cc⟩ => zs.length - k) (0, zs, dv (at0 (byl t) i)) (PrJ.start hP.dg (dv_le _).1 (dv_le _).2) ⟨rfl, rfl, rfl, rfl, rfl, rfl, rfl, rfl, rfl, rfl, rfl, rfl, rfl, rfl, trivial⟩ ?_
      rintro ⟨k, ys, cc⟩ hJ
      show SC _ _ _ _ [(0, .vl (.string t)), (1, .vl (.int .i64 (r))), (4, .nb (BI 31)), (5, .vl (.int .i64 0)), (6, .vl (.bool false)), (7, .vl (v)), (8, .vl (.int .i64 (i : Int))), (10, .vl (.int .u64 (cc))), (40, .vl (.int .i64 (t.size : Int))), (41, .vl (.int .i64 (i : Int))), (54, .vl (v)), (55, .vl (.int .i64 (zs.length : Int))), (56, .vl (.int .i64 (k : Int))), (87, .ro (v) 140 (.int .u32) (ys))] _
      refine SC.seq ?_
      by_cases hk : (k : Int) < (zs.length : Int)
      ·refine SC.region ?_
       refine PW.q2 (x := .tmp 56) (y := .tmp 55) (.bool true) rfl rfl rfl rfl rfl (fun ρ W h1 h2 => by exact r_lt h1 h2 (decide_eq_true hk)) ?_
       refine PW.nil (SX.then (SC.seq (SC.cond (t := true) rfl (SC.skip (SX.then (SC.seq (SC.block (SC.seq (SC.region (PW.move rfl rfl rfl rfl rfl ?_))))))))))
       refine PW.ridx (i := k) 87 rfl rfl rfl rfl rfl rfl rfl (by have := hJ.len; omega) (fun ρ W g c h1 h2 => r_idx h1 h2 (by have := hJ.len; omega)) ?_
       refine PW.rget (i := k) 87 rfl rfl rfl rfl rfl rfl (by have := hJ.len; omega) r_l32 ?_
       refine PW.assign rfl rfl rfl rfl rfl (PW.assign rfl rfl rfl rfl rfl (PW.nil (SX.then (SC.seq (SC.region (PW.move rfl rfl rfl rfl rfl ?_))))))
       refine PW.q1 (x := .tmp 61) (.int .u64 (at0 ys k)) rfl rfl rfl rfl (fun ρ W h1 => by exact r_64 h1 (dg32 hJ.dg k)) ?_
       refine PW.move rfl rfl rfl rfl rfl ?_
       refine PW.q1 (x := .tmp 63) (.int .u64 (r)) rfl rfl rfl rfl (fun ρ W h1 => by exact r_i64u h1 (by omega)) ?_
       refine PW.q2 (x := .tmp 62) (y := .tmp 64) (.int .u64 (at0 ys k * r)) rfl rfl rfl rfl rfl (fun ρ W h1 h2 => by exact r_mul6 h1 h2 rfl (mulr (dg32 hJ.dg k) h)) ?_
       refine PW.move rfl rfl rfl rfl rfl ?_
       refine PW.q2 (x := .tmp 65) (y := .tmp 66) (.int .u64 (at0 ys k * r + cc)) rfl rfl rfl rfl rfl (fun ρ W h1 h2 => by exact r_add6 h1 h2 rfl (addr (dg32 hJ.dg k) h hJ.c0 hJ.c1)) ?_
       refine PW.assign rfl rfl rfl rfl rfl (PW.nil (SX.then (SC.region (PW.move rfl rfl rfl rfl rfl (PW.move rfl rfl rfl rfl rfl (PW.move rfl rfl rfl rfl rfl ?_))))))
       refine PW.q1 (x := .tmp 70) (.int .u32 ((at0 ys k * r + cc) % 4294967296)) rfl rfl rfl rfl (fun ρ W h1 => by exact r_32 h1) ?_
       refine PW.move rfl rfl rfl rfl rfl ?_
       refine PW.q2 (x := .tmp 72) (y := .const (.int .u64 32)) (.int .u64 ((at0 ys k * r + cc) / 4294967296)) rfl rfl rfl rfl rfl (fun ρ W h1 h2 => by exact r_dn32 h1 h2) ?_
       refine PW.ridx (i := k) 87 rfl rfl rfl rfl rfl rfl rfl (by have := hJ.len; omega) (fun ρ W g c h1 h2 => r_idx h1 h2 (by have := hJ.len; omega)) ?_
       refine PW.rput (i := k) (x := .tmp 71) (((at0 ys k * r + cc) % 4294967296)) 87 rfl rfl rfl rfl rfl (by have := hJ.len; omega) rfl rfl r_s32 ?_
       refine PW.assign rfl rfl rfl rfl rfl (PW.nil ?_)
       refine SX.blockN ?_
       refine SX.then (SC.region ?_)
       refine PW.q2 (x := .tmp 56) (y := .const (.int .i64 1)) (.int .i64 ((k + 1 : Nat))) rfl rfl rfl rfl rfl (fun ρ W h1 h2 => by exact r_add h1 h2 (by omega) (by have := hP.len; have := byl_len t; omega)) ?_
       refine PW.move rfl rfl rfl rfl rfl (PW.nil ?_)
       refine SX.back (k + 1, ys.set k ((at0 ys k * r + cc) % 4294967296), (at0 ys k * r + cc) / 4294967296) ?_ ?_ ?_
       ·exact (hJ.step (by decide) (by omega) h.1 h.2 rfl hP.dg)
       ·exact (show zs.length - (k + 1) < zs.length - k by omega)
       ·exact ⟨rfl, rfl, rfl, rfl, rfl, rfl, rfl, rfl, rfl, rfl, rfl, rfl, rfl, rfl, trivial⟩
      ·obtain rfl : k = zs.length := by have := hJ.le; omega
       refine SC.region ?_
       refine PW.q2 (x := .tmp 56) (y := .tmp 55) (.bool false) rfl rfl rfl rfl rfl (fun ρ W h1 h2 => by exact r_lt h1 h2 (decide_eq_false hk)) ?_
       refine PW.nil (SX.then (SC.seq (SC.cond (t := false) rfl (SC.exit (SX.thenE (SX.thenE (SX.blockE (SX.then (SC.seq ?_)))))))))
       by_cases hc : 0 < cc
       ·refine SC.region ?_
        refine PW.move rfl rfl rfl rfl rfl ?_
        refine PW.q2 (x := .tmp 76) (y := .const (.int .u64 0)) (.bool true) rfl rfl rfl rfl rfl (fun ρ W h1 h2 => by exact r_gt6 h1 h2 (decide_eq_true hc)) ?_
        refine PW.nil (SX.then (SC.cond (t := true) rfl (SC.region (PW.move rfl rfl rfl rfl rfl (PW.move rfl rfl rfl rfl rfl ?_)))))
        refine PW.q1 (x := .tmp 79) (.int .u32 (cc)) rfl rfl rfl rfl (fun ρ W h1 => by exact r_32z h1 (by have := hJ.c0; have := hJ.c1; omega)) ?_
        refine PW.app (K := 87) (f := .int .u32) [(cc)] rfl rfl rfl (fun a W hf => r_b1 (hf.vl (s := 80) rfl)) rfl rfl rfl rfl rfl rfl rfl rfl Tryz.underlying22 info_u32 rfl (fun _ => rfl) (by have l1 := hJ.len; have l2 := hP.len; have l3 := byl_len t; have l4 := hP.le; unfold maxLen; show _ + 1 ≤ _; omega) (by have l1 := hJ.len; have l2 := hP.len; have l3 := byl_len t; have l4 := hP.le; show (_ + 1) * 4 ≤ _; omega) rfl fun vq3 uq3 => ?_
        refine PW.assign rfl rfl rfl rfl rfl (PW.nil ?_)
        refine SX.blockN ?_
        refine SX.then (SC.region ?_)
        refine PW.q2 (x := .tmp 41) (y := .const (.int .i64 1)) (.int .i64 ((i + 1 : Nat))) rfl rfl rfl rfl rfl (fun ρ W h1 h2 => by exact r_add h1 h2 (by omega) (by omega)) ?_
        refine PW.move rfl rfl rfl rfl rfl (PW.nil ?_)
        refine SX.back (i + 1, vq3, ys ++ [(cc)]) ?_ ?_ ?_
        ·exact (hP.yes (by decide) (by rw [byl_len]; omega) (by omega) hJ)
        ·exact (show t.size - (i + 1) < t.size - i by omega)
        ·exact ⟨rfl, rfl, rfl, rfl, rfl, rfl, rfl, rfl, rfl, trivial⟩
       ·obtain rfl : cc = 0 := by have := hJ.c0; omega
        refine SC.region (PW.move rfl rfl rfl rfl rfl ?_)
        refine PW.q2 (x := .tmp 76) (y := .const (.int .u64 0)) (.bool false) rfl rfl rfl rfl rfl (fun ρ W h1 h2 => by exact r_gt6 h1 h2 (decide_eq_false hc)) ?_
        refine PW.nil (SX.then (SC.cond (t := false) rfl (SC.skip ?_)))
        refine SX.blockN ?_
        refine SX.then (SC.region ?_)
        refine PW.q2 (x := .tmp 41) (y := .const (.int .i64 1)) (.int .i64 ((i + 1 : Nat))) rfl rfl rfl rfl rfl (fun ρ W h1 h2 => by exact r_add h1 h2 (by omega) (by omega)) ?_
        refine PW.move rfl rfl rfl rfl rfl (PW.nil ?_)
        refine SX.back (i + 1, v, ys) ?_ ?_ ?_
        ·exact (hP.no (by rw [byl_len]; omega) (by omega) hJ)
        ·exact (show t.size - (i + 1) < t.size - i by omega)
        ·exact ⟨rfl, rfl, rfl, rfl, rfl, rfl, rfl, rfl, rfl, trivial⟩
    ·obtain rfl : i = t.size := by have := hP.le; have := byl_len t; omega
     refine SC.region ?_
     refine PW.q2 (x := .tmp 41) (y := .tmp 40) (.bool false) rfl rfl rfl rfl rfl (fun ρ W h1 h2 => by exact r_lt h1 h2 (decide_eq_false hi)) ?_
     refine PW.nil (SX.then (SC.seq (SC.cond (t := false) rfl (SC.exit (SX.thenE (SX.thenE (SX.blockE (SX.then (SC.seq (SC.region (PW.move rfl rfl rfl rfl rfl (PW.move rfl rfl rfl rfl rfl ?_))))))))))))
     refine PW.callG (r := .kw (KI (sg false (pv r 0 (byl t))))) ce_made rfl rfl rfl rfl rfl (KI.st _) rfl (fun a W hf => by have h1 := hf.vl (s := 84) rfl; have h2 := hf.vl (s := 85) rfl; have own : OwF W _ _ (.int .u32) v zs := hf.ho 87 _ rfl; obtain ⟨A4, c4, e4, hc4, rd4⟩ := Own.rd own; show Calls Tryz.prog _ #[a.tmps.getD 84 undef, a.tmps.getD 85 undef] W _; rw [h1, h2, e4, show pv r 0 (byl t) = lv b32 zs by rw [hP.lv, List.take_of_length_le (by rw [byl_len]; exact Nat.le_refl _)]]; exact made_k rd4 hc4 hP.dg) ?_
     refine PW.store (x := .tmp 86) (r := .kw (KI (sg false (pv r 0 (byl t))))) rfl rfl rfl rfl rfl rfl sh_I ?_
     refine PW.assign rfl rfl rfl rfl rfl (PW.nil (SX.then (SC.ret ?_)))
     rw [form_ok (by rw [byl_len]; exact he) (fun j hj => hP.ok j (by rw [byl_len] at hj; exact hj))]
     rw [show decide (at0 (byl t) 0 = 45) = false by exact decide_eq_false (fun h9 => hm ⟨pos_of_at0 h9 (by decide), h9⟩)]
     exact SX.done2 (s := 4) (t := 5) (r := .vl (.int .i64 0)) (.inl rfl) rfl rfl rfl rfl
theorem k_parse {s : ByteArray} {r : Int} : CallOk 88 [KV (.string s), KV (.int .i64 (r))] (KPI (parseR r (byl s))) := by
 by_cases h : 2 ≤ r ∧ r ≤ 36
 ·by_cases hl : 20000 < s.size
  ·exact k_parse_long h hl
  ·exact k_parse_ok h hl
 ·exact k_parse_radix h
end Go.Proofs.YthpjmhhfcechmaaGreat.Sy
/- The reference's Digit, Parse by rules. -/
namespace Go.Proofs.YthpjmhhfcechmaaGreat.Sy
open Go Go.RowKit Ma
end Go.Proofs.YthpjmhhfcechmaaGreat.Sy
/- The reference's Floor, Shift by rules. -/
namespace Go.Proofs.YthpjmhhfcechmaaGreat.Sy
open Go Go.RowKit Ma
theorem fl0 {x y : Int} (h : x.tmod y = 0) : x / y = x.tdiv y := by
 have e := Int.mul_tdiv_add_tmod x y
 rw [h, Int.add_zero] at e
 by_cases hy : y = 0
 ·subst hy; simp
 ·have := Int.mul_ediv_cancel_left (x.tdiv y) hy
  rw [e] at this
  exact this
theorem fl1 {x y : Int} (hy : 0 < y) (hx : x < 0) (h : x.tmod y ≠ 0) : x / y = x.tdiv y - 1 := by
 have e := Int.mul_tdiv_add_tmod x y
 have h1 : x.tmod y = -((-x) % y) := by
  have := Int.tmod_eq_emod_of_nonneg (a := -x) (b := y) (by omega)
  rw [Int.neg_tmod] at this
  omega
 have h2 := Int.emod_nonneg (-x) (Int.ne_of_gt hy)
 have h3 := Int.emod_lt_of_pos (-x) hy
 have h4 : (x.tmod y + y) / y = 0 := Int.ediv_eq_zero_of_lt (by omega) (by omega)
 have h5 : (x.tmod y + y) / y = x.tmod y / y + 1 := Int.add_ediv_of_dvd_right (Int.dvd_refl y) |>.trans (by rw [Int.ediv_self (by omega)])
 have h6 := Int.add_mul_ediv_left (x.tmod y) (x.tdiv y) (show y ≠ 0 by omega)
 rw [Int.add_comm, e] at h6
 omega
theorem fl2 {x y : Int} (hx : ¬ x < 0) : x / y = x.tdiv y := (Int.tdiv_eq_ediv_of_nonneg (by omega)).symm
theorem ce_k_jfloor : CE 140 := fun args W => by go_simp
set_option maxHeartbeats 3200000 in
set_option maxRecDepth 100000 in
theorem k_jfloor {x y : Int} {a b : Nat} (X : bd a x) (Y : bd b y) (ha : a ≤ 300000) (hb : b ≤ 300000) (hy : 0 < y) : CallOk 140 [KJ (x), KJ (y)] (KJ (x / y)) := by
 have ny : ¬ y < 0 := by omega
 refine CallOk.enter (l := [.kw (KJ (x)), .kw (KJ (y))]) 29 ce_k_jfloor Tryz.func140 rfl Tryz.ntmps140 (by simp) ⟨(KJ.st _), rfl, (KJ.st _), rfl, trivial⟩ fun w => ?_
 refine SC.seq (SC.region ?_)
 refine PW.box (x := .tmp 0) (r := .kw (KJ (x))) (BI 34) rfl rfl rfl rfl rfl bJ rfl sh_J ?_
 refine PW.box (x := .tmp 1) (r := .kw (KJ (y))) (BI 34) rfl rfl rfl rfl rfl bJ rfl sh_J ?_
 refine PW.alloc (BI 34) rfl rfl rfl rfl rfl bJ ?_
 refine PW.nil (SX.then (SC.seq (SC.region ?_)))
 refine PW.load rfl rfl rfl rfl rfl rfl ?_
 refine PW.load rfl rfl rfl rfl rfl rfl ?_
 refine PW.call (r := .kw (K3 (KJ (x.tdiv y)) (KJ (x.tmod y)) (KV (.int .i64 0)))) rfl rfl rfl rfl rfl rfl (K3.st (KJ.st _) (KJ.st _) (KV.st _)) rfl (k_jdiv X Y (by omega) (by omega) (by omega)) ?_
 refine PW.move rfl rfl rfl rfl rfl ?_
 refine PW.ext (r := .kw (KJ (x.tdiv y))) rfl rfl rfl rfl rfl ex30 (KJ.st _) rfl ?_
 refine PW.ext (r := .kw (KJ (x.tmod y))) rfl rfl rfl rfl rfl ex31 (KJ.st _) rfl ?_
 refine PW.ext (r := .vl (.int .i64 0)) rfl rfl rfl rfl rfl ex32v (KV.st _) rfl ?_
 refine PW.alloc (BI 34) rfl rfl rfl rfl rfl bJ ?_
 refine PW.alloc (BI 34) rfl rfl rfl rfl rfl bJ ?_
 refine PW.store (x := .tmp 12) (r := .kw (KJ (x.tdiv y))) rfl rfl rfl rfl rfl rfl sh_J ?_
 refine PW.store (x := .tmp 13) (r := .kw (KJ (x.tmod y))) rfl rfl rfl rfl rfl rfl sh_J ?_
 refine PW.assign rfl rfl rfl rfl rfl (PW.nil (SX.then (SC.seq (SC.seq ?_))))
 by_cases hr : x.tmod y = 0
 ·refine SC.region ?_
  refine PW.load rfl rfl rfl rfl rfl rfl ?_
  refine PW.call (r := .vl (.int .i64 (sgn (x.tmod y)))) rfl rfl rfl rfl rfl rfl (KV.st _) rfl (k_jsign rfl) ?_
  refine PW.q2 (x := .tmp 16) (y := .const (.int .i64 0)) (.bool false) rfl rfl rfl rfl rfl (fun ρ W h1 h2 => by exact r_neF h1 h2 (by rw [hr]; rfl)) ?_
  refine PW.move rfl rfl rfl rfl rfl ?_
  refine PW.skip rfl rfl rfl ?_
  refine PW.skip rfl rfl rfl ?_
  refine PW.skip rfl rfl rfl ?_
  refine PW.skip rfl rfl rfl ?_
  refine PW.skip rfl rfl rfl ?_
  refine PW.pick (t := false) rfl rfl rfl rfl rfl rfl ?_
  refine PW.nil (SX.then (SC.cond (t := false) rfl (SC.skip (SX.then (SC.seq (SC.region ?_))))))
  refine PW.load rfl rfl rfl rfl rfl rfl ?_
  refine PW.store (x := .tmp 28) (r := .kw (KJ (x.tdiv y))) rfl rfl rfl rfl rfl rfl sh_J ?_
  refine PW.nil (SX.then (SC.ret ?_))
  have hz : x / y = x.tdiv y := fl0 hr
  rw [hz]
  exact SX.doneC (s := 4) (.inl rfl) rfl rfl rfl
 ·by_cases nx : x < 0
  ·refine SC.region ?_
   refine PW.load rfl rfl rfl rfl rfl rfl ?_
   refine PW.call (r := .vl (.int .i64 (sgn (x.tmod y)))) rfl rfl rfl rfl rfl rfl (KV.st _) rfl (k_jsign rfl) ?_
   refine PW.q2 (x := .tmp 16) (y := .const (.int .i64 0)) (.bool true) rfl rfl rfl rfl rfl (fun ρ W h1 h2 => by exact r_neT h1 h2 (sgn_ne hr)) ?_
   refine PW.move rfl rfl rfl rfl rfl ?_
   refine PW.fld (r := .vl (.bool true)) rfl rfl rfl rfl rfl rfl rfl rfl rfl rfl rfl (fldJ0 (decide_eq_true nx)) (KV.st _) ?_
   refine PW.fld (r := .vl (.bool false)) rfl rfl rfl rfl rfl rfl rfl rfl rfl rfl rfl (fldJ0 (decide_eq_false ny)) (KV.st _) ?_
   refine PW.q2 (x := .tmp 20) (y := .tmp 22) (.bool true) rfl rfl rfl rfl rfl (fun ρ W h1 h2 => by go_simp) ?_
   refine PW.pick (t := true) rfl rfl rfl rfl rfl rfl ?_
   refine PW.nil (SX.then (SC.cond (t := true) rfl (SC.seq ?_)))
   refine SC.dx [.val 25 (.kw (KJ (x.tdiv y))), .val 26 (.kw (KJ (1))), .val 27 (.kw (KJ ((x.tdiv y) - 1))), .put 4 (BI 34) (.kw (KJ ((x.tdiv y) - 1)))] [([], [5]), ([], []), ([0, 1], []), ([2], [4])] rfl (by kernel_rfl) (by kernel_rfl) (by kernel_rfl) rfl ⟨?_, ?_, ?_, ?_, trivial⟩ ?_
   ·exact DX.load rfl rfl rfl rfl rfl rfl
   ·exact DX.call (r := .kw (KJ (1))) rfl rfl rfl rfl rfl rfl (KJ.st _) rfl (k_jnew (by decide))
   ·exact DX.call (r := .kw (KJ ((x.tdiv y) - 1))) rfl rfl rfl rfl rfl rfl (KJ.st _) rfl (k_jsub ((X).tdiv) (bd.lit (by decide)) (by omega) (by omega))
   ·exact DX.store (x := .tmp 27) (r := .kw (KJ ((x.tdiv y) - 1))) rfl rfl rfl rfl rfl rfl sh_J
   refine SX.then (SC.ret (SX.thenR ?_))
   have hz : x / y = (x.tdiv y) - 1 := fl1 hy nx hr
   rw [hz]
   exact SX.doneC (s := 4) (.inl rfl) rfl rfl rfl
  ·refine SC.region ?_
   refine PW.load rfl rfl rfl rfl rfl rfl ?_
   refine PW.call (r := .vl (.int .i64 (sgn (x.tmod y)))) rfl rfl rfl rfl rfl rfl (KV.st _) rfl (k_jsign rfl) ?_
   refine PW.q2 (x := .tmp 16) (y := .const (.int .i64 0)) (.bool true) rfl rfl rfl rfl rfl (fun ρ W h1 h2 => by exact r_neT h1 h2 (sgn_ne hr)) ?_
   refine PW.move rfl rfl rfl rfl rfl ?_
   refine PW.fld (r := .vl (.bool false)) rfl rfl rfl rfl rfl rfl rfl rfl rfl rfl rfl (fldJ0 (decide_eq_false nx)) (KV.st _) ?_
   refine PW.fld (r := .vl (.bool false)) rfl rfl rfl rfl rfl rfl rfl rfl rfl rfl rfl (fldJ0 (decide_eq_false ny)) (KV.st _) ?_
   refine PW.q2 (x := .tmp 20) (y := .tmp 22) (.bool false) rfl rfl rfl rfl rfl (fun ρ W h1 h2 => by go_simp) ?_
   refine PW.pick (t := true) rfl rfl rfl rfl rfl rfl ?_
   refine PW.nil (SX.then (SC.cond (t := false) rfl (SC.skip (SX.then (SC.seq (SC.region ?_))))))
   refine PW.load rfl rfl rfl rfl rfl rfl ?_
   refine PW.store (x := .tmp 28) (r := .kw (KJ (x.tdiv y))) rfl rfl rfl rfl rfl rfl sh_J ?_
   refine PW.nil (SX.then (SC.ret ?_))
   have hz : x / y = x.tdiv y := fl2 nx
   rw [hz]
   exact SX.doneC (s := 4) (.inl rfl) rfl rfl rfl
end Go.Proofs.YthpjmhhfcechmaaGreat.Sy
/- The reference's Text by rules. -/
namespace Go.Proofs.YthpjmhhfcechmaaGreat.Sy
open Go Go.RowKit Ma
end Go.Proofs.YthpjmhhfcechmaaGreat.Sy
