/- Parts Syi, Mb, Lm, Lr, Syj, Ja, Pwm, Jf, Syk, Syl, Jk, Ls, Jd, Jb, Jh, Je, So, Ln, Lg, Ld, Sd, Jg, Syn, in one file. -/
import Derived.IntWalk
import Derived.Maps.AppendAt
import Derived.Laws.OwnMore
import Derived.OwnWalk
import Derived.Test.YtcgkgcciogibkaaLTexts1
import Derived.Test.YtcgkgcciogibkaaLTexts2
import Derived.Test.YtcgkgcciogibkaaLTexts3
import Derived.Test.YtcgkgcciogibkaaLTexts4
/- A walk by rules: operations on numbers and rows, each said once. -/
set_option linter.unusedVariables false
set_option linter.unusedSimpArgs false
namespace Go.Proofs.Ytcgkgcciogibkaa.Sy
open Go Go.RowKit Ma
section
variable {x y : Operand} {dst : Option Tmp} {ty : TypeId} {pos : String} {after : Array Edge} {guard : Option (Nat × Bool)} {ρ : Operand → Value} {W : World} {a b c : Int}
theorem r_idx {g n cap i : Nat} (h1 : ρ x = .slice (some ⟨g, 0, none⟩) n cap) (h2 : ρ y = .int .i64 (i : Int)) (hi : i < n) : (execOp ρ ⟨dst, .indexAddr 22 x y, ty, pos, after, guard⟩).run Try.prog W = .ok (.value (.pointer (some ⟨g, i, none⟩))) W := by
  go_simp
theorem r_add {z : Int} (h1 : ρ x = .int .i64 a) (h2 : ρ y = .int .i64 b) (e : a + b = z) (hz : -9223372036854775808 ≤ z ∧ z < 9223372036854775808) : (execOp ρ ⟨dst, .binOp .add 3 x y 3, ty, pos, after, guard⟩).run Try.prog W = .ok (.value (.int .i64 z)) W := by
  subst e
  go_simp
  exact IntWalk.i64_in _ (by omega)
theorem r_sub {z : Int} (h1 : ρ x = .int .i64 a) (h2 : ρ y = .int .i64 b) (e : a - b = z) (hz : -9223372036854775808 ≤ z ∧ z < 9223372036854775808) : (execOp ρ ⟨dst, .binOp .sub 3 x y 3, ty, pos, after, guard⟩).run Try.prog W = .ok (.value (.int .i64 z)) W := by
  subst e
  go_simp
  exact IntWalk.i64_in _ (by omega)
theorem r_quo {z : Int} (h1 : ρ x = .int .i64 a) (h2 : ρ y = .int .i64 b) (e : a / b = z) (ha : 0 ≤ a ∧ a < 9223372036854775808) (hb : 0 < b) : (execOp ρ ⟨dst, .binOp .quo 3 x y 3, ty, pos, after, guard⟩).run Try.prog W = .ok (.value (.int .i64 z)) W := by
  subst e
  have e1 : a.tdiv b = a / b := Int.tdiv_eq_ediv_of_nonneg ha.1
  have e3 : a / b ≤ a := Int.ediv_le_self _ ha.1
  have e4 := Int.ediv_nonneg ha.1 (Int.le_of_lt hb)
  have e : IntKind.i64.wrap (a / b) = a / b := IntWalk.i64_in _ (by omega)
  have e2 : ¬ b = 0 := by omega
  clear ha hb e3 e4
  go_simp
  first | done | rw [if_neg e2, e1, e]
theorem r_rem {z : Int} (h1 : ρ x = .int .i64 a) (h2 : ρ y = .int .i64 b) (e : a % b = z) (ha : 0 ≤ a ∧ a < 9223372036854775808) (hb : 0 < b) : (execOp ρ ⟨dst, .binOp .rem 3 x y 3, ty, pos, after, guard⟩).run Try.prog W = .ok (.value (.int .i64 z)) W := by
  subst e
  have e1 : a.tmod b = a % b := Int.tmod_eq_emod_of_nonneg ha.1
  have e3 : a % b ≤ a := by have a1 := Int.mul_ediv_add_emod a b; have a2 := Int.mul_nonneg (Int.le_of_lt hb) (Int.ediv_nonneg ha.1 (Int.le_of_lt hb)); omega
  have e4 := Int.emod_nonneg a (Int.ne_of_gt hb)
  have e : IntKind.i64.wrap (a % b) = a % b := IntWalk.i64_in _ (by omega)
  have e2 : ¬ b = 0 := by omega
  clear ha hb e3 e4
  go_simp
  first | done | rw [if_neg e2, e1, e]
theorem r_mul {z : Int} (h1 : ρ x = .int .i64 a) (h2 : ρ y = .int .i64 b) (e : a * b = z) (hz : -9223372036854775808 ≤ z ∧ z < 9223372036854775808) : (execOp ρ ⟨dst, .binOp .mul 3 x y 3, ty, pos, after, guard⟩).run Try.prog W = .ok (.value (.int .i64 z)) W := by
  subst e
  have e : IntKind.i64.wrap (a * b) = a * b := IntWalk.i64_in _ (by omega)
  go_simp
  done
theorem r_lt {t : Bool} (h1 : ρ x = .int .i64 a) (h2 : ρ y = .int .i64 b) (e : decide (a < b) = t) : (execOp ρ ⟨dst, .binOp .lss 3 x y 3, ty, pos, after, guard⟩).run Try.prog W = .ok (.value (.bool t)) W := by
  subst e
  go_simp
theorem r_ge {t : Bool} (h1 : ρ x = .int .i64 a) (h2 : ρ y = .int .i64 b) (e : decide (a ≥ b) = t) : (execOp ρ ⟨dst, .binOp .geq 3 x y 3, ty, pos, after, guard⟩).run Try.prog W = .ok (.value (.bool t)) W := by
  subst e
  go_simp
theorem r_gt {t : Bool} (h1 : ρ x = .int .i64 a) (h2 : ρ y = .int .i64 b) (e : decide (a > b) = t) : (execOp ρ ⟨dst, .binOp .gtr 3 x y 3, ty, pos, after, guard⟩).run Try.prog W = .ok (.value (.bool t)) W := by
  subst e
  go_simp
theorem r_gt6 {t : Bool} (h1 : ρ x = .int .u64 a) (h2 : ρ y = .int .u64 b) (e : decide (a > b) = t) : (execOp ρ ⟨dst, .binOp .gtr 107 x y 107, ty, pos, after, guard⟩).run Try.prog W = .ok (.value (.bool t)) W := by
  subst e
  go_simp
theorem r_64 (h1 : ρ x = .int .u32 a) (h : 0 ≤ a ∧ a < 4294967296) : (execOp ρ ⟨dst, .convert 92 107 x, ty, pos, after, guard⟩).run Try.prog W = .ok (.value (.int .u64 a)) W := by
  have e : IntKind.u64.wrap a = a := IntWalk.u64_in _ (by omega)
  go_simp
  done
theorem r_32 (h1 : ρ x = .int .u64 a) : (execOp ρ ⟨dst, .convert 107 92 x, ty, pos, after, guard⟩).run Try.prog W = .ok (.value (.int .u32 (a % 4294967296))) W := by
  have e := IntKind.wrap_u32 a
  go_simp
  done
theorem r_add6 {z : Int} (h1 : ρ x = .int .u64 a) (h2 : ρ y = .int .u64 b) (ez : a + b = z) (h : 0 ≤ z ∧ z < 18446744073709551616) : (execOp ρ ⟨dst, .binOp .add 107 x y 107, ty, pos, after, guard⟩).run Try.prog W = .ok (.value (.int .u64 z)) W := by
  subst ez
  have e : IntKind.u64.wrap (a + b) = a + b := IntWalk.u64_in _ (by omega)
  go_simp
  done
theorem r_mul6 {z : Int} (h1 : ρ x = .int .u64 a) (h2 : ρ y = .int .u64 b) (ez : a * b = z) (h : 0 ≤ z ∧ z < 18446744073709551616) : (execOp ρ ⟨dst, .binOp .mul 107 x y 107, ty, pos, after, guard⟩).run Try.prog W = .ok (.value (.int .u64 z)) W := by
  subst ez
  have e : IntKind.u64.wrap (a * b) = a * b := IntWalk.u64_in _ (by omega)
  go_simp
  done
theorem r_32z {z : Int} (h1 : ρ x = .int .u64 a) (e : a % 4294967296 = z) : (execOp ρ ⟨dst, .convert 107 92 x, ty, pos, after, guard⟩).run Try.prog W = .ok (.value (.int .u32 z)) W := e ▸ r_32 h1
theorem r_dn32 (h1 : ρ x = .int .u64 a) (h2 : ρ y = .int .u64 32) : (execOp ρ ⟨dst, .binOp .shr 107 x y 108, ty, pos, after, guard⟩).run Try.prog W = .ok (.value (.int .u64 (a / 4294967296))) W := by
  go_simp
  done
theorem r_len {A : Option Addr} {n cap : Nat} (h1 : ρ x = .slice A n cap) : (execOp ρ ⟨dst, .call ⟨.builtin .len, #[x], #[22]⟩, ty, pos, after, guard⟩).run Try.prog W = .ok (.value (.int .i64 (n : Int))) W := by
  go_simp
  done
end
theorem r_l32 (W : World) (p : Addr) (x : Int) (h : W.cell? p = some (.int .u32 x)) : (Instr.loadAt 92 (.pointer (some p))).run Try.prog W = .ok (.int .u32 x) W := by
  go_simp
theorem r_s32 (W : World) (p : Addr) (x y : Int) (h : W.cell? p = some (.int .u32 x)) (hf : W.frozen? p = false) : (Instr.storeAt 92 (.pointer (some p)) (.int .u32 y)).run Try.prog W = .ok () (W.setCell p (.int .u32 y)) := by
  go_simp
section
variable {B N : Nat} {w0 : World} {ops : Array Oper} {o : Oper} {rest : List Oper} {fr : List (Nat × AV)} {Q : Exit → Act → World → Prop} {d : Nat}
theorem Fr.vl {a : Act} {W : World} {s : Nat} {v : Value} (h : Fr B N w0 fr a W) (hs : look fr s = some (.vl v)) : a.tmps.getD s undef = v := h.ho s _ hs
theorem Fr.rd {a : Act} {W : World} {K n c : Nat} {A : Option Addr} {e : TypeId} {k : IntKind} {zs : List Int} (h : Fr B N w0 fr a W) (hK : look fr K = some (.ro (.slice A n c) e (Value.int k) zs)) : Rd W k A zs ∧ zs.length ≤ c := by
  have ho : Own W B e k (.slice A n c) zs := h.ho K _ hK
  have h1 := ho.rdg
  exact ⟨h1.2.2, by omega⟩
/-- Known otherwise. -/
theorem PW.more (fr' : List (Nat × AV)) (h : ∀ a W, Fr B N w0 fr a W → Fr B N w0 fr' a W) (hk : PW B N w0 ops rest fr' Q) : PW B N w0 ops rest fr Q := fun a W hf => hk a W (h a W hf)
theorem Fr.more' {a : Act} {W : World} {i : Nat} {v : AV} (h : Fr B N w0 fr a W) (hu : Ho B v (a.tmps.getD i undef) W) (hn : ∀ j v' p, i ≠ j → look fr j = some v' → v.blk (a.tmps.getD i undef) = some p → v'.blk (a.tmps.getD j undef) ≠ some p) : Fr B N w0 ((i, v) :: fr) a W := by
  refine ⟨h.df, h.sz, h.be, h.bs, fun j x hj => ?_, fun j l b b' p hjl hj hl => ?_⟩
  · rw [look_cons] at hj
    by_cases e : i = j
    · rw [if_pos e] at hj; injection hj with hj; subst hj; subst e; exact hu
    · rw [if_neg e] at hj; exact h.ho j x hj
  · rw [look_cons] at hj hl
    by_cases e : i = j
    · have e' : i ≠ l := fun x => hjl (e.symm.trans x)
      rw [if_pos e] at hj
      rw [if_neg e'] at hl
      injection hj with hj
      subst hj e
      exact fun x => hn l b' p e' hl x
    · rw [if_neg e] at hj
      by_cases e' : i = l
      · rw [if_pos e'] at hl
        injection hl with hl
        subst hl e'
        exact fun x y => hn j b p e hj y x
      · rw [if_neg e'] at hl; exact h.di j l b b' p hjl hj hl
/-- A row whose topmost zeros are cut off. -/
theorem Fr.trims {a : Act} {W : World} {K n c : Nat} {A : Option Addr} {e : TypeId} {k : IntKind} {zs : List Int} (h : Fr B N w0 fr a W) (hK : look fr K = some (.ro (.slice A n c) e (Value.int k) zs)) : Fr B N w0 ((K, .ro (.slice A (trim zs).length c) e (Value.int k) (trim zs)) :: fr) a W :=
  h.more' (Own.trims (k := k) (h.ho K _ hK)) fun j v' p e hj e1 e2 => h.di K j _ v' p e hK hj (by cases A <;> exact e1) e2
/-- The beginning, in a world that is known. -/
theorem calls_sc {f : FuncId} {fn : Func} {c : Code} {l : List AV} {us : List Value} {R : Know} {w : World} (N : Nat) (hf : Try.prog.funcs[f]? = some fn) (hb : fn.body = some c) (hn : fn.ntmps = N) (hN : us.length ≤ N) (hu : AllA w.heap.size l us w)
    (h : SC w.heap.size N w c (ini 0 l) (bodyPost Try.prog fn (Ret w R))) : Calls Try.prog f us.toArray w (Ret w R) := by
  refine calls_of_wp hf hb ?_
  have := Fr.ini hu rfl (N - us.length) (N := N) (by omega)
  simp only [List.size_toArray, hn]
  exact h _ _ this
/-- A row grows, in its place or in a new one. -/
theorem Fr.rgrow {a : Act} {W W' : World} {K g0 : Nat} {v v' : Value} {e : TypeId} {f : Int → Value} {zs zs' : List Int} (h : Fr B N w0 fr a W) (hK : look fr K = some (.ro v e f zs)) (hc : calmB fr = true) (hgr : W.grownBy W' v.ownBlock) (hown : OwF W' B e f v' zs') (hat : v'.ownBlock = v.ownBlock ∨ v'.ownBlock = some g0) (hg0 : W.heap.size ≤ g0) : Fr B N w0 ((K, .ro v' e f zs') :: fr) a W' := by
  have ho : OwF W B e f v zs := h.ho K _ hK
  have keep : ∀ j x, K ≠ j → look fr j = some x → Ho B x (a.tmps.getD j undef) W' := fun j x e' hj => by
    cases hv : v.ownBlock with
    | none =>
      rw [hv] at hgr
      exact (h.ho j x hj).nw ⟨hgr.os, hgr.tape, hgr.output, hgr.size, fun k hk => hgr.block k hk (fun e => by cases e)⟩
    | some q =>
      rw [hv] at hgr
      exact Ho.calm (calm_look hc j x hj) (h.ho j x hj) hgr (h.di K j _ x q e' hK hj hv)
  have size : W.heap.size ≤ W'.heap.size := hgr.size
  refine ⟨h.df, h.sz, Below.grown h.be hgr h.bs (fun k e => ho.base k e), Nat.le_trans h.bs size, fun j x hj => ?_, fun j l x x' p hjl hj hl => ?_⟩
  · rw [look_cons] at hj
    by_cases e' : K = j
    · rw [if_pos e'] at hj
      injection hj with hj
      subst hj
      exact hown
    · rw [if_neg e'] at hj; exact keep j x e' hj
  · rw [look_cons] at hj hl
    have new : ∀ l x', K ≠ l → look fr l = some x' → v'.ownBlock = some p → x'.blk (a.tmps.getD l undef) ≠ some p := fun l x' hKl hl hp y => by
      rcases hat with h1 | h1
      · exact h.di K l _ x' p hKl hK hl (h1.symm.trans hp) y
      · have e1 : g0 = p := by rw [h1] at hp; injection hp
        have := (h.ho l x' hl).blk y
        omega
    by_cases e1 : K = j
    · have e2 : K ≠ l := fun x => hjl (e1.symm.trans x)
      rw [if_pos e1] at hj
      rw [if_neg e2] at hl
      injection hj with hj
      subst hj
      exact fun x => new l x' e2 hl x
    · rw [if_neg e1] at hj
      by_cases e2 : K = l
      · rw [if_pos e2] at hl
        injection hl with hl
        subst hl
        exact fun x y => new j _ e1 hj y x
      · rw [if_neg e2] at hl; exact h.di j l x x' p hjl hj hl
/-- append(s, x ..): the new numbers in a slice of their own, put behind the row. -/
theorem PW.app {o2 : Oper} {T e : TypeId} {K s d2 by_ : Nat} {v : Value} {f : Int → Value} {zs : List Int} (news : List Int) (hw : wantB ops fr o = some true) (hd : o.dst = some d) (hN : Nat.blt d N = true)
    (hq : ∀ a W, Fr B N w0 fr a W → (execOp a.eval o).run Try.prog W = .ok (.value (.slice (some ⟨W.heap.size, 0, none⟩) news.length news.length)) (W.alloc (.cells (news.map f).toArray e)))
    (hg : o2.guard = none) (hd2 : o2.dst = some d2) (hN2 : Nat.blt d2 N = true) (ho : o2.op = .call { callee := .builtin .append, args := #[.tmp s, .tmp d], argTypes := #[T, T] }) (hs : look fr s = some (.vl v)) (hsd : Nat.beq d s = false) (hK : look fr K = some (.ro v e f zs)) (hc : calmB fr = true)
    (hu : Try.prog.underlying T = some (.slice e)) (hi : (Try.prog.info? e).map (fun i => (i.zero, i.size, i.bytes)) = some (some (f 0), 1, by_)) (hz : (f 0).cells.size = 1) (h1c : ∀ x, (f x).oneCell' = true) (hn : zs.length + news.length ≤ maxLen) (hb : (zs.length + news.length) * by_ ≤ 140737488355328)
    (hKN : Nat.ble N K = true) (hk : ∀ v' u, PW B N w0 ops rest ((K, .ro v' e f (zs ++ news)) :: (d2, .vl v') :: (d, .vl u) :: fr) Q) : PW B N w0 ops (o :: o2 :: rest) fr Q :=
  PW.step hw fun a W hf K' hK' => by
    unfold Oper.wp
    rw [hq a W hf, Oper.upon_value, hd]
    have hf1 := (hf.nw ((Nw.refl W).alloc (.cells (news.map f).toArray e))).set (v := .vl (.slice (some ⟨W.heap.size, 0, none⟩) news.length news.length)) hN (u := .slice (some ⟨W.heap.size, 0, none⟩) news.length news.length) rfl rfl
    refine hK' _ _ ?_
    have hds : ¬ d = s := fun e => by subst e; simp at hsd
    have hls : look ((d, .vl (.slice (some ⟨W.heap.size, 0, none⟩) news.length news.length)) :: fr) s = some (.vl v) := by rw [look_cons, if_neg hds]; exact hs
    have hlK : look ((d, .vl (.slice (some ⟨W.heap.size, 0, none⟩) news.length news.length)) :: fr) K = some (.ro v e f zs) := by
      have hdK : ¬ d = K := fun e => by subst e; simp [Nat.blt_eq] at hN hKN; omega
      rw [look_cons, if_neg hdK]; exact hK
    have hc1 : calmB ((d, .vl (.slice (some ⟨W.heap.size, 0, none⟩) news.length news.length)) :: fr) = true := hc
    generalize hW1 : W.alloc (.cells (news.map f).toArray e) = W1 at hf1 ⊢
    have s1 : (a.put (some d) (.slice (some ⟨W.heap.size, 0, none⟩) news.length news.length)).eval (.tmp s) = v := hf1.ho s _ hls
    have s2 : (a.put (some d) (.slice (some ⟨W.heap.size, 0, none⟩) news.length news.length)).eval (.tmp d) = .slice (some ⟨W.heap.size, 0, none⟩) news.length news.length := hf1.vl (s := d) (by rw [look_cons, if_pos rfl])
    obtain ⟨i0, q1, q2, q3, q4⟩ := info_parts hi
    have own : W1.ownsRow B e 1 v zs.length (zs.map f) := hf1.ho K _ hlK
    obtain ⟨v', W2, r1, r2, r3, _, r5⟩ := run_append_own_at (P := Try.prog) W1 B T o2.type e i0 (f 0) 1 by_ hu q1 q2 q3 q4 hz (by decide) v zs.length (zs.map f) own ⟨W.heap.size, 0, none⟩ news.length news.length (news.map f) (by simp) (fun j u hj => by
      rw [← hW1, add_at]
      rw [World.cell?_alloc_at _ _ _ _ rfl]
      simpa using hj) (fun u hu => by obtain ⟨x, _, rfl⟩ := List.mem_map.1 hu; exact h1c x) hn hb hf1.bs
    refine wpList_step fun K2 hK2 => ?_
    rw [if_pos (by simp [Region.wanted, hg])]
    have e2 : (execOp (a.put (some d) (.slice (some ⟨W.heap.size, 0, none⟩) news.length news.length)).eval o2).run Try.prog W1 = .ok (.value v') W2 := by
      unfold execOp
      simp only [ho, resolve, invoke, builtin, Sem.run_bind, Sem.run_pure, Result.andThen_ok, List.map_toArray, List.map_cons, List.map_nil, s1, s2, r1]
    unfold Oper.wp
    rw [e2, Oper.upon_value, hd2]
    have own2 : OwF W2 B e f v' (zs ++ news) := by
      unfold OwF
      rw [List.length_append, List.map_append]
      exact r2
    have hf2 := hf1.rgrow hlK hc1 r3 own2 r5 (Nat.le_refl _)
    have hf3 := hf2.set (v := .vl v') hN2 (u := v') rfl rfl
    refine hK2 _ _ (hk v' (.slice (some ⟨W.heap.size, 0, none⟩) news.length news.length) _ _ (hf3.ext fun s' => ?_))
    have hdK : ¬ d2 = K := fun e => by subst e; simp [Nat.blt_eq] at hN2 hKN; omega
    simp only [look_cons]
    by_cases a1 : K = s'
    · subst a1; rw [if_pos rfl, if_neg hdK, if_pos rfl]
    · rw [if_neg a1, if_neg a1]
/-- Whether a row is nil. -/
theorem PW.open {K : Nat} {v : Value} {e : TypeId} {f : Int → Value} {zs : List Int} (hK : look fr K = some (.ro v e f zs)) (h0 : v = .slice none 0 0 → zs = [] → PW B N w0 ops rest fr Q) (h1 : ∀ g c, v = .slice (some ⟨g, 0, none⟩) zs.length c → zs.length ≤ c → PW B N w0 ops rest fr Q) : PW B N w0 ops rest fr Q := fun a W hf => by
  have o1 : OwF W B e f v zs := hf.ho K _ hK
  rcases o1.form with ⟨e1, e2⟩ | ⟨g, c, e1, e2⟩
  · exact h0 e1 e2 a W hf
  · exact h1 g c e1 e2 a W hf
theorem SC.open {c0 : Code} {K : Nat} {v : Value} {e : TypeId} {f : Int → Value} {zs : List Int} (hK : look fr K = some (.ro v e f zs)) (h0 : v = .slice none 0 0 → zs = [] → SC B N w0 c0 fr Q) (h1 : ∀ g c, v = .slice (some ⟨g, 0, none⟩) zs.length c → zs.length ≤ c → SC B N w0 c0 fr Q) : SC B N w0 c0 fr Q := fun a W hf => by
  have o1 : OwF W B e f v zs := hf.ho K _ hK
  rcases o1.form with ⟨e1, e2⟩ | ⟨g, c, e1, e2⟩
  · exact h0 e1 e2 a W hf
  · exact h1 g c e1 e2 a W hf
end
end Go.Proofs.Ytcgkgcciogibkaa.Sy
/- The estimate of a digit of a long division: no program in sight. -/
set_option linter.unusedVariables false
set_option linter.unusedSimpArgs false
namespace Go.Proofs.Ytcgkgcciogibkaa.Ma

/-- The first estimate is not too small. -/
theorem est_start {b t v2 P V' V u2 W' W head digit rest : Int} (hb : 0 < b) (hP : 0 < P) (hV : V = (t * b + v2) * P + V') (hV0 : 0 ≤ V') (hv2 : 0 ≤ v2)
    (hW : W = (head * b + u2) * P + W') (hW1 : W' < P) (hu2 : u2 < b) (hd : digit * t + rest = head) (hr : rest < t) (hd0 : 0 ≤ digit) : W < (digit + 1) * V := by
  subst hd hV hW
  have h0 : 0 ≤ (t - rest - 1) * b := Int.mul_nonneg (by omega) (by omega)
  have h1 : 0 ≤ ((t - rest - 1) * b) * P := Int.mul_nonneg h0 (by omega)
  have h2 : 0 ≤ (b - u2 - 1) * P := Int.mul_nonneg (by omega) (by omega)
  have h3 : 0 ≤ (digit + 1) * (v2 * P) := Int.mul_nonneg (by omega) (Int.mul_nonneg hv2 (by omega))
  have h4 : 0 ≤ (digit + 1) * V' := Int.mul_nonneg (by omega) hV0
  simp only [Int.add_mul, Int.mul_add, Int.sub_mul, Int.mul_sub, Int.one_mul, Int.mul_one, Int.mul_assoc, Int.mul_comm, Int.mul_left_comm] at *
  omega
/-- An estimate that fails the test is too great. -/
theorem est_less {b t v2 P V' V u2 W' W head digit rest : Int} (hb : 0 < b) (hP : 0 < P) (hV : V = (t * b + v2) * P + V') (hV0 : 0 ≤ V')
    (hW : W = (head * b + u2) * P + W') (hW1 : W' < P) (hd : digit * t + rest = head) (hd0 : 0 ≤ digit) (h : rest * b + u2 < digit * v2) : W < digit * V := by
  subst hd hV hW
  have h1 : 0 ≤ (digit * v2 - rest * b - u2 - 1) * P := Int.mul_nonneg (by omega) (by omega)
  have h2 : 0 ≤ digit * V' := Int.mul_nonneg hd0 hV0
  simp only [Int.add_mul, Int.mul_add, Int.sub_mul, Int.mul_sub, Int.one_mul, Int.mul_one, Int.mul_assoc, Int.mul_comm, Int.mul_left_comm] at *
  omega
theorem est_base {b V W digit : Int} (hV : 0 ≤ V) (hW : W < V * b) (h : b ≤ digit) : W < digit * V := by
  have : V * b ≤ V * digit := Int.mul_le_mul_of_nonneg_left h hV
  rw [Int.mul_comm digit V]; omega
end Go.Proofs.Ytcgkgcciogibkaa.Ma
/- Long division of limbs: what its loops keep. No program in sight. -/
set_option linter.unusedVariables false
set_option linter.unusedSimpArgs false
namespace Go.Proofs.Ytcgkgcciogibkaa.Ma
theorem BB_pos : (0 : Int) < (4294967296 : Int) := by decide
theorem at0_set {xs : List Int} {i m : Nat} (x : Int) (h : i < xs.length) : at0 (xs.set i x) m = if i = m then x else at0 xs m := by
  unfold at0
  simp only [List.getD_eq_getElem?_getD, List.getElem?_set]
  by_cases e : i = m
  · subst e; simp [h]
  · simp [e]
/-- Zeros at the top. -/
theorem lt_of_zeros {b : Int} (hb : 0 < b) {zs : List Int} (d : dg b zs) {t : Nat} (h : ∀ m, t ≤ m → at0 zs m = 0) : lv b zs < b ^ t := by
  by_cases hl : zs.length ≤ t
  · exact Int.lt_of_lt_of_le (lv_lt hb d) (pow_le (by omega) hl)
  · have e := lv_split b zs t (by omega)
    have z : lv b (zs.drop t) = 0 := by
      have : zs.drop t = List.replicate (zs.drop t).length 0 := by
        apply List.eq_replicate_iff.2
        refine ⟨rfl, fun x hx => ?_⟩
        obtain ⟨m, hm, rfl⟩ := List.mem_iff_getElem.1 hx
        have := h (t + m) (by omega)
        simp only [at0, List.getD_eq_getElem?_getD] at this
        rw [List.getElem_drop]
        rw [List.length_drop] at hm
        rw [List.getElem?_eq_getElem (by omega)] at this
        simpa using this
      rw [this, lv_zeros]
    rw [e, z, Int.mul_zero, Int.add_zero]
    have := lv_lt hb (dg_take d t)
    rw [List.length_take, Nat.min_eq_left (by omega)] at this
    exact this
theorem zeros_of_lt {b : Int} (hb : 0 < b) {zs : List Int} (d : dg b zs) {t : Nat} (h : lv b zs < b ^ t) (m : Nat) (hm : t ≤ m) : at0 zs m = 0 := by
  by_cases hl : m < zs.length
  · obtain ⟨a0, a1⟩ := dg_at d hb m
    have e := lv_split b zs m (by omega)
    have e2 := lv_drop b zs m hl
    have n1 := lv_nonneg hb (dg_take d m)
    have n2 := lv_nonneg hb (dg_drop d (m + 1))
    have hp := pos_pow hb m
    have hq := pow_le (b := b) (by omega) hm
    apply Classical.byContradiction
    intro hne
    have h1 : 1 ≤ lv b (zs.drop m) := by rw [e2]; have := Int.mul_nonneg (Int.le_of_lt hb) n2; omega
    have h2 : b ^ m * 1 ≤ b ^ m * lv b (zs.drop m) := Int.mul_le_mul_of_nonneg_left h1 (Int.le_of_lt hp)
    omega
  · exact at0_ge (by omega)
/-- The three highest digits. -/
theorem three {b : Int} (hb : 0 < b) {zs : List Int} (d : dg b zs) {k : Nat} (hk : 2 ≤ k) (h : ∀ m, k < m → at0 zs m = 0) : lv b zs = ((at0 zs k * b + at0 zs (k - 1)) * b + at0 zs (k - 2)) * b ^ (k - 2) + lv b (zs.take (k - 2)) := by
  obtain ⟨j, rfl⟩ : ∃ j, k = j + 2 := ⟨k - 2, by omega⟩
  simp only [Nat.add_sub_cancel, show j + 2 - 1 = j + 1 by omega]
  have key : ∀ m, lv b (zs.drop m) = at0 zs m + b * lv b (zs.drop (m + 1)) := fun m => by
    by_cases hm : m < zs.length
    · exact lv_drop b zs m hm
    · rw [at0_ge (by omega), List.drop_eq_nil_of_le (by omega), List.drop_eq_nil_of_le (by omega)]; simp [lv]
  have z : lv b (zs.drop (j + 3)) = 0 := by
    have h1 : lv b (zs.drop (j + 3)) < b ^ 0 := lt_of_zeros hb (dg_drop d _) fun m _ => by
      have := h (j + 3 + m) (by omega)
      simp only [at0, List.getD_eq_getElem?_getD, List.getElem?_drop] at this ⊢
      exact this
    have := lv_nonneg hb (dg_drop d (j + 3))
    rw [Int.pow_zero] at h1
    omega
  have e : lv b zs = lv b (zs.take j) + b ^ j * lv b (zs.drop j) := by
    by_cases hj : j ≤ zs.length
    · exact lv_split b zs j hj
    · rw [List.take_of_length_le (by omega), List.drop_eq_nil_of_le (by omega)]; simp [lv]
  rw [e, key j, key (j + 1), key (j + 2), z]
  grind
/-! ### Multiply and subtract -/
def MS (us0 vs : List Int) (i : Nat) (D : Int) (j : Nat) (us : List Int) (cc bb : Int) : Prop :=
  us.length = us0.length ∧ dg 4294967296 us ∧ lv 4294967296 us = lv 4294967296 us0 - 4294967296 ^ i * (D * lv 4294967296 (vs.take j)) + 4294967296 ^ (i + j) * (cc + bb) ∧ (∀ m, i + j ≤ m → at0 us m = at0 us0 m) ∧ 0 ≤ cc ∧ cc < 4294967296 ∧ 0 ≤ bb ∧ bb ≤ 1 ∧ j ≤ vs.length
theorem MS.start {us0 vs : List Int} {i : Nat} {D : Int} (d : dg 4294967296 us0) : MS us0 vs i D 0 us0 0 0 := ⟨rfl, d, by simp [lv], fun _ _ => rfl, by omega, by decide, by omega, by omega, by omega⟩
/-- A borrow. -/
theorem borrow64 {x : Int} (h0 : -4294967296 ≤ x) (h1 : x < 4294967296) : x % 18446744073709551616 % 4294967296 = x + 4294967296 * (x % 18446744073709551616 / 9223372036854775808) ∧ (x % 18446744073709551616 / 9223372036854775808 = if x < 0 then 1 else 0) := by
  by_cases h : x < 0
  · have : x % 18446744073709551616 = x + 18446744073709551616 := by omega
    rw [this, if_pos h]
    constructor <;> omega
  · have : x % 18446744073709551616 = x := by omega
    rw [this, if_neg h]
    constructor <;> omega
theorem MS.bound {us0 vs : List Int} {i : Nat} {D : Int} {j : Nat} {us : List Int} {cc bb : Int} (h : MS us0 vs i D j us cc bb) (dv : dg 4294967296 vs) (hD0 : 0 ≤ D) (hD : D < 4294967296) : 0 ≤ D * at0 vs j + cc ∧ D * at0 vs j + cc < 18446744073709551616 ∧ 0 ≤ (D * at0 vs j + cc) / 4294967296 ∧ (D * at0 vs j + cc) / 4294967296 < 4294967296 := by
  obtain ⟨_, _, _, _, c0, c1, _, _, _⟩ := h
  obtain ⟨v0, v1⟩ := dg_at dv BB_pos j
  have p0 := Int.mul_nonneg hD0 v0
  have p1 : D * at0 vs j ≤ 4294967295 * 4294967295 := by
    have a : D * at0 vs j ≤ D * 4294967295 := Int.mul_le_mul_of_nonneg_left (by omega) hD0
    have c : D * 4294967295 ≤ 4294967295 * 4294967295 := Int.mul_le_mul_of_nonneg_right (by omega) (by decide)
    omega
  omega
theorem MS.step {us0 vs : List Int} {i : Nat} {D : Int} {j : Nat} {us : List Int} {cc bb : Int} (h : MS us0 vs i D j us cc bb) (dv : dg 4294967296 vs) (hD0 : 0 ≤ D) (hD : D < 4294967296) (hj : j < vs.length) (hi : i + vs.length < us0.length) :
    MS us0 vs i D (j + 1) (us.set (i + j) ((at0 us (i + j) - (D * at0 vs j + cc) % 4294967296 - bb) % 18446744073709551616 % 4294967296)) ((D * at0 vs j + cc) / 4294967296) ((at0 us (i + j) - (D * at0 vs j + cc) % 4294967296 - bb) % 18446744073709551616 / 9223372036854775808) := by
  have hb := h.bound dv hD0 hD
  obtain ⟨hl, du, hv, ha, c0, c1, b0, b1, _⟩ := h
  obtain ⟨u0, u1⟩ := dg_at du BB_pos (i + j)
  generalize hp : D * at0 vs j + cc = p at *
  have hm0 := Int.emod_nonneg p (show 4294967296 ≠ 0 by decide)
  have hm1 := Int.emod_lt_of_pos p BB_pos
  obtain ⟨e1, e2⟩ := borrow64 (x := at0 us (i + j) - p % 4294967296 - bb) (by omega) (by omega)
  have hlt : i + j < us.length := by omega
  refine ⟨by rw [List.length_set, hl], dg_set du _ (Int.emod_nonneg _ (by decide)) (Int.emod_lt_of_pos _ BB_pos), ?_, fun m hm => ?_, hb.2.2.1, hb.2.2.2, ?_, ?_, by omega⟩
  · rw [lv_set 4294967296 us (i + j) _ hlt, e1, hv, lv_take_succ 4294967296 vs j hj, show i + (j + 1) = (i + j) + 1 by omega, Int.pow_succ, Int.pow_add]
    have hpp := Int.mul_ediv_add_emod p 4294967296
    generalize at0 us (i + j) = u at *
    generalize (u - p % 4294967296 - bb) % 18446744073709551616 / 9223372036854775808 = bb' at *
    generalize lv 4294967296 (vs.take j) = T at *
    generalize at0 vs j = w at *
    generalize lv 4294967296 us0 = X at *
    generalize (4294967296 : Int) ^ i = A at *
    generalize (4294967296 : Int) ^ j = C at *
    generalize p / 4294967296 = q at *
    generalize p % 4294967296 = r at *
    have : r = D * w + cc - 4294967296 * q := by omega
    rw [this]
    grind
  · rw [at0_set _ hlt, if_neg (by omega)]
    exact ha m (by omega)
  · rw [e2]; split <;> omega
  · rw [e2]; split <;> omega
/-- Behind it. -/
theorem MS.fin {us0 vs : List Int} {i : Nat} {D : Int} {us : List Int} {cc bb : Int} (h : MS us0 vs i D vs.length us cc bb) (hi : i + vs.length < us0.length) {us2 : List Int} {ng : Int}
    (e2 : us2 = us.set (i + vs.length) ((at0 us (i + vs.length) - cc - bb) % 18446744073709551616 % 4294967296)) (en : ng = (at0 us (i + vs.length) - cc - bb) % 18446744073709551616 / 9223372036854775808) :
    us2.length = us0.length ∧ dg 4294967296 us2 ∧ lv 4294967296 us2 = lv 4294967296 us0 - 4294967296 ^ i * (D * lv 4294967296 vs) + 4294967296 ^ (i + vs.length + 1) * ng ∧ (∀ m, i + vs.length < m → at0 us2 m = at0 us0 m) ∧ (ng = 0 ∨ ng = 1) := by
  obtain ⟨hl, du, hv, ha, c0, c1, b0, b1, _⟩ := h
  obtain ⟨u0, u1⟩ := dg_at du BB_pos (i + vs.length)
  obtain ⟨x1, x2⟩ := borrow64 (x := at0 us (i + vs.length) - cc - bb) (by omega) (by omega)
  have hlt : i + vs.length < us.length := by omega
  rw [List.take_length] at hv
  subst e2 en
  refine ⟨by rw [List.length_set, hl], dg_set du _ (Int.emod_nonneg _ (by decide)) (Int.emod_lt_of_pos _ BB_pos), ?_, fun m hm => ?_, ?_⟩
  · rw [lv_set 4294967296 us _ _ hlt, x1, hv, Int.pow_succ]
    generalize (at0 us (i + vs.length) - cc - bb) % 18446744073709551616 / 9223372036854775808 = ng at *
    generalize at0 us (i + vs.length) = u at *
    generalize (4294967296 : Int) ^ (i + vs.length) = C at *
    generalize (4294967296 : Int) ^ i = A at *
    grind
  · rw [at0_set _ hlt, if_neg (by omega)]; exact ha m (by omega)
  · rw [x2]; split
    · exact .inr rfl
    · exact .inl rfl
/-! ### Add back -/
def AB (us2 vs : List Int) (i j : Nat) (us : List Int) (c : Int) : Prop :=
  us.length = us2.length ∧ dg 4294967296 us ∧ lv 4294967296 us = lv 4294967296 us2 + 4294967296 ^ i * lv 4294967296 (vs.take j) - 4294967296 ^ (i + j) * c ∧ (∀ m, i + j ≤ m → at0 us m = at0 us2 m) ∧ 0 ≤ c ∧ c ≤ 1 ∧ j ≤ vs.length
theorem AB.start {us2 vs : List Int} {i : Nat} (d : dg 4294967296 us2) : AB us2 vs i 0 us2 0 := ⟨rfl, d, by simp [lv], fun _ _ => rfl, by omega, by omega, by omega⟩
theorem AB.step {us2 vs : List Int} {i j : Nat} {us : List Int} {c : Int} (h : AB us2 vs i j us c) (dv : dg 4294967296 vs) (hj : j < vs.length) (hi : i + vs.length < us2.length) :
    AB us2 vs i (j + 1) (us.set (i + j) ((at0 us (i + j) + at0 vs j + c) % 4294967296)) ((at0 us (i + j) + at0 vs j + c) / 4294967296) := by
  obtain ⟨hl, du, hv, ha, c0, c1, _⟩ := h
  obtain ⟨u0, u1⟩ := dg_at du BB_pos (i + j)
  obtain ⟨v0, v1⟩ := dg_at dv BB_pos j
  have hlt : i + j < us.length := by omega
  refine ⟨by rw [List.length_set, hl], dg_set du _ (Int.emod_nonneg _ (by decide)) (Int.emod_lt_of_pos _ BB_pos), ?_, fun m hm => ?_, by omega, by omega, by omega⟩
  · rw [lv_set 4294967296 us _ _ hlt, hv, lv_take_succ 4294967296 vs j hj, show i + (j + 1) = (i + j) + 1 by omega, Int.pow_succ, Int.pow_add]
    have hs := Int.mul_ediv_add_emod (at0 us (i + j) + at0 vs j + c) 4294967296
    generalize (at0 us (i + j) + at0 vs j + c) / 4294967296 = q at *
    generalize (at0 us (i + j) + at0 vs j + c) % 4294967296 = r at *
    generalize at0 us (i + j) = u at *
    generalize at0 vs j = w at *
    generalize lv 4294967296 (vs.take j) = T at *
    generalize (4294967296 : Int) ^ i = A at *
    generalize (4294967296 : Int) ^ j = C at *
    have : r = u + w + c - 4294967296 * q := by omega
    rw [this]
    grind
  · rw [at0_set _ hlt, if_neg (by omega)]; exact ha m (by omega)
theorem AB.fin {us2 vs : List Int} {i : Nat} {us : List Int} {c : Int} (h : AB us2 vs i vs.length us c) (hi : i + vs.length < us2.length) {us3 : List Int} (e3 : us3 = us.set (i + vs.length) ((at0 us (i + vs.length) + c) % 4294967296)) :
    us3.length = us2.length ∧ dg 4294967296 us3 ∧ (∃ c2, (c2 = 0 ∨ c2 = 1) ∧ lv 4294967296 us3 = lv 4294967296 us2 + 4294967296 ^ i * lv 4294967296 vs - 4294967296 ^ (i + vs.length + 1) * c2) ∧ (∀ m, i + vs.length < m → at0 us3 m = at0 us2 m) := by
  obtain ⟨hl, du, hv, ha, c0, c1, _⟩ := h
  obtain ⟨u0, u1⟩ := dg_at du BB_pos (i + vs.length)
  have hlt : i + vs.length < us.length := by omega
  rw [List.take_length] at hv
  subst e3
  refine ⟨by rw [List.length_set, hl], dg_set du _ (Int.emod_nonneg _ (by decide)) (Int.emod_lt_of_pos _ BB_pos), ⟨(at0 us (i + vs.length) + c) / 4294967296, by omega, ?_⟩, fun m hm => ?_⟩
  · rw [lv_set 4294967296 us _ _ hlt, hv, Int.pow_succ]
    have hs := Int.mul_ediv_add_emod (at0 us (i + vs.length) + c) 4294967296
    generalize (at0 us (i + vs.length) + c) / 4294967296 = q at *
    generalize (at0 us (i + vs.length) + c) % 4294967296 = r at *
    generalize at0 us (i + vs.length) = u at *
    generalize (4294967296 : Int) ^ (i + vs.length) = C at *
    generalize (4294967296 : Int) ^ i = A at *
    have : r = u + c - 4294967296 * q := by omega
    rw [this]
    grind
  · rw [at0_set _ hlt, if_neg (by omega)]; exact ha m (by omega)
/-! ### A round -/
/-- What is left: less than b^i times the divisor; what is above it is 0. -/
def Lft (vs : List Int) (i : Nat) (us : List Int) : Prop := dg 4294967296 us ∧ lv 4294967296 us < 4294967296 ^ i * lv 4294967296 vs
theorem lft_zeros {vs us : List Int} {i : Nat} (h : Lft vs (i + 1) us) (dv : dg 4294967296 vs) (m : Nat) (hm : i + vs.length < m) : at0 us m = 0 := by
  refine zeros_of_lt BB_pos h.1 (t := i + vs.length + 1) ?_ m (by omega)
  have h1 := lv_lt BB_pos dv
  have h2 := h.2
  have h3 := pos_pow BB_pos (i + 1)
  have h4 : 4294967296 ^ (i + 1) * lv 4294967296 vs ≤ 4294967296 ^ (i + 1) * 4294967296 ^ vs.length := Int.mul_le_mul_of_nonneg_left (Int.le_of_lt h1) (Int.le_of_lt h3)
  rw [← Int.pow_add, show i + 1 + vs.length = i + vs.length + 1 by omega] at h4
  omega
/-! ### The estimate -/
/-- head, and so on, of what is left at i, by a divisor of at least two digits. -/
structure Es (us vs : List Int) (i : Nat) (D r : Int) : Prop where
  d0 : 0 ≤ D
  r0 : 0 ≤ r
  eq : D * at0 vs (vs.length - 1) + r = at0 us (i + vs.length) * 4294967296 + at0 us (i + vs.length - 1)
  lt : lv 4294967296 us < 4294967296 ^ i * ((D + 1) * lv 4294967296 vs)
theorem dropAt (us : List Int) (i m : Nat) : at0 (us.drop i) m = at0 us (i + m) := by
  simp only [at0, List.getD_eq_getElem?_getD, List.getElem?_drop]
/-- The window over the divisor. -/
theorem window {us vs : List Int} {i : Nat} (h : Lft vs (i + 1) us) (dv : dg 4294967296 vs) (hk : 2 ≤ vs.length) (hi : i + vs.length < us.length) :
    ∃ W W' V' : Int, lv 4294967296 us / 4294967296 ^ i = W ∧ W = ((at0 us (i + vs.length) * 4294967296 + at0 us (i + vs.length - 1)) * 4294967296 + at0 us (i + vs.length - 2)) * 4294967296 ^ (vs.length - 2) + W' ∧ 0 ≤ W' ∧ W' < 4294967296 ^ (vs.length - 2) ∧
      lv 4294967296 vs = (at0 vs (vs.length - 1) * 4294967296 + at0 vs (vs.length - 2)) * 4294967296 ^ (vs.length - 2) + V' ∧ 0 ≤ V' ∧ V' < 4294967296 ^ (vs.length - 2) ∧ W < lv 4294967296 vs * 4294967296 := by
  have du := h.1
  have dd := dg_drop du i
  have e1 := lv_ediv BB_pos du i (by omega)
  have t1 := three BB_pos dd (k := vs.length) hk fun m hm => by rw [dropAt]; exact lft_zeros h dv _ (by omega)
  have t2 := three BB_pos dv (k := vs.length) hk fun m hm => at0_ge (by omega)
  rw [at0_ge (Nat.le_refl vs.length), Int.zero_mul, Int.zero_add] at t2
  rw [dropAt, dropAt, dropAt, show i + (vs.length - 1) = i + vs.length - 1 by omega, show i + (vs.length - 2) = i + vs.length - 2 by omega] at t1
  have w0 := lv_nonneg BB_pos (dg_take dd (vs.length - 2))
  have w1 := lv_lt BB_pos (dg_take dd (vs.length - 2))
  have v0 := lv_nonneg BB_pos (dg_take dv (vs.length - 2))
  have v1 := lv_lt BB_pos (dg_take dv (vs.length - 2))
  rw [List.length_take, List.length_drop, Nat.min_eq_left (by omega)] at w1
  rw [List.length_take, Nat.min_eq_left (by omega)] at v1
  refine ⟨_, _, _, e1, t1, w0, w1, t2, v0, v1, ?_⟩
  rw [← e1]
  have hp := pos_pow BB_pos i
  apply Int.ediv_lt_of_lt_mul hp
  have := h.2
  rw [Int.pow_succ, Int.mul_assoc] at this
  rw [Int.mul_comm (lv 4294967296 vs * 4294967296), Int.mul_comm (lv 4294967296 vs)]
  exact this
/-- From floors to the numbers themselves. -/
theorem lt_win {X A Y : Int} (hA : 0 < A) (h : X / A < Y) : X < A * Y := by
  have a := Int.mul_ediv_add_emod X A
  have b := Int.emod_lt_of_pos X hA
  have c : A * (X / A + 1) ≤ A * Y := Int.mul_le_mul_of_nonneg_left (by omega) (Int.le_of_lt hA)
  rw [Int.mul_add, Int.mul_one] at c
  omega
section
variable {us vs : List Int} {i : Nat}
theorem Es.start (h : Lft vs (i + 1) us) (dv : dg 4294967296 vs) (hk : 2 ≤ vs.length) (hi : i + vs.length < us.length) (ht : 1 ≤ at0 vs (vs.length - 1)) {H : Int} (hH : H = at0 us (i + vs.length) * 4294967296 + at0 us (i + vs.length - 1)) : Es us vs i (H / at0 vs (vs.length - 1)) (H % at0 vs (vs.length - 1)) := by
  obtain ⟨W, W', V', e, eW, w0, w1, eV, v0, v1, wb⟩ := window h dv hk hi
  have du := h.1
  obtain ⟨a0, a1⟩ := dg_at du BB_pos (i + vs.length)
  obtain ⟨c0, c1⟩ := dg_at du BB_pos (i + vs.length - 1)
  obtain ⟨x0, x1⟩ := dg_at du BB_pos (i + vs.length - 2)
  obtain ⟨y0, y1⟩ := dg_at dv BB_pos (vs.length - 2)
  have hH0 : 0 ≤ H := by rw [hH]; have := Int.mul_nonneg a0 (show (0 : Int) ≤ 4294967296 by decide); omega
  have q0 := Int.ediv_nonneg hH0 (show 0 ≤ at0 vs (vs.length - 1) by omega)
  have r0 := Int.emod_nonneg H (show at0 vs (vs.length - 1) ≠ 0 by omega)
  have r1 := Int.emod_lt_of_pos H (show 0 < at0 vs (vs.length - 1) by omega)
  have hs : H / at0 vs (vs.length - 1) * at0 vs (vs.length - 1) + H % at0 vs (vs.length - 1) = H := by rw [Int.mul_comm]; exact Int.mul_ediv_add_emod _ _
  refine ⟨q0, r0, by rw [hs, hH], ?_⟩
  have := est_start BB_pos (pos_pow BB_pos (vs.length - 2)) eV v0 y0 eW w1 x1 (by rw [hs, hH]) r1 q0
  exact lt_win (pos_pow BB_pos i) (by rw [e]; exact this)
/-- The test says that the estimate is too great. -/
theorem Es.down {D r : Int} (he : Es us vs i D r) (h : Lft vs (i + 1) us) (dv : dg 4294967296 vs) (hk : 2 ≤ vs.length) (hi : i + vs.length < us.length) (ht : 1 ≤ at0 vs (vs.length - 1)) (hc : 4294967296 ≤ D ∨ r * 4294967296 + at0 us (i + vs.length - 2) < D * at0 vs (vs.length - 2)) : Es us vs i (D - 1) (r + at0 vs (vs.length - 1)) ∧ 1 ≤ D := by
  obtain ⟨W, W', V', e, eW, w0, w1, eV, v0, v1, wb⟩ := window h dv hk hi
  have du := h.1
  obtain ⟨x0, x1⟩ := dg_at du BB_pos (i + vs.length - 2)
  obtain ⟨y0, y1⟩ := dg_at dv BB_pos (vs.length - 2)
  have hV0 := lv_nonneg BB_pos dv
  have hD1 : 1 ≤ D := by
    rcases hc with h1 | h1
    · have : (1 : Int) ≤ 4294967296 := by decide
      omega
    · have := Int.mul_nonneg he.r0 (show (0 : Int) ≤ 4294967296 by decide)
      apply Classical.byContradiction
      intro hn
      have hz : D = 0 := by have := he.d0; omega
      rw [hz, Int.zero_mul] at h1
      omega
  have hlt : W < D * lv 4294967296 vs := by
    rcases hc with h1 | h1
    · exact est_base hV0 wb h1
    · exact est_less BB_pos (pos_pow BB_pos (vs.length - 2)) eV v0 eW w1 he.eq he.d0 h1
  refine ⟨⟨by omega, by have := he.r0; omega, ?_, ?_⟩, hD1⟩
  · rw [Int.sub_mul, Int.one_mul]; have := he.eq; omega
  · rw [Int.sub_add_cancel]; exact lt_win (pos_pow BB_pos i) (by rw [e]; exact hlt)
end
end Go.Proofs.Ytcgkgcciogibkaa.Ma
/- Digits to the base 65536: sums, differences, products as the reference reckons them. No program in sight. -/
set_option linter.unusedVariables false
set_option linter.unusedSimpArgs false
namespace Go.Proofs.Ytcgkgcciogibkaa.Ma
theorem BJ_pos : (0 : Int) < (65536 : Int) := by decide
theorem take_succ' (b : Int) (xs : List Int) (i : Nat) : lv b (xs.take (i + 1)) = lv b (xs.take i) + b ^ i * at0 xs i := by
  by_cases h : i < xs.length
  · exact lv_take_succ b xs i h
  · rw [List.take_of_length_le (by omega), List.take_of_length_le (by omega), at0_ge (by omega), Int.mul_zero, Int.add_zero]
theorem lv_app (b : Int) (xs : List Int) (x : Int) : lv b (xs ++ [x]) = lv b xs + b ^ xs.length * x := lv_snoc b xs x
theorem dg_app {b x : Int} {xs : List Int} (h : dg b xs) (h0 : 0 ≤ x) (h1 : x < b) : dg b (xs ++ [x]) := dg_append.2 ⟨h, fun y hy => by rw [List.mem_singleton] at hy; subst hy; exact ⟨h0, h1⟩⟩
/-- A round of plus. -/
structure Pl (xs ys : List Int) (i : Nat) (zs : List Int) (cc : Int) : Prop where
  len : zs.length = i
  d : dg 65536 zs
  c0 : 0 ≤ cc
  c1 : cc ≤ 1
  eq : lv 65536 zs + 65536 ^ i * cc = lv 65536 (xs.take i) + lv 65536 (ys.take i)
  le : i ≤ max xs.length ys.length ∨ (i = max xs.length ys.length + 1 ∧ cc = 0)
theorem Pl.start (xs ys : List Int) : Pl xs ys 0 [] 0 := ⟨rfl, dg_nil _, by omega, by omega, by simp [lv], .inl (by omega)⟩
theorem Pl.step {xs ys : List Int} {i : Nat} {zs : List Int} {cc n : Int} (h : Pl xs ys i zs cc) (dx : dg 65536 xs) (dy : dg 65536 ys) (hn : n = cc + at0 xs i + at0 ys i) (hi : i < xs.length ∨ i < ys.length ∨ 0 < cc) : Pl xs ys (i + 1) (zs ++ [n % 65536]) (n / 65536) ∧ 0 ≤ n ∧ n ≤ 131071 ∧ 2 * (max xs.length ys.length - (i + 1)) + (n / 65536).toNat < 2 * (max xs.length ys.length - i) + cc.toNat := by
  obtain ⟨h1, h2, h3, h4, h5, h6⟩ := h
  obtain ⟨x0, x1⟩ := dg_at dx BJ_pos i
  obtain ⟨y0, y1⟩ := dg_at dy BJ_pos i
  have hle : i ≤ max xs.length ys.length := by omega
  have hz : i = max xs.length ys.length → at0 xs i = 0 ∧ at0 ys i = 0 := fun e => ⟨at0_ge (by omega), at0_ge (by omega)⟩
  refine ⟨⟨by simp [h1], dg_app h2 (Int.emod_nonneg _ (by decide)) (Int.emod_lt_of_pos _ BJ_pos), by omega, by omega, ?_, ?_⟩, by omega, by omega, ?_⟩
  · rw [lv_app, h1, take_succ', take_succ', Int.pow_succ]
    have e := Int.mul_ediv_add_emod n 65536
    generalize n / 65536 = q at *
    generalize n % 65536 = r at *
    generalize at0 xs i = u at *
    generalize at0 ys i = v at *
    generalize (65536 : Int) ^ i = A at *
    have : r = cc + u + v - 65536 * q := by omega
    rw [this]
    grind
  · by_cases e : i < max xs.length ys.length
    · exact .inl (by omega)
    · obtain ⟨a, c⟩ := hz (by omega); exact .inr ⟨by omega, by omega⟩
  · by_cases e : i < max xs.length ys.length
    · omega
    · obtain ⟨a, c⟩ := hz (by omega); omega
theorem Pl.fin {xs ys : List Int} {i : Nat} {zs : List Int} {cc : Int} (h : Pl xs ys i zs cc) (hx : xs.length ≤ i) (hy : ys.length ≤ i) (hc : ¬ 0 < cc) : dg 65536 zs ∧ lv 65536 zs = lv 65536 xs + lv 65536 ys ∧ zs.length ≤ max xs.length ys.length + 1 := by
  obtain ⟨h1, h2, h3, h4, h5, h6⟩ := h
  have e : cc = 0 := by omega
  rw [e, Int.mul_zero, Int.add_zero, List.take_of_length_le hx, List.take_of_length_le hy] at h5
  exact ⟨h2, h5, by omega⟩
/-- A round of minus. -/
structure Mn (xs ys : List Int) (i : Nat) (zs : List Int) (bb : Int) : Prop where
  len : zs.length = i
  d : dg 65536 zs
  c0 : 0 ≤ bb
  c1 : bb ≤ 1
  eq : lv 65536 zs = lv 65536 (xs.take i) - lv 65536 (ys.take i) + 65536 ^ i * bb
  le : i ≤ xs.length
theorem Mn.start (xs ys : List Int) : Mn xs ys 0 [] 0 := ⟨rfl, dg_nil _, by omega, by omega, by simp [lv], by omega⟩
theorem Mn.step {xs ys : List Int} {i : Nat} {zs : List Int} {bb n m b2 : Int} (h : Mn xs ys i zs bb) (dx : dg 65536 xs) (dy : dg 65536 ys) (hi : i < xs.length) (hn : n = at0 xs i - bb - at0 ys i) (hm : (n < 0 ∧ m = n + 65536 ∧ b2 = 1) ∨ (¬ n < 0 ∧ m = n ∧ b2 = 0)) : Mn xs ys (i + 1) (zs ++ [m]) b2 := by
  obtain ⟨h1, h2, h3, h4, h5, h6⟩ := h
  obtain ⟨x0, x1⟩ := dg_at dx BJ_pos i
  obtain ⟨y0, y1⟩ := dg_at dy BJ_pos i
  refine ⟨by simp [h1], dg_app h2 (by omega) (by omega), by omega, by omega, ?_, by omega⟩
  rw [lv_app, h1, take_succ', take_succ', Int.pow_succ, h5]
  generalize at0 xs i = u at *
  generalize at0 ys i = v at *
  generalize (65536 : Int) ^ i = A at *
  have : m = u - bb - v + 65536 * b2 := by omega
  rw [this]
  grind
theorem Mn.fin {xs ys zs : List Int} {bb : Int} (h : Mn xs ys xs.length zs bb) (hle : ys.length ≤ xs.length) (hv : lv 65536 ys ≤ lv 65536 xs) : dg 65536 zs ∧ lv 65536 zs = lv 65536 xs - lv 65536 ys := by
  obtain ⟨h1, h2, h3, h4, h5, h6⟩ := h
  rw [List.take_of_length_le (Nat.le_refl _), List.take_of_length_le hle] at h5
  have l1 := lv_lt BJ_pos h2
  rw [h1] at l1
  have hb : bb = 0 := by
    apply Classical.byContradiction
    intro hne
    have e : bb = 1 := by omega
    rw [e, Int.mul_one] at h5
    omega
  rw [hb, Int.mul_zero, Int.add_zero] at h5
  exact ⟨h2, h5⟩
/-- A round of times. -/
structure Tm (xs ys : List Int) (k : Nat) (zs : List Int) : Prop where
  le : k ≤ xs.length
  len : zs.length = xs.length + ys.length + 1
  d : dg 65536 zs
  high : ∀ i, k + ys.length ≤ i → at0 zs i = 0
  eq : lv 65536 zs = lv 65536 (xs.take k) * lv 65536 ys
structure Ti (xs ys : List Int) (k j : Nat) (zs : List Int) (c : Int) : Prop where
  le : j ≤ ys.length
  len : zs.length = xs.length + ys.length + 1
  d : dg 65536 zs
  high : ∀ i, k + ys.length ≤ i → at0 zs i = 0
  c0 : 0 ≤ c
  c1 : c < 65536
  eq : lv 65536 zs + 65536 ^ (k + j) * c = lv 65536 (xs.take k) * lv 65536 ys + 65536 ^ k * (at0 xs k * lv 65536 (ys.take j))
theorem zeros_at (n i : Nat) : at0 (List.replicate n 0) i = 0 := by
  simp only [at0, List.getD_eq_getElem?_getD, List.getElem?_replicate]; split <;> rfl
theorem Tm.start (xs ys : List Int) : Tm xs ys 0 (List.replicate (xs.length + ys.length + 1) 0) :=
  ⟨by omega, by simp, dg_replicate _ (by decide) (by decide), fun i _ => zeros_at _ _, by rw [lv_zeros]; simp [lv]⟩
theorem Tm.inner {xs ys : List Int} {k : Nat} {zs : List Int} (h : Tm xs ys k zs) : Ti xs ys k 0 zs 0 :=
  ⟨by omega, h.len, h.d, h.high, by omega, by omega, by rw [h.eq]; simp [lv]⟩
theorem Ti.bound {xs ys : List Int} {k j : Nat} {zs : List Int} {c : Int} (h : Ti xs ys k j zs c) (dx : dg 65536 xs) (dy : dg 65536 ys) : 0 ≤ at0 xs k * at0 ys j ∧ at0 xs k * at0 ys j ≤ 4294836225 ∧ 0 ≤ at0 zs (k + j) ∧ at0 zs (k + j) ≤ 65535 := by
  obtain ⟨h1, h2, h3, h4, h5, h6, h7⟩ := h
  obtain ⟨x0, x1⟩ := dg_at dx BJ_pos k
  obtain ⟨y0, y1⟩ := dg_at dy BJ_pos j
  obtain ⟨z0, z1⟩ := dg_at h3 BJ_pos (k + j)
  have p0 : 0 ≤ at0 xs k * at0 ys j := Int.mul_nonneg x0 y0
  have e1 : at0 xs k * at0 ys j ≤ 65535 * at0 ys j := Int.mul_le_mul_of_nonneg_right (by omega) y0
  omega
theorem Ti.step {xs ys : List Int} {k j : Nat} {zs : List Int} {c n : Int} (h : Ti xs ys k j zs c) (dx : dg 65536 xs) (dy : dg 65536 ys) (hk : k < xs.length) (hj : j < ys.length) (hn : n = at0 zs (k + j) + at0 xs k * at0 ys j + c) : Ti xs ys k (j + 1) (zs.set (k + j) (n % 65536)) (n / 65536) := by
  have hb := h.bound dx dy
  obtain ⟨h1, h2, h3, h4, h5, h6, h7⟩ := h
  have hlt : k + j < zs.length := by omega
  refine ⟨by omega, by rw [List.length_set, h2], dg_set h3 _ (Int.emod_nonneg _ (by decide)) (Int.emod_lt_of_pos _ BJ_pos), fun i hi => ?_, by omega, by omega, ?_⟩
  · rw [at0_set _ hlt, if_neg (by omega)]; exact h4 i hi
  · rw [lv_set 65536 zs (k + j) _ hlt, take_succ', show k + (j + 1) = (k + j) + 1 by omega, Int.pow_succ]
    have e := Int.mul_ediv_add_emod n 65536
    have hp : (65536 : Int) ^ (k + j) = 65536 ^ k * 65536 ^ j := Int.pow_add _ _ _
    rw [hp] at h7 ⊢
    generalize n / 65536 = q at *
    generalize n % 65536 = r at *
    generalize at0 xs k = u at *
    generalize at0 ys j = v at *
    generalize at0 zs (k + j) = z at *
    generalize (65536 : Int) ^ k = A at *
    generalize (65536 : Int) ^ j = C at *
    generalize lv 65536 (ys.take j) = T at *
    have : r = z + u * v + c - 65536 * q := by omega
    rw [this]
    grind
theorem Ti.outer {xs ys : List Int} {k : Nat} {zs : List Int} {c : Int} (h : Ti xs ys k ys.length zs c) (hk : k < xs.length) : Tm xs ys (k + 1) (zs.set (k + ys.length) (at0 zs (k + ys.length) + c)) ∧ at0 zs (k + ys.length) = 0 := by
  obtain ⟨h1, h2, h3, h4, h5, h6, h7⟩ := h
  have hz : at0 zs (k + ys.length) = 0 := h4 _ (Nat.le_refl _)
  have hlt : k + ys.length < zs.length := by omega
  refine ⟨⟨by omega, by rw [List.length_set, h2], dg_set h3 _ (by omega) (by omega), fun i hi => ?_, ?_⟩, hz⟩
  · rw [at0_set _ hlt, if_neg (by omega)]; exact h4 i (by omega)
  · rw [lv_set 65536 zs _ _ hlt, take_succ', hz]
    rw [List.take_length] at h7
    generalize (65536 : Int) ^ (k + ys.length) = P at *
    generalize (65536 : Int) ^ k = A at *
    grind
theorem Tm.fin {xs ys zs : List Int} (h : Tm xs ys xs.length zs) : dg 65536 zs ∧ lv 65536 zs = lv 65536 xs * lv 65536 ys := by
  have := h.eq
  rw [List.take_length] at this
  exact ⟨h.d, this⟩
end Go.Proofs.Ytcgkgcciogibkaa.Ma
/- A walk by rules: slices that came in; digits of the reference. -/
set_option linter.unusedVariables false
set_option linter.unusedSimpArgs false
namespace Go.Proofs.Ytcgkgcciogibkaa.Sy
open Go Go.RowKit Ma
/-- The place of a number in a slice that came in. -/
def padd (A : Option Addr) (i : Nat) : Option Addr := A.map (·.add i)
section
variable {x y : Operand} {dst : Option Tmp} {ty : TypeId} {pos : String} {after : Array Edge} {guard : Option (Nat × Bool)} {ρ : Operand → Value} {W : World} {a b c : Int}
theorem r_idxR {w0 : World} {k : IntKind} {A : Option Addr} {xs : List Int} {cap i : Nat} (rA : Rd w0 k A xs) (h1 : ρ x = .slice A xs.length cap) (h2 : ρ y = .int .i64 (i : Int)) (hi : i < xs.length) : (execOp ρ ⟨dst, .indexAddr 22 x y, ty, pos, after, guard⟩).run Try.prog W = .ok (.value (.pointer (padd A i))) W := by
  obtain ⟨ad, rfl, _⟩ := rA.2 i hi
  unfold padd
  go_simp
theorem r_idxRI {w0 : World} {k : IntKind} {A : Option Addr} {xs : List Int} {cap i : Nat} (rA : Rd w0 k A xs) (h1 : ρ x = .slice A xs.length cap) (h2 : ρ y = .int .i64 (i : Int)) (hi : i < xs.length) : (execOp ρ ⟨dst, .indexAddr 29 x y, ty, pos, after, guard⟩).run Try.prog W = .ok (.value (.pointer (padd A i))) W := by
  obtain ⟨ad, rfl, _⟩ := rA.2 i hi
  unfold padd
  go_simp
theorem r_lenI {A : Option Addr} {n cap : Nat} (h1 : ρ x = .slice A n cap) : (execOp ρ ⟨dst, .call ⟨.builtin .len, #[x], #[29]⟩, ty, pos, after, guard⟩).run Try.prog W = .ok (.value (.int .i64 (n : Int))) W := by
  go_simp
  done
theorem r_idxI {g n cap i : Nat} (h1 : ρ x = .slice (some ⟨g, 0, none⟩) n cap) (h2 : ρ y = .int .i64 (i : Int)) (hi : i < n) : (execOp ρ ⟨dst, .indexAddr 29 x y, ty, pos, after, guard⟩).run Try.prog W = .ok (.value (.pointer (some ⟨g, i, none⟩))) W := by
  go_simp
theorem r_eqT (h1 : ρ x = .int .i64 a) (h2 : ρ y = .int .i64 b) (e : a = b) : (execOp ρ ⟨dst, .binOp .eql 3 x y 3, ty, pos, after, guard⟩).run Try.prog W = .ok (.value (.bool true)) W := by
  subst e
  go_simp
theorem r_eqF (h1 : ρ x = .int .i64 a) (h2 : ρ y = .int .i64 b) (e : a ≠ b) : (execOp ρ ⟨dst, .binOp .eql 3 x y 3, ty, pos, after, guard⟩).run Try.prog W = .ok (.value (.bool false)) W := by
  have e1 : (a == b) = false := by simpa using e
  go_simp
end
theorem r_l64 (W : World) (p : Addr) (x : Int) (h : W.cell? p = some (.int .i64 x)) : (Instr.loadAt 3 (.pointer (some p))).run Try.prog W = .ok (.int .i64 x) W := by
  go_simp
theorem r_s64 (W : World) (p : Addr) (x y : Int) (h : W.cell? p = some (.int .i64 x)) (hf : W.frozen? p = false) : (Instr.storeAt 3 (.pointer (some p)) (.int .i64 y)).run Try.prog W = .ok () (W.setCell p (.int .i64 y)) := by
  go_simp
theorem r_b1I {x : Operand} {dst : Option Tmp} {ty : TypeId} {pos : String} {after : Array Edge} {guard : Option (Nat × Bool)} {ρ : Operand → Value} {W : World} {a : Int} (h1 : ρ x = .int .i64 a) : (execOp ρ ⟨dst, .buildSlice 29 1 #[(0, x)], ty, pos, after, guard⟩).run Try.prog W = .ok (.value (.slice (some ⟨W.heap.size, 0, none⟩) [a].length [a].length)) (W.alloc (.cells ([a].map (Value.int .i64)).toArray 3)) := by
  go_simp
/-- A slice cut to n. -/
def tv (v : Value) (n : Nat) : Value := match v with
  | .slice A _ c => .slice A n c
  | v => v
theorem tv_blk {W : World} {b : Nat} {e : TypeId} {f : Int → Value} {v : Value} {zs : List Int} (h : OwF W b e f v zs) (n : Nat) : (tv v n).ownBlock = v.ownBlock := by
  rcases h.form with ⟨rfl, _⟩ | ⟨g, c, rfl, _⟩ <;> rfl
theorem tv_own {W : World} {b : Nat} {e : TypeId} {k : IntKind} {v : Value} {zs : List Int} (h : OwF W b e (.int k) v zs) : OwF W b e (.int k) (tv v (trim zs).length) (trim zs) := by
  rcases h.form with ⟨rfl, rfl⟩ | ⟨g, c, rfl, _⟩
  · exact h
  · exact Own.trims (k := k) h
theorem tv_calls {W : World} {b : Nat} {e : TypeId} {v : Value} {zs : List Int} (h : OwF W b e (.int .i64) v zs) : Calls Try.prog 99 #[v] W (Ret W (KV (tv v (trim zs).length))) := by
  rcases h.form with ⟨rfl, rfl⟩ | ⟨g, c, rfl, hc⟩
  · exact (rtrimmed_c rfl (Rd.nil _ _ _) (by decide)).mono fun e W' ⟨e1, e2⟩ => ⟨_, e1, rfl, e2 ▸ Nw.refl _⟩
  · have ho : Own W b e .i64 _ zs := h
    exact (rtrimmed_c rfl ho.rdg.2.2 hc).mono fun e W' ⟨e1, e2⟩ => ⟨_, e1, rfl, e2 ▸ Nw.refl _⟩
theorem Fr.trimv {B N : Nat} {w0 : World} {fr : List (Nat × AV)} {a : Act} {W : World} {K : Nat} {v : Value} {e : TypeId} {k : IntKind} {zs : List Int} (h : Fr B N w0 fr a W) (hK : look fr K = some (.ro v e (Value.int k) zs)) : Fr B N w0 ((K, .ro (tv v (trim zs).length) e (Value.int k) (trim zs)) :: fr) a W :=
  h.more' (tv_own (h.ho K _ hK)) fun j v' p e hj e1 e2 => h.di K j _ v' p e hK hj ((tv_blk (h.ho K _ hK) _).symm.trans e1) e2
/-- nil is a row. -/
theorem Fr.nilrow {B N : Nat} {w0 : World} {fr : List (Nat × AV)} {a : Act} {W : World} (K : Nat) (e : TypeId) (f : Int → Value) (h : Fr B N w0 fr a W) : Fr B N w0 ((K, .ro (.slice none 0 0) e f []) :: fr) a W :=
  h.more (World.ownsRow_nil W B e 1) fun j v' p hj e1 e2 => by cases e1
theorem info_i64 : (Try.prog.info? 3).map (fun i => (i.zero, i.size, i.bytes)) = some (some (.int .i64 0), 1, 8) := by kernel_rfl
section
variable {B N : Nat} {w0 : World} {ops : Array Oper} {o : Oper} {rest : List Oper} {fr : List (Nat × AV)} {Q : Exit → Act → World → Prop} {d : Nat}
theorem iget_run {T : TypeId} {s i : Nat} {A : Option Addr} {k : IntKind} {xs : List Int} {a : Act} {W : World} (hf : Fr B N w0 fr a W) (ho : o.op = .load T (.tmp s)) (hs : look fr s = some (.vl (.pointer (padd A i)))) (hB : B = w0.heap.size) (rA : Rd w0 k A xs) (hi : i < xs.length)
    (hl : ∀ (W : World) (p : Addr) (x : Int), W.cell? p = some (.int k x) → (Instr.loadAt T (.pointer (some p))).run Try.prog W = .ok (.int k x) W) : (execOp a.eval o).run Try.prog W = .ok (.value (.int k (at0 xs i))) W := by
  obtain ⟨ad, rfl, hc⟩ := rA.2 i hi
  have h1 : a.tmps.getD s undef = .pointer (some (ad.add i)) := hf.ho s _ hs
  have h2 : W.cell? (ad.add i) = some (.int k (at0 xs i)) := by
    rw [hf.be.cell (by rw [hB]; exact World.block_lt_of_cell? w0 _ hc)]; exact hc
  unfold execOp
  rw [ho]
  show (do pure (.value (← Instr.loadAt T (a.tmps.getD s undef))) : Sem Next).run Try.prog W = _
  rw [h1]
  exact run_val (hl W _ _ h2)
theorem PW.iget {T : TypeId} {s i : Nat} {A : Option Addr} {k : IntKind} {xs : List Int} (hw : wantB ops fr o = some true) (hd : o.dst = some d) (hN : Nat.blt d N = true) (ho : o.op = .load T (.tmp s)) (hs : look fr s = some (.vl (.pointer (padd A i)))) (hB : B = w0.heap.size) (rA : Rd w0 k A xs) (hi : i < xs.length)
    (hl : ∀ (W : World) (p : Addr) (x : Int), W.cell? p = some (.int k x) → (Instr.loadAt T (.pointer (some p))).run Try.prog W = .ok (.int k x) W) (hk : PW B N w0 ops rest ((d, .vl (.int k (at0 xs i))) :: fr) Q) : PW B N w0 ops (o :: rest) fr Q :=
  PW.val (r := .vl (.int k (at0 xs i))) hw hd hN rfl (fun a W hf => ⟨_, iget_run hf ho hs hB rA hi hl, rfl⟩) hk
theorem DX.iget {T : TypeId} {s i : Nat} {A : Option Addr} {k : IntKind} {xs : List Int} (hw : wantB ops fr o = some true) (hd : o.dst = some d) (hN : Nat.blt d N = true) (ho : o.op = .load T (.tmp s)) (hs : look fr s = some (.vl (.pointer (padd A i)))) (hB : B = w0.heap.size) (rA : Rd w0 k A xs) (hi : i < xs.length)
    (hl : ∀ (W : World) (p : Addr) (x : Int), W.cell? p = some (.int k x) → (Instr.loadAt T (.pointer (some p))).run Try.prog W = .ok (.int k x) W) : Eo B N w0 ops o fr (.val d (.vl (.int k (at0 xs i)))) :=
  DX.val hw hd hN rfl (fun a W hf => ⟨_, iget_run hf ho hs hB rA hi hl, rfl⟩)
/-- A row of the call's own. -/
def KR (base : Nat) (e : TypeId) (k : IntKind) (p : List Int → Prop) : Know := fun v W => ∃ zs, Own W base e k v zs ∧ p zs
theorem KR.l {base : Nat} {e : TypeId} {k : IntKind} {p : List Int → Prop} {v : Value} {W : World} (h : KR base e k p v W) : KL k p v W := by
  obtain ⟨zs, ho, hp⟩ := h
  obtain ⟨A, c, rfl, h1, h2⟩ := ho.rd
  exact ⟨zs, A, c, rfl, h1, h2, hp⟩
end
/-! ### Boxes at a place that is known -/
section
variable {B N : Nat} {w0 : World} {ops : Array Oper} {o : Oper} {rest : List Oper} {fr : List (Nat × AV)} {Q : Exit → Act → World → Prop} {d : Nat}
theorem SC.fix {c : Code} {s : Nat} {b : BT} {k : Know} (hs : look fr s = some (.bx b k)) (h : ∀ p, SC B N w0 c ((s, .bp b p k) :: fr) Q) : SC B N w0 c fr Q := fun a W hf => by
  obtain ⟨p, v, e, hB, hh, hk, hst, ok⟩ := hf.ho s _ hs
  exact h p a W (hf.more' ⟨v, e, hB, hh, hk, hst, ok⟩ fun j v' q hj h1 h2 h3 => hf.di s j _ v' q hj hs h1 (by rw [← h2]; show blk0 (a.tmps.getD s undef) = some p; rw [e]; rfl) h3)
theorem Fr.unfix {a : Act} {W : World} {s p : Nat} {b : BT} {k : Know} (hf : Fr B N w0 fr a W) (hs : look fr s = some (.bp b p k)) : Fr B N w0 ((s, .bx b k) :: fr) a W := by
  obtain ⟨v, e, hB, hh, hk, hst, ok⟩ := hf.ho s _ hs
  exact hf.more' ⟨p, v, e, hB, hh, hk, hst, ok⟩ fun j v' q hj h1 h2 h3 => hf.di s j _ v' q hj hs h1 (by rw [← h2]; show some p = blk0 (a.tmps.getD s undef); rw [e]; rfl) h3
theorem SX.unfix {e : Exit} {s p : Nat} {b : BT} {k : Know} (hs : look fr s = some (.bp b p k)) (h : SX B N w0 e ((s, .bx b k) :: fr) Q) : SX B N w0 e fr Q := fun a W hf => h a W (hf.unfix hs)
/-- The place of a field. -/
theorem DX.fa {T : TypeId} {s j p : Nat} {b : BT} {k : Know} (q : Addr) (hw : wantB ops fr o = some true) (hd : o.dst = some d) (hN : Nat.blt d N = true) (ho : o.op = .fieldAddr T (.tmp s) j) (hs : look fr s = some (.bp b p k))
    (hx : ∀ v W, Holds b p v W → k v W → (Instr.fieldAt T (ptr p) j).run Try.prog W = .ok (.pointer (some q)) W) : Eo B N w0 ops o fr (.val d (.vl (.pointer (some q)))) :=
  DX.val hw hd hN rfl fun a W hf => by
    obtain ⟨v, e, hB, hh, hk, hst, ok⟩ := hf.ho s _ hs
    refine ⟨_, ?_, rfl⟩
    unfold execOp
    rw [ho]
    show (do pure (.value (← Instr.fieldAt T (a.tmps.getD s undef) j)) : Sem Next).run Try.prog W = _
    rw [e]
    exact run_val (hx v W hh hk)
theorem DX.fl {T : TypeId} {s t p : Nat} {b : BT} {k : Know} {r : AV} {q : Addr} (hw : wantB ops fr o = some true) (hd : o.dst = some d) (hN : Nat.blt d N = true) (ho : o.op = .load T (.tmp t)) (ht : look fr t = some (.vl (.pointer (some q)))) (hs : look fr s = some (.bp b p k)) (hr : r.isBx = false) (hst : St r.of)
    (hx : ∀ v W, Holds b p v W → k v W → ∃ u, (Instr.loadAt T (.pointer (some q))).run Try.prog W = .ok u W ∧ r.of u W) : Eo B N w0 ops o fr (.val d r) :=
  DX.val hw hd hN hr fun a W hf => by
    obtain ⟨v, e, hB, hh, hk, _, ok⟩ := hf.ho s _ hs
    have h1 := hf.vl ht
    obtain ⟨u, h2, h3⟩ := hx v W hh hk
    refine ⟨u, ?_, Ho.mk hr h3 hst⟩
    unfold execOp
    rw [ho]
    show (do pure (.value (← Instr.loadAt T (a.tmps.getD t undef))) : Sem Next).run Try.prog W = _
    rw [h1]
    exact run_val h2
end
/-! ### The reference's digits -/
def KDt (z : Int) : Know := KL .i64 fun zs => dg 65536 zs ∧ lv 65536 zs = z ∧ top zs
def KDn (m : Nat) (z : Int) : Know := KL .i64 fun zs => dg 65536 zs ∧ lv 65536 zs = z ∧ zs.length ≤ m
theorem KDt.st (z : Int) : St (KDt z) := KL.st _ _
theorem KDn.st (m : Nat) (z : Int) : St (KDn m z) := KL.st _ _
theorem pow65 (n : Nat) : b32 ^ n = (65536 : Int) ^ (2 * n) := by rw [Int.pow_mul]; rfl
theorem ce_rtrimmed : CE 99 := fun args W => by go_simp
theorem ce_rmade : CE 88 := fun args W => by go_simp
end Go.Proofs.Ytcgkgcciogibkaa.Sy
/- The reference's compare, plus, minus, times, by rules. -/
set_option linter.unusedVariables false
set_option linter.unusedSimpArgs false
namespace Go.Proofs.Ytcgkgcciogibkaa.Sy
open Go Go.RowKit Ma
end Go.Proofs.Ytcgkgcciogibkaa.Sy
/- Powers: what their loop keeps, and how long they are. No program in sight. -/
set_option linter.unusedVariables false
set_option linter.unusedSimpArgs false
namespace Go.Proofs.Ytcgkgcciogibkaa
open Go Go.RowKit Ma
theorem bd.zero {a : Nat} : bd a 0 := by
  have := pos_pow (b := b32) (by decide) a
  unfold bd; omega
end Go.Proofs.Ytcgkgcciogibkaa
/- Fields of the reference's integers in boxes; contracts of its digit functions in the form that the rules want. -/
set_option linter.unusedVariables false
set_option linter.unusedSimpArgs false
namespace Go.Proofs.Ytcgkgcciogibkaa.Sy
open Go Go.RowKit Ma
theorem RJ.num {W : World} {n : Bool} {A : Option Addr} {l c : Nat} {z : Int} (h : RJ W n A l c z) : ∃ xs, l = xs.length ∧ l ≤ c ∧ Rd W .i64 A xs ∧ dg 65536 xs ∧ lv 65536 xs = (z.natAbs : Int) ∧ top xs ∧ n = decide (z < 0) := by
  obtain ⟨xs, h1, h2, h3, d, t, hn, e⟩ := h
  have l0 : 0 ≤ lv 65536 xs := lv_nonneg BJ_pos d
  have e' : z = sg n (lv 65536 xs) := e
  refine ⟨xs, h1, h2, h3, d, ?_, t, ?_⟩
  · rw [e']; cases n <;> simp [sg] <;> omega
  · cases n with
    | false => rw [e']; simp [sg]; omega
    | true =>
      have h5 := top_le BJ_pos d t (hn rfl)
      have h6 := pos_pow BJ_pos (xs.length - 1)
      rw [e']; simp [sg]; omega
section
variable {z : Int} {p : Nat}
end
section
variable {x y : Int} {a b : Nat}
end
end Go.Proofs.Ytcgkgcciogibkaa.Sy
/- A walk by rules: calls that hand back rows that may be nil; append of a row to a row. -/
set_option linter.unusedVariables false
set_option linter.unusedSimpArgs false
namespace Go.Proofs.Ytcgkgcciogibkaa.Sy
open Go Go.RowKit Ma
section
variable {B N : Nat} {w0 : World} {ops : Array Oper} {o : Oper} {rest : List Oper} {fr : List (Nat × AV)} {Q : Exit → Act → World → Prop} {d : Nat}
theorem Own.weaken {W : World} {b b' : Nat} {e : TypeId} {k : IntKind} {v : Value} {zs : List Int} (h : Own W b e k v zs) (hb : b' ≤ b) : Own W b' e k v zs :=
  ⟨h.1, h.2.imp id fun ⟨g', cap, cur, h1, h2, h3⟩ => ⟨g', cap, cur, h1, Nat.le_trans hb h2, h3⟩⟩
/-- A slice of numbers is built: a row. -/
theorem PW.bs {e : TypeId} {f : Int → Value} (K : Nat) (news : List Int) (hne : news ≠ []) (hw : wantB ops fr o = some true) (hd : o.dst = some d) (hN : Nat.blt d N = true)
    (hq : ∀ a W, Fr B N w0 fr a W → (execOp a.eval o).run Try.prog W = .ok (.value (.slice (some ⟨W.heap.size, 0, none⟩) news.length news.length)) (W.alloc (.cells (news.map f).toArray e))) (hm : news.length ≤ maxLen)
    (hk : ∀ g, PW B N w0 ops rest ((K, .ro (.slice (some ⟨g, 0, none⟩) news.length news.length) e f news) :: (d, .vl (.slice (some ⟨g, 0, none⟩) news.length news.length)) :: fr) Q) : PW B N w0 ops (o :: rest) fr Q :=
  PW.step hw fun a W hf K' hK' => by
    unfold Oper.wp
    rw [hq a W hf, Oper.upon_value, hd]
    have hf2 := hf.set (v := .vl (.slice (some ⟨W.heap.size, 0, none⟩) news.length news.length)) hN (u := .slice (some ⟨W.heap.size, 0, none⟩) news.length news.length) rfl rfl
    have hn : Nw W (W.alloc (.cells (news.map f).toArray e)) := (Nw.refl W).alloc _
    refine hK' _ _ (hk W.heap.size _ _ (hf2.row hn (fun g hg => by injection hg with hg; rw [← hg]; exact Nat.le_refl _) ?_))
    refine ⟨by simp, .inr ⟨W.heap.size, news.length, (news.map f).toArray, rfl, hf.bs, heap_alloc_new W _, Nat.le_refl _, hm, by simp, ?_⟩⟩
    simp [List.take_of_length_le]
/-- append(s, x...). -/
theorem PW.apr {T e : TypeId} {K K2 s x by_ : Nat} {v v2 : Value} {f : Int → Value} {zs zs2 : List Int} (hg : o.guard = none) (hd : o.dst = some d) (hN : Nat.blt d N = true) (ho : o.op = .call { callee := .builtin .append, args := #[.tmp s, .tmp x], argTypes := #[T, T] }) (hs : look fr s = some (.vl v)) (hx : look fr x = some (.vl v2))
    (hK : look fr K = some (.ro v e f zs)) (hK2 : look fr K2 = some (.ro v2 e f zs2)) (hc : calmB fr = true)
    (hu : Try.prog.underlying T = some (.slice e)) (hi : (Try.prog.info? e).map (fun i => (i.zero, i.size, i.bytes)) = some (some (f 0), 1, by_)) (hz : (f 0).cells.size = 1) (h1c : ∀ x, (f x).oneCell' = true) (hn : zs.length + zs2.length ≤ maxLen) (hb : (zs.length + zs2.length) * by_ ≤ 140737488355328)
    (hKN : Nat.ble N K = true) (hk : ∀ v', PW B N w0 ops rest ((K, .ro v' e f (zs ++ zs2)) :: (d, .vl v') :: fr) Q) : PW B N w0 ops (o :: rest) fr Q :=
  fun a W hf => wpList_step fun K' hK' => by
    rw [if_pos (by simp [Region.wanted, hg])]
    have s1 : a.eval (.tmp s) = v := hf.ho s _ hs
    have s2 : a.eval (.tmp x) = v2 := hf.ho x _ hx
    have own : W.ownsRow B e 1 v zs.length (zs.map f) := hf.ho K _ hK
    have own2 : OwF W B e f v2 zs2 := hf.ho K2 _ hK2
    obtain ⟨i0, q1, q2, q3, q4⟩ := info_parts hi
    have ex : ∃ v' W', (Builtin.append_ #[T, T] o.type #[v, v2]).run Try.prog W = .ok v' W' ∧ W'.ownsRow B e 1 v' (zs.length + zs2.length) (zs.map f ++ zs2.map f) ∧ W.grownBy W' v.ownBlock ∧ (v'.ownBlock = v.ownBlock ∨ v'.ownBlock = some W.heap.size) := by
      rcases own2.form with ⟨rfl, rfl⟩ | ⟨g2, c2, rfl, hc2⟩
      · exact ⟨v, W, run_append_owned_none (P := Try.prog) W B T o.type e i0 1 hu q1 v zs.length (zs.map f) own, by simpa using own, ⟨rfl, rfl, rfl, Nat.le_refl _, fun _ _ _ => rfl⟩, .inl rfl⟩
      · obtain ⟨v', W2, r1, r2, r3, _, r5⟩ := run_append_own_at (P := Try.prog) W B T o.type e i0 (f 0) 1 by_ hu q1 q2 q3 q4 hz (by decide) v zs.length (zs.map f) own ⟨g2, 0, none⟩ zs2.length c2 (zs2.map f) (by simp) (fun j u hj => by
          rw [add_at]
          rw [List.getElem?_map] at hj
          obtain ⟨z, hz1, rfl⟩ := Option.map_eq_some_iff.1 hj
          obtain ⟨hjl, rfl⟩ := List.getElem?_eq_some_iff.1 hz1
          have := own2.cellAt hjl
          rw [at0_of_lt hjl] at this
          exact this) (fun u hu => by obtain ⟨x, _, rfl⟩ := List.mem_map.1 hu; exact h1c x) hn hb hf.bs
        exact ⟨v', W2, r1, r2, r3, r5⟩
    obtain ⟨v', W', r1, r2, r3, r5⟩ := ex
    have e2 : (execOp a.eval o).run Try.prog W = .ok (.value v') W' := by
      unfold execOp
      simp only [ho, resolve, invoke, builtin, Sem.run_bind, Sem.run_pure, Result.andThen_ok, List.map_toArray, List.map_cons, List.map_nil, s1, s2, r1]
    unfold Oper.wp
    rw [e2, Oper.upon_value, hd]
    have own3 : OwF W' B e f v' (zs ++ zs2) := by
      unfold OwF
      rw [List.length_append, List.map_append]
      exact r2
    have hf2 := hf.rgrow hK hc r3 own3 r5 (Nat.le_refl _)
    have hf3 := hf2.set (v := .vl v') hN (u := v') rfl rfl
    refine hK' _ _ (hk v' _ _ (hf3.ext fun s' => ?_))
    have hdK : ¬ d = K := fun e => by subst e; simp [Nat.blt_eq] at hN hKN; omega
    simp only [look_cons]
    by_cases a1 : K = s'
    · subst a1; rw [if_pos rfl, if_neg hdK, if_pos rfl]
    · rw [if_neg a1, if_neg a1]
end
end Go.Proofs.Ytcgkgcciogibkaa.Sy
/- A walk by rules: statements that draw their order, whose last operations wait for all else. -/
set_option linter.unusedVariables false
set_option linter.unusedSimpArgs false
namespace Go.Proofs.Ytcgkgcciogibkaa.Sy
open Go Go.RowKit Ma
/-- From operation m on each waits for all ahead of it. -/
def tailB (ops : Array Oper) (m : Nat) : Bool :=
  ((List.range m).all fun j => (List.range (m + 1)).any fun k => Nat.blt j k && wt ops k j) &&
  (List.range ops.size).all fun s => !(Nat.blt m s) || wt ops s (s - 1)
theorem tailB_spec {ops : Array Oper} {m : Nat} (h : tailB ops m = true) {L : Nat → Bool} (hd : Dn ops L) {i : Nat} (hm : m ≤ i) (hi : i < ops.size) (hL : ∀ j, wt ops i j = true → L j = true) : ∀ j, j < i → L j = true := by
  unfold tailB at h
  rw [Bool.and_eq_true, List.all_eq_true, List.all_eq_true] at h
  obtain ⟨h1, h2⟩ := h
  -- those from m on
  have up : ∀ n j, i - j = n → m ≤ j → j < i → L j = true := by
    intro n
    induction n using Nat.strongRecOn with
    | _ n ih =>
      intro j hn hj hji
      have h3 := h2 (j + 1) (List.mem_range.2 (by omega))
      have h3 : wt ops (j + 1) j = true := by
        have h4 : Nat.blt m (j + 1) = true := by rw [Nat.blt_eq]; omega
        rw [h4] at h3
        simpa using h3
      by_cases e : j + 1 = i
      · subst e; exact hL j h3
      · exact hd _ _ (ih (i - (j + 1)) (by omega) (j + 1) rfl (by omega) (by omega)) h3
  have dn : ∀ n j, m - j = n → j < m → L j = true := by
    intro n
    induction n using Nat.strongRecOn with
    | _ n ih =>
      intro j hn hjm
      have h3 := h1 j (List.mem_range.2 hjm)
      rw [List.any_eq_true] at h3
      obtain ⟨k, hk, hk2⟩ := h3
      rw [Bool.and_eq_true] at hk2
      have hk1 : j < k := by simpa [Nat.blt_eq] using hk2.1
      have hk3 : k < m + 1 := by simpa using hk
      by_cases e : k = i
      · subst e; exact hL j hk2.2
      · by_cases e2 : k = m
        · subst e2; exact hd _ _ (up _ k rfl (Nat.le_refl _) (by omega)) hk2.2
        · exact hd _ _ (ih (m - k) (by omega) k rfl (by omega)) hk2.2
  intro j hj
  by_cases hjm : j < m
  · exact dn _ j rfl hjm
  · exact up _ j rfl (by omega) hj
theorem ready_min {ops : Array Oper} (h1 : backB ops = true) {listed : Array Bool} (hz : listed.size = ops.size) {k : Nat} (hk : k < ops.size) (hn : listed.getD k false = false) (hb : ∀ j, j < k → listed.getD j false = true) : k ∈ Region.ready .any ops listed := by
  refine mem_ready.2 ⟨?_, ops[k], by simp [hk], fun e he hbd => ?_⟩
  · have : k < listed.size := by omega
    simp [this] at hn ⊢; exact hn
  · have hw : wt ops k e.on = true := by
      unfold wt
      rw [show ops[k]? = some ops[k] by simp [hk]]
      simp only []
      rw [Array.any_eq_true']
      exact ⟨e, he, by rw [hbd]; simp⟩
    exact hb _ (back_spec h1 hw)
theorem set_add {listed : Array Bool} {i : Nat} (hi : i < listed.size) : (fun j => (listed.setIfInBounds i true).getD j false) = add (fun j => listed.getD j false) i := by
  funext j
  unfold add
  by_cases hji : j = i
  · subst hji
    simp [hi]
  · rw [if_neg hji]
    simp only [Array.getD_eq_getD_getElem?, Array.getElem?_setIfInBounds, if_neg (Ne.symm hji)]
theorem wt_ready {ops : Array Oper} {listed : Array Bool} {i : Nat} (hi : i ∈ Region.ready .any ops listed) : i < ops.size ∧ listed.getD i false = false ∧ ∀ j, wt ops i j = true → listed.getD j false = true := by
  obtain ⟨hun, o, hoo, haft⟩ := mem_ready.1 hi
  refine ⟨(Array.getElem?_eq_some_iff.1 hoo).1, Rh.listed_not hun, fun j hj => ?_⟩
  unfold wt at hj
  rw [hoo] at hj
  simp only [] at hj
  rw [Array.any_eq_true'] at hj
  obtain ⟨e, he, hb⟩ := hj
  rw [Bool.and_eq_true] at hb
  have : e.on = j := by simpa using hb.2
  rw [← this]
  exact haft e he hb.1
theorem dn_set {ops : Array Oper} {L : Nat → Bool} {i : Nat} (hD : Dn ops L) (hw : ∀ j, wt ops i j = true → L j = true) : Dn ops (add L i) := by
  intro p q hp hpq
  unfold add at hp ⊢
  by_cases hqi : q = i
  · rw [if_pos hqi]
  · rw [if_neg hqi]
    by_cases hpi : p = i
    · subst hpi; exact hw q hpq
    · rw [if_neg hpi] at hp; exact hD p q hp hpq
theorem tail_run {l : List Oper} {m : Nat} {Q : Exit → Act → World → Prop} (h1 : backB l.toArray = true) (hc : tailB l.toArray m = true) : ∀ (rest : List Oper) (k fuel : Nat) (listed : Array Bool) (a : Act) (W : World), l.drop k = rest → m ≤ k → listed.size = l.length → Dn l.toArray (fun j => listed.getD j false) → (∀ j, j < l.length → listed.getD j false = decide (j < k)) → rest.length ≤ fuel →
    wpList Try.prog l.toArray Q rest a W → wpAny Try.prog .any l.toArray Q fuel listed a W
  | [], k, fuel, listed, a, W, he, hm, hz, hD, hL, hf, h => by
    have hkl : l.length ≤ k := by have := congrArg List.length he; simp at this; omega
    have hnil : Region.ready .any l.toArray listed = [] := by
      cases hr : Region.ready .any l.toArray listed with
      | nil => rfl
      | cons i t =>
        exfalso
        have hi : i ∈ Region.ready .any l.toArray listed := by rw [hr]; exact List.mem_cons_self
        obtain ⟨a1, a2, _⟩ := wt_ready hi
        have a1 : i < l.length := by simpa using a1
        rw [hL i a1] at a2
        have : ¬ i < k := by simpa using a2
        omega
    cases fuel with
    | zero => exact ⟨hnil, h⟩
    | succ f => exact ⟨fun _ => h, fun i hi => by rw [hnil] at hi; cases hi⟩
  | o :: rest, k, fuel, listed, a, W, he, hm, hz, hD, hL, hf, h => by
    have hkl : k < l.length := by have := congrArg List.length he; simp at this; omega
    have hok : l.toArray[k]? = some o := by
      have : (l.drop k)[0]? = some o := by rw [he]; rfl
      rw [List.getElem?_drop] at this
      simpa using this
    have hzz : listed.size = l.toArray.size := by simpa using hz
    cases fuel with
    | zero => simp at hf
    | succ f =>
      have hnk : listed.getD k false = false := by rw [hL k hkl]; simp
      refine ⟨fun hr => ?_, fun i hi => ?_⟩
      · have := ready_min h1 hzz (k := k) (by simpa using hkl) hnk (fun j hj => by rw [hL j (by omega)]; simpa using hj)
        rw [hr] at this
        cases this
      · obtain ⟨a1, a2, a3⟩ := wt_ready hi
        have a1' : i < l.length := by simpa using a1
        have hki : ¬ i < k := by have := a2; rw [hL i a1'] at this; simpa using this
        have hik : i = k := by
          have h5 := tailB_spec hc hD (i := i) (by omega) a1 a3
          by_cases e : k < i
          · have := h5 k e; rw [hnk] at this; cases this
          · omega
        subst hik
        have nxt : ∀ a' W', wpList Try.prog l.toArray Q rest a' W' → wpAny Try.prog .any l.toArray Q f (listed.setIfInBounds i true) a' W' := fun a' W' h' =>
          tail_run h1 hc rest (i + 1) f _ a' W' (by rw [← List.drop_drop, he]; rfl) (by omega) (by simpa using hz) (by rw [set_add (by omega)]; exact dn_set hD a3) (fun j hj => by
            have := congrFun (set_add (listed := listed) (i := i) (by omega)) j
            rw [this]
            unfold add
            by_cases e : j = i
            · rw [if_pos e]; subst e; simp
            · rw [if_neg e]
              show listed.getD j false = _
              rw [hL j hj]; simp; omega) (by simp at hf; omega) h'
        unfold wpOp
        rw [hok]
        simp only []
        unfold wpList at h
        by_cases hw : Region.wanted o (yielded l.toArray a.tmps) = true
        · rw [if_pos hw] at h ⊢
          exact h.imp (fun h => Oper.wp_mono nxt h) id
        · rw [if_neg hw] at h ⊢
          exact nxt _ _ h
theorem lft_ge {L : Nat → Bool} {m : Nat} : ∀ n, (∀ j, m ≤ j → j < n → L j = false) → n - m ≤ lft n L
  | 0, _ => by omega
  | n + 1, h => by
    unfold lft
    have := lft_ge n fun j h1 h2 => h j h1 (by omega)
    by_cases e : m ≤ n
    · rw [h n e (by omega)]; simp; omega
    · omega
theorem least {L : Nat → Bool} {m : Nat} (h : ¬ ∀ j, j < m → L j = true) : ∃ k, k < m ∧ L k = false ∧ ∀ j, j < k → L j = true := by
  induction m with
  | zero => exact absurd (fun j hj => by omega) h
  | succ m ih =>
    by_cases h2 : ∀ j, j < m → L j = true
    · refine ⟨m, by omega, ?_, h2⟩
      cases hm : L m with
      | false => rfl
      | true => exact absurd (fun j hj => by by_cases e : j = m; (subst e; exact hm); exact h2 j (by omega)) h
    · obtain ⟨k, h3, h4, h5⟩ := ih h2
      exact ⟨k, by omega, h4, h5⟩
/-- **A statement that draws its order, the last operations of which wait for all else.** -/
theorem SC.dxl {B N : Nat} {w0 : World} {id : Nat} {l : List Oper} {fr : List (Nat × AV)} {Q : Exit → Act → World → Prop} (es : List Eff) (sees : List (List Nat × List Nat)) (hlen : Nat.ble es.length l.length = true)
    (h1 : backB l.toArray = true) (h2 : twiceB l.toArray es = true) (h3 : seesB l.toArray es 0 sees = true) (h4 : dxcalm es fr = true) (hc : tailB l.toArray es.length = true) (ho : Eos B N w0 l.toArray es fr (l.take es.length) es sees) (hk : PW B N w0 l.toArray (l.drop es.length) (ents es fr) Q) : SC B N w0 (.region id l.toArray true) fr Q := fun a W hf => by
  have hd : Nw W W.drew := (Nw.refl W).drew
  have hlen : es.length ≤ l.length := Nat.le_of_ble_eq_true hlen
  refine wp_region_any (by kernel_rfl) ?_
  have key : ∀ (fuel : Nat) (listed : Array Bool) (a : Act) (W : World), listed.size = l.length → Dn l.toArray (fun j => listed.getD j false) → (∀ j, es.length ≤ j → j < l.length → listed.getD j false = false) → lft l.length (fun j => listed.getD j false) ≤ fuel → Fr B N w0 (cur 0 es (fun j => listed.getD j false) fr) a W → wpAny Try.prog .any l.toArray Q fuel listed a W := by
    intro fuel
    induction fuel with
    | zero =>
      intro listed a W hz hD hT hl hf
      have hall := lft_zero l.length (Nat.le_zero.1 hl)
      refine tail_run h1 hc (l.drop es.length) es.length 0 listed a W rfl (Nat.le_refl _) hz hD (fun j hj => ?_) ?_ (hk a W (by rw [cur_all es 0 fr fun k _ hk2 => hall k (by omega)] at hf; exact hf))
      · rw [hall j hj]
        by_cases e : j < es.length
        · simp [e]
        · have := hT j (by omega) hj; rw [hall j hj] at this; cases this
      · have := lft_ge l.length hT
        simp; omega
    | succ fuel ih =>
      intro listed a W hz hD hT hl hf
      have hzz : listed.size = l.toArray.size := by simpa using hz
      by_cases hall : ∀ j, j < es.length → listed.getD j false = true
      · refine tail_run h1 hc (l.drop es.length) es.length (fuel + 1) listed a W rfl (Nat.le_refl _) hz hD (fun j hj => ?_) ?_ (hk a W (by rw [cur_all es 0 fr fun k _ hk2 => hall k (by omega)] at hf; exact hf))
        · by_cases e : j < es.length
          · rw [hall j e]; simp [e]
          · rw [hT j (by omega) hj]; simp [e]
        · have := lft_ge l.length hT
          simp; omega
      · obtain ⟨k, hk1, hk2, hk3⟩ := least hall
        refine ⟨fun hr => ?_, fun i hi => ?_⟩
        · have := ready_min h1 hzz (k := k) (by simp; omega) hk2 hk3
          rw [hr] at this
          cases this
        · obtain ⟨a1, a2, a3⟩ := wt_ready hi
          have a1' : i < l.length := by simpa using a1
          have him : i < es.length := by
            by_cases e : i < es.length
            · exact e
            · have := tailB_spec hc hD (i := i) (by omega) a1 a3 k (by omega)
              rw [hk2] at this; cases this
          have hoo : l.toArray[i]? = some l[i] := by simp [a1']
          obtain ⟨e, js, ss, he, hs, hE⟩ := ho.at (i := i) (o := l[i]) (by rw [List.getElem?_take]; simp [him, a1'])
          have hsb := seesB_at h3 (k := i) hs
          rw [Nat.zero_add] at hsb
          have hLadd := set_add (listed := listed) (i := i) (by omega)
          refine hE.step hoo hf (see_spec hD a2 a3 js ss hsb) (fun hr => dxcalm_spec h4 he hr _) fun a' W' hf' => ih _ a' W' (by simpa using hz) ?_ ?_ ?_ ?_
          · rw [hLadd]; exact dn_set hD a3
          · intro j hj hj2
            rw [congrFun hLadd j]
            unfold add
            rw [if_neg (by omega)]
            exact hT j hj hj2
          · rw [hLadd]
            have := lft_add (L := fun j => listed.getD j false) (i := i) a2 l.length a1'
            omega
          · rw [hLadd]
            refine hf'.ext fun s => look_add he a2 (fun k e' hik hk' hsl => ?_) s
            cases hk2 : listed.getD k false with
            | false => rfl
            | true => exact absurd ((hD k i hk2 (twice_spec h2 hik hk' he hsl)).symm.trans a2) (by simp)
  refine key _ _ a W.drew (by simp) (fun i j hi => ?_) (fun j _ hj => by simp [hj]) ?_ ?_
  · exfalso
    rcases Nat.lt_or_ge i l.length with h' | h'
    · simp [h'] at hi
    · simp [Array.getElem?_eq_none, h'] at hi
  · have : ∀ n, lft n (fun j => (Array.replicate l.toArray.size false).getD j false) ≤ n := by
      intro n
      induction n with
      | zero => exact Nat.le_refl _
      | succ n ih => unfold lft; split <;> omega
    simpa using this l.length
  · rw [cur_no es 0 fr fun k => by
      rcases Nat.lt_or_ge k l.length with h' | h'
      · simp [h']
      · simp [Array.getElem?_eq_none, h']]
    exact hf.nw hd
/-! ### Rows of the call's own, wherever they lie -/
section
variable {B N : Nat} {w0 : World} {ops : Array Oper} {o : Oper} {rest : List Oper} {fr : List (Nat × AV)} {Q : Exit → Act → World → Prop} {d : Nat}
theorem DX.bs {e : TypeId} {f : Int → Value} (news : List Int) (hg : o.guard = none) (hd : o.dst = some d) (hN : Nat.blt d N = true)
    (hq : ∀ a W, Fr B N w0 fr a W → (execOp a.eval o).run Try.prog W = .ok (.value (.slice (some ⟨W.heap.size, 0, none⟩) news.length news.length)) (W.alloc (.cells (news.map f).toArray e))) (hm : news.length ≤ maxLen) : Eo B N w0 ops o fr (.row d e f (fun zs => zs = news)) :=
  ⟨hd, hN, hg, fun a W hf => by
    unfold Rh.gives
    rw [hq a W hf]
    refine ⟨(Nw.refl W).alloc _, news, ⟨by simp, .inr ⟨W.heap.size, news.length, (news.map f).toArray, rfl, Nat.le_refl _, heap_alloc_new W _, Nat.le_refl _, hm, by simp, ?_⟩⟩, rfl⟩
    simp [List.take_of_length_le]⟩
/-- A call, by whatever is known at it. -/
theorem DX.callG {c : Call} {f : FuncId} {r : AV} (ce : CE f) (hw : wantB ops fr o = some true) (hd : o.dst = some d) (hN : Nat.blt d N = true) (ho : o.op = .call c) (hc : c.callee = .value (.func f)) (hst : St r.of) (hr : r.isBx = false)
    (h : ∀ a W, Fr B N w0 fr a W → Calls Try.prog f (c.args.toList.map a.eval).toArray W (Ret W r.of)) : Eo B N w0 ops o fr (.val d r) := by
  refine ⟨hd, hN, hr, fun a W hf => .inl ⟨wantB_spec hf hw, ?_⟩⟩
  obtain ⟨dst, op, ty, pos, after, guard⟩ := o
  simp only at ho
  subst ho
  unfold Rh.gives
  rw [run_call ce hc a.eval rfl ty W]
  have e0 : (c.args.toList.map a.eval).toArray = c.args.map a.eval := by rw [← Array.toList_map]
  have := h a W hf
  rw [e0] at this
  exact Rh.gives_enter (this.mono fun e W' ⟨v, he, hv, hn⟩ => ⟨v, he, hn, Ho.mk hr hv hst⟩)
theorem Fr.openx {a : Act} {W : World} {s K : Nat} {e : TypeId} {f : Int → Value} {p : List Int → Prop} (hf : Fr B N w0 fr a W) (hs : look fr s = some (.rx e f p)) (hKs : Nat.beq s K = false) : ∃ v zs, p zs ∧ Fr B N w0 ((K, .ro v e f zs) :: (s, .vl v) :: fr) a W := by
  obtain ⟨zs, ho, hp⟩ := hf.ho s _ hs
  refine ⟨a.tmps.getD s undef, zs, hp, ?_⟩
  have hf1 := hf.know (i := s) (v := .vl (a.tmps.getD s undef)) rfl rfl
  refine hf1.more' (i := K) (v := .ro (a.tmps.getD s undef) e f zs) ho fun j v' q hj e1 e2 e3 => ?_
  rw [look_cons] at e1
  by_cases ej : s = j
  · rw [if_pos ej] at e1; injection e1 with e1; subst e1; cases e3
  · rw [if_neg ej] at e1; exact hf.di s j _ v' q ej hs e1 e2 e3
theorem PW.openx {s : Nat} {e : TypeId} {f : Int → Value} {p : List Int → Prop} (K : Nat) (hs : look fr s = some (.rx e f p)) (hKs : Nat.beq s K = false) (hk : ∀ v zs, p zs → PW B N w0 ops rest ((K, .ro v e f zs) :: (s, .vl v) :: fr) Q) : PW B N w0 ops rest fr Q := fun a W hf => by
  obtain ⟨v, zs, hp, h⟩ := hf.openx hs hKs
  exact hk v zs hp a W h
theorem SC.openx {c : Code} {s : Nat} {e : TypeId} {f : Int → Value} {p : List Int → Prop} (K : Nat) (hs : look fr s = some (.rx e f p)) (hKs : Nat.beq s K = false) (hk : ∀ v zs, p zs → SC B N w0 c ((K, .ro v e f zs) :: (s, .vl v) :: fr) Q) : SC B N w0 c fr Q := fun a W hf => by
  obtain ⟨v, zs, hp, h⟩ := hf.openx hs hKs
  exact hk v zs hp a W h
theorem PW.keep (fr' : List (Nat × AV)) (hs : Sub fr' fr) (h : PW B N w0 ops rest fr' Q) : PW B N w0 ops rest fr Q := fun a W hf => h a W (hf.sub hs.spec)
theorem PW.unfix {s p : Nat} {b : BT} {k : Know} (hs : look fr s = some (.bp b p k)) (h : PW B N w0 ops rest ((s, .bx b k) :: fr) Q) : PW B N w0 ops rest fr Q := fun a W hf => h a W (hf.unfix hs)
/-- Two results in boxes. -/
theorem SX.done2C {fn : Func} {e : Exit} {s s' : Nat} {b b' : BT} {k k' : Know} (he : e = .ret ∨ e = .normal) (hr : fn.results = #[.cell s b.T, .cell s' b'.T]) (hs : look fr s = some (.bx b k)) (hs' : look fr s' = some (.bx b' k')) (hB : B = w0.heap.size) : SX B N w0 e fr (bodyPost Try.prog fn (Ret w0 (K2 k k'))) := fun a W hf => by
  obtain ⟨p, v, ep, _, hh, hv, st, ok⟩ := hf.ho s _ hs
  obtain ⟨p', v', ep', _, hh', hv', st', ok'⟩ := hf.ho s' _ hs'
  have hrun : (results fn a.tmps).run Try.prog W = .ok (.tuple #[v, v']) W := by
    have h1 := run_cell ok hh
    have h2 := run_cell ok' hh'
    have e1 : a.tmps[s]?.getD undef = ptr p := by simpa [Array.getD_eq_getD_getElem?] using ep
    have e2 : a.tmps[s']?.getD undef = ptr p' := by simpa [Array.getD_eq_getD_getElem?] using ep'
    unfold results
    generalize loadVar = G at h1 h2 ⊢
    simp [hr, go_sem, e1, e2, asAddr, h1, h2]
  have key : a.defers = [] ∧ ∃ v, (results fn a.tmps).run Try.prog W = .ok v W ∧ Ret w0 (K2 k k') (.returned v) W :=
    ⟨hf.df, _, hrun, ⟨_, rfl, ⟨v, v', rfl, hv, hv'⟩, by have := hf.be; rw [hB] at this; exact this⟩⟩
  rcases he with rfl | rfl <;> exact key
end
/-! ### Boxes that hold just a value -/
section
variable {B N : Nat} {w0 : World} {ops : Array Oper} {o : Oper} {rest : List Oper} {fr : List (Nat × AV)} {Q : Exit → Act → World → Prop} {d : Nat}
theorem PW.boxc {T : TypeId} {x : Operand} {v : Value} (b : BT) (hw : wantB ops fr o = some true) (hd : o.dst = some d) (hN : Nat.blt d N = true) (ho : o.op = .box T x) (hT : b.T = T) (ok : b.Ok) (hx : opv fr x = some (.vl v)) (hsh : ∃ cs, b.sh v cs) (hk : ∀ p, PW B N w0 ops rest ((d, .bc b p v) :: fr) Q) : PW B N w0 ops (o :: rest) fr Q :=
  PW.step hw fun a W hf K hK => by
    have h1 := opv_vl hf hx
    obtain ⟨cs, hcs⟩ := hsh
    obtain ⟨ob, hbx⟩ := ok.box _ _ hcs
    obtain ⟨h5, h6⟩ := hbx W
    have e : (execOp a.eval o).run Try.prog W = .ok (.value (ptr W.heap.size)) (W.alloc ob) := by
      unfold execOp
      rw [ho, ← hT]
      show (do pure (.value (← Instr.box b.T (a.eval x))) : Sem Next).run Try.prog W = _
      rw [h1]
      exact run_val h5
    unfold Oper.wp
    rw [e, Oper.upon_value, hd]
    exact hK _ _ (hk W.heap.size _ _ (hf.fresh ((Nw.refl W).alloc ob) hN (Nat.le_refl _) (v := .bc b W.heap.size v) rfl ⟨rfl, ⟨cs, hcs, h6⟩, ok⟩))
theorem fac_run {T : TypeId} {s j p : Nat} {b : BT} {v : Value} {q : Addr} {a : Act} {W : World} (hf : Fr B N w0 fr a W) (ho : o.op = .fieldAddr T (.tmp s) j) (hs : look fr s = some (.bc b p v)) (hx : ∀ W, Holds b p v W → (Instr.fieldAt T (ptr p) j).run Try.prog W = .ok (.pointer (some q)) W) : (execOp a.eval o).run Try.prog W = .ok (.value (.pointer (some q))) W := by
  obtain ⟨e, hh, ok⟩ := hf.ho s _ hs
  unfold execOp
  rw [ho]
  show (do pure (.value (← Instr.fieldAt T (a.tmps.getD s undef) j)) : Sem Next).run Try.prog W = _
  rw [e]
  exact run_val (hx W hh)
theorem PW.fac {T : TypeId} {s j p : Nat} {b : BT} {v : Value} (q : Addr) (hw : wantB ops fr o = some true) (hd : o.dst = some d) (hN : Nat.blt d N = true) (ho : o.op = .fieldAddr T (.tmp s) j) (hs : look fr s = some (.bc b p v)) (hx : ∀ W, Holds b p v W → (Instr.fieldAt T (ptr p) j).run Try.prog W = .ok (.pointer (some q)) W)
    (hk : PW B N w0 ops rest ((d, .vl (.pointer (some q))) :: fr) Q) : PW B N w0 ops (o :: rest) fr Q :=
  PW.val (r := .vl (.pointer (some q))) hw hd hN rfl (fun a W hf => ⟨_, fac_run hf ho hs hx, rfl⟩) hk
theorem DX.fac {T : TypeId} {s j p : Nat} {b : BT} {v : Value} (q : Addr) (hw : wantB ops fr o = some true) (hd : o.dst = some d) (hN : Nat.blt d N = true) (ho : o.op = .fieldAddr T (.tmp s) j) (hs : look fr s = some (.bc b p v)) (hx : ∀ W, Holds b p v W → (Instr.fieldAt T (ptr p) j).run Try.prog W = .ok (.pointer (some q)) W) : Eo B N w0 ops o fr (.val d (.vl (.pointer (some q)))) :=
  DX.val hw hd hN rfl (fun a W hf => ⟨_, fac_run hf ho hs hx, rfl⟩)
theorem flc_run {T : TypeId} {s t p : Nat} {b : BT} {v u : Value} {q : Addr} {a : Act} {W : World} (hf : Fr B N w0 fr a W) (ho : o.op = .load T (.tmp t)) (ht : look fr t = some (.vl (.pointer (some q)))) (hs : look fr s = some (.bc b p v)) (hx : ∀ W, Holds b p v W → (Instr.loadAt T (.pointer (some q))).run Try.prog W = .ok u W) : (execOp a.eval o).run Try.prog W = .ok (.value u) W := by
  obtain ⟨e, hh, ok⟩ := hf.ho s _ hs
  have h1 := hf.ho t _ ht
  unfold execOp
  rw [ho]
  show (do pure (.value (← Instr.loadAt T (a.tmps.getD t undef))) : Sem Next).run Try.prog W = _
  rw [show a.tmps.getD t undef = .pointer (some q) from h1]
  exact run_val (hx W hh)
theorem PW.flc {T : TypeId} {s t p : Nat} {b : BT} {v : Value} {q : Addr} (u : Value) (hw : wantB ops fr o = some true) (hd : o.dst = some d) (hN : Nat.blt d N = true) (ho : o.op = .load T (.tmp t)) (ht : look fr t = some (.vl (.pointer (some q)))) (hs : look fr s = some (.bc b p v)) (hx : ∀ W, Holds b p v W → (Instr.loadAt T (.pointer (some q))).run Try.prog W = .ok u W)
    (hk : PW B N w0 ops rest ((d, .vl u) :: fr) Q) : PW B N w0 ops (o :: rest) fr Q :=
  PW.val (r := .vl u) hw hd hN rfl (fun a W hf => ⟨_, flc_run hf ho ht hs hx, rfl⟩) hk
theorem DX.flc {T : TypeId} {s t p : Nat} {b : BT} {v : Value} {q : Addr} (u : Value) (hw : wantB ops fr o = some true) (hd : o.dst = some d) (hN : Nat.blt d N = true) (ho : o.op = .load T (.tmp t)) (ht : look fr t = some (.vl (.pointer (some q)))) (hs : look fr s = some (.bc b p v)) (hx : ∀ W, Holds b p v W → (Instr.loadAt T (.pointer (some q))).run Try.prog W = .ok u W) : Eo B N w0 ops o fr (.val d (.vl u)) :=
  DX.val hw hd hN rfl (fun a W hf => ⟨_, flc_run hf ho ht hs hx, rfl⟩)
/-- What does not hang on where the call's own blocks begin. -/
def AV.free : AV → Bool
  | .vl _ => true
  | .kw _ => true
  | .bc _ _ _ => true
  | _ => false
def freeB : List (Nat × AV) → Bool
  | [] => true
  | (_, v) :: l => v.free && freeB l
theorem free_look : ∀ {fr : List (Nat × AV)}, freeB fr = true → ∀ s v, look fr s = some v → v.free = true
  | [], _, s, v, h => by cases h
  | (j, u) :: l, hc, s, v, h => by
    unfold freeB at hc
    rw [Bool.and_eq_true] at hc
    rw [look_cons] at h
    by_cases e : j = s
    · rw [if_pos e] at h; injection h with h; subst h; exact hc.1
    · rw [if_neg e] at h; exact free_look hc.2 s v h
theorem Ho.base {B' : Nat} {v : AV} {u : Value} {W : World} (hv : v.free = true) (h : Ho B v u W) : Ho B' v u W := by
  cases v with
  | vl v => exact h
  | kw k => exact h
  | bc b p v => exact h
  | _ => cases hv
/-- From here on all that is there is old: a box is known by what it holds now. -/
theorem SC.rebase {c : Code} {s : Nat} {b : BT} {k : Know} (fr' : List (Nat × AV)) (hs : look fr s = some (.bx b k)) (hsub : Sub fr' fr) (hv : freeB fr' = true) (h : ∀ p v W1, Below B w0 W1 → B ≤ W1.heap.size → k v W1 → SC W1.heap.size N W1 c ((s, .bc b p v) :: fr') Q) : SC B N w0 c fr Q := fun a W hf => by
  obtain ⟨p, v, e, hB, hh, hk, hst, ok⟩ := hf.ho s _ hs
  have hf1 := hf.sub hsub.spec
  refine h p v W hf.be hf.bs hk a W ?_
  have hf2 : Fr W.heap.size N W fr' a W := ⟨hf.df, hf.sz, Below.refl _ _, Nat.le_refl _, fun i v hi => (hf1.ho i v hi).base (free_look hv i v hi), hf1.di⟩
  refine hf2.more' (i := s) (v := .bc b p v) ⟨e, hh, ok⟩ fun j v2 q hj h1 h2 h3 => ?_
  exact hf.di s j _ v2 q hj hs (hsub.spec j v2 h1) (by rw [← h2]; show blk0 (a.tmps.getD s undef) = some p; rw [e]; rfl) h3
end
/-! ### More operations on numbers -/
section
variable {x y : Operand} {dst : Option Tmp} {ty : TypeId} {pos : String} {after : Array Edge} {guard : Option (Nat × Bool)} {ρ : Operand → Value} {W : World} {a b c : Int}
theorem r_quoU {z : Int} (h1 : ρ x = .int .u32 a) (h2 : ρ y = .int .u32 b) (e : a / b = z) (ha : 0 ≤ a ∧ a < 4294967296) (hb : 0 < b) : (execOp ρ ⟨dst, .binOp .quo 92 x y 92, ty, pos, after, guard⟩).run Try.prog W = .ok (.value (.int .u32 z)) W := by
  subst e
  have e1 : a.tdiv b = a / b := Int.tdiv_eq_ediv_of_nonneg ha.1
  have e3 : a / b ≤ a := Int.ediv_le_self _ ha.1
  have e4 := Int.ediv_nonneg ha.1 (Int.le_of_lt hb)
  have e : IntKind.u32.wrap (a / b) = a / b := IntWalk.u32_in _ (by omega)
  have e2 : ¬ b = 0 := by omega
  clear ha hb e3 e4
  go_simp
  first | done | rw [if_neg e2, e1, e]
theorem r_remU {z : Int} (h1 : ρ x = .int .u32 a) (h2 : ρ y = .int .u32 b) (e : a % b = z) (ha : 0 ≤ a ∧ a < 4294967296) (hb : 0 < b) : (execOp ρ ⟨dst, .binOp .rem 92 x y 92, ty, pos, after, guard⟩).run Try.prog W = .ok (.value (.int .u32 z)) W := by
  subst e
  have e1 : a.tmod b = a % b := Int.tmod_eq_emod_of_nonneg ha.1
  have e3 : a % b ≤ a := by have a1 := Int.mul_ediv_add_emod a b; have a2 := Int.mul_nonneg (Int.le_of_lt hb) (Int.ediv_nonneg ha.1 (Int.le_of_lt hb)); omega
  have e4 := Int.emod_nonneg a (Int.ne_of_gt hb)
  have e : IntKind.u32.wrap (a % b) = a % b := IntWalk.u32_in _ (by omega)
  have e2 : ¬ b = 0 := by omega
  clear ha hb e3 e4
  go_simp
  first | done | rw [if_neg e2, e1, e]
theorem r_U64 (h1 : ρ x = .int .u32 a) (h : 0 ≤ a ∧ a < 4294967296) : (execOp ρ ⟨dst, .convert 92 3 x, ty, pos, after, guard⟩).run Try.prog W = .ok (.value (.int .i64 a)) W := by
  have e : IntKind.i64.wrap a = a := IntWalk.i64_in _ (by omega)
  go_simp
  done
theorem r_b2I (h1 : ρ x = .int .i64 a) (h2 : ρ y = .int .i64 b) : (execOp ρ ⟨dst, .buildSlice 29 2 #[(0, x), (1, y)], ty, pos, after, guard⟩).run Try.prog W = .ok (.value (.slice (some ⟨W.heap.size, 0, none⟩) [a, b].length [a, b].length)) (W.alloc (.cells ([a, b].map (Value.int .i64)).toArray 3)) := by
  go_simp
end
end Go.Proofs.Ytcgkgcciogibkaa.Sy
/- The reference's Make, the law's Of and Is, by rules. -/
set_option linter.unusedVariables false
set_option linter.unusedSimpArgs false
namespace Go.Proofs.Ytcgkgcciogibkaa.Sy
open Go Go.RowKit Ma
theorem dg32 {xs : List Int} (d : dg b32 xs) (i : Nat) : 0 ≤ at0 xs i ∧ at0 xs i < 4294967296 := dg_at d (by decide) i
/-- The digits of the first i limbs. -/
def Mk (xs : List Int) (i : Nat) (zs : List Int) : Prop := i ≤ xs.length ∧ zs.length = 2 * i ∧ dg 65536 zs ∧ lv 65536 zs = lv b32 (xs.take i)
theorem Mk.start (xs : List Int) : Mk xs 0 [] := ⟨by omega, rfl, dg_nil _, by simp [lv]⟩
theorem Mk.step {xs zs : List Int} {i : Nat} (h : Mk xs i zs) (d : dg b32 xs) (hi : i < xs.length) : Mk xs (i + 1) (zs ++ [at0 xs i % 65536, at0 xs i / 65536]) := by
  obtain ⟨h1, h2, h3, h4⟩ := h
  have a := dg32 d i
  refine ⟨by omega, by simp [h2]; omega, dg_append.2 ⟨h3, fun x hx => ?_⟩, ?_⟩
  · simp at hx
    rcases hx with rfl | rfl <;> omega
  · rw [lv_append, lv_take_succ _ _ _ hi, h4, h2, pow65]
    simp only [lv]
    have : at0 xs i % 65536 + 65536 * (at0 xs i / 65536 + 65536 * 0) = at0 xs i := by omega
    rw [this]
theorem Mk.fin {xs zs : List Int} (h : Mk xs xs.length zs) : lv 65536 zs = lv b32 xs := by
  have := h.2.2.2
  rwa [List.take_length] at this
section
variable {p : Nat} {m : Bool} {A : Option Addr} {l c : Nat}
theorem holdsV {T : TypeId} {v : Value} {W : World} (hh : Holds (BI T) p v W) (hk : KV (.agg #[.bool m, .slice A l c]) v W) : v = .agg #[.bool m, .slice A l c] ∧ W.cell? ⟨p, 0, none⟩ = some (.bool m) ∧ W.cell? ⟨p, 1, none⟩ = some (.slice A l c) := by
  obtain rfl : v = _ := hk
  obtain ⟨cs, ⟨m', A', l', c', e1, rfl⟩, hc⟩ := hh
  simp only [Value.agg.injEq, Array.mk.injEq, List.cons.injEq, Value.bool.injEq, Value.slice.injEq, and_true] at e1
  obtain ⟨rfl, rfl, rfl, rfl⟩ := e1
  exact ⟨rfl, (hc 0 _ rfl).1, (hc 1 _ rfl).1⟩
theorem sh_V {T : TypeId} (v : Value) (W : World) (h : (AV.vl (.agg #[.bool m, .slice A l c])).of v W) : ∃ cs, (BI T).sh v cs := by obtain rfl : v = _ := h; exact ⟨_, m, A, l, c, rfl, rfl⟩
theorem faV0 (v : Value) (W : World) (hh : Holds (BI 24) p v W) (hk : KV (.agg #[.bool m, .slice A l c]) v W) : (Instr.fieldAt 24 (ptr p) 0).run Try.prog W = .ok (.pointer (some ⟨p, 0, none⟩)) W := by
  obtain ⟨rfl, h0, h1⟩ := holdsV hh hk
  go_simp
theorem faV1 (v : Value) (W : World) (hh : Holds (BI 24) p v W) (hk : KV (.agg #[.bool m, .slice A l c]) v W) : (Instr.fieldAt 24 (ptr p) 1).run Try.prog W = .ok (.pointer (some ⟨p, 1, none⟩)) W := by
  obtain ⟨rfl, h0, h1⟩ := holdsV hh hk
  go_simp
theorem flV0 (v : Value) (W : World) (hh : Holds (BI 24) p v W) (hk : KV (.agg #[.bool m, .slice A l c]) v W) : ∃ u, (Instr.loadAt 4 (.pointer (some ⟨p, 0, none⟩))).run Try.prog W = .ok u W ∧ (AV.vl (.bool m)).of u W := by
  obtain ⟨rfl, h0, h1⟩ := holdsV hh hk
  exact ⟨_, by go_simp, rfl⟩
theorem flV1 (v : Value) (W : World) (hh : Holds (BI 24) p v W) (hk : KV (.agg #[.bool m, .slice A l c]) v W) : ∃ u, (Instr.loadAt 22 (.pointer (some ⟨p, 1, none⟩))).run Try.prog W = .ok u W ∧ (AV.vl (.slice A l c)).of u W := by
  obtain ⟨rfl, h0, h1⟩ := holdsV hh hk
  exact ⟨_, by go_simp, rfl⟩
end
theorem ce_make : CE 68 := fun args W => by go_simp
theorem ce_rmake : CE 69 := fun args W => by go_simp
theorem ce_of : CE 16 := fun args W => by go_simp
set_option maxHeartbeats 3200000 in
set_option maxRecDepth 100000 in
theorem rmake_c {n : Bool} {A : Option Addr} {c : Nat} {xs : List Int} {w : World} (rA : Rd w .u32 A xs) (dx : dg b32 xs) (hl : xs.length ≤ 1000000) :
    Calls Try.prog 69 #[.bool n, .slice A xs.length c] w (Ret w (KJ (sg n (lv b32 xs)))) := by
  refine calls_sc (l := [.vl (.bool n), .vl (.slice A xs.length c)]) (us := [.bool n, .slice A xs.length c]) 31 Try.func69 rfl Try.ntmps69 (by simp) ⟨rfl, rfl, rfl, rfl, trivial⟩ ?_
  refine SC.seq ?_
  refine SC.region ?_
  refine PW.alloc (BI 31) rfl rfl rfl rfl rfl bJ ?_
  refine PW.nil ?_
  refine SX.then ?_
  refine SC.seq ?_
  refine SC.region ?_
  refine PW.assign rfl rfl rfl rfl rfl ?_
  refine PW.nil ?_
  refine SX.then ?_
  refine SC.seq ?_
  refine SC.seq ?_
  refine SC.region ?_
  refine PW.assign rfl rfl rfl rfl rfl ?_
  refine PW.nil ?_
  refine SX.then ?_
  refine SC.block ?_
  refine SC.weak (fun a W hf => Fr.nilrow 31 3 (.int .i64) hf) ?_
  refine SC.loop (S := Nat × Value × List Int) (fun ⟨i, v, zs⟩ => [(0, .vl (.bool n)), (1, .vl (.slice A xs.length c)), (4, .nb (BI 31)), (5, .vl (v)), (6, .vl (.int .i64 (i : Int))), (31, .ro (v) 3 (.int .i64) (zs))]) (fun ⟨i, v, zs⟩ => Mk xs i zs) (fun ⟨i, v, zs⟩ => xs.length - i) (0, .slice none 0 0, []) (Mk.start xs) ⟨rfl, rfl, rfl, rfl, rfl, rfl, trivial⟩ ?_
  rintro ⟨i, v, zs⟩ hP
  show SC _ _ _ _ [(0, .vl (.bool n)), (1, .vl (.slice A xs.length c)), (4, .nb (BI 31)), (5, .vl (v)), (6, .vl (.int .i64 (i : Int))), (31, .ro (v) 3 (.int .i64) (zs))] _
  refine SC.seq ?_
  refine SC.seq ?_
  by_cases ha : (i : Int) < (xs.length : Int)
  · refine SC.region ?_
    refine PW.move rfl rfl rfl rfl rfl ?_
    refine PW.move rfl rfl rfl rfl rfl ?_
    refine PW.qn [(.tmp 8, .slice A xs.length c)] (.int .i64 (xs.length : Int)) rfl rfl rfl ⟨rfl, trivial⟩ (fun ρ W h => by obtain ⟨h1, _⟩ := h; exact r_len h1) ?_
    refine PW.q2 (x := .tmp 7) (y := .tmp 9) (.bool true) rfl rfl rfl rfl rfl (fun ρ W h1 h2 => by exact r_lt h1 h2 (decide_eq_true ha)) ?_
    refine PW.nil ?_
    refine SX.then ?_
    refine SC.cond (t := true) rfl ?_
    refine SC.skip ?_
    refine SX.then ?_
    refine SC.seq ?_
    refine SC.block ?_
    refine SC.dxl [.val 13 (.vl (v)), .val 14 (.vl (.slice A xs.length c)), .val 15 (.vl (.int .i64 (i : Int))), .val 16 (.vl (.pointer (padd A i))), .val 17 (.vl (.int .u32 (at0 xs i))), .val 18 (.vl (.int .u32 (at0 xs i % 65536))), .val 19 (.vl (.int .i64 (at0 xs i % 65536))), .val 20 (.vl (.slice A xs.length c)), .val 21 (.vl (.int .i64 (i : Int))), .val 22 (.vl (.pointer (padd A i))), .val 23 (.vl (.int .u32 (at0 xs i))), .val 24 (.vl (.int .u32 (at0 xs i / 65536))), .val 25 (.vl (.int .i64 (at0 xs i / 65536))), .row 26 3 (.int .i64) (fun zs => zs = [(at0 xs i % 65536), (at0 xs i / 65536)])] [([], [5]), ([], [1]), ([], [6]), ([1, 2], []), ([3], []), ([4], []), ([5], []), ([], [1]), ([], [6]), ([7, 8], []), ([9], []), ([10], []), ([11], []), ([6, 12], [])] rfl (by kernel_rfl) (by kernel_rfl) (by kernel_rfl) rfl (by kernel_rfl) ⟨?_, ?_, ?_, ?_, ?_, ?_, ?_, ?_, ?_, ?_, ?_, ?_, ?_, ?_, trivial⟩ ?_
    · exact DX.move rfl rfl rfl rfl rfl rfl
    · exact DX.move rfl rfl rfl rfl rfl rfl
    · exact DX.move rfl rfl rfl rfl rfl rfl
    · exact DX.q2 (x := .tmp 14) (y := .tmp 15) (.pointer (padd A i)) rfl rfl rfl rfl rfl (fun ρ W h1 h2 => r_idxR rA h1 h2 (by omega))
    · exact DX.iget (i := i) rfl rfl rfl rfl rfl rfl rA (by omega) r_l32
    · exact DX.q2 (x := .tmp 17) (y := .const (.int .u32 65536)) (.int .u32 (at0 xs i % 65536)) rfl rfl rfl rfl rfl (fun ρ W h1 h2 => by exact r_remU h1 h2 rfl (dg32 dx i) (by decide))
    · exact DX.q1 (x := .tmp 18) (.int .i64 (at0 xs i % 65536)) rfl rfl rfl rfl (fun ρ W h1 => by exact r_U64 h1 (by have := dg32 dx i; omega))
    · exact DX.move rfl rfl rfl rfl rfl rfl
    · exact DX.move rfl rfl rfl rfl rfl rfl
    · exact DX.q2 (x := .tmp 20) (y := .tmp 21) (.pointer (padd A i)) rfl rfl rfl rfl rfl (fun ρ W h1 h2 => r_idxR rA h1 h2 (by omega))
    · exact DX.iget (i := i) rfl rfl rfl rfl rfl rfl rA (by omega) r_l32
    · exact DX.q2 (x := .tmp 23) (y := .const (.int .u32 65536)) (.int .u32 (at0 xs i / 65536)) rfl rfl rfl rfl rfl (fun ρ W h1 h2 => by exact r_quoU h1 h2 rfl (dg32 dx i) (by decide))
    · exact DX.q1 (x := .tmp 24) (.int .i64 (at0 xs i / 65536)) rfl rfl rfl rfl (fun ρ W h1 => by exact r_U64 h1 (by have := dg32 dx i; omega))
    · exact DX.bs (f := .int .i64) [(at0 xs i % 65536), (at0 xs i / 65536)] rfl rfl rfl (fun a W hf => r_b2I (hf.vl (s := 19) rfl) (hf.vl (s := 25) rfl)) (by unfold maxLen; show 2 ≤ _; omega)
    refine PW.openx (s := 26) 32 rfl rfl ?_
    rintro vx1 _ rfl
    refine PW.keep [(0, .vl (.bool n)), (1, .vl (.slice A xs.length c)), (4, .nb (BI 31)), (5, .vl (v)), (6, .vl (.int .i64 (i : Int))), (7, .vl (.int .i64 (i : Int))), (8, .vl (.slice A xs.length c)), (9, .vl (.int .i64 (xs.length : Int))), (10, .vl (.bool true)), (13, .vl (v)), (14, .vl (.slice A xs.length c)), (15, .vl (.int .i64 (i : Int))), (16, .vl (.pointer (padd A i))), (17, .vl (.int .u32 (at0 xs i))), (18, .vl (.int .u32 (at0 xs i % 65536))), (19, .vl (.int .i64 (at0 xs i % 65536))), (20, .vl (.slice A xs.length c)), (21, .vl (.int .i64 (i : Int))), (22, .vl (.pointer (padd A i))), (23, .vl (.int .u32 (at0 xs i))), (24, .vl (.int .u32 (at0 xs i / 65536))), (25, .vl (.int .i64 (at0 xs i / 65536))), (26, .vl (vx1)), (31, .ro (v) 3 (.int .i64) (zs)), (32, .ro (vx1) 3 (.int .i64) ([(at0 xs i % 65536), (at0 xs i / 65536)]))] ⟨rfl, rfl, rfl, rfl, rfl, rfl, rfl, rfl, rfl, rfl, rfl, rfl, rfl, rfl, rfl, rfl, rfl, rfl, rfl, rfl, rfl, rfl, rfl, rfl, rfl, trivial⟩ ?_
    refine PW.apr (K := 31) (K2 := 32) (f := .int .i64) rfl rfl rfl rfl rfl rfl rfl rfl rfl Try.underlying29 info_i64 rfl (fun _ => rfl) (by have l1 := hP.2.1; have l2 := hP.1; unfold maxLen; show _ + 2 ≤ _; omega) (by have l1 := hP.2.1; have l2 := hP.1; show (_ + 2) * 8 ≤ _; omega) rfl fun vq2 => ?_
    refine PW.assign rfl rfl rfl rfl rfl ?_
    refine PW.nil ?_
    refine SX.blockN ?_
    refine SX.then ?_
    refine SC.region ?_
    refine PW.move rfl rfl rfl rfl rfl ?_
    refine PW.q2 (x := .tmp 11) (y := .const (.int .i64 1)) (.int .i64 (((i + 1 : Nat) : Int))) rfl rfl rfl rfl rfl (fun ρ W h1 h2 => by exact r_add h1 h2 (by omega) (by have := hP.1; omega)) ?_
    refine PW.assign rfl rfl rfl rfl rfl ?_
    refine PW.nil ?_
    refine SX.back (i + 1, vq2, zs ++ ([(at0 xs i % 65536), (at0 xs i / 65536)])) ?_ ?_ ?_
    · exact hP.step dx (by omega)
    · exact (show xs.length - (i + 1) < xs.length - i by omega)
    · exact ⟨rfl, rfl, rfl, rfl, rfl, rfl, trivial⟩
  · obtain rfl : i = xs.length := by have := hP.1; omega
    refine SC.region ?_
    refine PW.move rfl rfl rfl rfl rfl ?_
    refine PW.move rfl rfl rfl rfl rfl ?_
    refine PW.qn [(.tmp 8, .slice A xs.length c)] (.int .i64 (xs.length : Int)) rfl rfl rfl ⟨rfl, trivial⟩ (fun ρ W h => by obtain ⟨h1, _⟩ := h; exact r_len h1) ?_
    refine PW.q2 (x := .tmp 7) (y := .tmp 9) (.bool false) rfl rfl rfl rfl rfl (fun ρ W h1 h2 => by exact r_lt h1 h2 (decide_eq_false ha)) ?_
    refine PW.nil ?_
    refine SX.then ?_
    refine SC.cond (t := false) rfl ?_
    refine SC.exit ?_
    refine SX.thenE ?_
    refine SX.thenE ?_
    refine SX.blockE ?_
    refine SX.then ?_
    refine SC.seq ?_
    refine SC.region ?_
    refine PW.move rfl rfl rfl rfl rfl ?_
    refine PW.move rfl rfl rfl rfl rfl ?_
    refine PW.callG (r := .kw (KJ (sg n (lv b32 xs)))) ce_rmade rfl rfl rfl rfl rfl (KJ.st _) rfl (fun a W hf => by have h1 := hf.vl (s := 28) rfl; have h2 := hf.vl (s := 29) rfl; have own : OwF W _ _ (.int .i64) v zs := hf.ho 31 _ rfl; obtain ⟨A4, c4, e4, hc4, rd4⟩ := Own.rd own; show Calls Try.prog _ #[a.tmps.getD 28 undef, a.tmps.getD 29 undef] W _; rw [h1, h2, e4, ← hP.fin]; exact rmade_c rfl rd4 hc4 hP.2.2.1) ?_
    refine PW.store (x := .tmp 30) (r := .kw (KJ (sg n (lv b32 xs)))) rfl rfl rfl rfl rfl rfl sh_J ?_
    refine PW.nil ?_
    refine SX.then ?_
    refine SC.ret ?_
    exact SX.doneC (s := 4) (.inl rfl) rfl rfl rfl

set_option maxHeartbeats 3200000 in
set_option maxRecDepth 100000 in
theorem lawof_c {n : Bool} {A : Option Addr} {c : Nat} {xs : List Int} {w : World} (rA : Rd w .u32 A xs) (dx : dg b32 xs) (hl : xs.length ≤ 1000000) :
    Calls Try.prog 16 #[.agg #[.bool n, .slice A xs.length c]] w (Ret w (K2 (KI (sg n (lv b32 xs))) (KJ (sg n (lv b32 xs))))) := by
  refine calls_sc (l := [.vl (.agg #[.bool n, .slice A xs.length c])]) (us := [.agg #[.bool n, .slice A xs.length c]]) 14 Try.func16 rfl Try.ntmps16 (by simp) ⟨rfl, rfl, trivial⟩ ?_
  refine SC.seq ?_
  refine SC.region ?_
  refine PW.box (x := .tmp 0) (r := .vl (.agg #[.bool n, .slice A xs.length c])) (BI 24) rfl rfl rfl rfl rfl bN rfl sh_V ?_
  refine PW.alloc (BI 28) rfl rfl rfl rfl rfl bI ?_
  refine PW.alloc (BI 31) rfl rfl rfl rfl rfl bJ ?_
  refine PW.nil ?_
  refine SX.then ?_
  refine SC.seq ?_
  refine SC.fix (s := 1) rfl fun p1 => ?_
  refine SC.dx [.val 4 (.vl (.pointer (some ⟨p1, 0, none⟩))), .val 5 (.vl (.bool n)), .val 6 (.vl (.pointer (some ⟨p1, 1, none⟩))), .val 7 (.vl (.slice A xs.length c)), .val 8 (.kw (KI (sg n (lv b32 xs)))), .val 9 (.vl (.pointer (some ⟨p1, 0, none⟩))), .val 10 (.vl (.bool n)), .val 11 (.vl (.pointer (some ⟨p1, 1, none⟩))), .val 12 (.vl (.slice A xs.length c)), .val 13 (.kw (KJ (sg n (lv b32 xs)))), .put 2 (BI 28) (.kw (KI (sg n (lv b32 xs)))), .put 3 (BI 31) (.kw (KJ (sg n (lv b32 xs))))] [([], [1]), ([0], [1]), ([], [1]), ([2], [1]), ([1, 3], []), ([], [1]), ([5], [1]), ([], [1]), ([7], [1]), ([6, 8], []), ([4], [2]), ([9], [3])] rfl (by kernel_rfl) (by kernel_rfl) (by kernel_rfl) rfl ⟨?_, ?_, ?_, ?_, ?_, ?_, ?_, ?_, ?_, ?_, ?_, ?_, trivial⟩ ?_
  · exact DX.fa ⟨p1, 0, none⟩ rfl rfl rfl rfl rfl faV0
  · exact DX.fl (s := 1) (r := .vl (.bool n)) rfl rfl rfl rfl rfl rfl rfl (KV.st _) flV0
  · exact DX.fa ⟨p1, 1, none⟩ rfl rfl rfl rfl rfl faV1
  · exact DX.fl (s := 1) (r := .vl (.slice A xs.length c)) rfl rfl rfl rfl rfl rfl rfl (KV.st _) flV1
  · exact DX.callG (r := .kw (KI (sg n (lv b32 xs)))) ce_make rfl rfl rfl rfl rfl (KI.st _) rfl (fun a W hf => by have h1 := hf.vl (s := 5) rfl; have h2 := hf.vl (s := 7) rfl; show Calls Try.prog _ #[a.tmps.getD 5 undef, a.tmps.getD 7 undef] W _; rw [h1, h2]; exact make_c (Rd.below rA hf.be) dx hl)
  · exact DX.fa ⟨p1, 0, none⟩ rfl rfl rfl rfl rfl faV0
  · exact DX.fl (s := 1) (r := .vl (.bool n)) rfl rfl rfl rfl rfl rfl rfl (KV.st _) flV0
  · exact DX.fa ⟨p1, 1, none⟩ rfl rfl rfl rfl rfl faV1
  · exact DX.fl (s := 1) (r := .vl (.slice A xs.length c)) rfl rfl rfl rfl rfl rfl rfl (KV.st _) flV1
  · exact DX.callG (r := .kw (KJ (sg n (lv b32 xs)))) ce_rmake rfl rfl rfl rfl rfl (KJ.st _) rfl (fun a W hf => by have h1 := hf.vl (s := 10) rfl; have h2 := hf.vl (s := 12) rfl; show Calls Try.prog _ #[a.tmps.getD 10 undef, a.tmps.getD 12 undef] W _; rw [h1, h2]; exact rmake_c (Rd.below rA hf.be) dx hl)
  · exact DX.store (x := .tmp 8) (r := .kw (KI (sg n (lv b32 xs)))) rfl rfl rfl rfl rfl rfl sh_I
  · exact DX.store (x := .tmp 13) (r := .kw (KJ (sg n (lv b32 xs)))) rfl rfl rfl rfl rfl rfl sh_J
  refine SX.unfix (s := 1) rfl ?_
  refine SX.then ?_
  refine SC.ret ?_
  exact SX.done2C (s := 2) (s' := 3) (.inl rfl) rfl rfl rfl rfl

/-- An integer as plain data. -/
def KN (m : Nat) (z : Int) : Know := fun v W => ∃ n A l c xs, v = .agg #[.bool n, .slice A l c] ∧ In W A l c xs ∧ l ≤ m ∧ sg n (lv b32 xs) = z
theorem KN.st (m : Nat) (z : Int) : St (KN m z) := fun v w w' hk ⟨n, A, l, c, xs, e, h, h2, h3⟩ => ⟨n, A, l, c, xs, e, ⟨h.1, h.2.1, h.2.2.1.kept hk, h.2.2.2⟩, h2, h3⟩
theorem k_is {x y : Int} {a : Nat} (X : bd a x) (ha : a ≤ 300000) (e : x = y) : CallOk 19 [KI x, KJ y] (KV (.bool true)) :=
  call2 ce_is fun W u v ⟨n, A, l, c, e1, h1⟩ ⟨n2, A2, l2, c2, e2, h2⟩ => by
    subst e1 e2
    have hx := h1.le X ha
    refine is_c h1 h2 e (by omega) (Nat.le_trans (h2.len_le (2 * a) ?_ ?_) (by omega))
    · have := X.1; rw [← e]; unfold b16; rw [← pow65]; exact this
    · have := X.2; rw [← e]; unfold b16; rw [← pow65]; exact this
end Go.Proofs.Ytcgkgcciogibkaa.Sy
/- The reference's division, digit by digit. No program in sight. -/
set_option linter.unusedVariables false
set_option linter.unusedSimpArgs false
namespace Go.Proofs.Ytcgkgcciogibkaa.Ma
structure Dv (xs : List Int) (Y : Int) (t : Nat) (out : List Int) (R : Int) : Prop where
  le : t ≤ xs.length
  len : out.length = xs.length
  d : dg 65536 out
  z : ∀ m, m < t → at0 out m = 0
  r0 : 0 ≤ R
  r1 : R < Y
  eq : 65536 ^ t * lv 65536 (xs.drop t) = lv 65536 out * Y + 65536 ^ t * R
theorem Dv.start (xs : List Int) {Y : Int} (hY : 0 < Y) : Dv xs Y xs.length (List.replicate xs.length 0) 0 :=
  ⟨Nat.le_refl _, List.length_replicate, dg_replicate _ (by decide) (by decide), fun m _ => zeros_at _ _, Int.le_refl _, hY, by rw [List.drop_length, lv_zeros]; simp [lv]⟩
/-- What the search keeps. -/
def Se (Y R lo hi : Int) : Prop := 0 ≤ lo ∧ lo < hi ∧ hi ≤ 65536 ∧ Y * lo ≤ R ∧ R < Y * hi
theorem Se.fin {Y R lo hi : Int} (h : Se Y R lo hi) (hh : ¬ 1 < hi - lo) : 0 ≤ R - Y * lo ∧ R - Y * lo < Y ∧ lo < 65536 ∧ 0 ≤ lo := by
  obtain ⟨a, b, c, d, e⟩ := h
  have : hi = lo + 1 := by omega
  subst this
  rw [Int.mul_add, Int.mul_one] at e
  omega
theorem Dv.step {xs : List Int} {Y : Int} {i : Nat} {out : List Int} {R lo : Int} (h : Dv xs Y (i + 1) out R) (dx : dg 65536 xs) (h0 : 0 ≤ at0 xs i + 65536 * R - Y * lo) (h1 : at0 xs i + 65536 * R - Y * lo < Y) (l0 : 0 ≤ lo) (l1 : lo < 65536) : Dv xs Y i (out.set i lo) (at0 xs i + 65536 * R - Y * lo) := by
  have hi : i < xs.length := h.le
  have ho : i < out.length := by rw [h.len]; exact hi
  refine ⟨by omega, by rw [List.length_set, h.len], dg_set h.d _ l0 l1, fun m hm => ?_, h0, h1, ?_⟩
  · rw [at0_set _ ho, if_neg (by omega)]; exact h.z m (by omega)
  · have e := h.eq
    rw [lv_drop 65536 xs i hi, lv_set 65536 out i lo ho, h.z i (by omega), Int.sub_zero]
    rw [Int.pow_succ] at e
    generalize (65536 : Int) ^ i = A at *
    generalize lv 65536 (xs.drop (i + 1)) = V at *
    generalize lv 65536 out = O at *
    generalize at0 xs i = u at *
    grind
theorem Dv.fin {xs : List Int} {Y : Int} {out : List Int} {R : Int} (h : Dv xs Y 0 out R) : lv 65536 out = lv 65536 xs / Y ∧ R = lv 65536 xs % Y := by
  have e := h.eq
  simp only [Int.pow_zero, Int.one_mul, List.drop_zero] at e
  have hY : 0 < Y := by have := h.r0; have := h.r1; omega
  have e' : lv 65536 xs = R + Y * lv 65536 out := by rw [e, Int.mul_comm]; omega
  rw [e', Int.add_mul_ediv_left _ _ (Int.ne_of_gt hY), Int.add_mul_emod_self_left, Int.ediv_eq_zero_of_lt h.r0 h.r1, Int.emod_eq_of_lt h.r0 h.r1]
  omega
end Go.Proofs.Ytcgkgcciogibkaa.Ma
/- The reference's divided, by rules. -/
set_option linter.unusedVariables false
set_option linter.unusedSimpArgs false
namespace Go.Proofs.Ytcgkgcciogibkaa.Sy
open Go Go.RowKit Ma
end Go.Proofs.Ytcgkgcciogibkaa.Sy
/- The reference's Sign, Neg, Add, Sub, Mul, Cmp, by rules. -/
set_option linter.unusedVariables false
set_option linter.unusedSimpArgs false
namespace Go.Proofs.Ytcgkgcciogibkaa.Sy
open Go Go.RowKit Ma
end Go.Proofs.Ytcgkgcciogibkaa.Sy
/- Three results; the reference's divided in the form that the rules want. -/
set_option linter.unusedVariables false
set_option linter.unusedSimpArgs false
namespace Go.Proofs.Ytcgkgcciogibkaa.Sy
open Go Go.RowKit Ma
section
variable {B N : Nat} {w0 : World} {fr : List (Nat × AV)} {fn : Func}
end
end Go.Proofs.Ytcgkgcciogibkaa.Sy
/- The reference's Abs, Divide, by rules. -/
set_option linter.unusedVariables false
set_option linter.unusedSimpArgs false
namespace Go.Proofs.Ytcgkgcciogibkaa.Sy
open Go Go.RowKit Ma
theorem zeroJ (W : World) : KJ 0 (.agg #[.bool false, .slice none 0 0]) W := ⟨false, none, 0, 0, rfl, [], rfl, Nat.le_refl _, Rd.nil _ _ _, dg_nil _, top_nil, (fun h => by cases h), by simp [sg, lv]⟩
end Go.Proofs.Ytcgkgcciogibkaa.Sy
/- shifted: its own slice. -/
set_option linter.unusedVariables false
set_option linter.unusedSimpArgs false
namespace Go.Proofs.Ytcgkgcciogibkaa
open Go Go.RowKit Ma
end Go.Proofs.Ytcgkgcciogibkaa
/- Long division of limbs: its rounds together. No program in sight. -/
set_option linter.unusedVariables false
set_option linter.unusedSimpArgs false
namespace Go.Proofs.Ytcgkgcciogibkaa.Ma
/-- Behind the rounds down to t. -/
structure Ro (U0 vs : List Int) (L t : Nat) (us qs : List Int) : Prop where
  ul : us.length = U0.length
  lf : Lft vs t us
  ql : qs.length = L
  qd : dg 4294967296 qs
  eq : lv 4294967296 U0 = lv 4294967296 us + lv 4294967296 qs * lv 4294967296 vs
  qz : ∀ m, m < t → at0 qs m = 0
  tL : t ≤ L
theorem at0_zeros (n m : Nat) : at0 (List.replicate n 0) m = 0 := by
  unfold at0
  simp only [List.getD_eq_getElem?_getD, List.getElem?_replicate]
  split <;> rfl
theorem Ro.start {U0 vs : List Int} {L : Nat} (h : Lft vs L U0) : Ro U0 vs L L U0 (List.replicate L 0) :=
  ⟨rfl, h, List.length_replicate, dg_replicate L (by decide) (by decide), by rw [lv_zeros, Int.zero_mul, Int.add_zero], fun m _ => at0_zeros L m, Nat.le_refl _⟩
theorem Ro.step {U0 vs us us' qs : List Int} {L i : Nat} {D : Int} (h : Ro U0 vs L (i + 1) us qs) (hl : us'.length = us.length) (lf : Lft vs i us') (e : lv 4294967296 us = lv 4294967296 us' + 4294967296 ^ i * (D * lv 4294967296 vs)) (h0 : 0 ≤ D) (h1 : D < 4294967296) : Ro U0 vs L i us' (qs.set i D) := by
  have hi : i < qs.length := by rw [h.ql]; have := h.tL; omega
  refine ⟨by rw [hl, h.ul], lf, by rw [List.length_set, h.ql], dg_set h.qd _ h0 h1, ?_, fun m hm => ?_, by have := h.tL; omega⟩
  · rw [lv_set _ _ _ _ hi, h.qz i (by omega), h.eq, e, Int.sub_zero]
    generalize (4294967296 : Int) ^ i = A
    generalize lv 4294967296 vs = V
    grind
  · rw [at0_set _ hi, if_neg (by omega)]; exact h.qz m (by omega)
section
variable {xs ys U0 vs : List Int} {s : Nat}
end
/-- At the end. -/
theorem Ro.fin {U0 vs us qs : List Int} {L s : Nat} {X Y : Int} (h : Ro U0 vs L 0 us qs) (eU : lv 4294967296 U0 = X * 2 ^ s) (eV : lv 4294967296 vs = Y * 2 ^ s) : lv 4294967296 qs = X / Y ∧ lv 4294967296 us / 2 ^ s = X % Y ∧ 0 < Y := by
  have hp : (0 : Int) < 2 ^ s := Int.pow_pos (by decide)
  have h1 := h.lf.2
  rw [Int.pow_zero, Int.one_mul] at h1
  have h0 := lv_nonneg BB_pos h.lf.1
  have e := h.eq
  rw [eU, eV] at e
  rw [eV] at h1
  have hY : 0 < Y := by
    apply Classical.byContradiction
    intro hn
    have : Y * 2 ^ s ≤ 0 * 2 ^ s := Int.mul_le_mul_of_nonneg_right (by omega) (Int.le_of_lt hp)
    omega
  -- what is left is divisible by 2^s
  have e1 : lv 4294967296 us = (X - lv 4294967296 qs * Y) * 2 ^ s := by rw [Int.sub_mul, Int.mul_assoc]; omega
  have e2 : lv 4294967296 us / 2 ^ s = X - lv 4294967296 qs * Y := by rw [e1, Int.mul_ediv_cancel _ (Int.ne_of_gt hp)]
  rw [e1] at h0 h1
  have r0 : 0 ≤ X - lv 4294967296 qs * Y := by
    apply Classical.byContradiction
    intro hn
    have : (X - lv 4294967296 qs * Y) * 2 ^ s < 0 * 2 ^ s := Int.mul_lt_mul_of_pos_right (by omega) hp
    omega
  have r1 : X - lv 4294967296 qs * Y < Y := Int.lt_of_mul_lt_mul_right h1 (Int.le_of_lt hp)
  have ex : X = (X - lv 4294967296 qs * Y) + Y * lv 4294967296 qs := by rw [Int.mul_comm Y]; omega
  refine ⟨?_, ?_, hY⟩
  · conv => rhs; rw [ex]
    rw [Int.add_mul_ediv_left _ _ (Int.ne_of_gt hY), Int.ediv_eq_zero_of_lt r0 r1, Int.zero_add]
  · rw [e2]
    conv => rhs; rw [ex]
    rw [Int.add_mul_emod_self_left, Int.emod_eq_of_lt r0 r1]
/-- The remainder's digits. -/
structure Rm (us : List Int) (n s k : Nat) (rs : List Int) : Prop where
  len : rs.length = n
  d : dg 4294967296 rs
  eq : ∀ j, j < k → at0 rs j = lv 4294967296 us / 2 ^ s / 4294967296 ^ j % 4294967296
  le : k ≤ n
theorem Rm.start (us : List Int) (n s : Nat) : Rm us n s 0 (List.replicate n 0) := ⟨List.length_replicate, dg_replicate n (by decide) (by decide), fun j hj => by omega, by omega⟩
theorem Rm.step {us rs : List Int} {n s k : Nat} (h : Rm us n s k rs) (du : dg 4294967296 us) (hs : s < 32) (hk : k < n) (hl : n < us.length) : Rm us n s (k + 1) (rs.set k (((at0 us (k + 1) * 4294967296 + at0 us k) / 2 ^ s) % 4294967296)) := by
  have hk' : k < rs.length := by rw [h.len]; exact hk
  refine ⟨by rw [List.length_set, h.len], dg_set h.d _ (Int.emod_nonneg _ (by decide)) (Int.emod_lt_of_pos _ BB_pos), fun j hj => ?_, hk⟩
  rw [at0_set _ hk']
  by_cases e : k = j
  · rw [if_pos e, low_digit du hs (by omega), e]
  · rw [if_neg e]; exact h.eq j (by omega)
theorem Rm.fin {us rs : List Int} {n s : Nat} (h : Rm us n s n rs) {R : Int} (e : lv 4294967296 us / 2 ^ s = R) (h0 : 0 ≤ R) (h1 : R < 4294967296 ^ n) : lv 4294967296 rs = R := by
  have := lv_digits BB_pos (V := lv 4294967296 us / 2 ^ s) (zs := rs) n (by rw [h.len]; exact Nat.le_refl _) h.eq
  rw [List.take_of_length_le (by rw [h.len]; exact Nat.le_refl _), e, Int.emod_eq_of_lt h0 h1] at this
  exact this
end Go.Proofs.Ytcgkgcciogibkaa.Ma
/- The contract of the program's long (division by at least two limbs), by rules. -/
set_option linter.unusedVariables false
set_option linter.unusedSimpArgs false
namespace Go.Proofs.Ytcgkgcciogibkaa.Sy
open Go Go.RowKit Ma
end Go.Proofs.Ytcgkgcciogibkaa.Sy
/- The contract of the program's Divide, whole. -/
set_option linter.unusedVariables false
set_option linter.unusedSimpArgs false
namespace Go.Proofs.Ytcgkgcciogibkaa
open Go.RowKit Ma

end Go.Proofs.Ytcgkgcciogibkaa
/- Divide, in the form that the rules want. -/
set_option linter.unusedVariables false
set_option linter.unusedSimpArgs false
namespace Go.Proofs.Ytcgkgcciogibkaa
open Go.RowKit Ma
namespace Sy
open Go
variable {x y : Int} {a b : Nat}
end Sy
/-! ### Bounds of quotients -/
theorem bd.tdiv {a : Nat} {x y : Int} (h : bd a x) : bd a (x.tdiv y) := by
  have h1 : (x.tdiv y).natAbs ≤ x.natAbs := by rw [Int.natAbs_tdiv]; exact Nat.div_le_self _ _
  unfold bd at *
  omega
theorem bd.tmod {a : Nat} {x y : Int} (h : bd a x) : bd a (x.tmod y) := by
  have h1 : (x.tmod y).natAbs ≤ x.natAbs := by rw [Int.natAbs_tmod]; exact Nat.mod_le _ _
  unfold bd at *
  omega
end Go.Proofs.Ytcgkgcciogibkaa
/- The reference's Gcd, by rules. -/
set_option linter.unusedVariables false
set_option linter.unusedSimpArgs false
namespace Go.Proofs.Ytcgkgcciogibkaa.Sy
open Go Go.RowKit Ma
end Go.Proofs.Ytcgkgcciogibkaa.Sy
/- A walk by rules: the laws' first statements: what came in as plain data. -/
set_option linter.unusedVariables false
set_option linter.unusedSimpArgs false
namespace Go.Proofs.Ytcgkgcciogibkaa.Sy
open Go Go.RowKit Ma
section
variable {B N : Nat} {w0 : World} {ops : Array Oper} {o : Oper} {rest : List Oper} {fr : List (Nat × AV)} {Q : Exit → Act → World → Prop} {d : Nat}
theorem loadV_run {T : TypeId} {s : Nat} {b : BT} {v : Value} {a : Act} {W : World} (hf : Fr B N w0 fr a W) (ho : o.op = .load T (.tmp s)) (hs : look fr s = some (.bx b (KV v))) (hT : b.T = T) : (execOp a.eval o).run Try.prog W = .ok (.value v) W := by
  obtain ⟨p, v', e, _, ⟨cs, hs1, hc⟩, hv, st, ok⟩ := hf.ho s _ hs
  obtain rfl : v' = v := hv
  have := run_val (ok.load v' cs W p hs1 fun i x hx => (hc i x hx).1)
  unfold execOp
  rw [ho]
  show (do pure (.value (← Instr.loadAt T (a.tmps.getD s undef))) : Sem Next).run Try.prog W = _
  rw [e, ← hT]
  exact this
theorem PW.loadV {T : TypeId} {s : Nat} {b : BT} {v : Value} (hw : wantB ops fr o = some true) (hd : o.dst = some d) (hN : Nat.blt d N = true) (ho : o.op = .load T (.tmp s)) (hs : look fr s = some (.bx b (KV v))) (hT : b.T = T) (hk : PW B N w0 ops rest ((d, .vl v) :: fr) Q) : PW B N w0 ops (o :: rest) fr Q :=
  PW.val (r := .vl v) hw hd hN rfl (fun a W hf => ⟨_, loadV_run hf ho hs hT, rfl⟩) hk
theorem DX.loadV {T : TypeId} {s : Nat} {b : BT} {v : Value} (hw : wantB ops fr o = some true) (hd : o.dst = some d) (hN : Nat.blt d N = true) (ho : o.op = .load T (.tmp s)) (hs : look fr s = some (.bx b (KV v))) (hT : b.T = T) : Eo B N w0 ops o fr (.val d (.vl v)) :=
  DX.val hw hd hN rfl (fun a W hf => ⟨_, loadV_run hf ho hs hT, rfl⟩)
/-- Short(most, x ..). -/
theorem PW.short {o2 : Oper} {d2 : Nat} {c : Call} (most : Nat) (ns : List Nn) {t : Bool} (ob : Obj) (hw : wantB ops fr o = some true) (hd : o.dst = some d) (hN : Nat.blt d N = true)
    (hq : ∀ a W, Fr B N w0 fr a W → (execOp a.eval o).run Try.prog W = .ok (.value (.slice (some ⟨W.heap.size, 0, none⟩) ns.length ns.length)) (W.alloc ob)) (hns : ∀ W : World, Ns (W.alloc ob) W.heap.size ns) (hL : ∀ x ∈ ns, x.2.2.1 ≤ 9223372036854775807) (hm : Nat.ble most 1000 = true) (hl : Nat.ble ns.length 1000 = true) (ht : shB most ns = t)
    (hw2 : wantB ops ((d, .kw KT) :: fr) o2 = some true) (hd2 : o2.dst = some d2) (hN2 : Nat.blt d2 N = true) (ho : o2.op = .call c) (hc : c.callee = .value (.func 14)) (ha : c.args = #[.const (.int .i64 (most : Int)), .tmp d])
    (hk : PW B N w0 ops rest ((d2, .vl (.bool t)) :: (d, .kw KT) :: fr) Q) : PW B N w0 ops (o :: o2 :: rest) fr Q :=
  PW.step hw fun a W hf K' hK' => by
    unfold Oper.wp
    rw [hq a W hf, Oper.upon_value, hd]
    have hf1 := (hf.nw ((Nw.refl W).alloc ob)).set (v := .vl (.slice (some ⟨W.heap.size, 0, none⟩) ns.length ns.length)) hN (u := .slice (some ⟨W.heap.size, 0, none⟩) ns.length ns.length) rfl rfl
    have hf2 := (hf.nw ((Nw.refl W).alloc ob)).set (v := .kw KT) hN (u := .slice (some ⟨W.heap.size, 0, none⟩) ns.length ns.length) ⟨trivial, KT.st⟩ rfl
    refine hK' _ _ (wpList_step fun K2 hK2 => ?_)
    rw [if_pos (wantB_spec hf2 hw2)]
    have s1 : (a.put (some d) (.slice (some ⟨W.heap.size, 0, none⟩) ns.length ns.length)).eval (.tmp d) = .slice (some ⟨W.heap.size, 0, none⟩) ns.length ns.length := hf1.vl (s := d) (by rw [look_cons, if_pos rfl])
    obtain ⟨dst, op, ty, pos, after, guard⟩ := o2
    simp only at ho hd2
    subst ho
    subst hd2
    unfold Oper.wp
    have ce : CE 14 := fun args W => by go_simp
    rw [run_call ce hc _ rfl ty _]
    simp only [Oper.upon]
    have e0 : c.args.map (a.put (some d) (.slice (some ⟨W.heap.size, 0, none⟩) ns.length ns.length)).eval = #[.int .i64 (most : Int), .slice (some ⟨W.heap.size, 0, none⟩) ns.length ns.length] := by
      rw [ha, List.map_toArray]; exact congrArg (fun z => #[Value.int .i64 (most : Int), z]) s1
    rw [e0]
    refine (short_l (b := W.heap.size) most ns rfl rfl (hns W) (Nat.le_of_ble_eq_true hm) (Nat.le_of_ble_eq_true hl) hL).mono fun e W' ⟨v, he, hv, hn⟩ => ?_
    subst he
    obtain rfl : v = _ := hv
    exact hK2 _ _ (hk _ _ ((hf2.nw hn).set hN2 (v := .vl (.bool t)) (by show Value.bool _ = _; rw [ht]) rfl))
end
section
variable {x y z : Operand} {dst : Option Tmp} {ty : TypeId} {pos : String} {after : Array Edge} {guard : Option (Nat × Bool)} {ρ : Operand → Value} {W : World}
variable {n1 n2 n3 : Bool} {A1 A2 A3 : Option Addr} {l1 l2 l3 c1 c2 c3 : Nat}
theorem r_bN1 (h1 : ρ x = .agg #[.bool n1, .slice A1 l1 c1]) : (execOp ρ ⟨dst, .buildSlice 87 1 #[(0, x)], ty, pos, after, guard⟩).run Try.prog W = .ok (.value (.slice (some ⟨W.heap.size, 0, none⟩) 1 1)) (W.alloc (.cells #[.bool n1, .slice A1 l1 c1] 24)) := by
  go_simp
end
section
variable {n1 n2 n3 : Bool} {A1 A2 A3 : Option Addr} {l1 l2 l3 c1 c2 c3 : Nat}
theorem ns_lit1 (W : World) : Ns (W.alloc (.cells #[.bool n1, .slice A1 l1 c1] 24)) W.heap.size [(n1, A1, l1, c1)] := by
  intro i n A l c e
  match i, e with
  | 0, e => simp at e; obtain ⟨rfl, rfl, rfl, rfl⟩ := e; exact ⟨by go_simp, by go_simp⟩
  | i + 1, e => simp at e
theorem In.lim {w : World} {A : Option Addr} {l c : Nat} {xs : List Int} (h : In w A l c xs) : l ≤ 9223372036854775807 := h.1 ▸ h.2.2.1.1
theorem of_in {w W : World} {n : Bool} {A : Option Addr} {l c : Nat} {xs : List Int} {x : Int} (h : In w A l c xs) (be : Below w.heap.size w W) (hl : l ≤ 1000000) (hx : x = sg n (lv b32 xs)) : Calls Try.prog 16 #[.agg #[.bool n, .slice A l c]] W (Ret W (K2 (KI x) (KJ x))) := by
  obtain ⟨rfl, _, rd, d⟩ := h
  subst hx
  exact lawof_c (Rd.below rd be) d hl
end
end Go.Proofs.Ytcgkgcciogibkaa.Sy
