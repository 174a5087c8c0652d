/- Parts Syf, Syg, Syr, Syi, Mb, Lm, Lr, in one file. -/
import Derived.Deep.LoopGhost
import Derived.OwnWalk
import Derived.IntWalk
import Derived.Maps.AppendAt
import Derived.Test.YthpjmhhfcechmaaGreatLRExpansions1
import Derived.Test.YthpjmhhfcechmaaGreatLRExpansions3
/- A walk by rules: statements that draw their order, with whatever stores and new boxes: what is known behind some of the operations hangs on which of them were carried out, not on their order. -/
set_option linter.unusedVariables false
set_option linter.unusedSimpArgs false
namespace Go.Proofs.YthpjmhhfcechmaaGreat.Sy
open Go Go.RowKit Ma
inductive Eff
 | val (d : Nat) (r : AV)
 | new (d : Nat) (b : BT)
 | put (s : Nat) (b : BT) (r : AV)
 | rput (K g n c : Nat) (e : TypeId) (f : Int → Value) (zs : List Int) (i : Nat) (y : Int)
 | row (d : Nat) (e : TypeId) (f : Int → Value) (p : List Int → Prop)
 | gs (d : Nat) (e : TypeId) (s n : Nat) (R : List Value → World → Prop)
def Eff.ent : Eff → Nat × AV
 | .val d r => (d, r)
 | .new d b => (d, .nb b)
 | .put s b r => (s, .bx b r.of)
 | .rput K g n c e f zs i y => (K, .ro (.slice (some ⟨g, 0, none⟩) n c) e f (zs.set i y))
 | .row d e f p => (d, .rx e f p)
 | .gs d e s n R => (d, .rz e s n R)
def Eff.slot : Eff → Nat
 | .val d _ => d
 | .new d _ => d
 | .put s _ _ => s
 | .rput K _ _ _ _ _ _ _ _ => K
 | .row d _ _ _ => d
 | .gs d _ _ _ _ => d
def Eff.isR : Eff → Bool
 | .rput _ _ _ _ _ _ _ _ _ => true
 | _ => false
theorem Eff.ent_slot (e : Eff) : e.ent.1 = e.slot := by cases e <;> rfl
def cur : Nat → List Eff → (Nat → Bool) → List (Nat × AV) → List (Nat × AV)
 | _, [], _, fr => fr
 | i, e :: es, L, fr => cur (i + 1) es L (if L i then e.ent :: fr else fr)
theorem look_cur_none {L : Nat → Bool} {s : Nat} : ∀ (es : List Eff) (i : Nat) (fr : List (Nat × AV)), (∀ k e, es[k]? = some e → e.slot = s → L (i + k) = false) → look (cur i es L fr) s = look fr s
 | [], _, _, _ => rfl
 | e :: es, i, fr, h => by
  unfold cur
  rw [look_cur_none es (i + 1) _ fun k e' he hs => by have := h (k + 1) e' (by simpa using he) hs; rwa [show i + 1 + k = i + (k + 1) by omega]]
  by_cases hL : L i = true
  ·rw [if_pos hL]
   have : e.slot ≠ s := fun hs => by have := h 0 e rfl hs; rw [Nat.add_zero, hL] at this; cases this
   rw [show e.ent = (e.ent.1, e.ent.2) from rfl, look_cons, if_neg (by rw [Eff.ent_slot]; exact this)]
  ·rw [if_neg hL]
theorem look_cur_at {L : Nat → Bool} {s : Nat} : ∀ (es : List Eff) (i j : Nat) (e : Eff) (fr : List (Nat × AV)), es[j]? = some e → e.slot = s → L (i + j) = true → (∀ k e', j < k → es[k]? = some e' → e'.slot = s → L (i + k) = false) → look (cur i es L fr) s = some e.ent.2
 | [], _, _, _, _, h, _, _, _ => by simp at h
 | e0 :: es, i, 0, e, fr, h, hs, hL, hn => by
  have : e0 = e := by simpa using h
  subst this
  unfold cur
  rw [Nat.add_zero] at hL
  rw [if_pos hL, look_cur_none es (i + 1) _ fun k e' he hs' => by have := hn (k + 1) e' (by omega) (by simpa using he) hs'; rwa [show i + 1 + k = i + (k + 1) by omega]]
  rw [show e0.ent = (e0.ent.1, e0.ent.2) from rfl, look_cons, if_pos (by rw [Eff.ent_slot]; exact hs)]
 | e0 :: es, i, j + 1, e, fr, h, hs, hL, hn => by
  unfold cur
  exact look_cur_at es (i + 1) j e _ (by simpa using h) hs (by rwa [show i + 1 + j = i + (j + 1) by omega]) fun k e' hk he hs' => by have := hn (k + 1) e' (by omega) (by simpa using he) hs'; rwa [show i + 1 + k = i + (k + 1) by omega]
def add (L : Nat → Bool) (i : Nat) : Nat → Bool := fun j => if j = i then true else L j
theorem look_add {L : Nat → Bool} {es : List Eff} {i : Nat} {e : Eff} {fr : List (Nat × AV)} (he : es[i]? = some e) (hL : L i = false) (hn : ∀ k e', i < k → es[k]? = some e' → e'.slot = e.slot → L k = false) (s : Nat) : look (cur 0 es (add L i) fr) s = look (e.ent :: cur 0 es L fr) s := by
 rw [show e.ent = (e.ent.1, e.ent.2) from rfl, look_cons, Eff.ent_slot]
 by_cases hs : e.slot = s
 ·rw [if_pos hs]
  refine look_cur_at es 0 i e fr he hs ?_ fun k e' hk he' hs' => ?_
  ·show add L i (0 + i) = true; unfold add; rw [Nat.zero_add, if_pos rfl]
  ·show add L i (0 + k) = false
   unfold add
   rw [Nat.zero_add, if_neg (by omega)]
   exact hn k e' hk he' (hs'.trans hs.symm)
 ·rw [if_neg hs]
  -- the last that was carried out and writes s, or none
  by_cases hex : ∃ k e', es[k]? = some e' ∧ e'.slot = s ∧ L k = true ∧ ∀ k' e'', k < k' → es[k']? = some e'' → e''.slot = s → L k' = false
  ·obtain ⟨k, e', h1, h2, h3, h4⟩ := hex
   have hki : k ≠ i := fun x => by subst x; rw [he] at h1; injection h1 with h1; exact hs (h1 ▸ h2)
   have a1 : look (cur 0 es L fr) s = some e'.ent.2 := look_cur_at es 0 k e' fr h1 h2 (by rw [Nat.zero_add]; exact h3) fun k' e'' hk hk' hs' => by rw [Nat.zero_add]; exact h4 k' e'' hk hk' hs'
   have a2 : look (cur 0 es (add L i) fr) s = some e'.ent.2 := look_cur_at es 0 k e' fr h1 h2 (by rw [Nat.zero_add]; unfold add; rw [if_neg hki]; exact h3) fun k' e'' hk hk' hs' => by
    rw [Nat.zero_add]
    unfold add
    have : k' ≠ i := fun x => by subst x; rw [he] at hk'; injection hk' with hk'; exact hs (hk' ▸ hs')
    rw [if_neg this]
    exact h4 k' e'' hk hk' hs'
   rw [a1, a2]
  ·have none_ : ∀ k e', es[k]? = some e' → e'.slot = s → L k = false := by
    -- otherwise there is a last one
    intro k e' h1 h2
    apply Classical.byContradiction
    intro h3
    have h3 : L k = true := by simpa using h3
    apply hex
    have key : ∀ n k e', es.length - k = n → es[k]? = some e' → e'.slot = s → L k = true → ∃ k e', es[k]? = some e' ∧ e'.slot = s ∧ L k = true ∧ ∀ k' e'', k < k' → es[k']? = some e'' → e''.slot = s → L k' = false := by
     intro n
     induction n using Nat.strongRecOn with
     | _ n ih =>
      intro k e' hn h1 h2 h3
      by_cases hl : ∀ k' e'', k < k' → es[k']? = some e'' → e''.slot = s → L k' = false
      ·exact ⟨k, e', h1, h2, h3, hl⟩
      ·simp only [Classical.not_forall] at hl
       obtain ⟨k', e'', hk, hk', hs', hL'⟩ := hl
       have lt1 : k < es.length := (List.getElem?_eq_some_iff.1 h1).1
       have lt2 : k' < es.length := (List.getElem?_eq_some_iff.1 hk').1
       exact ih (es.length - k') (by omega) k' e'' rfl hk' hs' (by simpa using hL')
    exact key _ k e' rfl h1 h2 h3
   have a1 : look (cur 0 es L fr) s = look fr s := look_cur_none es 0 fr fun k e' h1 h2 => by rw [Nat.zero_add]; exact none_ k e' h1 h2
   have a2 : look (cur 0 es (add L i) fr) s = look fr s := look_cur_none es 0 fr fun k e' h1 h2 => by
    rw [Nat.zero_add]
    unfold add
    have : k ≠ i := fun x => by subst x; rw [he] at h1; injection h1 with h1; exact hs (h1 ▸ h2)
    rw [if_neg this]
    exact none_ k e' h1 h2
   rw [a1, a2]
theorem Fr.ext {B N : Nat} {w0 : World} {fr fr' : List (Nat × AV)} {a : Act} {W : World} (h : Fr B N w0 fr a W) (e : ∀ s, look fr' s = look fr s) : Fr B N w0 fr' a W :=
 ⟨h.df, h.sz, h.be, h.bs, fun i v hi => h.ho i v (by rw [← e]; exact hi), fun i j b b' p hij hi hj => h.di i j b b' p hij (by rw [← e]; exact hi) (by rw [← e]; exact hj)⟩
theorem Fr.sub {B N : Nat} {w0 : World} {fr fr' : List (Nat × AV)} {a : Act} {W : World} (h : Fr B N w0 fr a W) (e : ∀ s v, look fr' s = some v → look fr s = some v) : Fr B N w0 fr' a W :=
 ⟨h.df, h.sz, h.be, h.bs, fun i v hi => h.ho i v (e i v hi), fun i j b b' p hij hi hj => h.di i j b b' p hij (e i _ hi) (e j _ hj)⟩
/-! ### What an operation may look at -/
def wt (ops : Array Oper) (i j : Nat) : Bool := match ops[i]? with
 | none => false
 | some o => o.after.any fun e => Region.binds .any e && e.on == j
def offB (ops : Array Oper) (es : List Eff) (i s : Nat) (but : Nat → Bool) : Bool := (List.range es.length).all fun j => match es[j]? with
 | none => true
 | some e => !(Nat.beq e.slot s) || but j || Nat.beq j i || wt ops j i
def seeF (fr : List (Nat × AV)) : List Nat → List (Nat × AV)
 | [] => []
 | s :: ss => match look fr s with
  | some v => (s, v) :: seeF fr ss
  | none => seeF fr ss
def see (es : List Eff) (fr : List (Nat × AV)) : List Nat → List Nat → List (Nat × AV)
 | [], ss => seeF fr ss
 | j :: js, ss => match es[j]? with
  | some e => e.ent :: see es fr js ss
  | none => see es fr js ss
def seeB (ops : Array Oper) (es : List Eff) (i : Nat) (js ss : List Nat) : Bool :=
 (js.all fun j => wt ops i j && match es[j]? with
  | none => true
  | some e => offB ops es i e.slot fun k => Nat.beq k j || (Nat.blt k j && wt ops j k)) &&
 ss.all fun s => offB ops es i s fun _ => false
theorem offB_spec {ops : Array Oper} {es : List Eff} {i s : Nat} {but : Nat → Bool} (h : offB ops es i s but = true) {k : Nat} {e : Eff} (he : es[k]? = some e) (hs : e.slot = s) : but k = true ∨ k = i ∨ wt ops k i = true := by
 unfold offB at h
 rw [List.all_eq_true] at h
 have := h k (List.mem_range.2 (List.getElem?_eq_some_iff.1 he).1)
 rw [he] at this
 simp only [Bool.or_eq_true, Bool.not_eq_true', hs] at this
 rcases this with ((h1 | h1) | h1) | h1
 ·simp at h1
 ·exact .inl h1
 ·exact .inr (.inl (by simpa using h1))
 ·exact .inr (.inr h1)
def Dn (ops : Array Oper) (L : Nat → Bool) : Prop := ∀ i j, L i = true → wt ops i j = true → L j = true
theorem see_spec {ops : Array Oper} {es : List Eff} {fr : List (Nat × AV)} {L : Nat → Bool} {i : Nat} (hd : Dn ops L) (hi : L i = false) (hw : ∀ j, wt ops i j = true → L j = true) : ∀ (js ss : List Nat), seeB ops es i js ss = true →
  ∀ s v, look (see es fr js ss) s = some v → look (cur 0 es L fr) s = some v
 | [], [], _, s, v, h => by simp [see, seeF, look] at h
 | [], s' :: ss, hb, s, v, h => by
  simp only [seeB, List.all_nil, Bool.true_and, List.all_cons, Bool.and_eq_true] at hb
  have rest : ∀ s v, look (see es fr [] ss) s = some v → look (cur 0 es L fr) s = some v := see_spec hd hi hw [] ss (by simp only [seeB, List.all_nil, Bool.true_and]; exact hb.2)
  unfold see seeF at h
  split at h
  ·rename_i v' hv'
   rw [look_cons] at h
   by_cases e : s' = s
   ·rw [if_pos e] at h
    injection h with h
    subst h e
    rw [look_cur_none es 0 fr fun k e' h1 h2 => ?_]
    ·exact hv'
    ·rw [Nat.zero_add]
     rcases offB_spec hb.1 h1 h2 with h3 | h3 | h3
     ·cases h3
     ·rw [h3]; exact hi
     ·cases hk : L k with
      | false => rfl
      | true => have := hd k i hk h3; rw [hi] at this; cases this
   ·rw [if_neg e] at h; exact rest s v (by unfold see; exact h)
  ·exact rest s v (by unfold see; exact h)
 | j :: js, ss, hb, s, v, h => by
  simp only [seeB, List.all_cons, Bool.and_eq_true] at hb
  obtain ⟨⟨⟨h1, h2⟩, h3⟩, h4⟩ := hb
  have rest : ∀ s v, look (see es fr js ss) s = some v → look (cur 0 es L fr) s = some v := see_spec hd hi hw js ss (by simp only [seeB, Bool.and_eq_true]; exact ⟨h3, h4⟩)
  unfold see at h
  split at h
  ·rename_i e he
   rw [show e.ent = (e.ent.1, e.ent.2) from rfl, look_cons, Eff.ent_slot] at h
   by_cases es' : e.slot = s
   ·rw [if_pos es'] at h
    injection h with h
    subst h
    rw [he] at h2
    refine look_cur_at es 0 j e fr he es' (by rw [Nat.zero_add]; exact hw j h1) fun k e' hk he' hs' => ?_
    rw [Nat.zero_add]
    rcases offB_spec h2 he' (hs'.trans es'.symm) with h5 | h5 | h5
    ·rw [Bool.or_eq_true, Bool.and_eq_true] at h5
     rcases h5 with h5 | h5
     ·have := Nat.eq_of_beq_eq_true h5; omega
     ·have : k < j := by simpa [Nat.blt_eq] using h5.1
      omega
    ·rw [h5]; exact hi
    ·cases hk' : L k with
     | false => rfl
     | true => have := hd k i hk' h5; rw [hi] at this; cases this
   ·rw [if_neg es'] at h; exact rest s v h
  ·exact rest s v h
/-! ### What each operation does -/
section
variable {B N : Nat} {w0 : World} {ops : Array Oper} {o : Oper} {fr : List (Nat × AV)}
def Eo (B N : Nat) (w0 : World) (ops : Array Oper) (o : Oper) (fr : List (Nat × AV)) : Eff → Prop
 | .val d r => o.dst = some d ∧ Nat.blt d N = true ∧ r.isBx = false ∧ ∀ a W, Fr B N w0 fr a W → (Region.wanted o (yielded ops a.tmps) = true ∧ Rh.gives Tryz.prog o a W fun u W' => Nw W W' ∧ Ho B r u W') ∨ (Region.wanted o (yielded ops a.tmps) = false ∧ Ho B r undef W)
 | .new d b => o.dst = some d ∧ Nat.blt d N = true ∧ o.op = .alloc b.T ∧ b.Ok ∧ o.guard = none
 | .put s b r => o.dst = none ∧ o.guard = none ∧ ∃ x, o.op = .store b.T (.tmp s) x ∧ (look fr s).bind bxT = some b ∧ opv fr x = some r ∧ ∀ v W, r.of v W → ∃ cs, b.sh v cs
 | .rput K g n c e f zs i y => o.dst = none ∧ o.guard = none ∧ ∃ T s x, o.op = .store T (.tmp s) x ∧ look fr s = some (.vl (.pointer (some ⟨g, i, none⟩))) ∧ look fr K = some (.ro (.slice (some ⟨g, 0, none⟩) n c) e f zs) ∧ i < zs.length ∧ opv fr x = some (.vl (f y)) ∧
  ∀ (W : World) (p : Addr) (x y : Int), W.cell? p = some (f x) → W.frozen? p = false → (Instr.storeAt T (.pointer (some p)) (f y)).run Tryz.prog W = .ok () (W.setCell p (f y))
 | .row d e f p => o.dst = some d ∧ Nat.blt d N = true ∧ o.guard = none ∧ ∀ a W, Fr B N w0 fr a W → Rh.gives Tryz.prog o a W fun u W' => Nw W W' ∧ ∃ zs, OwF W' W.heap.size e f u zs ∧ p zs
 | .gs d e s n R => o.dst = some d ∧ Nat.blt d N = true ∧ o.guard = none ∧ ∀ a W, Fr B N w0 fr a W → Rh.gives Tryz.prog o a W fun u W' => Nw W W' ∧ OwS W' W.heap.size e s u n R
theorem Eo.step {fr1 : List (Nat × AV)} {e : Eff} (h : Eo B N w0 ops o fr e) {i : Nat} (hi : ops[i]? = some o) {Q : Exit → Act → World → Prop} {K : Act → World → Prop} {a : Act} {W : World} (hf : Fr B N w0 fr1 a W) (hs : ∀ s v, look fr s = some v → look fr1 s = some v) (hcal : e.isR = true → calmB fr1 = true)
  (hK : ∀ a' W', Fr B N w0 (e.ent :: fr1) a' W' → K a' W') : wpOp Tryz.prog ops Q i K a W := by
 have hf' := hf.sub hs
 unfold wpOp
 rw [hi]
 simp only []
 cases e with
 | val d r =>
  obtain ⟨hd, hN, hr, hv⟩ := h
  rcases hv a W hf' with ⟨hw, hg⟩ | ⟨hw, hg⟩
  ·rw [if_pos hw]
   refine .inl (Rh.gives_wp (fun u W' hu => ?_) hg)
   rw [hd]
   exact hK _ _ ((hf.nw hu.1).set hN hu.2 hr)
  ·rw [if_neg (by rw [hw]; exact Bool.false_ne_true), hd]
   exact hK _ _ (hf.set hN hg hr)
 | new d b =>
  obtain ⟨hd, hN, ho, ok, hg⟩ := h
  rw [if_pos (by simp [Region.wanted, hg])]
  obtain ⟨ob, z, cs, hz, hal⟩ := ok.alloc
  obtain ⟨h1, h2⟩ := hal W
  have e : (execOp a.eval o).run Tryz.prog W = .ok (.value (ptr W.heap.size)) (W.alloc ob) := by
   unfold execOp
   rw [ho]
   exact run_val h1
  refine .inl ?_
  unfold Oper.wp
  rw [e, Oper.upon_value, hd]
  exact hK _ _ (hf.fresh ((Nw.refl W).alloc ob) hN (Nat.le_refl _) rfl ⟨_, z, rfl, hf.bs, ⟨cs, hz, h2⟩, ok⟩)
 | put s b r =>
  obtain ⟨hd, hg, x, ho, hlb, hx, hsh⟩ := h
  obtain ⟨y, hl, hy⟩ := bind_look hlb
  rw [if_pos (by simp [Region.wanted, hg])]
  obtain ⟨h1, h2⟩ := opv_spec hf' hx
  obtain ⟨h3, h4⟩ := h1.of h2
  obtain ⟨cs', hcs⟩ := hsh _ _ h3
  obtain ⟨p, v, e, hB, hh, ok, hbk⟩ := (hf'.ho s _ hl).bxT hy
  obtain ⟨W', h5, h6, h7⟩ := ok.store v _ cs' W p hh hcs
  have e2 : (execOp a.eval o).run Tryz.prog W = .ok .skip W' := by
   unfold execOp
   rw [ho]
   show (do (Instr.storeAt b.T (a.tmps.getD s undef) (a.eval x)); pure .skip : Sem Next).run Tryz.prog W = _
   rw [e]
   exact run_skip h5
  refine .inl ?_
  unfold Oper.wp
  rw [e2]
  show K (a.put o.dst undef) W'
  rw [hd]
  exact hK _ _ (hf.stored (hs s _ hl) e hB hbk ok h7 h6 (h4 _ _ _ h7.nu h3) h4)
 | rput K' g n c e f zs i' y =>
  obtain ⟨hd, hg, T, s, x, ho, h1, h2, hi', h3, hst⟩ := h
  rw [if_pos (by simp [Region.wanted, hg])]
  have a1 : a.tmps.getD s undef = .pointer (some ⟨g, i', none⟩) := hf'.ho s _ h1
  have a2 : OwF W B e f (.slice (some ⟨g, 0, none⟩) n c) zs := hf'.ho K' _ h2
  have a3 := opv_vl hf' h3
  have e2 : (execOp a.eval o).run Tryz.prog W = .ok .skip (W.setCell ⟨g, i', none⟩ (f y)) := by
   unfold execOp
   rw [ho]
   show (do (Instr.storeAt T (a.tmps.getD s undef) (a.eval x)); pure .skip : Sem Next).run Tryz.prog W = _
   rw [a1, a3]
   exact run_skip (hst W _ _ _ (a2.cellAt hi') (a2.frozenAt i'))
  refine .inl ?_
  unfold Oper.wp
  rw [e2]
  show K (a.put o.dst undef) _
  rw [hd]
  exact hK _ _ (hf.rset (hs K' _ h2) (hcal rfl) y)
 | row d e f p =>
  obtain ⟨hd, hN, hg, hv⟩ := h
  rw [if_pos (by simp [Region.wanted, hg])]
  refine .inl (Rh.gives_wp (fun u W' ⟨hn, zs, hu, hp⟩ => ?_) (hv a W hf'))
  rw [hd]
  refine hK _ _ ((hf.nw hn).put hN (v := .rx e f p) ⟨zs, OwF.weaken hu hf.bs, hp⟩ fun i v' q hi e1 e2 => ?_)
  have a1 := OwF.base hu q e1
  have a2 := (hf.ho i _ hi).blk e2
  omega
 | gs d e s n R =>
  obtain ⟨hd, hN, hg, hv⟩ := h
  rw [if_pos (by simp [Region.wanted, hg])]
  refine .inl (Rh.gives_wp (fun u W' ⟨hn, hu⟩ => ?_) (hv a W hf'))
  rw [hd]
  refine hK _ _ ((hf.nw hn).put hN (v := .rz e s n R) (OwS.weaken hu hf.bs) fun i v' q hi e1 e2 => ?_)
  have a1 := OwS.base hu q e1
  have a2 := (hf.ho i _ hi).blk e2
  omega
end
section
variable {B N : Nat} {w0 : World} {ops : Array Oper} {o : Oper} {fr : List (Nat × AV)} {d : Nat}
theorem gives_val {a : Act} {W : World} {u : Value} {K : Value → World → Prop} (h : (execOp a.eval o).run Tryz.prog W = .ok (.value u) W) (hk : K u W) : Rh.gives Tryz.prog o a W K := by
 unfold Rh.gives; rw [h]; exact hk
theorem DX.val {r : AV} (hw : wantB ops fr o = some true) (hd : o.dst = some d) (hN : Nat.blt d N = true) (hr : r.isBx = false) (h : ∀ a W, Fr B N w0 fr a W → ∃ u, (execOp a.eval o).run Tryz.prog W = .ok (.value u) W ∧ Ho B r u W) : Eo B N w0 ops o fr (.val d r) :=
 ⟨hd, hN, hr, fun a W hf => .inl ⟨wantB_spec hf hw, by obtain ⟨u, e, hu⟩ := h a W hf; exact gives_val e ⟨Nw.refl W, hu⟩⟩⟩
theorem DX.skip (hw : wantB ops fr o = some false) (hd : o.dst = some d) (hN : Nat.blt d N = true) : Eo B N w0 ops o fr (.val d (.vl undef)) :=
 ⟨hd, hN, rfl, fun a W hf => .inr ⟨wantB_spec hf hw, rfl⟩⟩
theorem DX.move {x : Operand} {r : AV} (hw : wantB ops fr o = some true) (hd : o.dst = some d) (hN : Nat.blt d N = true) (ho : o.op = .move x) (hx : opv fr x = some r) (hr : r.isBx = false) : Eo B N w0 ops o fr (.val d r) :=
 DX.val hw hd hN hr fun a W hf => ⟨a.eval x, by unfold execOp; rw [ho]; rfl, (opv_spec hf hx).1⟩
theorem DX.assign {x : Operand} {r : AV} (hw : wantB ops fr o = some true) (hd : o.dst = some d) (hN : Nat.blt d N = true) (ho : o.op = .assign x) (hx : opv fr x = some r) (hr : r.isBx = false) : Eo B N w0 ops o fr (.val d r) :=
 DX.val hw hd hN hr fun a W hf => ⟨a.eval x, by unfold execOp; rw [ho]; rfl, (opv_spec hf hx).1⟩
theorem DX.load {T : TypeId} {s : Nat} {b : BT} {k : Know} (hw : wantB ops fr o = some true) (hd : o.dst = some d) (hN : Nat.blt d N = true) (ho : o.op = .load T (.tmp s)) (hs : look fr s = some (.bx b k)) (hT : b.T = T) : Eo B N w0 ops o fr (.val d (.kw k)) :=
 DX.val hw hd hN rfl fun a W hf => by
  obtain ⟨p, v, e, _, ⟨cs, hs1, hc⟩, hv, st, ok⟩ := hf.ho s _ hs
  refine ⟨v, ?_, hv, st⟩
  have := run_val (ok.load v cs W p hs1 fun i x hx => (hc i x hx).1)
  unfold execOp
  rw [ho]
  show (do pure (.value (← Instr.loadAt T (a.tmps.getD s undef))) : Sem Next).run Tryz.prog W = _
  rw [e, ← hT]
  exact this
theorem DX.ext {s i : Nat} {k : Know} {r : AV} (hw : wantB ops fr o = some true) (hd : o.dst = some d) (hN : Nat.blt d N = true) (ho : o.op = .extract (.tmp s) i) (hs : look fr s = some (.kw k)) (hx : Ex k i r) (hst : St r.of) (hr : r.isBx = false) : Eo B N w0 ops o fr (.val d r) :=
 DX.val hw hd hN hr fun a W hf => by
  obtain ⟨hv, _⟩ := hf.ho s _ hs
  obtain ⟨vs, v, e, hi, hv'⟩ := hx _ W hv
  refine ⟨v, ?_, Ho.mk hr hv' hst⟩
  unfold execOp
  rw [ho]
  show (do pure (.value (← Instr.extract (a.tmps.getD s undef) i)) : Sem Next).run Tryz.prog W = _
  rw [e]
  exact run_val (run_ext hi W)
theorem DX.call {c : Call} {f : FuncId} {ks : List Know} {r : AV} (hw : wantB ops fr o = some true) (hd : o.dst = some d) (hN : Nat.blt d N = true) (ho : o.op = .call c) (hc : c.callee = .value (.func f)) (ha : opks fr c.args.toList = some ks) (hst : St r.of) (hr : r.isBx = false)
  (h : CallOk f ks r.of) : Eo B N w0 ops o fr (.val d r) := by
 refine ⟨hd, hN, hr, fun a W hf => .inl ⟨wantB_spec hf hw, ?_⟩⟩
 obtain ⟨dst, op, ty, pos, after, guard⟩ := o
 simp only at ho
 subst ho
 unfold Rh.gives
 rw [run_call h.1 hc a.eval rfl ty W]
 have e : (c.args.toList.map a.eval).toArray = c.args.map a.eval := by rw [← Array.toList_map]
 have := h.2 W _ (opks_spec hf ha)
 rw [e] at this
 exact Rh.gives_enter (this.mono fun e W' ⟨v, he, hv, hn⟩ => ⟨v, he, hn, Ho.mk hr hv hst⟩)
theorem DX.q1 {x : Operand} {u : Value} (v : Value) (hw : wantB ops fr o = some true) (hd : o.dst = some d) (hN : Nat.blt d N = true) (hx : opv fr x = some (.vl u)) (h : ∀ (ρ : Operand → Value) (W : World), ρ x = u → (execOp ρ o).run Tryz.prog W = .ok (.value v) W) : Eo B N w0 ops o fr (.val d (.vl v)) :=
 DX.val hw hd hN rfl fun a W hf => ⟨v, h _ W (opv_vl hf hx), rfl⟩
theorem DX.q2 {x y : Operand} {u u2 : Value} (v : Value) (hw : wantB ops fr o = some true) (hd : o.dst = some d) (hN : Nat.blt d N = true) (hx : opv fr x = some (.vl u)) (hy : opv fr y = some (.vl u2)) (h : ∀ (ρ : Operand → Value) (W : World), ρ x = u → ρ y = u2 → (execOp ρ o).run Tryz.prog W = .ok (.value v) W) : Eo B N w0 ops o fr (.val d (.vl v)) :=
 DX.val hw hd hN rfl fun a W hf => ⟨v, h _ W (opv_vl hf hx) (opv_vl hf hy), rfl⟩
theorem DX.qn (l : List (Operand × Value)) (v : Value) (hw : wantB ops fr o = some true) (hd : o.dst = some d) (hN : Nat.blt d N = true) (hx : OpsAre fr l) (h : ∀ (ρ : Operand → Value) (W : World), RhoAre ρ l → (execOp ρ o).run Tryz.prog W = .ok (.value v) W) : Eo B N w0 ops o fr (.val d (.vl v)) :=
 DX.val hw hd hN rfl fun a W hf => ⟨v, h _ W (rho_of hf hx), rfl⟩
theorem run_pk (t : Bool) (p q : Value) (W : World) : (do pure (.value (if ← asBool (.bool t) then p else q)) : Sem Next).run Tryz.prog W = .ok (.value (bif t then p else q)) W := by
 cases t <;> simp [asBool, go_sem]
theorem DX.pick {c x y : Operand} {t : Bool} {r : AV} (hw : wantB ops fr o = some true) (hd : o.dst = some d) (hN : Nat.blt d N = true) (ho : o.op = .pick c x y) (hc : opv fr c = some (.vl (.bool t))) (hx : opv fr (bif t then x else y) = some r) (hr : r.isBx = false) : Eo B N w0 ops o fr (.val d r) :=
 DX.val hw hd hN hr fun a W hf => ⟨a.eval (bif t then x else y), by
  have e1 := opv_vl hf hc
  unfold execOp
  rw [ho]
  simp only [e1]
  refine (run_pk t _ _ W).trans ?_
  cases t <;> rfl, (opv_spec hf hx).1⟩
theorem DX.alloc {T : TypeId} (b : BT) (hd : o.dst = some d) (hN : Nat.blt d N = true) (ho : o.op = .alloc T) (hT : b.T = T) (ok : b.Ok) (hg : o.guard = none) : Eo B N w0 ops o fr (.new d b) := ⟨hd, hN, by rw [ho, hT], ok, hg⟩
theorem DX.rload {T : TypeId} {s K g n c i : Nat} {e : TypeId} {f : Int → Value} {zs : List Int} (hw : wantB ops fr o = some true) (hd : o.dst = some d) (hN : Nat.blt d N = true) (ho : o.op = .load T (.tmp s)) (hs : look fr s = some (.vl (.pointer (some ⟨g, i, none⟩)))) (hK : look fr K = some (.ro (.slice (some ⟨g, 0, none⟩) n c) e f zs)) (hi : i < zs.length)
  (hl : ∀ (W : World) (p : Addr) (x : Int), W.cell? p = some (f x) → (Instr.loadAt T (.pointer (some p))).run Tryz.prog W = .ok (f x) W) : Eo B N w0 ops o fr (.val d (.vl (f (at0 zs i)))) :=
 DX.val hw hd hN rfl fun a W hf => by
  have h1 : a.tmps.getD s undef = .pointer (some ⟨g, i, none⟩) := hf.ho s _ hs
  have h2 : OwF W B e f (.slice (some ⟨g, 0, none⟩) n c) zs := hf.ho K _ hK
  refine ⟨_, ?_, rfl⟩
  unfold execOp
  rw [ho]
  show (do pure (.value (← Instr.loadAt T (a.tmps.getD s undef))) : Sem Next).run Tryz.prog W = _
  rw [h1]
  exact run_val (hl W _ _ (h2.cellAt hi))
theorem DX.rstore {T : TypeId} {s K g n c i : Nat} {x : Operand} {e : TypeId} {f : Int → Value} {zs : List Int} {y : Int} (hd : o.dst = none) (hg : o.guard = none) (ho : o.op = .store T (.tmp s) x) (hs : look fr s = some (.vl (.pointer (some ⟨g, i, none⟩)))) (hK : look fr K = some (.ro (.slice (some ⟨g, 0, none⟩) n c) e f zs)) (hi : i < zs.length) (hx : opv fr x = some (.vl (f y)))
  (hst : ∀ (W : World) (p : Addr) (x y : Int), W.cell? p = some (f x) → W.frozen? p = false → (Instr.storeAt T (.pointer (some p)) (f y)).run Tryz.prog W = .ok () (W.setCell p (f y))) : Eo B N w0 ops o fr (.rput K g n c e f zs i y) := ⟨hd, hg, T, s, x, ho, hs, hK, hi, hx, hst⟩
theorem DX.store {T : TypeId} {s : Nat} {x : Operand} {r : AV} {b : BT} (hd : o.dst = none) (hg : o.guard = none) (ho : o.op = .store T (.tmp s) x) (hs : (look fr s).bind bxT = some b) (hT : b.T = T) (hx : opv fr x = some r) (hsh : ∀ v W, r.of v W → ∃ cs, b.sh v cs) : Eo B N w0 ops o fr (.put s b r) := ⟨hd, hg, x, by rw [ho, hT], hs, hx, hsh⟩
end
def Eos (B N : Nat) (w0 : World) (ops : Array Oper) (es : List Eff) (fr : List (Nat × AV)) : List Oper → List Eff → List (List Nat × List Nat) → Prop
 | [], _, _ => True
 | o :: l, e :: l', (js, ss) :: l'' => Eo B N w0 ops o (see es fr js ss) e ∧ Eos B N w0 ops es fr l l' l''
 | _, _, _ => False
theorem Eos.at {B N : Nat} {w0 : World} {ops : Array Oper} {es : List Eff} {fr : List (Nat × AV)} : ∀ {l : List Oper} {l' : List Eff} {l'' : List (List Nat × List Nat)}, Eos B N w0 ops es fr l l' l'' → ∀ {i : Nat} {o : Oper}, l[i]? = some o → ∃ e js ss, l'[i]? = some e ∧ l''[i]? = some (js, ss) ∧ Eo B N w0 ops o (see es fr js ss) e
 | [], _, _, _, i, o, h => by simp at h
 | o' :: l, e :: l', (js, ss) :: l'', ⟨h1, h2⟩, 0, o, h => by
  have : o' = o := by simpa using h
  subst this
  exact ⟨e, js, ss, rfl, rfl, h1⟩
 | o' :: l, e :: l', (js, ss) :: l'', ⟨h1, h2⟩, i + 1, o, h => by
  obtain ⟨e', js', ss', a, b, c⟩ := Eos.at h2 (i := i) (by simpa using h)
  exact ⟨e', js', ss', by simpa using a, by simpa using b, c⟩
 | _ :: _, [], _, h, _, _, _ => h.elim
 | _ :: _, _ :: _, [], h, _, _, _ => h.elim
def seesB (ops : Array Oper) (es : List Eff) : Nat → List (List Nat × List Nat) → Bool
 | _, [] => true
 | i, (js, ss) :: l => seeB ops es i js ss && seesB ops es (i + 1) l
def backB (ops : Array Oper) : Bool := (List.range ops.size).all fun i => match ops[i]? with
 | none => true
 | some o => o.after.all fun e => !(Region.binds .any e) || Nat.blt e.on i
def twiceB (ops : Array Oper) (es : List Eff) : Bool := (List.range es.length).all fun i => (List.range i).all fun j => match es[i]?, es[j]? with
 | some a, some b => !(Nat.beq a.slot b.slot) || wt ops i j
 | _, _ => true
theorem seesB_at {ops : Array Oper} {es : List Eff} : ∀ {l : List (List Nat × List Nat)} {i k : Nat} {js ss : List Nat}, seesB ops es i l = true → l[k]? = some (js, ss) → seeB ops es (i + k) js ss = true
 | [], _, _, _, _, _, h => by simp at h
 | (js', ss') :: l, i, 0, js, ss, hb, h => by
  unfold seesB at hb
  rw [Bool.and_eq_true] at hb
  have : (js', ss') = (js, ss) := by simpa using h
  injection this with a b
  subst a b
  exact hb.1
 | (js', ss') :: l, i, k + 1, js, ss, hb, h => by
  unfold seesB at hb
  rw [Bool.and_eq_true] at hb
  have := seesB_at hb.2 (k := k) (by simpa using h)
  rwa [show i + 1 + k = i + (k + 1) by omega] at this
theorem back_spec {ops : Array Oper} (h : backB ops = true) {i j : Nat} (hw : wt ops i j = true) : j < i := by
 unfold backB at h
 rw [List.all_eq_true] at h
 unfold wt at hw
 split at hw
 ·cases hw
 ·rename_i o ho
  have := h i (List.mem_range.2 (Array.getElem?_eq_some_iff.1 ho).1)
  rw [ho] at this
  simp only [Array.all_eq_true'] at this
  rw [Array.any_eq_true'] at hw
  obtain ⟨e, he, hb⟩ := hw
  rw [Bool.and_eq_true] at hb
  have h1 := this e he
  rw [hb.1] at h1
  have h2 : e.on = j := by simpa using hb.2
  rw [← h2]
  simpa [Nat.blt_eq] using h1
theorem twice_spec {ops : Array Oper} {es : List Eff} (h : twiceB ops es = true) {i j : Nat} {a b : Eff} (hij : j < i) (ha : es[i]? = some a) (hb : es[j]? = some b) (hs : a.slot = b.slot) : wt ops i j = true := by
 unfold twiceB at h
 rw [List.all_eq_true] at h
 have h1 := h i (List.mem_range.2 (List.getElem?_eq_some_iff.1 ha).1)
 rw [List.all_eq_true] at h1
 have h2 := h1 j (List.mem_range.2 hij)
 rw [ha, hb] at h2
 simp only [hs] at h2
 simpa using h2
def lft : Nat → (Nat → Bool) → Nat
 | 0, _ => 0
 | n + 1, L => (if L n then 0 else 1) + lft n L
theorem lft_congr {L L' : Nat → Bool} : ∀ n, (∀ j, j < n → L j = L' j) → lft n L = lft n L'
 | 0, _ => rfl
 | n + 1, h => by unfold lft; rw [h n (by omega), lft_congr n fun j hj => h j (by omega)]
theorem lft_add {L : Nat → Bool} {i : Nat} (hL : L i = false) : ∀ n, i < n → lft n (add L i) + 1 = lft n L
 | 0, h => by omega
 | n + 1, h => by
  unfold lft
  by_cases e : n = i
  ·subst e
   have : lft n (add L n) = lft n L := lft_congr n fun j hj => by unfold add; rw [if_neg (by omega)]
   rw [this, hL]
   unfold add
   simp
   omega
  ·have := lft_add hL n (by omega)
   have e2 : add L i n = L n := by unfold add; rw [if_neg e]
   rw [e2]
   omega
theorem lft_zero {L : Nat → Bool} : ∀ n, lft n L = 0 → ∀ j, j < n → L j = true
 | 0, _, j, h => by omega
 | n + 1, h, j, hj => by
  unfold lft at h
  by_cases e : j = n
  ·subst e
   cases hL : L j with
   | true => rfl
   | false => rw [hL] at h; simp at h
  ·exact lft_zero n (by omega) j (by omega)
def ents : List Eff → List (Nat × AV) → List (Nat × AV)
 | [], fr => fr
 | e :: es, fr => ents es (e.ent :: fr)
theorem cur_all {L : Nat → Bool} : ∀ (es : List Eff) (i : Nat) (fr : List (Nat × AV)), (∀ k, i ≤ k → k < i + es.length → L k = true) → cur i es L fr = ents es fr
 | [], _, _, _ => rfl
 | e :: es, i, fr, h => by
  unfold cur ents
  rw [if_pos (h i (Nat.le_refl _) (by simp))]
  exact cur_all es (i + 1) _ fun k h1 h2 => h k (by omega) (by simp; omega)
theorem cur_no {L : Nat → Bool} : ∀ (es : List Eff) (i : Nat) (fr : List (Nat × AV)), (∀ k, L k = false) → cur i es L fr = fr
 | [], _, _, _ => rfl
 | e :: es, i, fr, h => by
  unfold cur
  rw [h i, if_neg (by simp)]
  exact cur_no es (i + 1) _ h
def dxcalm (es : List Eff) (fr : List (Nat × AV)) : Bool := match es.any Eff.isR with
 | false => true
 | true => calmB fr && es.all fun e => e.ent.2.calm
theorem cur_calm {L : Nat → Bool} : ∀ (es : List Eff) (i : Nat) (fr : List (Nat × AV)), calmB fr = true → (es.all fun e => e.ent.2.calm) = true → calmB (cur i es L fr) = true
 | [], _, _, h, _ => h
 | e :: es, i, fr, h, hs => by
  rw [List.all_cons, Bool.and_eq_true] at hs
  unfold cur
  refine cur_calm es (i + 1) _ ?_ hs.2
  split
  ·show (e.ent.2.calm && calmB fr) = true
   rw [hs.1, h]; rfl
  ·exact h
theorem dxcalm_spec {es : List Eff} {fr : List (Nat × AV)} (h : dxcalm es fr = true) {i : Nat} {e : Eff} (he : es[i]? = some e) (hr : e.isR = true) (L : Nat → Bool) : calmB (cur 0 es L fr) = true := by
 have : es.any Eff.isR = true := List.any_eq_true.2 ⟨e, List.mem_of_getElem? he, hr⟩
 unfold dxcalm at h
 rw [this] at h
 simp only [Bool.and_eq_true] at h
 exact cur_calm es 0 fr h.1 h.2
theorem SC.dx {B N : Nat} {w0 : World} {id : Nat} {l : List Oper} {fr : List (Nat × AV)} {Q : Exit → Act → World → Prop} (es : List Eff) (sees : List (List Nat × List Nat)) (hlen : es.length = l.length)
  (h1 : backB l.toArray = true) (h2 : twiceB l.toArray es = true) (h3 : seesB l.toArray es 0 sees = true) (h4 : dxcalm es fr = true) (ho : Eos B N w0 l.toArray es fr l es sees) (hk : SX B N w0 .normal (ents es fr) Q) : SC B N w0 (.region id l.toArray true) fr Q := fun a W hf => by
 have hd : Nw W W.drew := (Nw.refl W).drew
 refine wp_region_any (by kernel_rfl) ?_
 have key : ∀ (fuel : Nat) (listed : Array Bool) (a : Act) (W : World), listed.size = l.length → Dn l.toArray (fun j => listed.getD j false) → lft l.length (fun j => listed.getD j false) ≤ fuel → Fr B N w0 (cur 0 es (fun j => listed.getD j false) fr) a W → wpAny Tryz.prog .any l.toArray Q fuel listed a W := by
  intro fuel
  induction fuel with
  | zero =>
   intro listed a W hz hD hl hf
   have hall := lft_zero l.length (Nat.le_zero.1 hl)
   refine ⟨?_, ?_⟩
   ·cases hr : Region.ready .any l.toArray listed with
    | nil => rfl
    | cons i t =>
     exfalso
     have hi : i ∈ Region.ready .any l.toArray listed := by rw [hr]; exact List.mem_cons_self
     obtain ⟨hun, o, hoo, _⟩ := mem_ready.1 hi
     have hlt : i < l.length := by simpa using (Array.getElem?_eq_some_iff.1 hoo).1
     have := hall i hlt
     rw [Rh.listed_not hun] at this
     cases this
   ·rw [cur_all es 0 fr fun k _ hk2 => hall k (by omega)] at hf
    exact hk a W hf
  | succ fuel ih =>
   intro listed a W hz hD hl hf
   refine ⟨fun hr => ?_, fun i hi => ?_⟩
   ·-- nothing is ready: nothing is left
    have hall : ∀ n j, j = n → j < l.length → listed.getD j false = true := by
     intro n
     induction n using Nat.strongRecOn with
     | _ n ihn =>
      intro j hj hjl
      subst hj
      cases hL : listed.getD j false with
      | true => rfl
      | false =>
       exfalso
       have : j ∈ Region.ready .any l.toArray listed := mem_ready.2 ⟨by
        have : j < listed.size := by omega
        simp [this] at hL ⊢; exact hL, l[j], by simp [hjl], fun e he hb => by
        have hw : wt l.toArray j e.on = true := by
         unfold wt
         rw [show l.toArray[j]? = some l[j] by simp [hjl]]
         simp only []
         rw [Array.any_eq_true']
         exact ⟨e, he, by rw [hb]; simp⟩
        have hlt := back_spec h1 hw
        exact ihn e.on hlt e.on rfl (by omega)⟩
       rw [hr] at this
       cases this
    rw [cur_all es 0 fr fun k _ hk2 => hall k k rfl (by omega)] at hf
    exact hk a W hf
   ·obtain ⟨hun, o, hoo, haft⟩ := mem_ready.1 hi
    have hlt : i < l.length := by simpa using (Array.getElem?_eq_some_iff.1 hoo).1
    have hLi : listed.getD i false = false := Rh.listed_not hun
    have hwi : ∀ j, wt l.toArray i j = true → listed.getD j false = true := by
     intro j hj
     unfold wt at hj
     rw [hoo] at hj
     simp only [] at hj
     rw [Array.any_eq_true'] at hj
     obtain ⟨e, he, hb⟩ := hj
     rw [Bool.and_eq_true] at hb
     have : e.on = j := by simpa using hb.2
     rw [← this]
     exact haft e he hb.1
    obtain ⟨e, js, ss, he, hs, hE⟩ := ho.at (i := i) (o := o) (by simpa using hoo)
    have hsb := seesB_at h3 (k := i) hs
    rw [Nat.zero_add] at hsb
    have hLadd : (fun j => (listed.setIfInBounds i true).getD j false) = add (fun j => listed.getD j false) i := by
     funext j
     unfold add
     by_cases hji : j = i
     ·subst hji
      have : j < listed.size := by omega
      simp [this]
     ·rw [if_neg hji]
      simp only [Array.getD_eq_getD_getElem?, Array.getElem?_setIfInBounds, if_neg (Ne.symm hji)]
    refine hE.step hoo hf (see_spec hD hLi hwi js ss hsb) (fun hr => dxcalm_spec h4 he hr _) fun a' W' hf' => ih _ a' W' (by simpa using hz) ?_ ?_ ?_
    ·rw [hLadd]
     intro p q hp hpq
     unfold add at hp ⊢
     by_cases hpi : p = i
     ·subst hpi
      by_cases hqi : q = p
      ·rw [if_pos hqi]
      ·rw [if_neg hqi]; exact hwi q hpq
     ·rw [if_neg hpi] at hp
      by_cases hqi : q = i
      ·rw [if_pos hqi]
      ·rw [if_neg hqi]; exact hD p q hp hpq
    ·rw [hLadd]
     have := lft_add (L := fun j => listed.getD j false) (i := i) hLi l.length hlt
     omega
    ·rw [hLadd]
     refine hf'.ext fun s => look_add he hLi (fun k e' hik hk' hsl => ?_) s
     cases hk2 : listed.getD k false with
     | false => rfl
     | true => exact absurd ((hD k i hk2 (twice_spec h2 hik hk' he hsl)).symm.trans hLi) (by simp)
 refine key _ _ a W.drew (by simp) (fun i j hi => ?_) ?_ ?_
 ·exfalso
  rcases Nat.lt_or_ge i l.length with h' | h'
  ·simp [h'] at hi
  ·simp [Array.getElem?_eq_none, h'] at hi
 ·have : ∀ n, lft n (fun j => (Array.replicate l.toArray.size false).getD j false) ≤ n := by
   intro n
   induction n with
   | zero => exact Nat.le_refl _
   | succ n ih => unfold lft; split <;> omega
  simpa using this l.length
 ·rw [cur_no es 0 fr fun k => by
   rcases Nat.lt_or_ge k l.length with h' | h'
   ·simp [h']
   ·simp [Array.getElem?_eq_none, h']]
  exact hf.nw hd
end Go.Proofs.YthpjmhhfcechmaaGreat.Sy
/- A walk by rules: loops; a field of a box; the beginning of a function. -/
namespace Go.Proofs.YthpjmhhfcechmaaGreat.Sy
open Go Go.RowKit Ma
def Sub : List (Nat × AV) → List (Nat × AV) → Prop
 | [], _ => True
 | (i, v) :: l, fr => look fr i = some v ∧ Sub l fr
theorem Sub.spec {fr : List (Nat × AV)} : ∀ {l : List (Nat × AV)}, Sub l fr → ∀ s v, look l s = some v → look fr s = some v
 | [], _, s, v, h => by cases h
 | (i, u) :: l, hs, s, v, h => by
  rw [look_cons] at h
  by_cases e : i = s
  ·rw [if_pos e] at h; injection h with h; subst h e; exact hs.1
  ·rw [if_neg e] at h; exact hs.2.spec s v h
section
variable {B N : Nat} {w0 : World} {ops : Array Oper} {o o2 : Oper} {rest : List Oper} {fr : List (Nat × AV)} {Q : Exit → Act → World → Prop} {d : Nat}
theorem SC.keep {c : Code} (fr' : List (Nat × AV)) (hs : Sub fr' fr) (h : SC B N w0 c fr' Q) : SC B N w0 c fr Q := fun a W hf => h a W (hf.sub hs.spec)
def Bk {S : Type} (B N : Nat) (w0 : World) (F : S → List (Nat × AV)) (P : S → Prop) (μ : S → Nat) (n : Nat) (a : Act) (W : World) : Prop := ∃ s', P s' ∧ μ s' < n ∧ Fr B N w0 (F s') a W
theorem SC.loop {c : Code} {S : Type} (F : S → List (Nat × AV)) (P : S → Prop) (μ : S → Nat) (s0 : S) (p0 : P s0) (h0 : Sub (F s0) fr)
  (round : ∀ s, P s → SC B N w0 c (F s) (Exit.then (Bk B N w0 F P μ (μ s)) Q)) : SC B N w0 (.loop c) fr Q := fun a W hf => by
 refine wp_loop_ghost (fun n a w => ∃ s, P s ∧ μ s = n ∧ Fr B N w0 (F s) a w) (μ s0) ⟨s0, p0, rfl, hf.sub h0.spec⟩ ?_
 rintro n a w ⟨s, hp, rfl, hf⟩
 refine wp_mono (round s hp a w hf) fun e a' w' hq => ?_
 cases e with
 | normal => obtain ⟨s', h1, h2, h3⟩ := hq; exact ⟨μ s', h2, s', h1, rfl, h3⟩
 | exit id => exact hq
 | goto l => exact hq
 | ret => exact hq
 | panic ch => exact hq
 | outgrown => exact hq
theorem SX.back {S : Type} {F : S → List (Nat × AV)} {P : S → Prop} {μ : S → Nat} {n : Nat} (s' : S) (hp : P s') (hm : μ s' < n) (hs : Sub (F s') fr) : SX B N w0 .normal fr (Exit.then (Bk B N w0 F P μ n) Q) :=
 fun a W hf => ⟨s', hp, hm, hf.sub hs.spec⟩
theorem PW.fld {T T' : TypeId} {s j d2 : Nat} {b : BT} {k : Know} {r : AV} (hw : wantB ops fr o = some true) (hd : o.dst = some d) (hN : Nat.blt d N = true) (ho : o.op = .fieldAddr T (.tmp s) j) (hs : look fr s = some (.bx b k)) (hT : b.T = T)
  (hw2 : wantB ops ((d, .kw KT) :: fr) o2 = some true) (hd2 : o2.dst = some d2) (hN2 : Nat.blt d2 N = true) (ho2 : o2.op = .load T' (.tmp d)) (hr : r.isBx = false)
  (hx : ∀ v W p, Holds b p v W → k v W → ∃ q u, (Instr.fieldAt T (ptr p) j).run Tryz.prog W = .ok q W ∧ (Instr.loadAt T' q).run Tryz.prog W = .ok u W ∧ r.of u W) (hst : St r.of)
  (hk : PW B N w0 ops rest ((d2, r) :: (d, .kw KT) :: fr) Q) : PW B N w0 ops (o :: o2 :: rest) fr Q :=
 PW.step hw fun a W hf K hK => by
  obtain ⟨p, v, e, hB, hh, hv, st, ok⟩ := hf.ho s _ hs
  obtain ⟨q, u, h1, h2, h3⟩ := hx v W p hh hv
  have e1 : (execOp a.eval o).run Tryz.prog W = .ok (.value q) W := by
   unfold execOp
   rw [ho]
   show (do pure (.value (← Instr.fieldAt T (a.tmps.getD s undef) j)) : Sem Next).run Tryz.prog W = _
   rw [e]
   exact run_val h1
  unfold Oper.wp
  rw [e1, Oper.upon_value, hd]
  have hf2 := hf.set (v := .kw KT) hN (u := q) ⟨trivial, KT.st⟩ rfl
  refine hK _ _ (wpList_step fun K' hK' => ?_)
  rw [if_pos (wantB_spec hf2 hw2)]
  have hq : (a.put (some d) q).eval (.tmp d) = q := by
   show (a.put (some d) q).tmps.getD d undef = q
   rw [getD_put (by rw [hf.sz]; simpa [Nat.blt_eq] using hN), if_pos rfl]
  have e2 : (execOp (a.put (some d) q).eval o2).run Tryz.prog W = .ok (.value u) W := by
   unfold execOp
   rw [ho2]
   simp only [hq]
   exact run_val h2
  unfold Oper.wp
  rw [e2, Oper.upon_value, hd2]
  exact hK' _ _ (hk _ _ (hf2.set hN2 (Ho.mk hr h3 hst) hr))
end
/-! ### The beginning of a function -/
def ini : Nat → List AV → List (Nat × AV)
 | _, [] => []
 | i, v :: l => (i, v) :: ini (i + 1) l
def AllA (B : Nat) : List AV → List Value → World → Prop
 | [], [], _ => True
 | v :: l, u :: us, W => Ho B v u W ∧ v.isBx = false ∧ AllA B l us W
 | _, _, _ => False
theorem look_ini : ∀ (l : List AV) (i s : Nat) (v : AV), look (ini i l) s = some v → ∃ k, s = i + k ∧ l[k]? = some v
 | [], _, _, _, h => by cases h
 | x :: l, i, s, v, h => by
  unfold ini at h
  rw [look_cons] at h
  by_cases e : i = s
  ·rw [if_pos e] at h; exact ⟨0, by omega, by simpa using h⟩
  ·rw [if_neg e] at h
   obtain ⟨k, h1, h2⟩ := look_ini l (i + 1) s v h
   exact ⟨k + 1, by omega, by simpa using h2⟩
theorem AllA.at {B : Nat} {W : World} : ∀ {l : List AV} {us : List Value}, AllA B l us W → ∀ {k : Nat} {v : AV}, l[k]? = some v → ∃ u, us[k]? = some u ∧ Ho B v u W ∧ v.isBx = false
 | [], [], _, k, v, h => by simp at h
 | x :: l, u :: us, hh, 0, v, h => by
  have : x = v := by simpa using h
  subst this
  exact ⟨u, rfl, hh.1, hh.2.1⟩
 | x :: l, u :: us, hh, k + 1, v, h => by
  obtain ⟨u', h1, h2⟩ := AllA.at hh.2.2 (k := k) (by simpa using h)
  exact ⟨u', by simpa using h1, h2⟩
 | [], _ :: _, hh, _, _, _ => hh.elim
 | _ :: _, [], hh, _, _, _ => hh.elim
theorem Fr.ini {B N : Nat} {w : World} {l : List AV} {us : List Value} (h : AllA B l us w) (hB : B = w.heap.size) (n : Nat) (hN : us.length + n = N) : Fr B N w (ini 0 l) ⟨us.toArray ++ Array.replicate n undef, []⟩ w := by
 refine ⟨rfl, by simp [hN], hB ▸ Below.refl _ _, by omega, fun i v hi => ?_, fun i j b b' p hij hi hj e => ?_⟩
 ·obtain ⟨k, rfl, hk⟩ := look_ini l 0 i v hi
  rw [Nat.zero_add]
  obtain ⟨u, hu, hv, _⟩ := h.at hk
  have hlt := (List.getElem?_eq_some_iff.1 hu).1
  have : (us.toArray ++ Array.replicate n undef).getD k undef = u := by
   simp only [Array.getD_eq_getD_getElem?]
   rw [Array.getElem?_append_left (by simpa using hlt)]
   simp [hu]
  show Ho B v ((us.toArray ++ Array.replicate n undef).getD k undef) w
  rw [this]; exact hv
 ·obtain ⟨k1, _, hk1⟩ := look_ini l 0 i _ hi
  obtain ⟨u, _, _, h3⟩ := h.at hk1
  rw [AV.blk_no h3] at e
  cases e
def StA : List AV → Prop
 | [] => True
 | v :: l => St v.of ∧ v.isBx = false ∧ StA l
theorem AllA.of {B : Nat} {W : World} : ∀ {l : List AV} {us : List Value}, StA l → All (l.map AV.of) us W → AllA B l us W
 | [], [], _, _ => trivial
 | v :: l, u :: us, hs, h => ⟨Ho.mk hs.2.1 h.1 hs.1, hs.2.1, AllA.of hs.2.2 h.2⟩
 | [], _ :: _, _, h => h.elim
 | _ :: _, [], _, h => h.elim
theorem All.len {W : World} : ∀ {ks : List Know} {us : List Value}, All ks us W → us.length = ks.length
 | [], [], _ => rfl
 | _ :: _, _ :: _, h => by simp [All.len h.2]
 | [], _ :: _, h => h.elim
 | _ :: _, [], h => h.elim
theorem CallOk.enter {f : FuncId} {fn : Func} {c : Code} {l : List AV} {r : Know} (N : Nat) (ce : CE f) (hf : Tryz.prog.funcs[f]? = some fn) (hb : fn.body = some c) (hn : fn.ntmps = N) (hN : l.length ≤ N) (hs : StA l)
  (h : ∀ w : World, SC w.heap.size N w c (ini 0 l) (bodyPost Tryz.prog fn (Ret w r))) : CallOk f (l.map AV.of) r := ⟨ce, fun W us hu => by
 have hl := hu.len
 rw [List.length_map] at hl
 refine calls_of_wp hf hb ?_
 have := Fr.ini (AllA.of (B := W.heap.size) hs hu) rfl (N - us.length) (N := N) (by omega)
 simp only [List.size_toArray, hn]
 exact h W _ _ this⟩
/-! ### Results -/
section
variable {B N : Nat} {w0 : World} {fr : List (Nat × AV)} {fn : Func}
theorem run_cell {b : BT} {p : Nat} {v : Value} {W : World} (ok : b.Ok) (h : Holds b p v W) : (loadVar b.T ⟨p, 0, none⟩).run Tryz.prog W = .ok v W := by
 obtain ⟨cs, hs, hc⟩ := h
 have := ok.load v cs W p hs fun i x hx => (hc i x hx).1
 unfold Instr.loadAt at this
 generalize loadVar = G at this ⊢
 simpa [Instr.sureAddr, go_sem] using this
theorem SX.done2 {e : Exit} {s t : Nat} {b : BT} {k : Know} {r : AV} (he : e = .ret ∨ e = .normal) (hr : fn.results = #[.cell s b.T, .tmp t]) (hs : look fr s = some (.bx b k)) (ht : opv fr (.tmp t) = some r) (hB : B = w0.heap.size) : SX B N w0 e fr (bodyPost Tryz.prog fn (Ret w0 (K2 k r.of))) := fun a W hf => by
 obtain ⟨p, v, ep, _, hh, hv, st, ok⟩ := hf.ho s _ hs
 have h1 := opv_spec hf ht
 have hrun : (results fn a.tmps).run Tryz.prog W = .ok (.tuple #[v, a.tmps.getD t undef]) W := by
  have := run_cell ok hh
  have ep' : a.tmps[s]?.getD undef = ptr p := by simpa [Array.getD_eq_getD_getElem?] using ep
  unfold results
  generalize loadVar = G at this ⊢
  simp [hr, go_sem, ep', asAddr, this]
 have key : a.defers = [] ∧ ∃ v, (results fn a.tmps).run Tryz.prog W = .ok v W ∧ Ret w0 (K2 k r.of) (.returned v) W :=
  ⟨hf.df, _, hrun, ⟨_, rfl, ⟨v, _, rfl, hv, (h1.1.of h1.2).1⟩, by have := hf.be; rw [hB] at this; exact this⟩⟩
 rcases he with rfl | rfl <;> exact key
theorem SX.doneC {e : Exit} {s : Nat} {b : BT} {k : Know} (he : e = .ret ∨ e = .normal) (hr : fn.results = #[.cell s b.T]) (hs : look fr s = some (.bx b k)) (hB : B = w0.heap.size) : SX B N w0 e fr (bodyPost Tryz.prog fn (Ret w0 k)) := fun a W hf => by
 obtain ⟨p, v, ep, _, hh, hv, st, ok⟩ := hf.ho s _ hs
 have hrun : (results fn a.tmps).run Tryz.prog W = .ok v W := by
  have := run_cell ok hh
  have ep' : a.tmps[s]?.getD undef = ptr p := by simpa [Array.getD_eq_getD_getElem?] using ep
  unfold results
  generalize loadVar = G at this ⊢
  simp [hr, go_sem, ep', asAddr, this]
 have key : a.defers = [] ∧ ∃ v, (results fn a.tmps).run Tryz.prog W = .ok v W ∧ Ret w0 k (.returned v) W :=
  ⟨hf.df, _, hrun, ⟨_, rfl, hv, by have := hf.be; rw [hB] at this; exact this⟩⟩
 rcases he with rfl | rfl <;> exact key
end
/-! ### Fields of a box of a sign and a slice -/
theorem zeroI (B : Nat) (w0 : World) (W : World) : Ho B (.kw (KI 0)) (.agg #[.bool false, .slice none 0 0]) W := ⟨⟨_, _, _, _, rfl, RI.zero _⟩, KI.st 0⟩
end Go.Proofs.YthpjmhhfcechmaaGreat.Sy
/- A walk by rules: rows of numbers. -/
namespace Go.Proofs.YthpjmhhfcechmaaGreat.Sy
open Go Go.RowKit Ma
section
variable {B N : Nat} {w0 : World} {ops : Array Oper} {o : Oper} {rest : List Oper} {fr : List (Nat × AV)} {Q : Exit → Act → World → Prop} {d : Nat}
theorem Fr.row {a : Act} {W W' : World} {K : Nat} {v : Value} {e : TypeId} {f : Int → Value} {zs : List Int} (h : Fr B N w0 fr a W) (hn : Nw W W') (hg : ∀ g, v.ownBlock = some g → W.heap.size ≤ g) (ho : OwF W' B e f v zs) : Fr B N w0 ((K, .ro v e f zs) :: fr) a W' :=
 (h.nw hn).more ho fun j v' p hj e1 e2 => by
  have := hg p e1
  have := (h.ho j v' hj).blk e2
  omega
theorem PW.rload {T : TypeId} {s K g n c i : Nat} {e : TypeId} {f : Int → Value} {zs : List Int} (hw : wantB ops fr o = some true) (hd : o.dst = some d) (hN : Nat.blt d N = true) (ho : o.op = .load T (.tmp s)) (hs : look fr s = some (.vl (.pointer (some ⟨g, i, none⟩)))) (hK : look fr K = some (.ro (.slice (some ⟨g, 0, none⟩) n c) e f zs)) (hi : i < zs.length)
  (hl : ∀ (W : World) (p : Addr) (x : Int), W.cell? p = some (f x) → (Instr.loadAt T (.pointer (some p))).run Tryz.prog W = .ok (f x) W) (hk : PW B N w0 ops rest ((d, .vl (f (at0 zs i))) :: fr) Q) : PW B N w0 ops (o :: rest) fr Q :=
 PW.val (r := .vl (f (at0 zs i))) hw hd hN rfl (fun a W hf => by
  have h1 : a.tmps.getD s undef = .pointer (some ⟨g, i, none⟩) := hf.ho s _ hs
  have h2 : OwF W B e f (.slice (some ⟨g, 0, none⟩) n c) zs := hf.ho K _ hK
  refine ⟨_, ?_, rfl⟩
  unfold execOp
  rw [ho]
  show (do pure (.value (← Instr.loadAt T (a.tmps.getD s undef))) : Sem Next).run Tryz.prog W = _
  rw [h1]
  exact run_val (hl W _ _ (h2.cellAt hi))) hk
theorem PW.iload {T : TypeId} {s : Nat} {p : Addr} {k : IntKind} {x : Int} (hw : wantB ops fr o = some true) (hd : o.dst = some d) (hN : Nat.blt d N = true) (ho : o.op = .load T (.tmp s)) (hs : look fr s = some (.vl (.pointer (some p)))) (hB : B = w0.heap.size) (hc : w0.cell? p = some (.int k x))
  (hl : ∀ (W : World) (p : Addr) (x : Int), W.cell? p = some (.int k x) → (Instr.loadAt T (.pointer (some p))).run Tryz.prog W = .ok (.int k x) W) (hk : PW B N w0 ops rest ((d, .vl (.int k x)) :: fr) Q) : PW B N w0 ops (o :: rest) fr Q :=
 PW.val (r := .vl (.int k x)) hw hd hN rfl (fun a W hf => by
  have h1 : a.tmps.getD s undef = .pointer (some p) := hf.ho s _ hs
  have h2 : W.cell? p = some (.int k x) := by
   rw [hf.be.cell (by rw [hB]; exact World.block_lt_of_cell? w0 p hc)]; exact hc
  refine ⟨_, ?_, rfl⟩
  unfold execOp
  rw [ho]
  show (do pure (.value (← Instr.loadAt T (a.tmps.getD s undef))) : Sem Next).run Tryz.prog W = _
  rw [h1]
  exact run_val (hl W _ _ h2)) hk
theorem PW.rstore {T : TypeId} {s K g n c i : Nat} {x : Operand} {e : TypeId} {f : Int → Value} {zs : List Int} {y : Int} (hw : wantB ops fr o = some true) (hd : o.dst = none) (ho : o.op = .store T (.tmp s) x) (hs : look fr s = some (.vl (.pointer (some ⟨g, i, none⟩)))) (hK : look fr K = some (.ro (.slice (some ⟨g, 0, none⟩) n c) e f zs)) (hi : i < zs.length) (hx : opv fr x = some (.vl (f y))) (hc : calmB fr = true)
  (hst : ∀ (W : World) (p : Addr) (x y : Int), W.cell? p = some (f x) → W.frozen? p = false → (Instr.storeAt T (.pointer (some p)) (f y)).run Tryz.prog W = .ok () (W.setCell p (f y))) (hk : PW B N w0 ops rest ((K, .ro (.slice (some ⟨g, 0, none⟩) n c) e f (zs.set i y)) :: fr) Q) : PW B N w0 ops (o :: rest) fr Q :=
 PW.step hw fun a W hf K' hK' => by
  have h1 : a.tmps.getD s undef = .pointer (some ⟨g, i, none⟩) := hf.ho s _ hs
  have h2 : OwF W B e f (.slice (some ⟨g, 0, none⟩) n c) zs := hf.ho K _ hK
  have h3 := opv_vl hf hx
  have e2 : (execOp a.eval o).run Tryz.prog W = .ok .skip (W.setCell ⟨g, i, none⟩ (f y)) := by
   unfold execOp
   rw [ho]
   show (do (Instr.storeAt T (a.tmps.getD s undef) (a.eval x)); pure .skip : Sem Next).run Tryz.prog W = _
   rw [h1, h3]
   exact run_skip (hst W _ _ _ (h2.cellAt hi) (h2.frozenAt i))
  unfold Oper.wp
  rw [e2]
  show K' (a.put o.dst undef) _
  rw [hd]
  exact hK' _ _ (hk _ _ (hf.rset hK hc y))
theorem PW.make {T e : TypeId} {lo : Operand} {n : Nat} {k : IntKind} (K : Nat) (hw : wantB ops fr o = some true) (hd : o.dst = some d) (hN : Nat.blt d N = true) (ho : o.op = .makeSlice T lo lo) (hx : opv fr lo = some (.vl (.int .i64 (n : Int)))) (hu : Tryz.prog.underlying T = some (.slice e)) {by_ : Nat} (hi : (Tryz.prog.info? e).map (fun i => (i.zero, i.size, i.bytes)) = some (some (.int k 0), 1, by_)) (hb : by_ * n ≤ 281474976710656) (hn : n ≤ maxLen)
  (hk : ∀ g, PW B N w0 ops rest ((K, .ro (.slice (some ⟨g, 0, none⟩) n n) e (Value.int k) (List.replicate n 0)) :: (d, .vl (.slice (some ⟨g, 0, none⟩) n n)) :: fr) Q) : PW B N w0 ops (o :: rest) fr Q :=
 PW.step hw fun a W hf K' hK' => by
  obtain ⟨i0, h1, hz0, hz1, hz2⟩ := info_parts hi
  obtain ⟨w', hrun, r1, r2⟩ := run_make_full (P := Tryz.prog) W B T e i0 (.int k 0) 1 hu h1 hz0 hz1 .i64 .i64 n (by rw [hz2]; exact hb) hn hf.bs
  have h3 := opv_vl hf hx
  have e2 : (execOp a.eval o).run Tryz.prog W = .ok (.value (.slice (some ⟨W.heap.size, 0, none⟩) n n)) w' := by
   unfold execOp
   rw [ho]
   simp only [h3]
   exact run_val hrun
  unfold Oper.wp
  rw [e2, Oper.upon_value, hd]
  have hn' : Nw W w' := Below.grown (Nw.refl W) r2 (Nat.le_refl _) (fun k h => by cases h)
  have r1' : w'.ownsRow B e 1 (.slice (some ⟨W.heap.size, 0, none⟩) n n) n (madeCells #[.int k 0] n).toList := by simpa [Value.cells] using r1
  have own := Own.made r1'
  have hf2 := hf.set (v := .vl (.slice (some ⟨W.heap.size, 0, none⟩) n n)) hN (u := .slice (some ⟨W.heap.size, 0, none⟩) n n) rfl rfl
  exact hK' _ _ (hk W.heap.size _ _ (hf2.row hn' (fun g hg => by injection hg with hg; rw [← hg]; exact Nat.le_refl _) own))
theorem PW.callG {c : Call} {f : FuncId} {r : AV} (ce : CE f) (hw : wantB ops fr o = some true) (hd : o.dst = some d) (hN : Nat.blt d N = true) (ho : o.op = .call c) (hc : c.callee = .value (.func f)) (hst : St r.of) (hr : r.isBx = false)
  (h : ∀ a W, Fr B N w0 fr a W → Calls Tryz.prog f (c.args.toList.map a.eval).toArray W (Ret W r.of)) (hk : PW B N w0 ops rest ((d, r) :: fr) Q) : PW B N w0 ops (o :: rest) fr Q :=
 PW.step hw fun a W hf K hK => by
  obtain ⟨dst, op, ty, pos, after, guard⟩ := o
  simp only at ho hd
  subst ho
  subst hd
  unfold Oper.wp
  rw [run_call ce hc a.eval rfl ty W]
  simp only [Oper.upon]
  have e0 : (c.args.toList.map a.eval).toArray = c.args.map a.eval := by rw [← Array.toList_map]
  have h0 := h a W hf
  rw [e0] at h0
  refine h0.mono fun e W' ⟨v, he, hv, hn⟩ => ?_
  subst he
  exact hK _ _ (hk _ _ ((hf.nw hn).set hN (Ho.mk hr hv hst) hr))
theorem PW.callO {c : Call} {f : FuncId} {e : TypeId} {k : IntKind} {p : List Int → Prop} (K : Nat) (ce : CE f) (hw : wantB ops fr o = some true) (hd : o.dst = some d) (hN : Nat.blt d N = true) (ho : o.op = .call c) (hc : c.callee = .value (.func f))
  (h : ∀ a W, Fr B N w0 fr a W → Calls Tryz.prog f (c.args.toList.map a.eval).toArray W (Ret W (KO W.heap.size e k p))) (hk : ∀ g c zs, p zs → PW B N w0 ops rest ((K, .ro (.slice (some ⟨g, 0, none⟩) zs.length c) e (Value.int k) zs) :: (d, .vl (.slice (some ⟨g, 0, none⟩) zs.length c)) :: fr) Q) : PW B N w0 ops (o :: rest) fr Q :=
 PW.step hw fun a W hf K' hK' => by
  obtain ⟨dst, op, ty, pos, after, guard⟩ := o
  simp only at ho hd
  subst ho
  subst hd
  unfold Oper.wp
  rw [run_call ce hc a.eval rfl ty W]
  simp only [Oper.upon]
  have e0 : (c.args.toList.map a.eval).toArray = c.args.map a.eval := by rw [← Array.toList_map]
  have h0 := h a W hf
  rw [e0] at h0
  refine h0.mono fun e W' ⟨v, he, ⟨zs, g, c', ev, hown, hp⟩, hn⟩ => ?_
  subst he ev
  have hg : W.heap.size ≤ g := hown.ge
  have hf2 := hf.set (v := .vl (.slice (some ⟨g, 0, none⟩) zs.length c')) hN (u := .slice (some ⟨g, 0, none⟩) zs.length c') rfl rfl
  refine hK' _ _ (hk g c' zs hp _ _ (hf2.row hn (fun g' hg' => by injection hg' with hg'; rw [← hg']; exact hg) ?_))
  exact ⟨hown.1, hown.2.imp id fun ⟨g', cap, cur, h1, h2, h3⟩ => ⟨g', cap, cur, h1, Nat.le_trans hf.bs h2, h3⟩⟩
end
end Go.Proofs.YthpjmhhfcechmaaGreat.Sy
/- A walk by rules: operations on numbers and rows, each said once. -/
namespace Go.Proofs.YthpjmhhfcechmaaGreat.Sy
open Go Go.RowKit Ma
section
variable {x y : Operand} {dst : Option Tmp} {ty : TypeId} {pos : String} {after : Array Edge} {guard : Option (Nat × Bool)} {ρ : Operand → Value} {W : World} {a b c : Int}
theorem r_idx {g n cap i : Nat} (h1 : ρ x = .slice (some ⟨g, 0, none⟩) n cap) (h2 : ρ y = .int .i64 (i : Int)) (hi : i < n) : (execOp ρ ⟨dst, .indexAddr 22 x y, ty, pos, after, guard⟩).run Tryz.prog W = .ok (.value (.pointer (some ⟨g, i, none⟩))) W := by
 go_simp
theorem r_idxA {ad : Addr} {n cap i : Nat} (h1 : ρ x = .slice (some ad) n cap) (h2 : ρ y = .int .i64 (i : Int)) (hi : i < n) : (execOp ρ ⟨dst, .indexAddr 22 x y, ty, pos, after, guard⟩).run Tryz.prog W = .ok (.value (.pointer (some (ad.add i)))) W := by
 go_simp
theorem r_add {z : Int} (h1 : ρ x = .int .i64 a) (h2 : ρ y = .int .i64 b) (e : a + b = z) (hz : -9223372036854775808 ≤ z ∧ z < 9223372036854775808) : (execOp ρ ⟨dst, .binOp .add 3 x y 3, ty, pos, after, guard⟩).run Tryz.prog W = .ok (.value (.int .i64 z)) W := by
 subst e
 go_simp
 exact IntWalk.i64_in _ (by omega)
theorem r_sub {z : Int} (h1 : ρ x = .int .i64 a) (h2 : ρ y = .int .i64 b) (e : a - b = z) (hz : -9223372036854775808 ≤ z ∧ z < 9223372036854775808) : (execOp ρ ⟨dst, .binOp .sub 3 x y 3, ty, pos, after, guard⟩).run Tryz.prog W = .ok (.value (.int .i64 z)) W := by
 subst e
 go_simp
 exact IntWalk.i64_in _ (by omega)
theorem r_quo {z : Int} (h1 : ρ x = .int .i64 a) (h2 : ρ y = .int .i64 b) (e : a / b = z) (ha : 0 ≤ a ∧ a < 9223372036854775808) (hb : 0 < b) : (execOp ρ ⟨dst, .binOp .quo 3 x y 3, ty, pos, after, guard⟩).run Tryz.prog W = .ok (.value (.int .i64 z)) W := by
 subst e
 have e1 : a.tdiv b = a / b := Int.tdiv_eq_ediv_of_nonneg ha.1
 have e3 : a / b ≤ a := Int.ediv_le_self _ ha.1
 have e4 := Int.ediv_nonneg ha.1 (Int.le_of_lt hb)
 have e : IntKind.i64.wrap (a / b) = a / b := IntWalk.i64_in _ (by omega)
 have e2 : ¬ b = 0 := by omega
 clear ha hb e3 e4
 go_simp
 first | done | rw [if_neg e2, e1, e]
theorem r_rem {z : Int} (h1 : ρ x = .int .i64 a) (h2 : ρ y = .int .i64 b) (e : a % b = z) (ha : 0 ≤ a ∧ a < 9223372036854775808) (hb : 0 < b) : (execOp ρ ⟨dst, .binOp .rem 3 x y 3, ty, pos, after, guard⟩).run Tryz.prog W = .ok (.value (.int .i64 z)) W := by
 subst e
 have e1 : a.tmod b = a % b := Int.tmod_eq_emod_of_nonneg ha.1
 have e3 : a % b ≤ a := by have a1 := Int.mul_ediv_add_emod a b; have a2 := Int.mul_nonneg (Int.le_of_lt hb) (Int.ediv_nonneg ha.1 (Int.le_of_lt hb)); omega
 have e4 := Int.emod_nonneg a (Int.ne_of_gt hb)
 have e : IntKind.i64.wrap (a % b) = a % b := IntWalk.i64_in _ (by omega)
 have e2 : ¬ b = 0 := by omega
 clear ha hb e3 e4
 go_simp
 first | done | rw [if_neg e2, e1, e]
theorem r_mul {z : Int} (h1 : ρ x = .int .i64 a) (h2 : ρ y = .int .i64 b) (e : a * b = z) (hz : -9223372036854775808 ≤ z ∧ z < 9223372036854775808) : (execOp ρ ⟨dst, .binOp .mul 3 x y 3, ty, pos, after, guard⟩).run Tryz.prog W = .ok (.value (.int .i64 z)) W := by
 subst e
 have e : IntKind.i64.wrap (a * b) = a * b := IntWalk.i64_in _ (by omega)
 go_simp
 done
theorem r_lt {t : Bool} (h1 : ρ x = .int .i64 a) (h2 : ρ y = .int .i64 b) (e : decide (a < b) = t) : (execOp ρ ⟨dst, .binOp .lss 3 x y 3, ty, pos, after, guard⟩).run Tryz.prog W = .ok (.value (.bool t)) W := by
 subst e
 go_simp
theorem r_ge {t : Bool} (h1 : ρ x = .int .i64 a) (h2 : ρ y = .int .i64 b) (e : decide (a ≥ b) = t) : (execOp ρ ⟨dst, .binOp .geq 3 x y 3, ty, pos, after, guard⟩).run Tryz.prog W = .ok (.value (.bool t)) W := by
 subst e
 go_simp
theorem r_gt {t : Bool} (h1 : ρ x = .int .i64 a) (h2 : ρ y = .int .i64 b) (e : decide (a > b) = t) : (execOp ρ ⟨dst, .binOp .gtr 3 x y 3, ty, pos, after, guard⟩).run Tryz.prog W = .ok (.value (.bool t)) W := by
 subst e
 go_simp
theorem r_le {t : Bool} (h1 : ρ x = .int .i64 a) (h2 : ρ y = .int .i64 b) (e : decide (a ≤ b) = t) : (execOp ρ ⟨dst, .binOp .leq 3 x y 3, ty, pos, after, guard⟩).run Tryz.prog W = .ok (.value (.bool t)) W := by
 subst e
 go_simp
theorem r_ge6 {t : Bool} (h1 : ρ x = .int .u64 a) (h2 : ρ y = .int .u64 b) (e : decide (a ≥ b) = t) : (execOp ρ ⟨dst, .binOp .geq 131 x y 131, ty, pos, after, guard⟩).run Tryz.prog W = .ok (.value (.bool t)) W := by
 subst e
 go_simp
theorem r_gt6 {t : Bool} (h1 : ρ x = .int .u64 a) (h2 : ρ y = .int .u64 b) (e : decide (a > b) = t) : (execOp ρ ⟨dst, .binOp .gtr 131 x y 131, ty, pos, after, guard⟩).run Tryz.prog W = .ok (.value (.bool t)) W := by
 subst e
 go_simp
theorem r_eq6 {t : Bool} (h1 : ρ x = .int .u64 a) (h2 : ρ y = .int .u64 b) (e : decide (a = b) = t) : (execOp ρ ⟨dst, .binOp .eql 131 x y 131, ty, pos, after, guard⟩).run Tryz.prog W = .ok (.value (.bool t)) W := by
 subst e
 go_simp
 rfl
theorem r_64 (h1 : ρ x = .int .u32 a) (h : 0 ≤ a ∧ a < 4294967296) : (execOp ρ ⟨dst, .convert 140 131 x, ty, pos, after, guard⟩).run Tryz.prog W = .ok (.value (.int .u64 a)) W := by
 have e : IntKind.u64.wrap a = a := IntWalk.u64_in _ (by omega)
 go_simp
 done
theorem r_32 (h1 : ρ x = .int .u64 a) : (execOp ρ ⟨dst, .convert 131 140 x, ty, pos, after, guard⟩).run Tryz.prog W = .ok (.value (.int .u32 (a % 4294967296))) W := by
 have e := IntKind.wrap_u32 a
 go_simp
 done
theorem r_u (h1 : ρ x = .int .i64 a) (h : 0 ≤ a ∧ a < 9223372036854775808) : (execOp ρ ⟨dst, .convert 3 158 x, ty, pos, after, guard⟩).run Tryz.prog W = .ok (.value (.int .u64 a)) W := by
 have e : IntKind.u64.wrap a = a := IntWalk.u64_in _ (by omega)
 go_simp
 done
theorem r_add6 {z : Int} (h1 : ρ x = .int .u64 a) (h2 : ρ y = .int .u64 b) (ez : a + b = z) (h : 0 ≤ z ∧ z < 18446744073709551616) : (execOp ρ ⟨dst, .binOp .add 131 x y 131, ty, pos, after, guard⟩).run Tryz.prog W = .ok (.value (.int .u64 z)) W := by
 subst ez
 have e : IntKind.u64.wrap (a + b) = a + b := IntWalk.u64_in _ (by omega)
 go_simp
 done
theorem r_mul6 {z : Int} (h1 : ρ x = .int .u64 a) (h2 : ρ y = .int .u64 b) (ez : a * b = z) (h : 0 ≤ z ∧ z < 18446744073709551616) : (execOp ρ ⟨dst, .binOp .mul 131 x y 131, ty, pos, after, guard⟩).run Tryz.prog W = .ok (.value (.int .u64 z)) W := by
 subst ez
 have e : IntKind.u64.wrap (a * b) = a * b := IntWalk.u64_in _ (by omega)
 go_simp
 done
theorem r_sub6 {z : Int} (h1 : ρ x = .int .u64 a) (h2 : ρ y = .int .u64 b) (ez : a - b = z) (h : 0 ≤ z ∧ z < 18446744073709551616) : (execOp ρ ⟨dst, .binOp .sub 131 x y 131, ty, pos, after, guard⟩).run Tryz.prog W = .ok (.value (.int .u64 z)) W := by
 subst ez
 have e : IntKind.u64.wrap (a - b) = a - b := IntWalk.u64_in _ (by omega)
 go_simp
 done
theorem r_subw (h1 : ρ x = .int .u64 a) (h2 : ρ y = .int .u64 b) : (execOp ρ ⟨dst, .binOp .sub 131 x y 131, ty, pos, after, guard⟩).run Tryz.prog W = .ok (.value (.int .u64 ((a - b) % 18446744073709551616))) W := by
 have e := IntKind.wrap_u64 (a - b)
 go_simp
 done
theorem r_subz {z : Int} (h1 : ρ x = .int .u64 a) (h2 : ρ y = .int .u64 b) (e : (a - b) % 18446744073709551616 = z) : (execOp ρ ⟨dst, .binOp .sub 131 x y 131, ty, pos, after, guard⟩).run Tryz.prog W = .ok (.value (.int .u64 z)) W := e ▸ r_subw h1 h2
theorem r_32z {z : Int} (h1 : ρ x = .int .u64 a) (e : a % 4294967296 = z) : (execOp ρ ⟨dst, .convert 131 140 x, ty, pos, after, guard⟩).run Tryz.prog W = .ok (.value (.int .u32 z)) W := e ▸ r_32 h1
theorem mulb {a b : Int} (ha : 0 ≤ a ∧ a < 4294967296) (hb : 0 ≤ b ∧ b < 4294967296) : 0 ≤ a * b ∧ a * b < 18446744073709551616 := by
 have p0 := Int.mul_nonneg ha.1 hb.1
 have p1 : a * b ≤ 4294967295 * b := Int.mul_le_mul_of_nonneg_right (by omega) hb.1
 omega
theorem r_addw (h1 : ρ x = .int .u32 a) (h2 : ρ y = .int .u32 b) : (execOp ρ ⟨dst, .binOp .add 140 x y 140, ty, pos, after, guard⟩).run Tryz.prog W = .ok (.value (.int .u32 ((a + b) % 4294967296))) W := by
 have e := IntKind.wrap_u32 (a + b)
 go_simp
 done
theorem r_quo6 (h1 : ρ x = .int .u64 a) (h2 : ρ y = .int .u64 b) (ha : 0 ≤ a ∧ a < 18446744073709551616) (hb : 0 < b) : (execOp ρ ⟨dst, .binOp .quo 131 x y 131, ty, pos, after, guard⟩).run Tryz.prog W = .ok (.value (.int .u64 (a / b))) W := by
 have e1 : a.tdiv b = a / b := Int.tdiv_eq_ediv_of_nonneg ha.1
 have e3 : a / b ≤ a := Int.ediv_le_self _ ha.1
 have e4 := Int.ediv_nonneg ha.1 (Int.le_of_lt hb)
 have e : IntKind.u64.wrap (a / b) = a / b := IntWalk.u64_in _ (by omega)
 have e2 : ¬ b = 0 := by omega
 clear ha hb e3 e4
 go_simp
 first | done | rw [if_neg e2, e1, e]
theorem r_rem6 (h1 : ρ x = .int .u64 a) (h2 : ρ y = .int .u64 b) (ha : 0 ≤ a ∧ a < 18446744073709551616) (hb : 0 < b) (hb2 : b < 18446744073709551616) : (execOp ρ ⟨dst, .binOp .rem 131 x y 131, ty, pos, after, guard⟩).run Tryz.prog W = .ok (.value (.int .u64 (a % b))) W := by
 have e1 : a.tmod b = a % b := Int.tmod_eq_emod_of_nonneg ha.1
 have e3 := Int.emod_nonneg a (Int.ne_of_gt hb)
 have e4 := Int.emod_lt_of_pos a hb
 have e : IntKind.u64.wrap (a % b) = a % b := IntWalk.u64_in _ (by omega)
 have e2 : ¬ b = 0 := by omega
 clear ha hb hb2 e3 e4
 go_simp
 first | done | rw [if_neg e2, e1, e]
theorem r_up32 (h1 : ρ x = .int .u64 a) (h2 : ρ y = .int .u64 32) (h : 0 ≤ a ∧ a < 4294967296) : (execOp ρ ⟨dst, .binOp .shl 131 x y 158, ty, pos, after, guard⟩).run Tryz.prog W = .ok (.value (.int .u64 (a * 4294967296))) W := by
 have e : IntKind.u64.wrap (a * 4294967296) = a * 4294967296 := IntWalk.u64_in _ (by omega)
 go_simp
 done
theorem r_dn32 (h1 : ρ x = .int .u64 a) (h2 : ρ y = .int .u64 32) : (execOp ρ ⟨dst, .binOp .shr 131 x y 158, ty, pos, after, guard⟩).run Tryz.prog W = .ok (.value (.int .u64 (a / 4294967296))) W := by
 go_simp
 done
theorem r_dn63 (h1 : ρ x = .int .u64 a) (h2 : ρ y = .int .u64 63) : (execOp ρ ⟨dst, .binOp .shr 131 x y 158, ty, pos, after, guard⟩).run Tryz.prog W = .ok (.value (.int .u64 (a / 9223372036854775808))) W := by
 go_simp
 done
theorem r_dn {s : Nat} (h1 : ρ x = .int .u64 a) (h2 : ρ y = .int .u64 (s : Int)) (hs : s < 64) : (execOp ρ ⟨dst, .binOp .shr 131 x y 158, ty, pos, after, guard⟩).run Tryz.prog W = .ok (.value (.int .u64 (a / 2 ^ s))) W := by
 go_simp
 done
theorem r_join (h1 : ρ x = .int .u64 (a * 4294967296)) (h2 : ρ y = .int .u64 b) (ha : 0 ≤ a ∧ a < 4294967296) (hb : 0 ≤ b ∧ b < 4294967296) : (execOp ρ ⟨dst, .binOp .or 131 x y 131, ty, pos, after, guard⟩).run Tryz.prog W = .ok (.value (.int .u64 (a * 4294967296 + b))) W := by
 have hj := join32 a b ha hb
 go_simp
 done
theorem r_len {A : Option Addr} {n cap : Nat} (h1 : ρ x = .slice A n cap) : (execOp ρ ⟨dst, .call ⟨.builtin .len, #[x], #[22]⟩, ty, pos, after, guard⟩).run Tryz.prog W = .ok (.value (.int .i64 (n : Int))) W := by
 go_simp
 done
end
theorem r_l32 (W : World) (p : Addr) (x : Int) (h : W.cell? p = some (.int .u32 x)) : (Instr.loadAt 140 (.pointer (some p))).run Tryz.prog W = .ok (.int .u32 x) W := by
 go_simp
theorem r_s32 (W : World) (p : Addr) (x y : Int) (h : W.cell? p = some (.int .u32 x)) (hf : W.frozen? p = false) : (Instr.storeAt 140 (.pointer (some p)) (.int .u32 y)).run Tryz.prog W = .ok () (W.setCell p (.int .u32 y)) := by
 go_simp
theorem ce_lz : CE 161 := fun args W => by go_simp
theorem ce_add32 : CE 154 := fun args W => by go_simp
theorem ce_shifted : CE 162 := fun args W => by go_simp
theorem ce_trimmed : CE 134 := fun args W => by go_simp
theorem k_add32 {x y c : Int} (hx : 0 ≤ x ∧ x < 4294967296) (hy : 0 ≤ y ∧ y < 4294967296) (hc : 0 ≤ c ∧ c ≤ 1) : CallOk 154 [KV (.int .u32 x), KV (.int .u32 y), KV (.int .u32 c)] (KV (.tuple #[.int .u32 ((x + y + c) % 4294967296), .int .u32 ((x + y + c) / 4294967296)])) :=
 call3 ce_add32 fun W u v u' e1 e2 e3 => by
  obtain rfl : u = _ := e1
  obtain rfl : v = _ := e2
  obtain rfl : u' = _ := e3
  exact (add32_c x y c W hx hy hc).mono fun e W' ⟨e1, e2⟩ => ⟨_, e1, rfl, e2 ▸ Nw.refl _⟩
section
variable {B N : Nat} {w0 : World} {ops : Array Oper} {o : Oper} {rest : List Oper} {fr : List (Nat × AV)} {Q : Exit → Act → World → Prop} {d : Nat}
theorem Fr.vl {a : Act} {W : World} {s : Nat} {v : Value} (h : Fr B N w0 fr a W) (hs : look fr s = some (.vl v)) : a.tmps.getD s undef = v := h.ho s _ hs
theorem Fr.rd {a : Act} {W : World} {K n c : Nat} {A : Option Addr} {e : TypeId} {k : IntKind} {zs : List Int} (h : Fr B N w0 fr a W) (hK : look fr K = some (.ro (.slice A n c) e (Value.int k) zs)) : Rd W k A zs ∧ zs.length ≤ c := by
 have ho : Own W B e k (.slice A n c) zs := h.ho K _ hK
 have h1 := ho.rdg
 exact ⟨h1.2.2, by omega⟩
theorem PW.more (fr' : List (Nat × AV)) (h : ∀ a W, Fr B N w0 fr a W → Fr B N w0 fr' a W) (hk : PW B N w0 ops rest fr' Q) : PW B N w0 ops rest fr Q := fun a W hf => hk a W (h a W hf)
theorem Fr.more' {a : Act} {W : World} {i : Nat} {v : AV} (h : Fr B N w0 fr a W) (hu : Ho B v (a.tmps.getD i undef) W) (hn : ∀ j v' p, i ≠ j → look fr j = some v' → v.blk (a.tmps.getD i undef) = some p → v'.blk (a.tmps.getD j undef) ≠ some p) : Fr B N w0 ((i, v) :: fr) a W := by
 refine ⟨h.df, h.sz, h.be, h.bs, fun j x hj => ?_, fun j l b b' p hjl hj hl => ?_⟩
 ·rw [look_cons] at hj
  by_cases e : i = j
  ·rw [if_pos e] at hj; injection hj with hj; subst hj; subst e; exact hu
  ·rw [if_neg e] at hj; exact h.ho j x hj
 ·rw [look_cons] at hj hl
  by_cases e : i = j
  ·have e' : i ≠ l := fun x => hjl (e.symm.trans x)
   rw [if_pos e] at hj
   rw [if_neg e'] at hl
   injection hj with hj
   subst hj e
   exact fun x => hn l b' p e' hl x
  ·rw [if_neg e] at hj
   by_cases e' : i = l
   ·rw [if_pos e'] at hl
    injection hl with hl
    subst hl e'
    exact fun x y => hn j b p e hj y x
   ·rw [if_neg e'] at hl; exact h.di j l b b' p hjl hj hl
theorem Fr.trims {a : Act} {W : World} {K n c : Nat} {A : Option Addr} {e : TypeId} {k : IntKind} {zs : List Int} (h : Fr B N w0 fr a W) (hK : look fr K = some (.ro (.slice A n c) e (Value.int k) zs)) : Fr B N w0 ((K, .ro (.slice A (trim zs).length c) e (Value.int k) (trim zs)) :: fr) a W :=
 h.more' (Own.trims (k := k) (h.ho K _ hK)) fun j v' p e hj e1 e2 => h.di K j _ v' p e hK hj (by cases A <;> exact e1) e2
theorem calls_sc {f : FuncId} {fn : Func} {c : Code} {l : List AV} {us : List Value} {R : Know} {w : World} (N : Nat) (hf : Tryz.prog.funcs[f]? = some fn) (hb : fn.body = some c) (hn : fn.ntmps = N) (hN : us.length ≤ N) (hu : AllA w.heap.size l us w)
  (h : SC w.heap.size N w c (ini 0 l) (bodyPost Tryz.prog fn (Ret w R))) : Calls Tryz.prog f us.toArray w (Ret w R) := by
 refine calls_of_wp hf hb ?_
 have := Fr.ini hu rfl (N - us.length) (N := N) (by omega)
 simp only [List.size_toArray, hn]
 exact h _ _ this
theorem Fr.rgrow {a : Act} {W W' : World} {K g0 : Nat} {v v' : Value} {e : TypeId} {f : Int → Value} {zs zs' : List Int} (h : Fr B N w0 fr a W) (hK : look fr K = some (.ro v e f zs)) (hc : calmB fr = true) (hgr : W.grownBy W' v.ownBlock) (hown : OwF W' B e f v' zs') (hat : v'.ownBlock = v.ownBlock ∨ v'.ownBlock = some g0) (hg0 : W.heap.size ≤ g0) : Fr B N w0 ((K, .ro v' e f zs') :: fr) a W' := by
 have ho : OwF W B e f v zs := h.ho K _ hK
 have keep : ∀ j x, K ≠ j → look fr j = some x → Ho B x (a.tmps.getD j undef) W' := fun j x e' hj => by
  cases hv : v.ownBlock with
  | none =>
   rw [hv] at hgr
   exact (h.ho j x hj).nw ⟨hgr.os, hgr.tape, hgr.output, hgr.size, fun k hk => hgr.block k hk (fun e => by cases e)⟩
  | some q =>
   rw [hv] at hgr
   exact Ho.calm (calm_look hc j x hj) (h.ho j x hj) hgr (h.di K j _ x q e' hK hj hv)
 have size : W.heap.size ≤ W'.heap.size := hgr.size
 refine ⟨h.df, h.sz, Below.grown h.be hgr h.bs (fun k e => ho.base k e), Nat.le_trans h.bs size, fun j x hj => ?_, fun j l x x' p hjl hj hl => ?_⟩
 ·rw [look_cons] at hj
  by_cases e' : K = j
  ·rw [if_pos e'] at hj
   injection hj with hj
   subst hj
   exact hown
  ·rw [if_neg e'] at hj; exact keep j x e' hj
 ·rw [look_cons] at hj hl
  have new : ∀ l x', K ≠ l → look fr l = some x' → v'.ownBlock = some p → x'.blk (a.tmps.getD l undef) ≠ some p := fun l x' hKl hl hp y => by
   rcases hat with h1 | h1
   ·exact h.di K l _ x' p hKl hK hl (h1.symm.trans hp) y
   ·have e1 : g0 = p := by rw [h1] at hp; injection hp
    have := (h.ho l x' hl).blk y
    omega
  by_cases e1 : K = j
  ·have e2 : K ≠ l := fun x => hjl (e1.symm.trans x)
   rw [if_pos e1] at hj
   rw [if_neg e2] at hl
   injection hj with hj
   subst hj
   exact fun x => new l x' e2 hl x
  ·rw [if_neg e1] at hj
   by_cases e2 : K = l
   ·rw [if_pos e2] at hl
    injection hl with hl
    subst hl
    exact fun x y => new j _ e1 hj y x
   ·rw [if_neg e2] at hl; exact h.di j l x x' p hjl hj hl
theorem PW.app {o2 : Oper} {T e : TypeId} {K s d2 by_ : Nat} {v : Value} {f : Int → Value} {zs : List Int} (news : List Int) (hw : wantB ops fr o = some true) (hd : o.dst = some d) (hN : Nat.blt d N = true)
  (hq : ∀ a W, Fr B N w0 fr a W → (execOp a.eval o).run Tryz.prog W = .ok (.value (.slice (some ⟨W.heap.size, 0, none⟩) news.length news.length)) (W.alloc (.cells (news.map f).toArray e)))
  (hg : o2.guard = none) (hd2 : o2.dst = some d2) (hN2 : Nat.blt d2 N = true) (ho : o2.op = .call { callee := .builtin .append, args := #[.tmp s, .tmp d], argTypes := #[T, T] }) (hs : look fr s = some (.vl v)) (hsd : Nat.beq d s = false) (hK : look fr K = some (.ro v e f zs)) (hc : calmB fr = true)
  (hu : Tryz.prog.underlying T = some (.slice e)) (hi : (Tryz.prog.info? e).map (fun i => (i.zero, i.size, i.bytes)) = some (some (f 0), 1, by_)) (hz : (f 0).cells.size = 1) (h1c : ∀ x, (f x).oneCell' = true) (hn : zs.length + news.length ≤ maxLen) (hb : (zs.length + news.length) * by_ ≤ 140737488355328)
  (hKN : Nat.ble N K = true) (hk : ∀ v' u, PW B N w0 ops rest ((K, .ro v' e f (zs ++ news)) :: (d2, .vl v') :: (d, .vl u) :: fr) Q) : PW B N w0 ops (o :: o2 :: rest) fr Q :=
 PW.step hw fun a W hf K' hK' => by
  unfold Oper.wp
  rw [hq a W hf, Oper.upon_value, hd]
  have hf1 := (hf.nw ((Nw.refl W).alloc (.cells (news.map f).toArray e))).set (v := .vl (.slice (some ⟨W.heap.size, 0, none⟩) news.length news.length)) hN (u := .slice (some ⟨W.heap.size, 0, none⟩) news.length news.length) rfl rfl
  refine hK' _ _ ?_
  have hds : ¬ d = s := fun e => by subst e; simp at hsd
  have hls : look ((d, .vl (.slice (some ⟨W.heap.size, 0, none⟩) news.length news.length)) :: fr) s = some (.vl v) := by rw [look_cons, if_neg hds]; exact hs
  have hlK : look ((d, .vl (.slice (some ⟨W.heap.size, 0, none⟩) news.length news.length)) :: fr) K = some (.ro v e f zs) := by
   have hdK : ¬ d = K := fun e => by subst e; simp [Nat.blt_eq] at hN hKN; omega
   rw [look_cons, if_neg hdK]; exact hK
  have hc1 : calmB ((d, .vl (.slice (some ⟨W.heap.size, 0, none⟩) news.length news.length)) :: fr) = true := hc
  generalize hW1 : W.alloc (.cells (news.map f).toArray e) = W1 at hf1 ⊢
  have s1 : (a.put (some d) (.slice (some ⟨W.heap.size, 0, none⟩) news.length news.length)).eval (.tmp s) = v := hf1.ho s _ hls
  have s2 : (a.put (some d) (.slice (some ⟨W.heap.size, 0, none⟩) news.length news.length)).eval (.tmp d) = .slice (some ⟨W.heap.size, 0, none⟩) news.length news.length := hf1.vl (s := d) (by rw [look_cons, if_pos rfl])
  obtain ⟨i0, q1, q2, q3, q4⟩ := info_parts hi
  have own : W1.ownsRow B e 1 v zs.length (zs.map f) := hf1.ho K _ hlK
  obtain ⟨v', W2, r1, r2, r3, _, r5⟩ := run_append_own_at (P := Tryz.prog) W1 B T o2.type e i0 (f 0) 1 by_ hu q1 q2 q3 q4 hz (by decide) v zs.length (zs.map f) own ⟨W.heap.size, 0, none⟩ news.length news.length (news.map f) (by simp) (fun j u hj => by
   rw [← hW1, add_at]
   rw [World.cell?_alloc_at _ _ _ _ rfl]
   simpa using hj) (fun u hu => by obtain ⟨x, _, rfl⟩ := List.mem_map.1 hu; exact h1c x) hn hb hf1.bs
  refine wpList_step fun K2 hK2 => ?_
  rw [if_pos (by simp [Region.wanted, hg])]
  have e2 : (execOp (a.put (some d) (.slice (some ⟨W.heap.size, 0, none⟩) news.length news.length)).eval o2).run Tryz.prog W1 = .ok (.value v') W2 := by
   unfold execOp
   simp only [ho, resolve, invoke, builtin, Sem.run_bind, Sem.run_pure, Result.andThen_ok, List.map_toArray, List.map_cons, List.map_nil, s1, s2, r1]
  unfold Oper.wp
  rw [e2, Oper.upon_value, hd2]
  have own2 : OwF W2 B e f v' (zs ++ news) := by
   unfold OwF
   rw [List.length_append, List.map_append]
   exact r2
  have hf2 := hf1.rgrow hlK hc1 r3 own2 r5 (Nat.le_refl _)
  have hf3 := hf2.set (v := .vl v') hN2 (u := v') rfl rfl
  refine hK2 _ _ (hk v' (.slice (some ⟨W.heap.size, 0, none⟩) news.length news.length) _ _ (hf3.ext fun s' => ?_))
  have hdK : ¬ d2 = K := fun e => by subst e; simp [Nat.blt_eq] at hN2 hKN; omega
  simp only [look_cons]
  by_cases a1 : K = s'
  ·subst a1; rw [if_pos rfl, if_neg hdK, if_pos rfl]
  ·rw [if_neg a1, if_neg a1]
theorem SX.doneR {fn : Func} {e : Exit} {s t K1 K2 : Nat} {v1 v2 : Value} {et et' : TypeId} {k : IntKind} {p1 p2 : List Int → Prop} {z1 z2 : List Int} (he : e = .ret ∨ e = .normal) (hr : fn.results = #[.tmp s, .tmp t]) (hs : look fr s = some (.vl v1)) (ht : look fr t = some (.vl v2))
  (h1 : look fr K1 = some (.ro v1 et (Value.int k) z1)) (h2 : look fr K2 = some (.ro v2 et' (Value.int k) z2)) (q1 : p1 z1) (q2 : p2 z2) (hB : B = w0.heap.size) : SX B N w0 e fr (bodyPost Tryz.prog fn (Ret w0 (Go.Proofs.YthpjmhhfcechmaaGreat.K2 (KL k p1) (KL k p2)))) := fun a W hf => by
 have a1 : a.tmps.getD s undef = _ := hf.ho s _ hs
 have a2 : a.tmps.getD t undef = _ := hf.ho t _ ht
 have o1 : Own W B et k v1 z1 := hf.ho K1 _ h1
 have o2 : Own W B et' k v2 z2 := hf.ho K2 _ h2
 have hrun : (results fn a.tmps).run Tryz.prog W = .ok (.tuple #[a.tmps.getD s undef, a.tmps.getD t undef]) W := by
  unfold results
  simp [hr, go_sem]
 rw [a1, a2] at hrun
 have key : a.defers = [] ∧ ∃ v, (results fn a.tmps).run Tryz.prog W = .ok v W ∧ Ret w0 (Go.Proofs.YthpjmhhfcechmaaGreat.K2 (KL k p1) (KL k p2)) (.returned v) W := by
  obtain ⟨A1, d1, e1, m1, r1⟩ := o1.rd
  obtain ⟨A2, d2, e2, m2, r2⟩ := o2.rd
  refine ⟨hf.df, _, hrun, ⟨_, rfl, ⟨v1, v2, rfl, ⟨z1, A1, d1, e1, m1, r1, q1⟩, ⟨z2, A2, d2, e2, m2, r2, q2⟩⟩, by have := hf.be; rw [hB] at this; exact this⟩⟩
 rcases he with rfl | rfl <;> exact key
theorem SX.doneO {fn : Func} {e : Exit} {s K1 : Nat} {v1 : Value} {et : TypeId} {k : IntKind} {p1 : List Int → Prop} {z1 : List Int} (he : e = .ret ∨ e = .normal) (hr : fn.results = #[.tmp s]) (hs : look fr s = some (.vl v1)) (h1 : look fr K1 = some (.ro v1 et (Value.int k) z1)) (q1 : p1 z1) (hB : B = w0.heap.size) :
  SX B N w0 e fr (bodyPost Tryz.prog fn (Ret w0 (fun v W => ∃ zs, Own W w0.heap.size et k v zs ∧ p1 zs))) := fun a W hf => by
 have a1 : a.tmps.getD s undef = _ := hf.ho s _ hs
 have o1 : Own W B et k v1 z1 := hf.ho K1 _ h1
 have hrun : (results fn a.tmps).run Tryz.prog W = .ok (a.tmps.getD s undef) W := by
  unfold results
  simp [hr, go_sem]
 rw [a1] at hrun
 have key : a.defers = [] ∧ ∃ v, (results fn a.tmps).run Tryz.prog W = .ok v W ∧ Ret w0 (fun v W => ∃ zs, Own W w0.heap.size et k v zs ∧ p1 zs) (.returned v) W :=
  ⟨hf.df, _, hrun, ⟨_, rfl, ⟨z1, hB ▸ o1, q1⟩, by have := hf.be; rw [hB] at this; exact this⟩⟩
 rcases he with rfl | rfl <;> exact key
end
end Go.Proofs.YthpjmhhfcechmaaGreat.Sy
/- The estimate of a digit of a long division: no program in sight. -/
namespace Go.Proofs.YthpjmhhfcechmaaGreat.Ma

theorem est_start {b t v2 P V' V u2 W' W head digit rest : Int} (hb : 0 < b) (hP : 0 < P) (hV : V = (t * b + v2) * P + V') (hV0 : 0 ≤ V') (hv2 : 0 ≤ v2)
  (hW : W = (head * b + u2) * P + W') (hW1 : W' < P) (hu2 : u2 < b) (hd : digit * t + rest = head) (hr : rest < t) (hd0 : 0 ≤ digit) : W < (digit + 1) * V := by
 subst hd hV hW
 have h0 : 0 ≤ (t - rest - 1) * b := Int.mul_nonneg (by omega) (by omega)
 have h1 : 0 ≤ ((t - rest - 1) * b) * P := Int.mul_nonneg h0 (by omega)
 have h2 : 0 ≤ (b - u2 - 1) * P := Int.mul_nonneg (by omega) (by omega)
 have h3 : 0 ≤ (digit + 1) * (v2 * P) := Int.mul_nonneg (by omega) (Int.mul_nonneg hv2 (by omega))
 have h4 : 0 ≤ (digit + 1) * V' := Int.mul_nonneg (by omega) hV0
 simp only [Int.add_mul, Int.mul_add, Int.sub_mul, Int.mul_sub, Int.one_mul, Int.mul_one, Int.mul_assoc, Int.mul_comm, Int.mul_left_comm] at *
 omega
theorem est_less {b t v2 P V' V u2 W' W head digit rest : Int} (hb : 0 < b) (hP : 0 < P) (hV : V = (t * b + v2) * P + V') (hV0 : 0 ≤ V')
  (hW : W = (head * b + u2) * P + W') (hW1 : W' < P) (hd : digit * t + rest = head) (hd0 : 0 ≤ digit) (h : rest * b + u2 < digit * v2) : W < digit * V := by
 subst hd hV hW
 have h1 : 0 ≤ (digit * v2 - rest * b - u2 - 1) * P := Int.mul_nonneg (by omega) (by omega)
 have h2 : 0 ≤ digit * V' := Int.mul_nonneg hd0 hV0
 simp only [Int.add_mul, Int.mul_add, Int.sub_mul, Int.mul_sub, Int.one_mul, Int.mul_one, Int.mul_assoc, Int.mul_comm, Int.mul_left_comm] at *
 omega
theorem est_base {b V W digit : Int} (hV : 0 ≤ V) (hW : W < V * b) (h : b ≤ digit) : W < digit * V := by
 have : V * b ≤ V * digit := Int.mul_le_mul_of_nonneg_left h hV
 rw [Int.mul_comm digit V]; omega
theorem est_end {b t v2 P V' V u2 W' W head digit rest : Int} (hb : 0 < b) (hP : 0 < P) (hV : V = (t * b + v2) * P + V') (hV0 : 0 ≤ V') (hV1 : V' < P) (hv2 : 0 ≤ v2) (ht : 1 ≤ t)
  (hW : W = (head * b + u2) * P + W') (hW0 : 0 ≤ W') (hd : digit * t + rest = head) (hd0 : 0 ≤ digit) (hdb : digit ≤ b) (h : digit * v2 ≤ rest * b + u2) : (digit - 1) * V ≤ W := by
 subst hd hV hW
 have h1 : 0 ≤ (rest * b + u2 - digit * v2) * P := Int.mul_nonneg (by omega) (by omega)
 have h2 : 0 ≤ (b - digit) * V' := Int.mul_nonneg (by omega) hV0
 have h3 : 0 ≤ b * (P - V') := Int.mul_nonneg (by omega) (by omega)
 have h4 : 0 ≤ (t - 1) * (b * P) := Int.mul_nonneg (by omega) (Int.le_of_lt (Int.mul_pos hb hP))
 have h5 : 0 ≤ v2 * P := Int.mul_nonneg hv2 (by omega)
 simp only [Int.add_mul, Int.mul_add, Int.sub_mul, Int.mul_sub, Int.one_mul, Int.mul_one, Int.mul_assoc, Int.mul_comm, Int.mul_left_comm] at *
 omega
end Go.Proofs.YthpjmhhfcechmaaGreat.Ma
/- Long division of limbs: what its loops keep. No program in sight. -/
namespace Go.Proofs.YthpjmhhfcechmaaGreat.Ma
theorem BB_pos : (0 : Int) < (4294967296 : Int) := by decide
theorem at0_set {xs : List Int} {i m : Nat} (x : Int) (h : i < xs.length) : at0 (xs.set i x) m = if i = m then x else at0 xs m := by
 unfold at0
 simp only [List.getD_eq_getElem?_getD, List.getElem?_set]
 by_cases e : i = m
 ·subst e; simp [h]
 ·simp [e]
theorem lt_of_zeros {b : Int} (hb : 0 < b) {zs : List Int} (d : dg b zs) {t : Nat} (h : ∀ m, t ≤ m → at0 zs m = 0) : lv b zs < b ^ t := by
 by_cases hl : zs.length ≤ t
 ·exact Int.lt_of_lt_of_le (lv_lt hb d) (pow_le (by omega) hl)
 ·have e := lv_split b zs t (by omega)
  have z : lv b (zs.drop t) = 0 := by
   have : zs.drop t = List.replicate (zs.drop t).length 0 := by
    apply List.eq_replicate_iff.2
    refine ⟨rfl, fun x hx => ?_⟩
    obtain ⟨m, hm, rfl⟩ := List.mem_iff_getElem.1 hx
    have := h (t + m) (by omega)
    simp only [at0, List.getD_eq_getElem?_getD] at this
    rw [List.getElem_drop]
    rw [List.length_drop] at hm
    rw [List.getElem?_eq_getElem (by omega)] at this
    simpa using this
   rw [this, lv_zeros]
  rw [e, z, Int.mul_zero, Int.add_zero]
  have := lv_lt hb (dg_take d t)
  rw [List.length_take, Nat.min_eq_left (by omega)] at this
  exact this
theorem zeros_of_lt {b : Int} (hb : 0 < b) {zs : List Int} (d : dg b zs) {t : Nat} (h : lv b zs < b ^ t) (m : Nat) (hm : t ≤ m) : at0 zs m = 0 := by
 by_cases hl : m < zs.length
 ·obtain ⟨a0, a1⟩ := dg_at d hb m
  have e := lv_split b zs m (by omega)
  have e2 := lv_drop b zs m hl
  have n1 := lv_nonneg hb (dg_take d m)
  have n2 := lv_nonneg hb (dg_drop d (m + 1))
  have hp := pos_pow hb m
  have hq := pow_le (b := b) (by omega) hm
  apply Classical.byContradiction
  intro hne
  have h1 : 1 ≤ lv b (zs.drop m) := by rw [e2]; have := Int.mul_nonneg (Int.le_of_lt hb) n2; omega
  have h2 : b ^ m * 1 ≤ b ^ m * lv b (zs.drop m) := Int.mul_le_mul_of_nonneg_left h1 (Int.le_of_lt hp)
  omega
 ·exact at0_ge (by omega)
theorem three {b : Int} (hb : 0 < b) {zs : List Int} (d : dg b zs) {k : Nat} (hk : 2 ≤ k) (h : ∀ m, k < m → at0 zs m = 0) : lv b zs = ((at0 zs k * b + at0 zs (k - 1)) * b + at0 zs (k - 2)) * b ^ (k - 2) + lv b (zs.take (k - 2)) := by
 obtain ⟨j, rfl⟩ : ∃ j, k = j + 2 := ⟨k - 2, by omega⟩
 simp only [Nat.add_sub_cancel, show j + 2 - 1 = j + 1 by omega]
 have key : ∀ m, lv b (zs.drop m) = at0 zs m + b * lv b (zs.drop (m + 1)) := fun m => by
  by_cases hm : m < zs.length
  ·exact lv_drop b zs m hm
  ·rw [at0_ge (by omega), List.drop_eq_nil_of_le (by omega), List.drop_eq_nil_of_le (by omega)]; simp [lv]
 have z : lv b (zs.drop (j + 3)) = 0 := by
  have h1 : lv b (zs.drop (j + 3)) < b ^ 0 := lt_of_zeros hb (dg_drop d _) fun m _ => by
   have := h (j + 3 + m) (by omega)
   simp only [at0, List.getD_eq_getElem?_getD, List.getElem?_drop] at this ⊢
   exact this
  have := lv_nonneg hb (dg_drop d (j + 3))
  rw [Int.pow_zero] at h1
  omega
 have e : lv b zs = lv b (zs.take j) + b ^ j * lv b (zs.drop j) := by
  by_cases hj : j ≤ zs.length
  ·exact lv_split b zs j hj
  ·rw [List.take_of_length_le (by omega), List.drop_eq_nil_of_le (by omega)]; simp [lv]
 rw [e, key j, key (j + 1), key (j + 2), z]
 grind
/-! ### Multiply and subtract -/
def MS (us0 vs : List Int) (i : Nat) (D : Int) (j : Nat) (us : List Int) (cc bb : Int) : Prop :=
 us.length = us0.length ∧ dg 4294967296 us ∧ lv 4294967296 us = lv 4294967296 us0 - 4294967296 ^ i * (D * lv 4294967296 (vs.take j)) + 4294967296 ^ (i + j) * (cc + bb) ∧ (∀ m, i + j ≤ m → at0 us m = at0 us0 m) ∧ 0 ≤ cc ∧ cc < 4294967296 ∧ 0 ≤ bb ∧ bb ≤ 1 ∧ j ≤ vs.length
theorem MS.start {us0 vs : List Int} {i : Nat} {D : Int} (d : dg 4294967296 us0) : MS us0 vs i D 0 us0 0 0 := ⟨rfl, d, by simp [lv], fun _ _ => rfl, by omega, by decide, by omega, by omega, by omega⟩
theorem borrow64 {x : Int} (h0 : -4294967296 ≤ x) (h1 : x < 4294967296) : x % 18446744073709551616 % 4294967296 = x + 4294967296 * (x % 18446744073709551616 / 9223372036854775808) ∧ (x % 18446744073709551616 / 9223372036854775808 = if x < 0 then 1 else 0) := by
 by_cases h : x < 0
 ·have : x % 18446744073709551616 = x + 18446744073709551616 := by omega
  rw [this, if_pos h]
  constructor <;> omega
 ·have : x % 18446744073709551616 = x := by omega
  rw [this, if_neg h]
  constructor <;> omega
theorem MS.bound {us0 vs : List Int} {i : Nat} {D : Int} {j : Nat} {us : List Int} {cc bb : Int} (h : MS us0 vs i D j us cc bb) (dv : dg 4294967296 vs) (hD0 : 0 ≤ D) (hD : D < 4294967296) : 0 ≤ D * at0 vs j + cc ∧ D * at0 vs j + cc < 18446744073709551616 ∧ 0 ≤ (D * at0 vs j + cc) / 4294967296 ∧ (D * at0 vs j + cc) / 4294967296 < 4294967296 := by
 obtain ⟨_, _, _, _, c0, c1, _, _, _⟩ := h
 obtain ⟨v0, v1⟩ := dg_at dv BB_pos j
 have p0 := Int.mul_nonneg hD0 v0
 have p1 : D * at0 vs j ≤ 4294967295 * 4294967295 := by
  have a : D * at0 vs j ≤ D * 4294967295 := Int.mul_le_mul_of_nonneg_left (by omega) hD0
  have c : D * 4294967295 ≤ 4294967295 * 4294967295 := Int.mul_le_mul_of_nonneg_right (by omega) (by decide)
  omega
 omega
theorem MS.step {us0 vs : List Int} {i : Nat} {D : Int} {j : Nat} {us : List Int} {cc bb : Int} (h : MS us0 vs i D j us cc bb) (dv : dg 4294967296 vs) (hD0 : 0 ≤ D) (hD : D < 4294967296) (hj : j < vs.length) (hi : i + vs.length < us0.length) :
  MS us0 vs i D (j + 1) (us.set (i + j) ((at0 us (i + j) - (D * at0 vs j + cc) % 4294967296 - bb) % 18446744073709551616 % 4294967296)) ((D * at0 vs j + cc) / 4294967296) ((at0 us (i + j) - (D * at0 vs j + cc) % 4294967296 - bb) % 18446744073709551616 / 9223372036854775808) := by
 have hb := h.bound dv hD0 hD
 obtain ⟨hl, du, hv, ha, c0, c1, b0, b1, _⟩ := h
 obtain ⟨u0, u1⟩ := dg_at du BB_pos (i + j)
 generalize hp : D * at0 vs j + cc = p at *
 have hm0 := Int.emod_nonneg p (show 4294967296 ≠ 0 by decide)
 have hm1 := Int.emod_lt_of_pos p BB_pos
 obtain ⟨e1, e2⟩ := borrow64 (x := at0 us (i + j) - p % 4294967296 - bb) (by omega) (by omega)
 have hlt : i + j < us.length := by omega
 refine ⟨by rw [List.length_set, hl], dg_set du _ (Int.emod_nonneg _ (by decide)) (Int.emod_lt_of_pos _ BB_pos), ?_, fun m hm => ?_, hb.2.2.1, hb.2.2.2, ?_, ?_, by omega⟩
 ·rw [lv_set 4294967296 us (i + j) _ hlt, e1, hv, lv_take_succ 4294967296 vs j hj, show i + (j + 1) = (i + j) + 1 by omega, Int.pow_succ, Int.pow_add]
  have hpp := Int.mul_ediv_add_emod p 4294967296
  generalize at0 us (i + j) = u at *
  generalize (u - p % 4294967296 - bb) % 18446744073709551616 / 9223372036854775808 = bb' at *
  generalize lv 4294967296 (vs.take j) = T at *
  generalize at0 vs j = w at *
  generalize lv 4294967296 us0 = X at *
  generalize (4294967296 : Int) ^ i = A at *
  generalize (4294967296 : Int) ^ j = C at *
  generalize p / 4294967296 = q at *
  generalize p % 4294967296 = r at *
  have : r = D * w + cc - 4294967296 * q := by omega
  rw [this]
  grind
 ·rw [at0_set _ hlt, if_neg (by omega)]
  exact ha m (by omega)
 ·rw [e2]; split <;> omega
 ·rw [e2]; split <;> omega
theorem MS.fin {us0 vs : List Int} {i : Nat} {D : Int} {us : List Int} {cc bb : Int} (h : MS us0 vs i D vs.length us cc bb) (hi : i + vs.length < us0.length) {us2 : List Int} {ng : Int}
  (e2 : us2 = us.set (i + vs.length) ((at0 us (i + vs.length) - cc - bb) % 18446744073709551616 % 4294967296)) (en : ng = (at0 us (i + vs.length) - cc - bb) % 18446744073709551616 / 9223372036854775808) :
  us2.length = us0.length ∧ dg 4294967296 us2 ∧ lv 4294967296 us2 = lv 4294967296 us0 - 4294967296 ^ i * (D * lv 4294967296 vs) + 4294967296 ^ (i + vs.length + 1) * ng ∧ (∀ m, i + vs.length < m → at0 us2 m = at0 us0 m) ∧ (ng = 0 ∨ ng = 1) := by
 obtain ⟨hl, du, hv, ha, c0, c1, b0, b1, _⟩ := h
 obtain ⟨u0, u1⟩ := dg_at du BB_pos (i + vs.length)
 obtain ⟨x1, x2⟩ := borrow64 (x := at0 us (i + vs.length) - cc - bb) (by omega) (by omega)
 have hlt : i + vs.length < us.length := by omega
 rw [List.take_length] at hv
 subst e2 en
 refine ⟨by rw [List.length_set, hl], dg_set du _ (Int.emod_nonneg _ (by decide)) (Int.emod_lt_of_pos _ BB_pos), ?_, fun m hm => ?_, ?_⟩
 ·rw [lv_set 4294967296 us _ _ hlt, x1, hv, Int.pow_succ]
  generalize (at0 us (i + vs.length) - cc - bb) % 18446744073709551616 / 9223372036854775808 = ng at *
  generalize at0 us (i + vs.length) = u at *
  generalize (4294967296 : Int) ^ (i + vs.length) = C at *
  generalize (4294967296 : Int) ^ i = A at *
  grind
 ·rw [at0_set _ hlt, if_neg (by omega)]; exact ha m (by omega)
 ·rw [x2]; split
  ·exact .inr rfl
  ·exact .inl rfl
/-! ### Add back -/
def AB (us2 vs : List Int) (i j : Nat) (us : List Int) (c : Int) : Prop :=
 us.length = us2.length ∧ dg 4294967296 us ∧ lv 4294967296 us = lv 4294967296 us2 + 4294967296 ^ i * lv 4294967296 (vs.take j) - 4294967296 ^ (i + j) * c ∧ (∀ m, i + j ≤ m → at0 us m = at0 us2 m) ∧ 0 ≤ c ∧ c ≤ 1 ∧ j ≤ vs.length
theorem AB.start {us2 vs : List Int} {i : Nat} (d : dg 4294967296 us2) : AB us2 vs i 0 us2 0 := ⟨rfl, d, by simp [lv], fun _ _ => rfl, by omega, by omega, by omega⟩
theorem AB.step {us2 vs : List Int} {i j : Nat} {us : List Int} {c : Int} (h : AB us2 vs i j us c) (dv : dg 4294967296 vs) (hj : j < vs.length) (hi : i + vs.length < us2.length) :
  AB us2 vs i (j + 1) (us.set (i + j) ((at0 us (i + j) + at0 vs j + c) % 4294967296)) ((at0 us (i + j) + at0 vs j + c) / 4294967296) := by
 obtain ⟨hl, du, hv, ha, c0, c1, _⟩ := h
 obtain ⟨u0, u1⟩ := dg_at du BB_pos (i + j)
 obtain ⟨v0, v1⟩ := dg_at dv BB_pos j
 have hlt : i + j < us.length := by omega
 refine ⟨by rw [List.length_set, hl], dg_set du _ (Int.emod_nonneg _ (by decide)) (Int.emod_lt_of_pos _ BB_pos), ?_, fun m hm => ?_, by omega, by omega, by omega⟩
 ·rw [lv_set 4294967296 us _ _ hlt, hv, lv_take_succ 4294967296 vs j hj, show i + (j + 1) = (i + j) + 1 by omega, Int.pow_succ, Int.pow_add]
  have hs := Int.mul_ediv_add_emod (at0 us (i + j) + at0 vs j + c) 4294967296
  generalize (at0 us (i + j) + at0 vs j + c) / 4294967296 = q at *
  generalize (at0 us (i + j) + at0 vs j + c) % 4294967296 = r at *
  generalize at0 us (i + j) = u at *
  generalize at0 vs j = w at *
  generalize lv 4294967296 (vs.take j) = T at *
  generalize (4294967296 : Int) ^ i = A at *
  generalize (4294967296 : Int) ^ j = C at *
  have : r = u + w + c - 4294967296 * q := by omega
  rw [this]
  grind
 ·rw [at0_set _ hlt, if_neg (by omega)]; exact ha m (by omega)
theorem AB.fin {us2 vs : List Int} {i : Nat} {us : List Int} {c : Int} (h : AB us2 vs i vs.length us c) (hi : i + vs.length < us2.length) {us3 : List Int} (e3 : us3 = us.set (i + vs.length) ((at0 us (i + vs.length) + c) % 4294967296)) :
  us3.length = us2.length ∧ dg 4294967296 us3 ∧ (∃ c2, (c2 = 0 ∨ c2 = 1) ∧ lv 4294967296 us3 = lv 4294967296 us2 + 4294967296 ^ i * lv 4294967296 vs - 4294967296 ^ (i + vs.length + 1) * c2) ∧ (∀ m, i + vs.length < m → at0 us3 m = at0 us2 m) := by
 obtain ⟨hl, du, hv, ha, c0, c1, _⟩ := h
 obtain ⟨u0, u1⟩ := dg_at du BB_pos (i + vs.length)
 have hlt : i + vs.length < us.length := by omega
 rw [List.take_length] at hv
 subst e3
 refine ⟨by rw [List.length_set, hl], dg_set du _ (Int.emod_nonneg _ (by decide)) (Int.emod_lt_of_pos _ BB_pos), ⟨(at0 us (i + vs.length) + c) / 4294967296, by omega, ?_⟩, fun m hm => ?_⟩
 ·rw [lv_set 4294967296 us _ _ hlt, hv, Int.pow_succ]
  have hs := Int.mul_ediv_add_emod (at0 us (i + vs.length) + c) 4294967296
  generalize (at0 us (i + vs.length) + c) / 4294967296 = q at *
  generalize (at0 us (i + vs.length) + c) % 4294967296 = r at *
  generalize at0 us (i + vs.length) = u at *
  generalize (4294967296 : Int) ^ (i + vs.length) = C at *
  generalize (4294967296 : Int) ^ i = A at *
  have : r = u + c - 4294967296 * q := by omega
  rw [this]
  grind
 ·rw [at0_set _ hlt, if_neg (by omega)]; exact ha m (by omega)
/-! ### A round -/
def Lft (vs : List Int) (i : Nat) (us : List Int) : Prop := dg 4294967296 us ∧ lv 4294967296 us < 4294967296 ^ i * lv 4294967296 vs
theorem lft_zeros {vs us : List Int} {i : Nat} (h : Lft vs (i + 1) us) (dv : dg 4294967296 vs) (m : Nat) (hm : i + vs.length < m) : at0 us m = 0 := by
 refine zeros_of_lt BB_pos h.1 (t := i + vs.length + 1) ?_ m (by omega)
 have h1 := lv_lt BB_pos dv
 have h2 := h.2
 have h3 := pos_pow BB_pos (i + 1)
 have h4 : 4294967296 ^ (i + 1) * lv 4294967296 vs ≤ 4294967296 ^ (i + 1) * 4294967296 ^ vs.length := Int.mul_le_mul_of_nonneg_left (Int.le_of_lt h1) (Int.le_of_lt h3)
 rw [← Int.pow_add, show i + 1 + vs.length = i + vs.length + 1 by omega] at h4
 omega
theorem round_pos {us0 vs us2 : List Int} {i : Nat} {D ng : Int} (h : Lft vs (i + 1) us0) (hd2 : dg 4294967296 us2) (hW : lv 4294967296 us0 < 4294967296 ^ i * ((D + 1) * lv 4294967296 vs)) (e : lv 4294967296 us2 = lv 4294967296 us0 - 4294967296 ^ i * (D * lv 4294967296 vs) + 4294967296 ^ (i + vs.length + 1) * ng) (hn : ng = 0) : Lft vs i us2 ∧ lv 4294967296 us0 = lv 4294967296 us2 + 4294967296 ^ i * (D * lv 4294967296 vs) := by
 rw [hn, Int.mul_zero, Int.add_zero] at e
 rw [Int.add_mul, Int.one_mul, Int.mul_add] at hW
 exact ⟨⟨hd2, by omega⟩, by omega⟩
theorem round_neg {us0 vs us2 us3 : List Int} {i : Nat} {D ng c2 : Int} (h : Lft vs (i + 1) us0) (dv : dg 4294967296 vs) (hd2 : dg 4294967296 us2) (hd3 : dg 4294967296 us3) (hD : 4294967296 ^ i * ((D - 1) * lv 4294967296 vs) ≤ lv 4294967296 us0) (e : lv 4294967296 us2 = lv 4294967296 us0 - 4294967296 ^ i * (D * lv 4294967296 vs) + 4294967296 ^ (i + vs.length + 1) * ng) (hn : ng = 1)
  (z2 : ∀ m, i + vs.length < m → at0 us2 m = at0 us0 m) (z3 : ∀ m, i + vs.length < m → at0 us3 m = at0 us2 m) (e3 : lv 4294967296 us3 = lv 4294967296 us2 + 4294967296 ^ i * lv 4294967296 vs - 4294967296 ^ (i + vs.length + 1) * c2) (hc : c2 = 0 ∨ c2 = 1) :
  Lft vs i us3 ∧ lv 4294967296 us0 = lv 4294967296 us3 + 4294967296 ^ i * ((D - 1) * lv 4294967296 vs) := by
 have zz : ∀ m, i + vs.length + 1 ≤ m → at0 us3 m = 0 := fun m hm => by rw [z3 m (by omega), z2 m (by omega)]; exact lft_zeros h dv m (by omega)
 have zz2 : ∀ m, i + vs.length + 1 ≤ m → at0 us2 m = 0 := fun m hm => by rw [z2 m (by omega)]; exact lft_zeros h dv m (by omega)
 have l3 := lt_of_zeros BB_pos hd3 zz
 have l2 := lt_of_zeros BB_pos hd2 zz2
 have n3 := lv_nonneg BB_pos hd3
 subst hn
 rw [Int.mul_one] at e
 rw [Int.sub_mul, Int.one_mul, Int.mul_sub] at hD ⊢
 generalize (4294967296 : Int) ^ (i + vs.length + 1) = P at *
 generalize hAV : (4294967296 : Int) ^ i * lv 4294967296 vs = AV at *
 generalize (4294967296 : Int) ^ i * (D * lv 4294967296 vs) = DV at *
 rcases hc with rfl | rfl
 ·rw [Int.mul_zero] at e3; omega
 ·rw [Int.mul_one] at e3
  exact ⟨⟨hd3, by rw [hAV]; omega⟩, by omega⟩
/-! ### The estimate -/
structure Es (us vs : List Int) (i : Nat) (D r : Int) : Prop where
 d0 : 0 ≤ D
 r0 : 0 ≤ r
 eq : D * at0 vs (vs.length - 1) + r = at0 us (i + vs.length) * 4294967296 + at0 us (i + vs.length - 1)
 lt : lv 4294967296 us < 4294967296 ^ i * ((D + 1) * lv 4294967296 vs)
theorem dropAt (us : List Int) (i m : Nat) : at0 (us.drop i) m = at0 us (i + m) := by
 simp only [at0, List.getD_eq_getElem?_getD, List.getElem?_drop]
theorem window {us vs : List Int} {i : Nat} (h : Lft vs (i + 1) us) (dv : dg 4294967296 vs) (hk : 2 ≤ vs.length) (hi : i + vs.length < us.length) :
  ∃ W W' V' : Int, lv 4294967296 us / 4294967296 ^ i = W ∧ W = ((at0 us (i + vs.length) * 4294967296 + at0 us (i + vs.length - 1)) * 4294967296 + at0 us (i + vs.length - 2)) * 4294967296 ^ (vs.length - 2) + W' ∧ 0 ≤ W' ∧ W' < 4294967296 ^ (vs.length - 2) ∧
   lv 4294967296 vs = (at0 vs (vs.length - 1) * 4294967296 + at0 vs (vs.length - 2)) * 4294967296 ^ (vs.length - 2) + V' ∧ 0 ≤ V' ∧ V' < 4294967296 ^ (vs.length - 2) ∧ W < lv 4294967296 vs * 4294967296 := by
 have du := h.1
 have dd := dg_drop du i
 have e1 := lv_ediv BB_pos du i (by omega)
 have t1 := three BB_pos dd (k := vs.length) hk fun m hm => by rw [dropAt]; exact lft_zeros h dv _ (by omega)
 have t2 := three BB_pos dv (k := vs.length) hk fun m hm => at0_ge (by omega)
 rw [at0_ge (Nat.le_refl vs.length), Int.zero_mul, Int.zero_add] at t2
 rw [dropAt, dropAt, dropAt, show i + (vs.length - 1) = i + vs.length - 1 by omega, show i + (vs.length - 2) = i + vs.length - 2 by omega] at t1
 have w0 := lv_nonneg BB_pos (dg_take dd (vs.length - 2))
 have w1 := lv_lt BB_pos (dg_take dd (vs.length - 2))
 have v0 := lv_nonneg BB_pos (dg_take dv (vs.length - 2))
 have v1 := lv_lt BB_pos (dg_take dv (vs.length - 2))
 rw [List.length_take, List.length_drop, Nat.min_eq_left (by omega)] at w1
 rw [List.length_take, Nat.min_eq_left (by omega)] at v1
 refine ⟨_, _, _, e1, t1, w0, w1, t2, v0, v1, ?_⟩
 rw [← e1]
 have hp := pos_pow BB_pos i
 apply Int.ediv_lt_of_lt_mul hp
 have := h.2
 rw [Int.pow_succ, Int.mul_assoc] at this
 rw [Int.mul_comm (lv 4294967296 vs * 4294967296), Int.mul_comm (lv 4294967296 vs)]
 exact this
theorem lt_win {X A Y : Int} (hA : 0 < A) (h : X / A < Y) : X < A * Y := by
 have a := Int.mul_ediv_add_emod X A
 have b := Int.emod_lt_of_pos X hA
 have c : A * (X / A + 1) ≤ A * Y := Int.mul_le_mul_of_nonneg_left (by omega) (Int.le_of_lt hA)
 rw [Int.mul_add, Int.mul_one] at c
 omega
theorem le_win {X A Y : Int} (hA : 0 < A) (h : Y ≤ X / A) : A * Y ≤ X := by
 have a := Int.mul_ediv_add_emod X A
 have b := Int.emod_nonneg X (Int.ne_of_gt hA)
 have c : A * Y ≤ A * (X / A) := Int.mul_le_mul_of_nonneg_left h (Int.le_of_lt hA)
 omega
section
variable {us vs : List Int} {i : Nat}
theorem Es.start (h : Lft vs (i + 1) us) (dv : dg 4294967296 vs) (hk : 2 ≤ vs.length) (hi : i + vs.length < us.length) (ht : 1 ≤ at0 vs (vs.length - 1)) {H : Int} (hH : H = at0 us (i + vs.length) * 4294967296 + at0 us (i + vs.length - 1)) : Es us vs i (H / at0 vs (vs.length - 1)) (H % at0 vs (vs.length - 1)) := by
 obtain ⟨W, W', V', e, eW, w0, w1, eV, v0, v1, wb⟩ := window h dv hk hi
 have du := h.1
 obtain ⟨a0, a1⟩ := dg_at du BB_pos (i + vs.length)
 obtain ⟨c0, c1⟩ := dg_at du BB_pos (i + vs.length - 1)
 obtain ⟨x0, x1⟩ := dg_at du BB_pos (i + vs.length - 2)
 obtain ⟨y0, y1⟩ := dg_at dv BB_pos (vs.length - 2)
 have hH0 : 0 ≤ H := by rw [hH]; have := Int.mul_nonneg a0 (show (0 : Int) ≤ 4294967296 by decide); omega
 have q0 := Int.ediv_nonneg hH0 (show 0 ≤ at0 vs (vs.length - 1) by omega)
 have r0 := Int.emod_nonneg H (show at0 vs (vs.length - 1) ≠ 0 by omega)
 have r1 := Int.emod_lt_of_pos H (show 0 < at0 vs (vs.length - 1) by omega)
 have hs : H / at0 vs (vs.length - 1) * at0 vs (vs.length - 1) + H % at0 vs (vs.length - 1) = H := by rw [Int.mul_comm]; exact Int.mul_ediv_add_emod _ _
 refine ⟨q0, r0, by rw [hs, hH], ?_⟩
 have := est_start BB_pos (pos_pow BB_pos (vs.length - 2)) eV v0 y0 eW w1 x1 (by rw [hs, hH]) r1 q0
 exact lt_win (pos_pow BB_pos i) (by rw [e]; exact this)
theorem Es.down {D r : Int} (he : Es us vs i D r) (h : Lft vs (i + 1) us) (dv : dg 4294967296 vs) (hk : 2 ≤ vs.length) (hi : i + vs.length < us.length) (ht : 1 ≤ at0 vs (vs.length - 1)) (hc : 4294967296 ≤ D ∨ r * 4294967296 + at0 us (i + vs.length - 2) < D * at0 vs (vs.length - 2)) : Es us vs i (D - 1) (r + at0 vs (vs.length - 1)) ∧ 1 ≤ D := by
 obtain ⟨W, W', V', e, eW, w0, w1, eV, v0, v1, wb⟩ := window h dv hk hi
 have du := h.1
 obtain ⟨x0, x1⟩ := dg_at du BB_pos (i + vs.length - 2)
 obtain ⟨y0, y1⟩ := dg_at dv BB_pos (vs.length - 2)
 have hV0 := lv_nonneg BB_pos dv
 have hD1 : 1 ≤ D := by
  rcases hc with h1 | h1
  ·have : (1 : Int) ≤ 4294967296 := by decide
   omega
  ·have := Int.mul_nonneg he.r0 (show (0 : Int) ≤ 4294967296 by decide)
   apply Classical.byContradiction
   intro hn
   have hz : D = 0 := by have := he.d0; omega
   rw [hz, Int.zero_mul] at h1
   omega
 have hlt : W < D * lv 4294967296 vs := by
  rcases hc with h1 | h1
  ·exact est_base hV0 wb h1
  ·exact est_less BB_pos (pos_pow BB_pos (vs.length - 2)) eV v0 eW w1 he.eq he.d0 h1
 refine ⟨⟨by omega, by have := he.r0; omega, ?_, ?_⟩, hD1⟩
 ·rw [Int.sub_mul, Int.one_mul]; have := he.eq; omega
 ·rw [Int.sub_add_cancel]; exact lt_win (pos_pow BB_pos i) (by rw [e]; exact hlt)
theorem Es.near {D r : Int} (he : Es us vs i D r) (h : Lft vs (i + 1) us) (dv : dg 4294967296 vs) (hk : 2 ≤ vs.length) (hi : i + vs.length < us.length) (ht : 1 ≤ at0 vs (vs.length - 1)) (hD : D < 4294967296) (hc : D * at0 vs (vs.length - 2) ≤ r * 4294967296 + at0 us (i + vs.length - 2)) : 4294967296 ^ i * ((D - 1) * lv 4294967296 vs) ≤ lv 4294967296 us := by
 obtain ⟨W, W', V', e, eW, w0, w1, eV, v0, v1, wb⟩ := window h dv hk hi
 obtain ⟨y0, y1⟩ := dg_at dv BB_pos (vs.length - 2)
 have := est_end BB_pos (pos_pow BB_pos (vs.length - 2)) eV v0 v1 y0 ht eW w0 he.eq he.d0 (Int.le_of_lt hD) hc
 exact le_win (pos_pow BB_pos i) (by rw [e]; exact this)
theorem top_le' (h : Lft vs (i + 1) us) (dv : dg 4294967296 vs) (hk : 2 ≤ vs.length) (hi : i + vs.length < us.length) : at0 us (i + vs.length) ≤ at0 vs (vs.length - 1) := by
 obtain ⟨W, W', V', e, eW, w0, w1, eV, v0, v1, wb⟩ := window h dv hk hi
 have du := h.1
 obtain ⟨c0, c1⟩ := dg_at du BB_pos (i + vs.length - 1)
 obtain ⟨x0, x1⟩ := dg_at du BB_pos (i + vs.length - 2)
 obtain ⟨y0, y1⟩ := dg_at dv BB_pos (vs.length - 2)
 have hP := pos_pow BB_pos (vs.length - 2)
 apply Classical.byContradiction
 intro hn
 generalize (4294967296 : Int) ^ (vs.length - 2) = P at *
 generalize at0 us (i + vs.length) = a at *
 generalize at0 us (i + vs.length - 1) = c at *
 generalize at0 us (i + vs.length - 2) = x at *
 generalize at0 vs (vs.length - 1) = t at *
 generalize at0 vs (vs.length - 2) = y at *
 have e0 : (t * 4294967296 + y + 1) * P = (t * 4294967296 + y) * P + P := by grind
 have h1 : lv 4294967296 vs < (t * 4294967296 + y + 1) * P := by rw [e0]; omega
 have h2 : (t * 4294967296 + y + 1) * P ≤ (t + 1) * 4294967296 * P := Int.mul_le_mul_of_nonneg_right (by rw [Int.add_mul]; omega) (Int.le_of_lt hP)
 have h3 : ((a * 4294967296 + c) * 4294967296 + x) * P ≥ (a * 4294967296 * 4294967296) * P := Int.mul_le_mul_of_nonneg_right (by rw [Int.add_mul]; have := Int.mul_nonneg c0 (show (0 : Int) ≤ 4294967296 by decide); omega) (Int.le_of_lt hP)
 have h4 : (t + 1) * 4294967296 * P * 4294967296 ≤ a * 4294967296 * 4294967296 * P := by
  have h5 : (t + 1) * (4294967296 * 4294967296 * P) ≤ a * (4294967296 * 4294967296 * P) := Int.mul_le_mul_of_nonneg_right (by omega) (Int.mul_nonneg (by decide) (Int.le_of_lt hP))
  have e1 : (t + 1) * 4294967296 * P * 4294967296 = (t + 1) * (4294967296 * 4294967296 * P) := by grind
  have e2 : a * 4294967296 * 4294967296 * P = a * (4294967296 * 4294967296 * P) := by grind
  rw [e1, e2]; exact h5
 have h6 : lv 4294967296 vs * 4294967296 < (t + 1) * 4294967296 * P * 4294967296 := Int.mul_lt_mul_of_pos_right (by omega) (by decide)
 omega
theorem Es.brk {D r : Int} (he : Es us vs i D r) (h : Lft vs (i + 1) us) (dv : dg 4294967296 vs) (hk : 2 ≤ vs.length) (hi : i + vs.length < us.length) (ht : 1 ≤ at0 vs (vs.length - 1)) (hr : 4294967296 ≤ r) : D < 4294967296 ∧ D * at0 vs (vs.length - 2) ≤ r * 4294967296 + at0 us (i + vs.length - 2) := by
 have h1 := top_le' h dv hk hi
 have du := h.1
 obtain ⟨c0, c1⟩ := dg_at du BB_pos (i + vs.length - 1)
 obtain ⟨x0, x1⟩ := dg_at du BB_pos (i + vs.length - 2)
 obtain ⟨y0, y1⟩ := dg_at dv BB_pos (vs.length - 2)
 have e := he.eq
 have d0 := he.d0
 have hD : D < 4294967296 := by
  apply Classical.byContradiction
  intro hn
  have h2 : 4294967296 * at0 vs (vs.length - 1) ≤ D * at0 vs (vs.length - 1) := Int.mul_le_mul_of_nonneg_right (by omega) (by omega)
  have h3 : at0 us (i + vs.length) * 4294967296 ≤ at0 vs (vs.length - 1) * 4294967296 := Int.mul_le_mul_of_nonneg_right h1 (by decide)
  rw [Int.mul_comm 4294967296] at h2
  omega
 refine ⟨hD, ?_⟩
 have h4 : D * at0 vs (vs.length - 2) ≤ 4294967296 * 4294967296 := Int.le_trans (Int.mul_le_mul_of_nonneg_left (Int.le_of_lt y1) d0) (Int.mul_le_mul_of_nonneg_right (Int.le_of_lt hD) (by decide))
 have h5 : 4294967296 * 4294967296 ≤ r * 4294967296 := Int.mul_le_mul_of_nonneg_right hr (by decide)
 omega
end
end Go.Proofs.YthpjmhhfcechmaaGreat.Ma
/- Digits to the base 65536: sums, differences, products as the reference reckons them. No program in sight. -/
namespace Go.Proofs.YthpjmhhfcechmaaGreat.Ma
theorem BJ_pos : (0 : Int) < (65536 : Int) := by decide
theorem take_succ' (b : Int) (xs : List Int) (i : Nat) : lv b (xs.take (i + 1)) = lv b (xs.take i) + b ^ i * at0 xs i := by
 by_cases h : i < xs.length
 ·exact lv_take_succ b xs i h
 ·rw [List.take_of_length_le (by omega), List.take_of_length_le (by omega), at0_ge (by omega), Int.mul_zero, Int.add_zero]
theorem lv_app (b : Int) (xs : List Int) (x : Int) : lv b (xs ++ [x]) = lv b xs + b ^ xs.length * x := lv_snoc b xs x
theorem dg_app {b x : Int} {xs : List Int} (h : dg b xs) (h0 : 0 ≤ x) (h1 : x < b) : dg b (xs ++ [x]) := dg_append.2 ⟨h, fun y hy => by rw [List.mem_singleton] at hy; subst hy; exact ⟨h0, h1⟩⟩
structure Pl (xs ys : List Int) (i : Nat) (zs : List Int) (cc : Int) : Prop where
 len : zs.length = i
 d : dg 65536 zs
 c0 : 0 ≤ cc
 c1 : cc ≤ 1
 eq : lv 65536 zs + 65536 ^ i * cc = lv 65536 (xs.take i) + lv 65536 (ys.take i)
 le : i ≤ max xs.length ys.length ∨ (i = max xs.length ys.length + 1 ∧ cc = 0)
theorem Pl.start (xs ys : List Int) : Pl xs ys 0 [] 0 := ⟨rfl, dg_nil _, by omega, by omega, by simp [lv], .inl (by omega)⟩
theorem Pl.step {xs ys : List Int} {i : Nat} {zs : List Int} {cc n : Int} (h : Pl xs ys i zs cc) (dx : dg 65536 xs) (dy : dg 65536 ys) (hn : n = cc + at0 xs i + at0 ys i) (hi : i < xs.length ∨ i < ys.length ∨ 0 < cc) : Pl xs ys (i + 1) (zs ++ [n % 65536]) (n / 65536) ∧ 0 ≤ n ∧ n ≤ 131071 ∧ 2 * (max xs.length ys.length - (i + 1)) + (n / 65536).toNat < 2 * (max xs.length ys.length - i) + cc.toNat := by
 obtain ⟨h1, h2, h3, h4, h5, h6⟩ := h
 obtain ⟨x0, x1⟩ := dg_at dx BJ_pos i
 obtain ⟨y0, y1⟩ := dg_at dy BJ_pos i
 have hle : i ≤ max xs.length ys.length := by omega
 have hz : i = max xs.length ys.length → at0 xs i = 0 ∧ at0 ys i = 0 := fun e => ⟨at0_ge (by omega), at0_ge (by omega)⟩
 refine ⟨⟨by simp [h1], dg_app h2 (Int.emod_nonneg _ (by decide)) (Int.emod_lt_of_pos _ BJ_pos), by omega, by omega, ?_, ?_⟩, by omega, by omega, ?_⟩
 ·rw [lv_app, h1, take_succ', take_succ', Int.pow_succ]
  have e := Int.mul_ediv_add_emod n 65536
  generalize n / 65536 = q at *
  generalize n % 65536 = r at *
  generalize at0 xs i = u at *
  generalize at0 ys i = v at *
  generalize (65536 : Int) ^ i = A at *
  have : r = cc + u + v - 65536 * q := by omega
  rw [this]
  grind
 ·by_cases e : i < max xs.length ys.length
  ·exact .inl (by omega)
  ·obtain ⟨a, c⟩ := hz (by omega); exact .inr ⟨by omega, by omega⟩
 ·by_cases e : i < max xs.length ys.length
  ·omega
  ·obtain ⟨a, c⟩ := hz (by omega); omega
theorem Pl.fin {xs ys : List Int} {i : Nat} {zs : List Int} {cc : Int} (h : Pl xs ys i zs cc) (hx : xs.length ≤ i) (hy : ys.length ≤ i) (hc : ¬ 0 < cc) : dg 65536 zs ∧ lv 65536 zs = lv 65536 xs + lv 65536 ys ∧ zs.length ≤ max xs.length ys.length + 1 := by
 obtain ⟨h1, h2, h3, h4, h5, h6⟩ := h
 have e : cc = 0 := by omega
 rw [e, Int.mul_zero, Int.add_zero, List.take_of_length_le hx, List.take_of_length_le hy] at h5
 exact ⟨h2, h5, by omega⟩
structure Mn (xs ys : List Int) (i : Nat) (zs : List Int) (bb : Int) : Prop where
 len : zs.length = i
 d : dg 65536 zs
 c0 : 0 ≤ bb
 c1 : bb ≤ 1
 eq : lv 65536 zs = lv 65536 (xs.take i) - lv 65536 (ys.take i) + 65536 ^ i * bb
 le : i ≤ xs.length
theorem Mn.start (xs ys : List Int) : Mn xs ys 0 [] 0 := ⟨rfl, dg_nil _, by omega, by omega, by simp [lv], by omega⟩
theorem Mn.step {xs ys : List Int} {i : Nat} {zs : List Int} {bb n m b2 : Int} (h : Mn xs ys i zs bb) (dx : dg 65536 xs) (dy : dg 65536 ys) (hi : i < xs.length) (hn : n = at0 xs i - bb - at0 ys i) (hm : (n < 0 ∧ m = n + 65536 ∧ b2 = 1) ∨ (¬ n < 0 ∧ m = n ∧ b2 = 0)) : Mn xs ys (i + 1) (zs ++ [m]) b2 := by
 obtain ⟨h1, h2, h3, h4, h5, h6⟩ := h
 obtain ⟨x0, x1⟩ := dg_at dx BJ_pos i
 obtain ⟨y0, y1⟩ := dg_at dy BJ_pos i
 refine ⟨by simp [h1], dg_app h2 (by omega) (by omega), by omega, by omega, ?_, by omega⟩
 rw [lv_app, h1, take_succ', take_succ', Int.pow_succ, h5]
 generalize at0 xs i = u at *
 generalize at0 ys i = v at *
 generalize (65536 : Int) ^ i = A at *
 have : m = u - bb - v + 65536 * b2 := by omega
 rw [this]
 grind
theorem Mn.fin {xs ys zs : List Int} {bb : Int} (h : Mn xs ys xs.length zs bb) (hle : ys.length ≤ xs.length) (hv : lv 65536 ys ≤ lv 65536 xs) : dg 65536 zs ∧ lv 65536 zs = lv 65536 xs - lv 65536 ys := by
 obtain ⟨h1, h2, h3, h4, h5, h6⟩ := h
 rw [List.take_of_length_le (Nat.le_refl _), List.take_of_length_le hle] at h5
 have l1 := lv_lt BJ_pos h2
 rw [h1] at l1
 have hb : bb = 0 := by
  apply Classical.byContradiction
  intro hne
  have e : bb = 1 := by omega
  rw [e, Int.mul_one] at h5
  omega
 rw [hb, Int.mul_zero, Int.add_zero] at h5
 exact ⟨h2, h5⟩
structure Tm (xs ys : List Int) (k : Nat) (zs : List Int) : Prop where
 le : k ≤ xs.length
 len : zs.length = xs.length + ys.length + 1
 d : dg 65536 zs
 high : ∀ i, k + ys.length ≤ i → at0 zs i = 0
 eq : lv 65536 zs = lv 65536 (xs.take k) * lv 65536 ys
structure Ti (xs ys : List Int) (k j : Nat) (zs : List Int) (c : Int) : Prop where
 le : j ≤ ys.length
 len : zs.length = xs.length + ys.length + 1
 d : dg 65536 zs
 high : ∀ i, k + ys.length ≤ i → at0 zs i = 0
 c0 : 0 ≤ c
 c1 : c < 65536
 eq : lv 65536 zs + 65536 ^ (k + j) * c = lv 65536 (xs.take k) * lv 65536 ys + 65536 ^ k * (at0 xs k * lv 65536 (ys.take j))
theorem zeros_at (n i : Nat) : at0 (List.replicate n 0) i = 0 := by
 simp only [at0, List.getD_eq_getElem?_getD, List.getElem?_replicate]; split <;> rfl
theorem Tm.start (xs ys : List Int) : Tm xs ys 0 (List.replicate (xs.length + ys.length + 1) 0) :=
 ⟨by omega, by simp, dg_replicate _ (by decide) (by decide), fun i _ => zeros_at _ _, by rw [lv_zeros]; simp [lv]⟩
theorem Tm.inner {xs ys : List Int} {k : Nat} {zs : List Int} (h : Tm xs ys k zs) : Ti xs ys k 0 zs 0 :=
 ⟨by omega, h.len, h.d, h.high, by omega, by omega, by rw [h.eq]; simp [lv]⟩
theorem Ti.bound {xs ys : List Int} {k j : Nat} {zs : List Int} {c : Int} (h : Ti xs ys k j zs c) (dx : dg 65536 xs) (dy : dg 65536 ys) : 0 ≤ at0 xs k * at0 ys j ∧ at0 xs k * at0 ys j ≤ 4294836225 ∧ 0 ≤ at0 zs (k + j) ∧ at0 zs (k + j) ≤ 65535 := by
 obtain ⟨h1, h2, h3, h4, h5, h6, h7⟩ := h
 obtain ⟨x0, x1⟩ := dg_at dx BJ_pos k
 obtain ⟨y0, y1⟩ := dg_at dy BJ_pos j
 obtain ⟨z0, z1⟩ := dg_at h3 BJ_pos (k + j)
 have p0 : 0 ≤ at0 xs k * at0 ys j := Int.mul_nonneg x0 y0
 have e1 : at0 xs k * at0 ys j ≤ 65535 * at0 ys j := Int.mul_le_mul_of_nonneg_right (by omega) y0
 omega
theorem Ti.step {xs ys : List Int} {k j : Nat} {zs : List Int} {c n : Int} (h : Ti xs ys k j zs c) (dx : dg 65536 xs) (dy : dg 65536 ys) (hk : k < xs.length) (hj : j < ys.length) (hn : n = at0 zs (k + j) + at0 xs k * at0 ys j + c) : Ti xs ys k (j + 1) (zs.set (k + j) (n % 65536)) (n / 65536) := by
 have hb := h.bound dx dy
 obtain ⟨h1, h2, h3, h4, h5, h6, h7⟩ := h
 have hlt : k + j < zs.length := by omega
 refine ⟨by omega, by rw [List.length_set, h2], dg_set h3 _ (Int.emod_nonneg _ (by decide)) (Int.emod_lt_of_pos _ BJ_pos), fun i hi => ?_, by omega, by omega, ?_⟩
 ·rw [at0_set _ hlt, if_neg (by omega)]; exact h4 i hi
 ·rw [lv_set 65536 zs (k + j) _ hlt, take_succ', show k + (j + 1) = (k + j) + 1 by omega, Int.pow_succ]
  have e := Int.mul_ediv_add_emod n 65536
  have hp : (65536 : Int) ^ (k + j) = 65536 ^ k * 65536 ^ j := Int.pow_add _ _ _
  rw [hp] at h7 ⊢
  generalize n / 65536 = q at *
  generalize n % 65536 = r at *
  generalize at0 xs k = u at *
  generalize at0 ys j = v at *
  generalize at0 zs (k + j) = z at *
  generalize (65536 : Int) ^ k = A at *
  generalize (65536 : Int) ^ j = C at *
  generalize lv 65536 (ys.take j) = T at *
  have : r = z + u * v + c - 65536 * q := by omega
  rw [this]
  grind
theorem Ti.outer {xs ys : List Int} {k : Nat} {zs : List Int} {c : Int} (h : Ti xs ys k ys.length zs c) (hk : k < xs.length) : Tm xs ys (k + 1) (zs.set (k + ys.length) (at0 zs (k + ys.length) + c)) ∧ at0 zs (k + ys.length) = 0 := by
 obtain ⟨h1, h2, h3, h4, h5, h6, h7⟩ := h
 have hz : at0 zs (k + ys.length) = 0 := h4 _ (Nat.le_refl _)
 have hlt : k + ys.length < zs.length := by omega
 refine ⟨⟨by omega, by rw [List.length_set, h2], dg_set h3 _ (by omega) (by omega), fun i hi => ?_, ?_⟩, hz⟩
 ·rw [at0_set _ hlt, if_neg (by omega)]; exact h4 i (by omega)
 ·rw [lv_set 65536 zs _ _ hlt, take_succ', hz]
  rw [List.take_length] at h7
  generalize (65536 : Int) ^ (k + ys.length) = P at *
  generalize (65536 : Int) ^ k = A at *
  grind
theorem Tm.fin {xs ys zs : List Int} (h : Tm xs ys xs.length zs) : dg 65536 zs ∧ lv 65536 zs = lv 65536 xs * lv 65536 ys := by
 have := h.eq
 rw [List.take_length] at this
 exact ⟨h.d, this⟩
theorem len_le_of {xs ys : List Int} (dx : dg 65536 xs) (dy : dg 65536 ys) (tx : top xs) (h : lv 65536 xs ≤ lv 65536 ys) : xs.length ≤ ys.length := length_le (by decide) dx dy tx h
theorem cmp_top {xs ys : List Int} (dx : dg 65536 xs) (dy : dg 65536 ys) (hl : xs.length = ys.length) {i : Nat} (hi : i < xs.length) (e : xs.drop (i + 1) = ys.drop (i + 1)) (h : at0 xs i < at0 ys i) : lv 65536 xs < lv 65536 ys := by
 have s1 := lv_split 65536 xs i (by omega)
 have s2 := lv_split 65536 ys i (by omega)
 rw [lv_drop 65536 xs i hi] at s1
 rw [lv_drop 65536 ys i (by omega), ← e] at s2
 have l1 := lv_lt BJ_pos (dg_take dx i)
 have n2 := lv_nonneg BJ_pos (dg_take dy i)
 rw [List.length_take, Nat.min_eq_left (by omega)] at l1
 have hp := pos_pow BJ_pos i
 have h1 : (65536 : Int) ^ i * (at0 xs i + 1 + 65536 * lv 65536 (xs.drop (i + 1))) ≤ 65536 ^ i * (at0 ys i + 65536 * lv 65536 (xs.drop (i + 1))) := Int.mul_le_mul_of_nonneg_left (by omega) (Int.le_of_lt hp)
 have e1 : (65536 : Int) ^ i * (at0 xs i + 1 + 65536 * lv 65536 (xs.drop (i + 1))) = 65536 ^ i * (at0 xs i + 65536 * lv 65536 (xs.drop (i + 1))) + 65536 ^ i := by grind
 omega
theorem drop_at {xs ys : List Int} (hl : xs.length = ys.length) {i : Nat} (hi : i < xs.length) (e : xs.drop (i + 1) = ys.drop (i + 1)) (h : at0 xs i = at0 ys i) : xs.drop i = ys.drop i := by
 rw [List.drop_eq_getElem_cons hi, List.drop_eq_getElem_cons (show i < ys.length by omega), e]
 rw [at0_of_lt hi, at0_of_lt (by omega)] at h
 rw [h]
theorem lt_of_len {xs ys : List Int} (dx : dg 65536 xs) (dy : dg 65536 ys) (ty : top ys) (h : xs.length < ys.length) : lv 65536 xs < lv 65536 ys := by
 apply Classical.byContradiction
 intro hn
 have := length_le (show (1 : Int) < 65536 by decide) dy dx ty (by omega)
 omega
end Go.Proofs.YthpjmhhfcechmaaGreat.Ma
