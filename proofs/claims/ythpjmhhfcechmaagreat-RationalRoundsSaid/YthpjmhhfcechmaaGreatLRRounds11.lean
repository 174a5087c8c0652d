/- Parts Rk0, Sj, Ru, Ru2, Szr, Lrd, in one file. -/
import Derived.Test.YthpjmhhfcechmaaGreatLRRounds10
import Derived.Test.YthpjmhhfcechmaaGreatLRRounds2
import Derived.Test.YthpjmhhfcechmaaGreatLRRounds5
import Derived.Test.YthpjmhhfcechmaaGreatLRRounds9
/- The contract of rounded: four functions, one of which looks into a box. -/
set_option linter.unusedVariables false
set_option linter.unusedSimpArgs false
namespace Go.Proofs.YthpjmhhfcechmaaGreat.Sy
open Go Go.RowKit Ma
abbrev fv (f : Nat) : Value := .func (.func f) #[] #[]
def four (p : Nat) : Value := .agg #[fv 131, fv 135, .func (.func 136) #[] #[.pointer (some ⟨p, 0, none⟩)], fv 137]
def RF : List Value → World → Prop := fun xs _ => xs = [fv 135]
theorem OwS.onef (W : World) : OwS (W.alloc (.cells #[fv 135] 133)) W.heap.size 133 1 (.slice (some ⟨W.heap.size, 0, none⟩) 1 1) 1 RF := by
 refine ⟨⟨[fv 135], ⟨by simp, .inr ⟨W.heap.size, 1, _, rfl, Nat.le_refl _, heap_alloc_new W _, Nat.le_refl _, by unfold maxLen; omega, by simp, by simp⟩⟩, rfl⟩, ?_, fun xs w1 w2 _ h => h⟩
 intro g hg
 injection hg with hg
 subst hg
 refine ⟨_, _, _, heap_alloc_new W _, fun u hu => ?_⟩
 obtain rfl : u = fv 135 := by simpa using hu
 exact fun k x => by simp
set_option maxHeartbeats 1600000 in
theorem rounded_c {w : World} : Calls Tryz.prog 97 #[] w (Ret w (fun v W => ∃ p, v = four p ∧ OwS W w.heap.size 133 1 (.slice (some ⟨p, 0, none⟩) 1 1) 1 RF)) := by
 have hs : ∀ (a : Addr) (f : Fn) (t : Array Value) (c : Array Value) (m : Mode) (w : World), (store a (.func f t c) m).run Tryz.prog w = stored Tryz.prog w a (.func f t c) m := fun a f t c m w => run_store Tryz.prog w a _ m rfl
 go_enter Tryz.func97, Tryz.ntmps97
 go_wp2
 have own := OwS.onef (w.alloc (.cells #[fv 131, fv 135, .func (.func 136) #[] #[.pointer (some ⟨w.heap.size + 1, 0, none⟩)], fv 137] 134))
 have hz : (w.alloc (.cells #[fv 131, fv 135, .func (.func 136) #[] #[.pointer (some ⟨w.heap.size + 1, 0, none⟩)], fv 137] 134)).heap.size = w.heap.size + 1 := by simp
 rw [hz] at own
 exact bodyPost_ret (v := four (w.heap.size + 1)) (by unfold four; simp [results, Tryz.results97, go_sem]) rfl ⟨_, rfl, ⟨w.heap.size + 1, rfl, own.weaken (by omega)⟩, ((Nw.refl w).alloc _).alloc _⟩
end Go.Proofs.YthpjmhhfcechmaaGreat.Sy
/- A walk by rules: a statement that draws its order, by an invariant over what was carried out; functions as values. -/
namespace Go.Proofs.YthpjmhhfcechmaaGreat.Sy
open Go Go.RowKit Ma
theorem SC.inv {B N : Nat} {w0 : World} {id : Nat} {l : List Oper} {fr : List (Nat × AV)} {Q : Exit → Act → World → Prop} (m : Nat) (I : (Nat → Bool) → Act → World → Prop) (hlen : Nat.ble m l.length = true)
  (h1 : backB l.toArray = true) (hc : tailB l.toArray m = true) (h0 : ∀ a W, Fr B N w0 fr a W → I (fun _ => false) a W) (hI : ∀ L L' a W, (∀ j, L j = L' j) → I L a W → I L' a W)
  (hs : ∀ i o, i < m → l.toArray[i]? = some o → ∀ L a W, Dn l.toArray L → L i = false → (∀ j, wt l.toArray i j = true → L j = true) → I L a W → ∀ K : Act → World → Prop, (∀ a' W', I (add L i) a' W' → K a' W') → wpOp Tryz.prog l.toArray Q i K a W)
  (hk : ∀ L a W, (∀ j, j < m → L j = true) → I L a W → wpList Tryz.prog l.toArray Q (l.drop m) a W) : SC B N w0 (.region id l.toArray true) fr Q := fun a W hf => by
 have hd : Nw W W.drew := (Nw.refl W).drew
 have hlen : m ≤ l.length := Nat.le_of_ble_eq_true hlen
 refine wp_region_any (by kernel_rfl) ?_
 have key : ∀ (fuel : Nat) (listed : Array Bool) (a : Act) (W : World), listed.size = l.length → Dn l.toArray (fun j => listed.getD j false) → (∀ j, m ≤ j → j < l.length → listed.getD j false = false) → lft l.length (fun j => listed.getD j false) ≤ fuel → I (fun j => listed.getD j false) a W → wpAny Tryz.prog .any l.toArray Q fuel listed a W := by
  intro fuel
  induction fuel with
  | zero =>
   intro listed a W hz hD hT hl hf
   have hall := lft_zero l.length (Nat.le_zero.1 hl)
   refine tail_run h1 hc (l.drop m) m 0 listed a W rfl (Nat.le_refl _) hz hD (fun j hj => ?_) ?_ (hk _ a W (fun k hk2 => hall k (by omega)) hf)
   ·rw [hall j hj]
    by_cases e : j < m
    ·simp [e]
    ·have := hT j (by omega) hj; rw [hall j hj] at this; cases this
   ·have := lft_ge l.length hT
    simp; omega
  | succ fuel ih =>
   intro listed a W hz hD hT hl hf
   have hzz : listed.size = l.toArray.size := by simpa using hz
   by_cases hall : ∀ j, j < m → listed.getD j false = true
   ·refine tail_run h1 hc (l.drop m) m (fuel + 1) listed a W rfl (Nat.le_refl _) hz hD (fun j hj => ?_) ?_ (hk _ a W (fun k hk2 => hall k (by omega)) hf)
    ·by_cases e : j < m
     ·rw [hall j e]; simp [e]
     ·rw [hT j (by omega) hj]; simp [e]
    ·have := lft_ge l.length hT
     simp; omega
   ·obtain ⟨k, hk1, hk2, hk3⟩ := least hall
    refine ⟨fun hr => ?_, fun i hi => ?_⟩
    ·have := ready_min h1 hzz (k := k) (by simp; omega) hk2 hk3
     rw [hr] at this
     cases this
    ·obtain ⟨a1, a2, a3⟩ := wt_ready hi
     have a1' : i < l.length := by simpa using a1
     have him : i < m := by
      by_cases e : i < m
      ·exact e
      ·have := tailB_spec hc hD (i := i) (by omega) a1 a3 k (by omega)
       rw [hk2] at this; cases this
     have hoo : l.toArray[i]? = some l[i] := by simp [a1']
     have hLadd := set_add (listed := listed) (i := i) (by omega)
     refine hs i l[i] him hoo _ a W hD a2 a3 hf _ fun a' W' hf' => ih _ a' W' (by simpa using hz) ?_ ?_ ?_ ?_
     ·rw [hLadd]; exact dn_set hD a3
     ·intro j hj hj2
      rw [congrFun hLadd j]
      unfold add
      rw [if_neg (by omega)]
      exact hT j hj hj2
     ·rw [hLadd]
      have := lft_add (L := fun j => listed.getD j false) (i := i) a2 l.length a1'
      omega
     ·rw [hLadd]
      exact hf'
 refine key _ _ a W.drew (by simp) (fun i j hi => ?_) (fun j _ hj => by simp [hj]) ?_ ?_
 ·exfalso
  rcases Nat.lt_or_ge i l.length with h' | h'
  ·simp [h'] at hi
  ·simp [Array.getElem?_eq_none, h'] at hi
 ·have : ∀ n, lft n (fun j => (Array.replicate l.toArray.size false).getD j false) ≤ n := by
   intro n
   induction n with
   | zero => exact Nat.le_refl _
   | succ n ih => unfold lft; split <;> omega
  simpa using this l.length
 ·refine hI (fun _ => false) _ a _ (fun k => ?_) (h0 a _ (hf.nw hd))
  rcases Nat.lt_or_ge k l.length with h' | h'
  ·simp [h']
  ·simp [Array.getElem?_eq_none, h']
theorem look_cur_congr {L : Nat → Bool} : ∀ (es : List Eff) (i : Nat) (f g : List (Nat × AV)), (∀ s, look f s = look g s) → ∀ s, look (cur i es L f) s = look (cur i es L g) s
 | [], _, f, g, h, s => h s
 | e :: es, i, f, g, h, s => by
  unfold cur
  refine look_cur_congr es (i + 1) _ _ (fun s' => ?_) s
  by_cases hL : L i = true
  ·rw [if_pos hL, if_pos hL, show e.ent = (e.ent.1, e.ent.2) from rfl, look_cons, look_cons, h]
  ·rw [if_neg hL, if_neg hL, h]
theorem look_cur_base {L : Nat → Bool} {K : Nat} {v : AV} : ∀ (es : List Eff) (i : Nat) (f : List (Nat × AV)), (∀ e ∈ es, e.slot ≠ K) → ∀ s, look (cur i es L ((K, v) :: f)) s = look ((K, v) :: cur i es L f) s
 | [], _, f, h, s => rfl
 | e :: es, i, f, h, s => by
  unfold cur
  have hne : e.ent.1 ≠ K := by rw [Eff.ent_slot]; exact h e (by simp)
  by_cases hL : L i = true
  ·rw [if_pos hL, if_pos hL]
   rw [look_cur_congr es (i + 1) (e.ent :: (K, v) :: f) ((K, v) :: e.ent :: f) (fun s' => by
    rw [show e.ent = (e.ent.1, e.ent.2) from rfl]
    simp only [look_cons]
    by_cases e1 : e.ent.1 = s'
    ·subst e1; rw [if_pos rfl, if_neg (fun x => hne x.symm), if_pos rfl]
    ·rw [if_neg e1, if_neg e1]) s]
   exact look_cur_base es (i + 1) _ (fun e' he => h e' (by simp [he])) s
  ·rw [if_neg hL, if_neg hL]
   exact look_cur_base es (i + 1) _ (fun e' he => h e' (by simp [he])) s
theorem run_callF {c : Call} {f : FuncId} {s : Nat} {caps : Array Value} (ce : CE f) (hc : c.callee = .value (.tmp s)) (ρ : Operand → Value) (hρ : ρ (.tmp s) = .func (.func f) #[] caps) (ty : TypeId) (W : World) {dst : Option Tmp} {pos : String} {after : Array Edge} {guard : Option (Nat × Bool)} :
  (execOp ρ ⟨dst, .call c, ty, pos, after, guard⟩).run Tryz.prog W = .ok (.enter f (c.args.map ρ ++ caps)) W := by
 obtain ⟨cal, args, ats⟩ := c
 simp only at hc
 subst hc
 have := ce (args.map ρ ++ caps) W
 simp [execOp, resolve, hρ, go_sem, this]
end Go.Proofs.YthpjmhhfcechmaaGreat.Sy
/- Quotient of fractions, both sides, by rules. -/
namespace Go.Proofs.YthpjmhhfcechmaaGreat.Sy
open Go Go.RowKit Ma
theorem bq.cl {a : Nat} {x : Rat} (X : bq a x) : bd a (clq x) := by unfold clq; exact (bq.fl (bq.neg X)).neg
theorem bq.rd {a : Nat} {way : Int} {x : Rat} (X : bq a x) : bd (a + 2) (rdq way x) := by
 have F := bq.fl X
 have F1 : bd (a + 2) (flq x + 1) := (F.add (bd.lit (by decide) : bd 1 1)).mono (by omega)
 unfold rdq
 split
 ·exact F.mono (by omega)
 split
 ·exact (bq.cl X).mono (by omega)
 split
 ·split
  ·exact (bq.cl X).mono (by omega)
  ·exact F.mono (by omega)
 ·unfold nrq
  split
  ·exact F1
  ·exact F.mono (by omega)
def trq (x : Rat) : Int := if sgq x < 0 then clq x else flq x
def KQt (way : Int) (x y : Rat) : Know := if way < 0 ∨ way > 3 then K3 (KI 0) (KQ 0 0) (KV (.int .i64 1)) else if y = 0 then K3 (KI 0) (KQ 0 0) (KV (.int .i64 6)) else K3 (KI (rdq way (x / y))) (KQ (x - y * ((rdq way (x / y) : Int) : Rat)).num (((x - y * ((rdq way (x / y) : Int) : Rat)).den : Int) - 1)) (KV (.int .i64 0))
theorem KQt_bad {way : Int} {x y : Rat} (h : way < 0 ∨ way > 3) : KQt way x y = K3 (KI 0) (KQ 0 0) (KV (.int .i64 1)) := if_pos h
theorem KQt_zero {way : Int} {x y : Rat} (h1 : ¬ way < 0) (h2 : ¬ way > 3) (h : y = 0) : KQt way x y = K3 (KI 0) (KQ 0 0) (KV (.int .i64 6)) := by unfold KQt; rw [if_neg (by omega), if_pos h]
theorem KQt_ok {way : Int} {x y : Rat} (h1 : ¬ way < 0) (h2 : ¬ way > 3) (h : y ≠ 0) : KQt way x y = K3 (KI (rdq way (x / y))) (KQ (x - y * ((rdq way (x / y) : Int) : Rat)).num (((x - y * ((rdq way (x / y) : Int) : Rat)).den : Int) - 1)) (KV (.int .i64 0)) := by unfold KQt; rw [if_neg (by omega), if_neg h]
section
variable {B N : Nat} {w0 : World} {ops : Array Oper} {o : Oper} {rest : List Oper} {fr : List (Nat × AV)} {Q : Exit → Act → World → Prop} {d : Nat}
theorem PW.fload {T : TypeId} {s p f : Nat} (hw : wantB ops fr o = some true) (hd : o.dst = some d) (hN : Nat.blt d N = true) (ho : o.op = .load T (.tmp s)) (hs : look fr s = some (.vl (.pointer (some ⟨p, 0, none⟩)))) (hB : B = w0.heap.size) (hc : w0.cell? ⟨p, 0, none⟩ = some (fv f))
  (hl : ∀ (W : World), W.cell? ⟨p, 0, none⟩ = some (fv f) → (Instr.loadAt T (.pointer (some ⟨p, 0, none⟩))).run Tryz.prog W = .ok (fv f) W) (hk : PW B N w0 ops rest ((d, .vl (fv f)) :: fr) Q) : PW B N w0 ops (o :: rest) fr Q :=
 PW.val (r := .vl (fv f)) hw hd hN rfl (fun a W hf => by
  have h1 : a.tmps.getD s undef = .pointer (some ⟨p, 0, none⟩) := hf.ho s _ hs
  have h2 : W.cell? ⟨p, 0, none⟩ = some (fv f) := by
   rw [hf.be.cell (by rw [hB]; exact World.block_lt_of_cell? w0 ⟨p, 0, none⟩ hc)]; exact hc
  refine ⟨_, ?_, rfl⟩
  unfold execOp
  rw [ho]
  show (do pure (.value (← Instr.loadAt T (a.tmps.getD s undef))) : Sem Next).run Tryz.prog W = _
  rw [h1]
  exact run_val (hl W h2)) hk
theorem PW.callF {c : Call} {f : FuncId} {ks : List Know} {r : AV} {s : Nat} (hw : wantB ops fr o = some true) (hd : o.dst = some d) (hN : Nat.blt d N = true) (ho : o.op = .call c) (hc : c.callee = .value (.tmp s)) (hs : look fr s = some (.vl (fv f))) (ha : opks fr c.args.toList = some ks) (hst : St r.of) (hr : r.isBx = false)
  (h : CallOk f ks r.of) (hk : PW B N w0 ops rest ((d, r) :: fr) Q) : PW B N w0 ops (o :: rest) fr Q :=
 PW.step hw fun a W hf K hK => by
  obtain ⟨dst, op, ty, pos, after, guard⟩ := o
  simp only at ho hd
  subst ho
  subst hd
  unfold Oper.wp
  rw [run_callF h.1 hc a.eval (hf.ho s _ hs) ty W]
  simp only [Oper.upon]
  have e : (c.args.toList.map a.eval).toArray = c.args.map a.eval ++ #[] := by rw [← Array.toList_map, Array.toArray_toList, Array.append_empty]
  have := h.2 W _ (opks_spec hf ha)
  rw [e] at this
  refine this.mono fun e W' ⟨v, he, hv, hn⟩ => ?_
  subst he
  exact hK _ _ (hk _ _ ((hf.nw hn).set hN (Ho.mk hr hv hst) hr))
end

theorem ce_k_ceil : CE 135 := fun args W => by go_simp
set_option maxHeartbeats 6400000 in
set_option maxRecDepth 100000 in
theorem k_ceil {x : Rat} {a : Nat} (X : bq a x) (ha : a ≤ 20000) : CallOk 135 [KQ (x).num (((x).den : Int) - 1)] (KI (clq x)) := by
 refine CallOk.enter (l := [.kw (KQ (x).num (((x).den : Int) - 1))]) 7 ce_k_ceil Tryz.func135 rfl Tryz.ntmps135 (by simp) ⟨(KQ.st _ _), rfl, trivial⟩ fun w => ?_
 refine SC.seq (SC.region ?_)
 refine PW.box (x := .tmp 0) (r := .kw (KQ (x).num (((x).den : Int) - 1))) (BQ 38) rfl rfl rfl rfl rfl bQ rfl sh_Q ?_
 refine PW.alloc (BI 31) rfl rfl rfl rfl rfl bI ?_
 refine PW.nil (SX.then (SC.seq (SC.region ?_)))
 refine PW.load rfl rfl rfl rfl rfl rfl ?_
 refine PW.call (r := .kw (KQ (-x).num (((-x).den : Int) - 1))) rfl rfl rfl rfl rfl rfl (KQ.st _ _) rfl (k_rneg) ?_
 refine PW.call (r := .kw (KI (flq (-x)))) rfl rfl rfl rfl rfl rfl (KI.st _) rfl (k_rfloor X.neg (by omega)) ?_
 refine PW.call (r := .kw (KI (-(flq (-x))))) rfl rfl rfl rfl rfl rfl (KI.st _) rfl (k_neg) ?_
 refine PW.store (x := .tmp 6) (r := .kw (KI (-(flq (-x))))) rfl rfl rfl rfl rfl rfl sh_I ?_
 refine PW.nil (SX.then (SC.ret ?_))
 exact SX.doneC (s := 2) (.inl rfl) rfl rfl rfl
theorem ce_k_near : CE 137 := fun args W => by go_simp
set_option maxHeartbeats 6400000 in
set_option maxRecDepth 100000 in
theorem k_near {x : Rat} {a : Nat} (X : bq a x) (ha : a ≤ 20000) : CallOk 137 [KQ (x).num (((x).den : Int) - 1)] (KI (nrq x)) := by
 refine CallOk.enter (l := [.kw (KQ (x).num (((x).den : Int) - 1))]) 31 ce_k_near Tryz.func137 rfl Tryz.ntmps137 (by simp) ⟨(KQ.st _ _), rfl, trivial⟩ fun w => ?_
 refine SC.seq (SC.region ?_)
 refine PW.box (x := .tmp 0) (r := .kw (KQ (x).num (((x).den : Int) - 1))) (BQ 38) rfl rfl rfl rfl rfl bQ rfl sh_Q ?_
 refine PW.alloc (BI 31) rfl rfl rfl rfl rfl bI ?_
 refine PW.nil (SX.then (SC.seq (SC.region ?_)))
 refine PW.load rfl rfl rfl rfl rfl rfl ?_
 refine PW.call (r := .kw (KI (flq x))) rfl rfl rfl rfl rfl rfl (KI.st _) rfl (k_rfloor X (by omega)) ?_
 refine PW.alloc (BI 31) rfl rfl rfl rfl rfl bI ?_
 refine PW.store (x := .tmp 7) (r := .kw (KI (flq x))) rfl rfl rfl rfl rfl rfl sh_I ?_
 refine PW.nil (SX.then (SC.seq (SC.region ?_)))
 refine PW.call (r := .kw (KI (1))) rfl rfl rfl rfl rfl rfl (KI.st _) rfl (k_one) ?_
 refine PW.call (r := .kw (KI (2))) rfl rfl rfl rfl rfl rfl (KI.st _) rfl (k_new (by decide)) ?_
 refine PW.call (r := .kw (KQ (Rat.divInt (1) (2)).num (((Rat.divInt (1) (2)).den : Int) - 1))) rfl rfl rfl rfl rfl rfl (KQ.st _ _) rfl (k_rmade bd.one (bd.lit (by decide)) (by decide) (by omega) (by omega)) ?_
 refine PW.alloc (BQ 38) rfl rfl rfl rfl rfl bQ ?_
 refine PW.store (x := .tmp 10) (r := .kw (KQ (Rat.divInt (1) (2)).num (((Rat.divInt (1) (2)).den : Int) - 1))) rfl rfl rfl rfl rfl rfl sh_Q ?_
 refine PW.nil (SX.then (SC.seq ?_))
 refine SC.dx [.val 11 (.kw (KQ (x).num (((x).den : Int) - 1))), .val 12 (.kw (KI (flq x))), .val 13 (.kw (KQ (((flq x : Int) : Rat)).num (((((flq x : Int) : Rat)).den : Int) - 1))), .val 14 (.kw (KQ (x - (((flq x : Int) : Rat))).num (((x - (((flq x : Int) : Rat))).den : Int) - 1))), .val 15 (.kw (KQ (Rat.divInt (1) (2)).num (((Rat.divInt (1) (2)).den : Int) - 1))), .val 16 (.vl (.int .i64 (cmpq (x - (((flq x : Int) : Rat))) (Rat.divInt (1) (2))))), .val 5 (.vl (.int .i64 (cmpq (x - (((flq x : Int) : Rat))) (Rat.divInt (1) (2)))))] [([], [1]), ([], [3]), ([1], []), ([0, 2], []), ([], [4]), ([3, 4], []), ([5], [])] rfl (by kernel_rfl) (by kernel_rfl) (by kernel_rfl) rfl ⟨?_, ?_, ?_, ?_, ?_, ?_, ?_, trivial⟩ ?_
 ·exact DX.load rfl rfl rfl rfl rfl rfl
 ·exact DX.load rfl rfl rfl rfl rfl rfl
 ·exact DX.call (r := .kw (KQ (((flq x : Int) : Rat)).num (((((flq x : Int) : Rat)).den : Int) - 1))) rfl rfl rfl rfl rfl rfl (KQ.st _ _) rfl (k_rof)
 ·exact DX.call (r := .kw (KQ (x - (((flq x : Int) : Rat))).num (((x - (((flq x : Int) : Rat))).den : Int) - 1))) rfl rfl rfl rfl rfl rfl (KQ.st _ _) rfl (k_rsub X (bq.int1 ((bq.fl X))) (by omega) (by omega))
 ·exact DX.load rfl rfl rfl rfl rfl rfl
 ·exact DX.call (r := .vl (.int .i64 (cmpq (x - (((flq x : Int) : Rat))) (Rat.divInt (1) (2))))) rfl rfl rfl rfl rfl rfl (KV.st _) rfl (k_rcmp (X.sub (bq.int1 ((bq.fl X)))) (bq.over bd.one (bd.lit (by decide)) (by decide)) (by omega) (by omega))
 ·exact DX.assign rfl rfl rfl rfl rfl rfl
 refine SX.then (SC.seq (SC.seq ?_))
 by_cases n1 : 0 < cmpq (x - ((flq x : Int) : Rat)) (Rat.divInt (1) (2))
 ·refine SC.region ?_
  refine PW.move rfl rfl rfl rfl rfl ?_
  refine PW.q2 (x := .tmp 17) (y := .const (.int .i64 0)) (.bool true) rfl rfl rfl rfl rfl (fun ρ W h1 h2 => by exact r_gt h1 h2 (decide_eq_true n1)) ?_
  refine PW.move rfl rfl rfl rfl rfl ?_
  refine PW.skip rfl rfl rfl ?_
  refine PW.skip rfl rfl rfl ?_
  refine PW.skip rfl rfl rfl ?_
  refine PW.skip rfl rfl rfl ?_
  refine PW.skip rfl rfl rfl ?_
  refine PW.skip rfl rfl rfl ?_
  refine PW.pick (t := true) rfl rfl rfl rfl rfl rfl ?_
  refine PW.nil (SX.then (SC.cond (t := true) rfl (SC.seq ?_)))
  refine SC.dx [.val 27 (.kw (KI (flq x))), .val 28 (.kw (KI (1))), .val 29 (.kw (KI ((flq x) + 1))), .put 2 (BI 31) (.kw (KI ((flq x) + 1)))] [([], [3]), ([], []), ([0, 1], []), ([2], [2])] rfl (by kernel_rfl) (by kernel_rfl) (by kernel_rfl) rfl ⟨?_, ?_, ?_, ?_, trivial⟩ ?_
  ·exact DX.load rfl rfl rfl rfl rfl rfl
  ·exact DX.call (r := .kw (KI (1))) rfl rfl rfl rfl rfl rfl (KI.st _) rfl (k_one)
  ·exact DX.call (r := .kw (KI ((flq x) + 1))) rfl rfl rfl rfl rfl rfl (KI.st _) rfl (k_add ((bq.fl X)) bd.one (by omega) (by omega))
  ·exact DX.store (x := .tmp 29) (r := .kw (KI ((flq x) + 1))) rfl rfl rfl rfl rfl rfl sh_I
  refine SX.then (SC.ret (SX.thenR ?_))
  rw [show nrq x = _ from if_pos (.inl n1)]
  exact SX.doneC (s := 2) (.inl rfl) rfl rfl rfl
 ·by_cases n2 : cmpq (x - ((flq x : Int) : Rat)) (Rat.divInt (1) (2)) = 0
  ·by_cases n3 : flq x % 2 = 1
   ·refine SC.region ?_
    refine PW.move rfl rfl rfl rfl rfl ?_
    refine PW.q2 (x := .tmp 17) (y := .const (.int .i64 0)) (.bool false) rfl rfl rfl rfl rfl (fun ρ W h1 h2 => by exact r_gt h1 h2 (decide_eq_false n1)) ?_
    refine PW.move rfl rfl rfl rfl rfl (PW.move rfl rfl rfl rfl rfl ?_)
    refine PW.q2 (x := .tmp 20) (y := .const (.int .i64 0)) (.bool true) rfl rfl rfl rfl rfl (fun ρ W h1 h2 => by exact r_eqT h1 h2 n2) ?_
    refine PW.move rfl rfl rfl rfl rfl ?_
    refine PW.load rfl rfl rfl rfl rfl rfl ?_
    refine PW.call (r := .vl (.bool true)) rfl rfl rfl rfl rfl rfl (KV.st _) rfl (callK (k_odd ((bq.fl X)) (by omega)) (by rw [decide_eq_true n3]; rfl)) ?_
    refine PW.pick (t := true) rfl rfl rfl rfl rfl rfl ?_
    refine PW.pick (t := false) rfl rfl rfl rfl rfl rfl ?_
    refine PW.nil (SX.then (SC.cond (t := true) rfl (SC.seq ?_)))
    refine SC.dx [.val 27 (.kw (KI (flq x))), .val 28 (.kw (KI (1))), .val 29 (.kw (KI ((flq x) + 1))), .put 2 (BI 31) (.kw (KI ((flq x) + 1)))] [([], [3]), ([], []), ([0, 1], []), ([2], [2])] rfl (by kernel_rfl) (by kernel_rfl) (by kernel_rfl) rfl ⟨?_, ?_, ?_, ?_, trivial⟩ ?_
    ·exact DX.load rfl rfl rfl rfl rfl rfl
    ·exact DX.call (r := .kw (KI (1))) rfl rfl rfl rfl rfl rfl (KI.st _) rfl (k_one)
    ·exact DX.call (r := .kw (KI ((flq x) + 1))) rfl rfl rfl rfl rfl rfl (KI.st _) rfl (k_add ((bq.fl X)) bd.one (by omega) (by omega))
    ·exact DX.store (x := .tmp 29) (r := .kw (KI ((flq x) + 1))) rfl rfl rfl rfl rfl rfl sh_I
    refine SX.then (SC.ret (SX.thenR ?_))
    rw [show nrq x = _ from if_pos (.inr ⟨n2, n3⟩)]
    exact SX.doneC (s := 2) (.inl rfl) rfl rfl rfl
   ·refine SC.region ?_
    refine PW.move rfl rfl rfl rfl rfl ?_
    refine PW.q2 (x := .tmp 17) (y := .const (.int .i64 0)) (.bool false) rfl rfl rfl rfl rfl (fun ρ W h1 h2 => by exact r_gt h1 h2 (decide_eq_false n1)) ?_
    refine PW.move rfl rfl rfl rfl rfl (PW.move rfl rfl rfl rfl rfl ?_)
    refine PW.q2 (x := .tmp 20) (y := .const (.int .i64 0)) (.bool true) rfl rfl rfl rfl rfl (fun ρ W h1 h2 => by exact r_eqT h1 h2 n2) ?_
    refine PW.move rfl rfl rfl rfl rfl ?_
    refine PW.load rfl rfl rfl rfl rfl rfl ?_
    refine PW.call (r := .vl (.bool false)) rfl rfl rfl rfl rfl rfl (KV.st _) rfl (callK (k_odd ((bq.fl X)) (by omega)) (by rw [decide_eq_false n3]; rfl)) ?_
    refine PW.pick (t := true) rfl rfl rfl rfl rfl rfl ?_
    refine PW.pick (t := false) rfl rfl rfl rfl rfl rfl ?_
    refine PW.nil (SX.then (SC.cond (t := false) rfl (SC.skip (SX.then (SC.seq (SC.region ?_))))))
    refine PW.load rfl rfl rfl rfl rfl rfl ?_
    refine PW.store (x := .tmp 30) (r := .kw (KI (flq x))) rfl rfl rfl rfl rfl rfl sh_I ?_
    refine PW.nil (SX.then (SC.ret ?_))
    rw [show nrq x = _ from if_neg (fun h => h.elim n1 (fun h => n3 h.2))]
    exact SX.doneC (s := 2) (.inl rfl) rfl rfl rfl
  ·refine SC.region ?_
   refine PW.move rfl rfl rfl rfl rfl ?_
   refine PW.q2 (x := .tmp 17) (y := .const (.int .i64 0)) (.bool false) rfl rfl rfl rfl rfl (fun ρ W h1 h2 => by exact r_gt h1 h2 (decide_eq_false n1)) ?_
   refine PW.move rfl rfl rfl rfl rfl (PW.move rfl rfl rfl rfl rfl ?_)
   refine PW.q2 (x := .tmp 20) (y := .const (.int .i64 0)) (.bool false) rfl rfl rfl rfl rfl (fun ρ W h1 h2 => by exact r_eqF h1 h2 n2) ?_
   refine PW.move rfl rfl rfl rfl rfl ?_
   refine PW.skip rfl rfl rfl ?_
   refine PW.skip rfl rfl rfl ?_
   refine PW.pick (t := false) rfl rfl rfl rfl rfl rfl ?_
   refine PW.pick (t := false) rfl rfl rfl rfl rfl rfl ?_
   refine PW.nil (SX.then (SC.cond (t := false) rfl (SC.skip (SX.then (SC.seq (SC.region ?_))))))
   refine PW.load rfl rfl rfl rfl rfl rfl ?_
   refine PW.store (x := .tmp 30) (r := .kw (KI (flq x))) rfl rfl rfl rfl rfl rfl sh_I ?_
   refine PW.nil (SX.then (SC.ret ?_))
   rw [show nrq x = _ from if_neg (fun h => h.elim n1 (fun h => n2 h.1))]
   exact SX.doneC (s := 2) (.inl rfl) rfl rfl rfl
set_option maxHeartbeats 3200000 in
theorem trunc_c {x : Rat} {a : Nat} (X : bq a x) (ha : a ≤ 20000) {u : Value} {w : World} {p : Nat} (hu : (KQ (x).num (((x).den : Int) - 1)) u w) (hc : w.cell? ⟨p, 0, none⟩ = some (fv 135)) : Calls Tryz.prog 136 #[u, .pointer (some ⟨p, 0, none⟩)] w (Ret w (KI (trq x))) := by
 refine calls_sc (l := [.kw (KQ (x).num (((x).den : Int) - 1)), .vl (.pointer (some ⟨p, 0, none⟩))]) (us := [u, .pointer (some ⟨p, 0, none⟩)]) 12 Tryz.func136 rfl Tryz.ntmps136 (by simp) ⟨⟨hu, KQ.st _ _⟩, rfl, rfl, rfl, trivial⟩ ?_
 refine SC.seq (SC.region ?_)
 refine PW.box (x := .tmp 0) (r := .kw (KQ (x).num (((x).den : Int) - 1))) (BQ 38) rfl rfl rfl rfl rfl bQ rfl sh_Q ?_
 refine PW.alloc (BI 31) rfl rfl rfl rfl rfl bI ?_
 refine PW.nil (SX.then (SC.seq (SC.seq ?_)))
 by_cases hn : sgq x < 0
 ·refine SC.region ?_
  refine PW.load rfl rfl rfl rfl rfl rfl ?_
  refine PW.call (r := .vl (.int .i64 (sgq x))) rfl rfl rfl rfl rfl rfl (KV.st _) rfl (k_rsign) ?_
  refine PW.q2 (x := .tmp 5) (y := .const (.int .i64 0)) (.bool true) rfl rfl rfl rfl rfl (fun ρ W h1 h2 => by exact r_lt h1 h2 (decide_eq_true hn)) ?_
  refine PW.nil (SX.then (SC.cond (t := true) rfl (SC.seq (SC.region ?_))))
  refine PW.fload (T := 133) rfl rfl rfl rfl rfl rfl hc (fun W h => by go_simp) ?_
  refine PW.load rfl rfl rfl rfl rfl rfl ?_
  refine PW.callF (s := 7) (r := .kw (KI (clq x))) rfl rfl rfl rfl rfl rfl rfl (KI.st _) rfl (k_ceil X ha) ?_
  refine PW.store (x := .tmp 9) (r := .kw (KI (clq x))) rfl rfl rfl rfl rfl rfl sh_I ?_
  refine PW.nil (SX.then (SC.ret (SX.thenR ?_)))
  rw [show trq x = _ from if_pos hn]
  exact SX.doneC (s := 3) (.inl rfl) rfl rfl rfl
 ·refine SC.region ?_
  refine PW.load rfl rfl rfl rfl rfl rfl ?_
  refine PW.call (r := .vl (.int .i64 (sgq x))) rfl rfl rfl rfl rfl rfl (KV.st _) rfl (k_rsign) ?_
  refine PW.q2 (x := .tmp 5) (y := .const (.int .i64 0)) (.bool false) rfl rfl rfl rfl rfl (fun ρ W h1 h2 => by exact r_lt h1 h2 (decide_eq_false hn)) ?_
  refine PW.nil (SX.then (SC.cond (t := false) rfl (SC.skip (SX.then (SC.seq (SC.region ?_))))))
  refine PW.load rfl rfl rfl rfl rfl rfl ?_
  refine PW.call (r := .kw (KI (flq x))) rfl rfl rfl rfl rfl rfl (KI.st _) rfl (k_rfloor X (by omega)) ?_
  refine PW.store (x := .tmp 11) (r := .kw (KI (flq x))) rfl rfl rfl rfl rfl rfl sh_I ?_
  refine PW.nil (SX.then (SC.ret ?_))
  rw [show trq x = _ from if_neg hn]
  exact SX.doneC (s := 3) (.inl rfl) rfl rfl rfl
def fnv (way : Int) (p : Nat) : Value := if way = 0 then fv 131 else if way = 1 then fv 135 else if way = 2 then .func (.func 136) #[] #[.pointer (some ⟨p, 0, none⟩)] else fv 137
theorem r_index4 {x y : Operand} {dst : Option Tmp} {ty : TypeId} {pos : String} {after : Array Edge} {guard : Option (Nat × Bool)} {ρ : Operand → Value} {W : World} {p : Nat} {way : Int} (h1 : ρ x = four p) (h2 : ρ y = .int .i64 way) (hw0 : ¬ way < 0) (hw3 : ¬ way > 3) : (execOp ρ ⟨dst, .index 134 x y, ty, pos, after, guard⟩).run Tryz.prog W = .ok (.value (fnv way p)) W := by
 have hu := run_underlying Tryz.underlying134
 have e : ∀ j : Nat, j < 4 → (Instr.index 134 (four p) (.int .i64 (j : Int))).run Tryz.prog W = .ok (fnv (j : Int) p) W := fun j hj => by
  match j, hj with
  | 0, _ => simp [four, fnv, Instr.index, hu, asIntOf, go_sem]
  | 1, _ => simp [four, fnv, Instr.index, hu, asIntOf, go_sem]
  | 2, _ => simp [four, fnv, Instr.index, hu, asIntOf, go_sem]
  | 3, _ => simp [four, fnv, Instr.index, hu, asIntOf, go_sem]
 obtain ⟨j, rfl⟩ : ∃ j : Nat, way = (j : Int) := ⟨way.toNat, by omega⟩
 unfold execOp
 simp only [h1, h2]
 exact run_val (e j (by omega))
theorem fnv_call {x : Rat} {a : Nat} (X : bq a x) (ha : a ≤ 20000) {way : Int} (hw0 : ¬ way < 0) (hw3 : ¬ way > 3) {W : World} {b p : Nat} {u : Value} (hu : KQ (x).num (((x).den : Int) - 1) u W) (own : OwS W b 133 1 (.slice (some ⟨p, 0, none⟩) 1 1) 1 RF) :
  ∃ f caps, fnv way p = .func (.func f) #[] caps ∧ CE f ∧ Calls Tryz.prog f (#[u] ++ caps) W (Ret W (KI (rdq way x))) := by
 obtain rfl | rfl | rfl | rfl : way = 0 ∨ way = 1 ∨ way = 2 ∨ way = 3 := by omega
 ·have k := k_rfloor X (by omega)
  exact ⟨_, #[], rfl, k.1, k.2 W [u] ⟨hu, trivial⟩⟩
 ·have k := k_ceil X ha
  exact ⟨_, #[], rfl, k.1, k.2 W [u] ⟨hu, trivial⟩⟩
 ·obtain ⟨⟨xs, p1, p2⟩, _⟩ := own
  have hx : xs = [fv 135] := p2
  subst hx
  have hc := p1.cells (g := p) rfl 0 _ rfl
  have hc : W.cell? ⟨p, 0, none⟩ = some (fv 135) := hc
  exact ⟨_, #[.pointer (some ⟨p, 0, none⟩)], rfl, fun args W => by go_simp, trunc_c X ha hu hc⟩
 ·have k := k_near X ha
  exact ⟨_, #[], rfl, k.1, k.2 W [u] ⟨hu, trivial⟩⟩
def qes (way : Int) (z : Rat) (p : Nat) : List Eff := [.val 31 (.vl (four p)), .val 32 (.vl (.int .i64 (way))), .val 33 (.vl (fnv way p)), .val 34 (.kw (KQ (z).num (((z).den : Int) - 1))), .val 35 (.kw (KI (rdq way z))), .new 11 (BI 31)]
def qk (p : Nat) : AV := .rs (.slice (some ⟨p, 0, none⟩) 1 1) 133 1 1 RF
theorem twice_off {ops : Array Oper} {es : List Eff} (h : twiceB ops es = true) {L : Nat → Bool} (hD : Dn ops L) {i : Nat} {e : Eff} (he : es[i]? = some e) (hL : L i = false) : ∀ k e', i < k → es[k]? = some e' → e'.slot = e.slot → L k = false := fun k e' hik hk hsl => by
 cases hk2 : L k with
 | false => rfl
 | true => exact absurd ((hD k i hk2 (twice_spec h hik hk he hsl)).symm.trans hL) (by simp)
theorem step_see {B N : Nat} {w0 : World} {ops : Array Oper} {es : List Eff} {base : List (Nat × AV)} {i : Nat} {o : Oper} {e : Eff} {L : Nat → Bool} {Q : Exit → Act → World → Prop} (hi : ops[i]? = some o) (he : es[i]? = some e) (htw : twiceB ops es = true) (js ss : List Nat) (hsb : seeB ops es i js ss = true) (hE : Eo B N w0 ops o (see es base js ss) e) (hcal : e.isR = false) (hD : Dn ops L) (hL : L i = false) (hw : ∀ j, wt ops i j = true → L j = true)
  {a : Act} {W : World} (hf : Fr B N w0 (cur 0 es L base) a W) {K : Act → World → Prop} (hK : ∀ a' W', Fr B N w0 (cur 0 es (add L i) base) a' W' → K a' W') : wpOp Tryz.prog ops Q i K a W :=
 hE.step hi hf (see_spec hD hL hw js ss hsb) (fun hr => by rw [hcal] at hr; cases hr) fun a' W' hf' => hK a' W' (hf'.ext fun s => look_add he hL (twice_off htw hD he hL) s)
theorem callV {B N : Nat} {w0 : World} {ops : Array Oper} {o : Oper} {fr : List (Nat × AV)} {d s : Nat} {c : Call} {r : AV} (hw : wantB ops fr o = some true) (hd : o.dst = some d) (hN : Nat.blt d N = true) (ho : o.op = .call c) (hc : c.callee = .value (.tmp s)) (hst : St r.of) (hr : r.isBx = false)
  (h : ∀ a W, Fr B N w0 fr a W → ∃ f caps, a.tmps.getD s undef = .func (.func f) #[] caps ∧ CE f ∧ Calls Tryz.prog f (c.args.map a.eval ++ caps) W (Ret W r.of)) : Eo B N w0 ops o fr (.val d r) := by
 refine ⟨hd, hN, hr, fun a W hf => .inl ⟨wantB_spec hf hw, ?_⟩⟩
 obtain ⟨dst, op, ty, pos, after, guard⟩ := o
 simp only at ho
 subst ho
 unfold Rh.gives
 obtain ⟨f, caps, h1, h2, h3⟩ := h a W hf
 rw [run_callF h2 hc a.eval h1 ty W]
 exact Rh.gives_enter (h3.mono fun e W' ⟨v, he, hv, hn⟩ => ⟨v, he, hn, Ho.mk hr hv hst⟩)
set_option maxRecDepth 100000 in
theorem gives_rounded {o : Oper} {c : Call} (ho : o.op = .call c) (hc : c.callee = .value (.func 97)) (ha : c.args = #[]) (a : Act) (W : World) : Rh.gives Tryz.prog o a W fun u W' => Nw W W' ∧ ∃ p, u = four p ∧ OwS W' W.heap.size 133 1 (.slice (some ⟨p, 0, none⟩) 1 1) 1 RF := by
 obtain ⟨dst, op, ty, pos, after, guard⟩ := o
 simp only at ho
 subst ho
 unfold Rh.gives
 have ce : CE 97 := fun args W => by go_simp
 rw [run_call ce hc a.eval rfl ty W, ha, Array.map_empty]
 exact Rh.gives_enter (rounded_c.mono fun e W' ⟨v, he, hv, hn⟩ => ⟨v, he, hn, hv⟩)
theorem PW.go {B N : Nat} {w0 : World} {ops : Array Oper} {rest : List Oper} {fr : List (Nat × AV)} {Q : Exit → Act → World → Prop} {a : Act} {W : World} (hf : Fr B N w0 fr a W) (h : PW B N w0 ops rest fr Q) : wpList Tryz.prog ops Q rest a W := h a W hf
theorem ce_k_rquo : CE 45 := fun args W => by go_simp
set_option maxHeartbeats 6400000 in
set_option maxRecDepth 100000 in
theorem k_rquo {x y : Rat} {way : Int} {a b : Nat} (X : bq a x) (Y : bq b y) (ha : a ≤ 1000) (hb : b ≤ 1000) : CallOk 45 [KQ (x).num (((x).den : Int) - 1), KV (.int .i64 (way)), KQ (y).num (((y).den : Int) - 1)] (KQt way x y) := by
 refine CallOk.enter (l := [.kw (KQ (x).num (((x).den : Int) - 1)), .vl (.int .i64 (way)), .kw (KQ (y).num (((y).den : Int) - 1))]) 43 ce_k_rquo Tryz.func45 rfl Tryz.ntmps45 (by simp) ⟨(KQ.st _ _), rfl, (KV.st _), rfl, (KQ.st _ _), rfl, trivial⟩ fun w => ?_
 refine SC.seq (SC.region ?_)
 refine PW.box (x := .tmp 0) (r := .kw (KQ (x).num (((x).den : Int) - 1))) (BQ 38) rfl rfl rfl rfl rfl bQ rfl sh_Q ?_
 refine PW.box (x := .tmp 2) (r := .kw (KQ (y).num (((y).den : Int) - 1))) (BQ 38) rfl rfl rfl rfl rfl bQ rfl sh_Q ?_
 refine PW.alloc (BI 31) rfl rfl rfl rfl rfl bI ?_
 refine PW.alloc (BQ 38) rfl rfl rfl rfl rfl bQ ?_
 refine PW.assign rfl rfl rfl rfl rfl (PW.nil (SX.then (SC.seq (SC.seq ?_))))
 by_cases w0 : way < 0
 ·refine SC.region ?_
  refine PW.move rfl rfl rfl rfl rfl ?_
  refine PW.q2 (x := .tmp 12) (y := .const (.int .i64 0)) (.bool true) rfl rfl rfl rfl rfl (fun ρ W h1 h2 => by exact r_lt h1 h2 (decide_eq_true (by omega))) ?_
  refine PW.move rfl rfl rfl rfl rfl ?_
  refine PW.skip rfl rfl rfl ?_
  refine PW.skip rfl rfl rfl ?_
  refine PW.pick (t := true) rfl rfl rfl rfl rfl rfl ?_
  refine PW.nil (SX.then (SC.cond (t := true) rfl (SC.seq (SC.region ?_))))
  refine PW.val (r := .kw (KI (0))) rfl rfl rfl rfl (fun a W hf => ⟨.agg #[.bool false, .slice none 0 0], by go_simp, zeroI _ w W⟩) ?_
  refine PW.val (r := .kw (KQ (0) (0))) rfl rfl rfl rfl (fun a W hf => ⟨_, r_bldQ0, zeroQ W, KQ.st _ _⟩) ?_
  refine PW.store (x := .tmp 18) (r := .kw (KI (0))) rfl rfl rfl rfl rfl rfl sh_I ?_
  refine PW.store (x := .tmp 19) (r := .kw (KQ (0) (0))) rfl rfl rfl rfl rfl rfl sh_Q ?_
  refine PW.assign rfl rfl rfl rfl rfl (PW.nil (SX.then (SC.ret (SX.thenR ?_))))
  rw [KQt_bad (.inl w0)]
  exact SX.done3 (s := 6) (s' := 7) (t := 8) (r := .vl (.int .i64 1)) (.inl rfl) rfl rfl rfl rfl rfl
 ·by_cases w3 : way > 3
  ·refine SC.region ?_
   refine PW.move rfl rfl rfl rfl rfl ?_
   refine PW.q2 (x := .tmp 12) (y := .const (.int .i64 0)) (.bool false) rfl rfl rfl rfl rfl (fun ρ W h1 h2 => by exact r_lt h1 h2 (decide_eq_false (by omega))) ?_
   refine PW.move rfl rfl rfl rfl rfl (PW.move rfl rfl rfl rfl rfl ?_)
   refine PW.q2 (x := .tmp 15) (y := .const (.int .i64 3)) (.bool true) rfl rfl rfl rfl rfl (fun ρ W h1 h2 => by exact r_gt h1 h2 (decide_eq_true (by omega))) ?_
   refine PW.pick (t := false) rfl rfl rfl rfl rfl rfl ?_
   refine PW.nil (SX.then (SC.cond (t := true) rfl (SC.seq (SC.region ?_))))
   refine PW.val (r := .kw (KI (0))) rfl rfl rfl rfl (fun a W hf => ⟨.agg #[.bool false, .slice none 0 0], by go_simp, zeroI _ w W⟩) ?_
   refine PW.val (r := .kw (KQ (0) (0))) rfl rfl rfl rfl (fun a W hf => ⟨_, r_bldQ0, zeroQ W, KQ.st _ _⟩) ?_
   refine PW.store (x := .tmp 18) (r := .kw (KI (0))) rfl rfl rfl rfl rfl rfl sh_I ?_
   refine PW.store (x := .tmp 19) (r := .kw (KQ (0) (0))) rfl rfl rfl rfl rfl rfl sh_Q ?_
   refine PW.assign rfl rfl rfl rfl rfl (PW.nil (SX.then (SC.ret (SX.thenR ?_))))
   rw [KQt_bad (.inr w3)]
   exact SX.done3 (s := 6) (s' := 7) (t := 8) (r := .vl (.int .i64 1)) (.inl rfl) rfl rfl rfl rfl rfl
  ·refine SC.region ?_
   refine PW.move rfl rfl rfl rfl rfl ?_
   refine PW.q2 (x := .tmp 12) (y := .const (.int .i64 0)) (.bool false) rfl rfl rfl rfl rfl (fun ρ W h1 h2 => by exact r_lt h1 h2 (decide_eq_false (by omega))) ?_
   refine PW.move rfl rfl rfl rfl rfl (PW.move rfl rfl rfl rfl rfl ?_)
   refine PW.q2 (x := .tmp 15) (y := .const (.int .i64 3)) (.bool false) rfl rfl rfl rfl rfl (fun ρ W h1 h2 => by exact r_gt h1 h2 (decide_eq_false (by omega))) ?_
   refine PW.pick (t := false) rfl rfl rfl rfl rfl rfl ?_
   refine PW.nil (SX.then (SC.cond (t := false) rfl (SC.skip (SX.then (SC.seq ?_)))))
   by_cases h0 : y ≠ 0
   ·refine SC.region ?_
    refine PW.load rfl rfl rfl rfl rfl rfl ?_
    refine PW.load rfl rfl rfl rfl rfl rfl ?_
    refine PW.call (r := .kw (K2 (KQ (x / y).num (((x / y).den : Int) - 1)) (KV (.int .i64 0)))) rfl rfl rfl rfl rfl rfl (K2.st (KQ.st _ _) (KV.st _)) rfl (k_rdiv X Y (by omega) (by omega) h0) ?_
    refine PW.move rfl rfl rfl rfl rfl ?_
    refine PW.ext (r := .kw (KQ (x / y).num (((x / y).den : Int) - 1))) rfl rfl rfl rfl rfl ex20 (KQ.st _ _) rfl ?_
    refine PW.ext (r := .vl (.int .i64 0)) rfl rfl rfl rfl rfl ex21v (KV.st _) rfl ?_
    refine PW.alloc (BQ 38) rfl rfl rfl rfl rfl bQ ?_
    refine PW.store (x := .tmp 24) (r := .kw (KQ (x / y).num (((x / y).den : Int) - 1))) rfl rfl rfl rfl rfl rfl sh_Q ?_
    refine PW.assign rfl rfl rfl rfl rfl (PW.nil (SX.then (SC.seq (SC.seq (SC.region (PW.move rfl rfl rfl rfl rfl ?_))))))
    refine PW.q2 (x := .tmp 26) (y := .const (.int .i64 0)) (.bool false) rfl rfl rfl rfl rfl (fun ρ W h1 h2 => by go_simp) ?_
    refine PW.nil (SX.then (SC.cond (t := false) rfl (SC.skip (SX.then (SC.seq ?_)))))
    refine SC.keep [(1, .vl (.int .i64 (way))), (3, .bx (BQ 38) (KQ (x).num (((x).den : Int) - 1))), (5, .bx (BQ 38) (KQ (y).num (((y).den : Int) - 1))), (6, .nb (BI 31)), (7, .nb (BQ 38)), (8, .vl (.int .i64 0)), (9, .bx (BQ 38) (KQ (x / y).num (((x / y).den : Int) - 1)))] ⟨rfl, rfl, rfl, rfl, rfl, rfl, rfl, trivial⟩ ?_
    refine SC.inv 6 (fun L a W => ∃ p, Fr w.heap.size 43 w (cur 0 (qes way (x / y) p) L (bif L 0 then (43, qk p) :: [(1, .vl (.int .i64 (way))), (3, .bx (BQ 38) (KQ (x).num (((x).den : Int) - 1))), (5, .bx (BQ 38) (KQ (y).num (((y).den : Int) - 1))), (6, .nb (BI 31)), (7, .nb (BQ 38)), (8, .vl (.int .i64 0)), (9, .bx (BQ 38) (KQ (x / y).num (((x / y).den : Int) - 1)))] else [(1, .vl (.int .i64 (way))), (3, .bx (BQ 38) (KQ (x).num (((x).den : Int) - 1))), (5, .bx (BQ 38) (KQ (y).num (((y).den : Int) - 1))), (6, .nb (BI 31)), (7, .nb (BQ 38)), (8, .vl (.int .i64 0)), (9, .bx (BQ 38) (KQ (x / y).num (((x / y).den : Int) - 1)))])) a W) rfl (by kernel_rfl) (by kernel_rfl) ?_ ?_ ?_ ?_
    ·exact fun a W hf => ⟨0, hf⟩
    ·intro L L' a W e hI
     obtain rfl : L = L' := funext e
     exact hI
    ·intro i o hi ho L a W hD hL hw hI K hK
     obtain ⟨p, hf⟩ := hI
     obtain rfl | rfl | rfl | rfl | rfl | rfl : i = 0 ∨ i = 1 ∨ i = 2 ∨ i = 3 ∨ i = 4 ∨ i = 5 := by omega
     ·have h2 : L 2 = false := by
       cases h : L 2 with
       | false => rfl
       | true => exact absurd (hD 2 0 h (by kernel_rfl)) (by rw [hL]; decide)
      rw [hL] at hf
      simp only [cond_false] at hf
      have e1 : ∀ p', cur 0 (qes way (x / y) p) L [(1, .vl (.int .i64 (way))), (3, .bx (BQ 38) (KQ (x).num (((x).den : Int) - 1))), (5, .bx (BQ 38) (KQ (y).num (((y).den : Int) - 1))), (6, .nb (BI 31)), (7, .nb (BQ 38)), (8, .vl (.int .i64 0)), (9, .bx (BQ 38) (KQ (x / y).num (((x / y).den : Int) - 1)))] = cur 0 (qes way (x / y) p') L [(1, .vl (.int .i64 (way))), (3, .bx (BQ 38) (KQ (x).num (((x).den : Int) - 1))), (5, .bx (BQ 38) (KQ (y).num (((y).den : Int) - 1))), (6, .nb (BI 31)), (7, .nb (BQ 38)), (8, .vl (.int .i64 0)), (9, .bx (BQ 38) (KQ (x / y).num (((x / y).den : Int) - 1)))] := fun p' => by
       simp only [qes, cur, hL, h2, Nat.zero_add, Nat.reduceAdd, Bool.false_eq_true, if_false]
      unfold wpOp
      rw [ho]
      simp only []
      injection ho with ho
      subst ho
      rw [if_pos (by rfl)]
      refine .inl (Rh.gives_wp (fun u W' hu => ?_) (gives_rounded rfl rfl rfl a W))
      obtain ⟨hn, p', rfl, own⟩ := hu
      refine hK _ _ ⟨p', ?_⟩
      have hf1 : Fr w.heap.size 43 w (cur 0 (qes way (x / y) p') L [(1, .vl (.int .i64 (way))), (3, .bx (BQ 38) (KQ (x).num (((x).den : Int) - 1))), (5, .bx (BQ 38) (KQ (y).num (((y).den : Int) - 1))), (6, .nb (BI 31)), (7, .nb (BQ 38)), (8, .vl (.int .i64 0)), (9, .bx (BQ 38) (KQ (x / y).num (((x / y).den : Int) - 1)))]) a W := e1 p' ▸ hf
      have hf2 := hf1.srow (K := 43) hn (fun g hg => own.base g hg) (own.weaken hf1.bs)
      have hf3 := hf2.set (d := 31) (v := .vl (four p')) rfl (u := four p') rfl rfl
      refine hf3.ext fun s => ?_
      show look (cur 0 (qes way (x / y) p') (add L 0) ((43, qk p') :: [(1, .vl (.int .i64 (way))), (3, .bx (BQ 38) (KQ (x).num (((x).den : Int) - 1))), (5, .bx (BQ 38) (KQ (y).num (((y).den : Int) - 1))), (6, .nb (BI 31)), (7, .nb (BQ 38)), (8, .vl (.int .i64 0)), (9, .bx (BQ 38) (KQ (x / y).num (((x / y).den : Int) - 1)))])) s = _
      rw [look_add (es := qes way (x / y) p') (i := 0) (e := .val 31 (.vl (four p'))) rfl hL (twice_off (by kernel_rfl) hD rfl hL) s]
      show look ((31, .vl (four p')) :: cur 0 (qes way (x / y) p') L ((43, qk p') :: [(1, .vl (.int .i64 (way))), (3, .bx (BQ 38) (KQ (x).num (((x).den : Int) - 1))), (5, .bx (BQ 38) (KQ (y).num (((y).den : Int) - 1))), (6, .nb (BI 31)), (7, .nb (BQ 38)), (8, .vl (.int .i64 0)), (9, .bx (BQ 38) (KQ (x / y).num (((x / y).den : Int) - 1)))])) s = _
      rw [look_cons, look_cons, look_cur_base _ _ _ (by intro e he; simp only [qes, List.mem_cons, List.not_mem_nil, or_false] at he; rcases he with rfl | rfl | rfl | rfl | rfl | rfl <;> simp [Eff.slot]) s]
      rfl
     ·injection ho with ho
      subst ho
      cases hL0 : L 0 with
      | false => rw [hL0] at hf; simp only [cond_false, cond_true] at hf; exact step_see (i := 1) rfl (es := qes way (x / y) p) rfl (by kernel_rfl) [] [1] (by kernel_rfl) (by exact DX.move rfl rfl rfl rfl rfl rfl) rfl hD hL hw hf fun a' W' h => hK _ _ ⟨p, by rw [show add L 1 0 = L 0 from rfl, hL0]; exact h⟩
      | true => rw [hL0] at hf; simp only [cond_false, cond_true] at hf; exact step_see (i := 1) rfl (es := qes way (x / y) p) rfl (by kernel_rfl) [] [1] (by kernel_rfl) (by exact DX.move rfl rfl rfl rfl rfl rfl) rfl hD hL hw hf fun a' W' h => hK _ _ ⟨p, by rw [show add L 1 0 = L 0 from rfl, hL0]; exact h⟩
     ·injection ho with ho
      subst ho
      have hL0 : L 0 = true := hw 0 (by kernel_rfl)
      rw [hL0] at hf
      simp only [cond_true] at hf
      exact step_see (i := 2) rfl (es := qes way (x / y) p) rfl (by kernel_rfl) [0, 1] [] (by kernel_rfl) (by exact DX.q2 (x := .tmp 31) (y := .tmp 32) (fnv way p) rfl rfl rfl rfl rfl (fun ρ W h1 h2 => r_index4 h1 h2 w0 w3)) rfl hD hL hw hf fun a' W' h => hK _ _ ⟨p, by rw [show add L 2 0 = L 0 from rfl, hL0]; exact h⟩
     ·injection ho with ho
      subst ho
      cases hL0 : L 0 with
      | false => rw [hL0] at hf; simp only [cond_false, cond_true] at hf; exact step_see (i := 3) rfl (es := qes way (x / y) p) rfl (by kernel_rfl) [] [9] (by kernel_rfl) (by exact DX.load rfl rfl rfl rfl rfl rfl) rfl hD hL hw hf fun a' W' h => hK _ _ ⟨p, by rw [show add L 3 0 = L 0 from rfl, hL0]; exact h⟩
      | true => rw [hL0] at hf; simp only [cond_false, cond_true] at hf; exact step_see (i := 3) rfl (es := qes way (x / y) p) rfl (by kernel_rfl) [] [9] (by kernel_rfl) (by exact DX.load rfl rfl rfl rfl rfl rfl) rfl hD hL hw hf fun a' W' h => hK _ _ ⟨p, by rw [show add L 3 0 = L 0 from rfl, hL0]; exact h⟩
     ·injection ho with ho
      subst ho
      have hL0 : L 0 = true := hw 0 (by kernel_rfl)
      rw [hL0] at hf
      simp only [cond_true] at hf
      refine step_see (i := 4) rfl (es := qes way (x / y) p) rfl (by kernel_rfl) [2, 3] [43] (by kernel_rfl) (callV (s := 33) (r := .kw (KI (rdq way (x / y)))) rfl rfl rfl rfl rfl (KI.st _) rfl (fun a W hf => ?_)) rfl hD hL hw hf fun a' W' h => hK _ _ ⟨p, by rw [show add L 4 0 = L 0 from rfl, hL0]; exact h⟩
      have e33 : a.tmps.getD 33 undef = fnv way p := hf.ho 33 _ rfl
      have e34 : KQ ((x / y)).num ((((x / y)).den : Int) - 1) (a.tmps.getD 34 undef) W := (hf.ho 34 (.kw (KQ ((x / y)).num ((((x / y)).den : Int) - 1))) rfl).1
      have own : OwS W w.heap.size 133 1 (.slice (some ⟨p, 0, none⟩) 1 1) 1 RF := hf.ho 43 (qk p) rfl
      obtain ⟨f, caps, q1, q2, q3⟩ := fnv_call (X.div Y h0) (by omega) w0 w3 e34 own
      refine ⟨f, caps, e33.trans q1, q2, ?_⟩
      show Calls Tryz.prog f (Array.map a.eval #[.tmp 34] ++ caps) W _
      rw [List.map_toArray]
      exact q3
     ·injection ho with ho
      subst ho
      cases hL0 : L 0 with
      | false => rw [hL0] at hf; simp only [cond_false, cond_true] at hf; exact step_see (i := 5) rfl (es := qes way (x / y) p) rfl (by kernel_rfl) [] [] (by kernel_rfl) (by exact DX.alloc (BI 31) rfl rfl rfl rfl bI rfl) rfl hD hL hw hf fun a' W' h => hK _ _ ⟨p, by rw [show add L 5 0 = L 0 from rfl, hL0]; exact h⟩
      | true => rw [hL0] at hf; simp only [cond_false, cond_true] at hf; exact step_see (i := 5) rfl (es := qes way (x / y) p) rfl (by kernel_rfl) [] [] (by kernel_rfl) (by exact DX.alloc (BI 31) rfl rfl rfl rfl bI rfl) rfl hD hL hw hf fun a' W' h => hK _ _ ⟨p, by rw [show add L 5 0 = L 0 from rfl, hL0]; exact h⟩
    intro L a W hall hI
    obtain ⟨p, hf⟩ := hI
    rw [hall 0 (by decide), cur_all _ 0 _ (fun k _ hk => hall k (by simpa [qes] using hk))] at hf
    refine PW.go hf ?_
    refine PW.keep [(1, .vl (.int .i64 (way))), (3, .bx (BQ 38) (KQ (x).num (((x).den : Int) - 1))), (5, .bx (BQ 38) (KQ (y).num (((y).den : Int) - 1))), (6, .nb (BI 31)), (7, .nb (BQ 38)), (8, .vl (.int .i64 0)), (9, .bx (BQ 38) (KQ (x / y).num (((x / y).den : Int) - 1))), (11, .nb (BI 31)), (35, .kw (KI (rdq way (x / y))))] ⟨rfl, rfl, rfl, rfl, rfl, rfl, rfl, rfl, rfl, trivial⟩ ?_
    refine PW.store (x := .tmp 35) (r := .kw (KI (rdq way (x / y)))) rfl rfl rfl rfl rfl rfl sh_I ?_
    refine PW.nil (SX.then (SC.seq ?_))
    refine SC.dx [.val 36 (.kw (KI (rdq way (x / y)))), .val 37 (.kw (KQ (x).num (((x).den : Int) - 1))), .val 38 (.kw (KQ (y).num (((y).den : Int) - 1))), .val 39 (.kw (KI (rdq way (x / y)))), .val 40 (.kw (KQ (((rdq way (x / y) : Int) : Rat)).num (((((rdq way (x / y) : Int) : Rat)).den : Int) - 1))), .val 41 (.kw (KQ (y * (((rdq way (x / y) : Int) : Rat))).num (((y * (((rdq way (x / y) : Int) : Rat))).den : Int) - 1))), .val 42 (.kw (KQ (x - (y * (((rdq way (x / y) : Int) : Rat)))).num (((x - (y * (((rdq way (x / y) : Int) : Rat)))).den : Int) - 1))), .put 6 (BI 31) (.kw (KI (rdq way (x / y)))), .put 7 (BQ 38) (.kw (KQ (x - (y * (((rdq way (x / y) : Int) : Rat)))).num (((x - (y * (((rdq way (x / y) : Int) : Rat)))).den : Int) - 1))), .val 8 (.vl (.int .i64 0))] [([], [11]), ([], [3]), ([], [5]), ([], [11]), ([3], []), ([2, 4], []), ([1, 5], []), ([0], [6]), ([6], [7]), ([], [])] rfl (by kernel_rfl) (by kernel_rfl) (by kernel_rfl) rfl ⟨?_, ?_, ?_, ?_, ?_, ?_, ?_, ?_, ?_, ?_, trivial⟩ ?_
    ·exact DX.load rfl rfl rfl rfl rfl rfl
    ·exact DX.load rfl rfl rfl rfl rfl rfl
    ·exact DX.load rfl rfl rfl rfl rfl rfl
    ·exact DX.load rfl rfl rfl rfl rfl rfl
    ·exact DX.call (r := .kw (KQ (((rdq way (x / y) : Int) : Rat)).num (((((rdq way (x / y) : Int) : Rat)).den : Int) - 1))) rfl rfl rfl rfl rfl rfl (KQ.st _ _) rfl (k_rof)
    ·exact DX.call (r := .kw (KQ (y * (((rdq way (x / y) : Int) : Rat))).num (((y * (((rdq way (x / y) : Int) : Rat))).den : Int) - 1))) rfl rfl rfl rfl rfl rfl (KQ.st _ _) rfl (k_rmul Y (bq.int1 ((bq.rd (X.div Y h0)))) (by omega) (by omega))
    ·exact DX.call (r := .kw (KQ (x - (y * (((rdq way (x / y) : Int) : Rat)))).num (((x - (y * (((rdq way (x / y) : Int) : Rat)))).den : Int) - 1))) rfl rfl rfl rfl rfl rfl (KQ.st _ _) rfl (k_rsub X (Y.mul (bq.int1 ((bq.rd (X.div Y h0))))) (by omega) (by omega))
    ·exact DX.store (x := .tmp 36) (r := .kw (KI (rdq way (x / y)))) rfl rfl rfl rfl rfl rfl sh_I
    ·exact DX.store (x := .tmp 42) (r := .kw (KQ (x - (y * (((rdq way (x / y) : Int) : Rat)))).num (((x - (y * (((rdq way (x / y) : Int) : Rat)))).den : Int) - 1))) rfl rfl rfl rfl rfl rfl sh_Q
    ·exact DX.assign rfl rfl rfl rfl rfl rfl
    refine SX.then (SC.ret ?_)
    rw [KQt_ok w0 w3 h0]
    exact SX.done3 (s := 6) (s' := 7) (t := 8) (r := .vl (.int .i64 0)) (.inl rfl) rfl rfl rfl rfl rfl
   ·have h0 : y = 0 := Classical.not_not.1 h0
    refine SC.region ?_
    refine PW.load rfl rfl rfl rfl rfl rfl ?_
    refine PW.load rfl rfl rfl rfl rfl rfl ?_
    refine PW.call (r := .kw (K2 (KQ (((0 : Int) : Rat)).num (((((0 : Int) : Rat)).den : Int) - 1)) (KV (.int .i64 6)))) rfl rfl rfl rfl rfl rfl (K2.st (KQ.st _ _) (KV.st _)) rfl (callK (k_rdiv0 (x := x) h0) rfl) ?_
    refine PW.move rfl rfl rfl rfl rfl ?_
    refine PW.ext (r := .kw (KQ (((0 : Int) : Rat)).num (((((0 : Int) : Rat)).den : Int) - 1))) rfl rfl rfl rfl rfl ex20 (KQ.st _ _) rfl ?_
    refine PW.ext (r := .vl (.int .i64 6)) rfl rfl rfl rfl rfl ex21v (KV.st _) rfl ?_
    refine PW.alloc (BQ 38) rfl rfl rfl rfl rfl bQ ?_
    refine PW.store (x := .tmp 24) (r := .kw (KQ (((0 : Int) : Rat)).num (((((0 : Int) : Rat)).den : Int) - 1))) rfl rfl rfl rfl rfl rfl sh_Q ?_
    refine PW.assign rfl rfl rfl rfl rfl (PW.nil (SX.then (SC.seq (SC.seq (SC.region (PW.move rfl rfl rfl rfl rfl ?_))))))
    refine PW.q2 (x := .tmp 26) (y := .const (.int .i64 0)) (.bool true) rfl rfl rfl rfl rfl (fun ρ W h1 h2 => by go_simp) ?_
    refine PW.nil (SX.then (SC.cond (t := true) rfl (SC.seq (SC.region ?_))))
    refine PW.val (r := .kw (KI (0))) rfl rfl rfl rfl (fun a W hf => ⟨.agg #[.bool false, .slice none 0 0], by go_simp, zeroI _ w W⟩) ?_
    refine PW.val (r := .kw (KQ (0) (0))) rfl rfl rfl rfl (fun a W hf => ⟨_, r_bldQ0, zeroQ W, KQ.st _ _⟩) ?_
    refine PW.move rfl rfl rfl rfl rfl ?_
    refine PW.store (x := .tmp 28) (r := .kw (KI (0))) rfl rfl rfl rfl rfl rfl sh_I ?_
    refine PW.store (x := .tmp 29) (r := .kw (KQ (0) (0))) rfl rfl rfl rfl rfl rfl sh_Q ?_
    refine PW.assign rfl rfl rfl rfl rfl (PW.nil (SX.then (SC.ret (SX.thenR ?_))))
    rw [KQt_zero w0 w3 h0]
    exact SX.done3 (s := 6) (s' := 7) (t := 8) (r := .vl (.int .i64 6)) (.inl rfl) rfl rfl rfl rfl rfl
end Go.Proofs.YthpjmhhfcechmaaGreat.Sy
/- Quotient of fractions, both sides: one contract, whatever comes in. -/
namespace Go.Proofs.YthpjmhhfcechmaaGreat.Sy
open Go Go.RowKit Ma
end Go.Proofs.YthpjmhhfcechmaaGreat.Sy
/- A walk by rules: an array of the program's integers, as a row of the call's own. -/
namespace Go.Proofs.YthpjmhhfcechmaaGreat.Sy
open Go Go.RowKit Ma
theorem NoI.set {v : Value} {w : World} (h : NoI v w) {a : Addr} {u : Value} (hu : notInt u) : NoI v (w.setCell a u) := fun g hg => by
 obtain ⟨cur, t, fz, h1, h2⟩ := h g hg
 by_cases e : g = a.block
 ·subst e
  refine ⟨if a.spot.isSome then cur else cur.setIfInBounds a.off u, t, fz, ?_, fun x hx => ?_⟩
  ·simp only [World.setCell, Array.getElem?_modify]
   rw [if_pos trivial, h1]
   rfl
  ·by_cases hs : a.spot.isSome = true
   ·rw [if_pos hs] at hx; exact h2 x hx
   ·rw [if_neg hs, Array.toList_setIfInBounds] at hx
    rcases List.mem_or_eq_of_mem_set hx with hx | rfl
    ·exact h2 x hx
    ·exact hu
 ·exact ⟨cur, t, fz, (Below.heap_setCell w a u g e).trans h1, h2⟩
theorem flat_set : ∀ (rs : List Nn) (i : Nat) (m : Bool) (A : Option Addr) (l c : Nat), ((flat rs).set (i * 2) (.bool m)).set (i * 2 + 1) (.slice A l c) = flat (rs.set i (m, A, l, c))
 | [], i, m, A, l, c => by simp [flat]
 | x :: rs, 0, m, A, l, c => by simp [flat]
 | x :: rs, i + 1, m, A, l, c => by
  have := flat_set rs i m A l c
  rw [show (i + 1) * 2 = i * 2 + 1 + 1 by omega]
  simp only [flat, List.flatMap_cons, List.cons_append, List.nil_append, List.set_cons_succ] at this ⊢
  rw [this]
theorem RsI.set {zs : List Int} {rs : List Nn} {w : World} (h : Rs w rs zs) {i : Nat} (hi : i < zs.length) {m : Bool} {A : Option Addr} {l c : Nat} {z : Int} (hz : RI w m A l c z) : Rs w (rs.set i (m, A, l, c)) (zs.set i z) := by
 refine ⟨by simp [h.1], fun j n B k d e => ?_⟩
 have hl := h.1
 by_cases hij : i = j
 ·subst hij
  rw [List.getElem?_set_self (by omega)] at e
  injection e with e
  injection e with e1 e
  injection e with e2 e
  injection e with e3 e4
  subst e1 e2 e3 e4
  rw [at0, List.getD_eq_getElem?_getD, List.getElem?_set_self hi]
  exact hz
 ·rw [List.getElem?_set_ne hij] at e
  have := h.2 j n B k d e
  rwa [at0, List.getD_eq_getElem?_getD, List.getElem?_set_ne hij, ← List.getD_eq_getElem?_getD]
section
variable {B N : Nat} {w0 : World} {ops : Array Oper} {o : Oper} {rest : List Oper} {fr : List (Nat × AV)} {Q : Exit → Act → World → Prop} {d : Nat}
theorem OwS.four (W : World) : OwS (W.alloc (.cells #[.bool false, .slice none 0 0, .bool false, .slice none 0 0, .bool false, .slice none 0 0, .bool false, .slice none 0 0] 78)) W.heap.size 78 2 (.slice (some ⟨W.heap.size, 0, none⟩) 4 4) 4 (RsI [0, 0, 0, 0]) := by
 refine ⟨⟨[.bool false, .slice none 0 0, .bool false, .slice none 0 0, .bool false, .slice none 0 0, .bool false, .slice none 0 0], ⟨by simp, .inr ⟨W.heap.size, 4, _, rfl, Nat.le_refl _, heap_alloc_new W _, Nat.le_refl _, by unfold maxLen; omega, by simp, by simp⟩⟩, [(false, none, 0, 0), (false, none, 0, 0), (false, none, 0, 0), (false, none, 0, 0)], rfl, rfl, fun i n' A' l' c' e => ?_⟩, ?_, RsI.st _⟩
 ·match i, e with
  | 0, e => simp at e; obtain ⟨rfl, rfl, rfl, rfl⟩ := e; exact RI.zero _
  | 1, e => simp at e; obtain ⟨rfl, rfl, rfl, rfl⟩ := e; exact RI.zero _
  | 2, e => simp at e; obtain ⟨rfl, rfl, rfl, rfl⟩ := e; exact RI.zero _
  | 3, e => simp at e; obtain ⟨rfl, rfl, rfl, rfl⟩ := e; exact RI.zero _
  | i + 4, e => simp at e
 ·intro g hg
  injection hg with hg
  subst hg
  refine ⟨_, _, _, heap_alloc_new W _, fun u hu => ?_⟩
  have : u = .bool false ∨ u = .slice none 0 0 := by
   simp at hu
   rcases hu with h | h | h | h | h | h | h | h
   ·exact .inl h
   ·exact .inr h
   ·exact .inl h
   ·exact .inr h
   ·exact .inl h
   ·exact .inr h
   ·exact .inl h
   ·exact .inr h
  rcases this with rfl | rfl
  ·exact fun k x => by simp
  ·exact fun k x => by simp
theorem PW.allocA (K : Nat) (hw : wantB ops fr o = some true) (hd : o.dst = some d) (hN : Nat.blt d N = true)
  (hr : ∀ (ρ : Operand → Value) (W : World), (execOp ρ o).run Tryz.prog W = .ok (.value (ptr W.heap.size)) (W.alloc (.cells #[.bool false, .slice none 0 0, .bool false, .slice none 0 0, .bool false, .slice none 0 0, .bool false, .slice none 0 0] 78)))
  (hk : ∀ g, PW B N w0 ops rest ((K, .rs (.slice (some ⟨g, 0, none⟩) 4 4) 78 2 4 (RsI [0, 0, 0, 0])) :: (d, .vl (.pointer (some ⟨g, 0, none⟩))) :: fr) Q) : PW B N w0 ops (o :: rest) fr Q :=
 PW.step hw fun a W hf K' hK' => by
  unfold Oper.wp
  rw [hr a.eval W, Oper.upon_value, hd]
  have hf1 := hf.set (v := .vl (ptr W.heap.size)) hN (u := ptr W.heap.size) rfl rfl
  exact hK' _ _ (hk W.heap.size _ _ (hf1.srow ((Nw.refl W).alloc _) (fun g hg => by injection hg with hg; rw [← hg]; exact Nat.le_refl _) (OwS.weaken (OwS.four W) hf.bs)))
theorem PW.sts {T et : TypeId} {K s g c i n : Nat} {x : Operand} {zs : List Int} {z : Int} (hw : wantB ops fr o = some true) (hd : o.dst = none) (ho : o.op = .store T (.tmp s) x) (hs : look fr s = some (.vl (.pointer (some ⟨g, i * 2, none⟩)))) (hK : look fr K = some (.rs (.slice (some ⟨g, 0, none⟩) n c) et 2 n (RsI zs))) (hi : i < zs.length) (hx : opv fr x = some (.kw (KI z)))
  (hst : ∀ (W : World) (m : Bool) (A : Option Addr) (l c : Nat) (m0 : Bool) (A0 : Option Addr) (l0 c0 : Nat), W.cell? ⟨g, i * 2, none⟩ = some (.bool m0) → W.cell? ⟨g, i * 2 + 1, none⟩ = some (.slice A0 l0 c0) → W.frozen? ⟨g, i * 2, none⟩ = false → W.frozen? ⟨g, i * 2 + 1, none⟩ = false → (Instr.storeAt T (.pointer (some ⟨g, i * 2, none⟩)) (.agg #[.bool m, .slice A l c])).run Tryz.prog W = .ok () ((W.setCell ⟨g, i * 2, none⟩ (.bool m)).setCell ⟨g, i * 2 + 1, none⟩ (.slice A l c)))
  (hk : PW B N w0 ops rest ((K, .rs (.slice (some ⟨g, 0, none⟩) n c) et 2 n (RsI (zs.set i z))) :: fr) Q) : PW B N w0 ops (o :: rest) fr Q :=
 PW.step hw fun a W hf K' hK' => by
  have h1 : a.tmps.getD s undef = .pointer (some ⟨g, i * 2, none⟩) := hf.ho s _ hs
  have own : OwS W B et 2 (.slice (some ⟨g, 0, none⟩) n c) n (RsI zs) := hf.ho K _ hK
  obtain ⟨⟨m, A, l, c', e1, hz⟩, _⟩ := (opv_spec hf hx).1
  obtain ⟨⟨xs, p1, rs, rfl, hr⟩, p3, p4⟩ := own
  have hcells : ∀ j u, (flat rs)[j]? = some u → W.cell? ((⟨g, 0, none⟩ : Addr).add j) = some u := p1.cells (g := g) rfl
  have hl := hr.1
  obtain ⟨⟨m0, A0, l0, c0⟩, he⟩ : ∃ x, rs[i]? = some x := ⟨_, List.getElem?_eq_getElem (by omega)⟩
  obtain ⟨f1, f2⟩ := flat_at rs i m0 A0 l0 c0 he
  have k0 := hcells _ _ f1
  have k1 := hcells _ _ f2
  rw [addq, Nat.zero_add] at k0 k1
  have z0 : W.frozen? ⟨g, i * 2, none⟩ = false := World.ownsRow.frozenAt p1 (i * 2)
  have z1 : W.frozen? ⟨g, i * 2 + 1, none⟩ = false := World.ownsRow.frozenAt p1 (i * 2 + 1)
  have e2 : (execOp a.eval o).run Tryz.prog W = .ok .skip ((W.setCell ⟨g, i * 2, none⟩ (.bool m)).setCell ⟨g, i * 2 + 1, none⟩ (.slice A l c')) := by
   unfold execOp
   rw [ho]
   show (do (Instr.storeAt T (a.tmps.getD s undef) (a.eval x)); pure .skip : Sem Next).run Tryz.prog W = _
   rw [h1, e1]
   exact run_skip (hst W m A l c' m0 A0 l0 c0 k0 k1 z0 z1)
  obtain ⟨s1, g1⟩ := World.ownsRow.stored p1 (i * 2) (.bool m)
  obtain ⟨s2, g2⟩ := World.ownsRow.stored s1 (i * 2 + 1) (.slice A l c')
  have gg : W.grownBy ((W.setCell ⟨g, i * 2, none⟩ (.bool m)).setCell ⟨g, i * 2 + 1, none⟩ (.slice A l c')) (some g) := ⟨g2.os.trans g1.os, g2.tape.trans g1.tape, g2.output.trans g1.output, Nat.le_trans g1.size g2.size, fun k hk hne => (g2.block k (Nat.lt_of_lt_of_le hk g1.size) hne).trans (g1.block k hk hne)⟩
  have hin := p3.intK gg
  have own2 : OwS ((W.setCell ⟨g, i * 2, none⟩ (.bool m)).setCell ⟨g, i * 2 + 1, none⟩ (.slice A l c')) B et 2 (.slice (some ⟨g, 0, none⟩) n c) n (RsI (zs.set i z)) := by
   refine ⟨⟨_, s2, rs.set i (m, A, l, c'), (flat_set rs i m A l c'), ?_⟩, (p3.set (fun k x => by simp)).set (fun k x => by simp), RsI.st _⟩
   obtain ⟨rs', e3, hr'⟩ := RsI.st zs (flat rs) W _ hin ⟨rs, rfl, hr⟩
   have : rs' = rs := by
    have e4 : flat rs = flat rs' := e3
    clear hr' e3
    revert rs'
    have key : ∀ (r1 r2 : List Nn), flat r1 = flat r2 → r2 = r1 := by
     intro r1
     induction r1 with
     | nil => intro r2 h; cases r2 with
      | nil => rfl
      | cons y r2 => simp [flat] at h
     | cons x r1 ih => intro r2 h; cases r2 with
      | nil => simp [flat] at h
      | cons y r2 =>
       obtain ⟨x1, x2, x3, x4⟩ := x
       obtain ⟨y1, y2, y3, y4⟩ := y
       simp only [flat, List.flatMap_cons, List.cons_append, List.nil_append, List.cons.injEq, Value.bool.injEq, Value.slice.injEq] at h
       obtain ⟨rfl, ⟨rfl, rfl, rfl⟩, h⟩ := h
       rw [ih r2 h]
    intro rs' e4
    exact key rs rs' e4
   subst this
   exact RsI.set hr' hi (hz.kept hin)
  unfold Oper.wp
  rw [e2]
  show K' (a.put o.dst undef) _
  rw [hd]
  exact hK' _ _ (hk _ _ (hf.sgrow (g0 := W.heap.size) hK gg own2 (.inl rfl) (Nat.le_refl _)))
theorem lds_of {T et : TypeId} {K s g c i n : Nat} {zs : List Int} (ho : o.op = .load T (.tmp s)) (hs : look fr s = some (.vl (.pointer (some ⟨g, i * 2, none⟩)))) (hK : look fr K = some (.rs (.slice (some ⟨g, 0, none⟩) n c) et 2 n (RsI zs))) (hi : i < zs.length)
  (hl : ∀ (W : World) (m : Bool) (A : Option Addr) (l c : Nat), W.cell? ⟨g, i * 2, none⟩ = some (.bool m) → W.cell? ⟨g, i * 2 + 1, none⟩ = some (.slice A l c) → (Instr.loadAt T (.pointer (some ⟨g, i * 2, none⟩))).run Tryz.prog W = .ok (.agg #[.bool m, .slice A l c]) W) {a : Act} {W : World} (hf : Fr B N w0 fr a W) : ∃ u, (execOp a.eval o).run Tryz.prog W = .ok (.value u) W ∧ Ho B (.kw (KI (at0 zs i))) u W := by
 have h1 : a.tmps.getD s undef = .pointer (some ⟨g, i * 2, none⟩) := hf.ho s _ hs
 have own : OwS W B et 2 (.slice (some ⟨g, 0, none⟩) n c) n (RsI zs) := hf.ho K _ hK
 obtain ⟨⟨xs, p1, rs, rfl, hr⟩, p3, p4⟩ := own
 have hcells : ∀ j u, (flat rs)[j]? = some u → W.cell? ((⟨g, 0, none⟩ : Addr).add j) = some u := p1.cells (g := g) rfl
 have hl2 := hr.1
 obtain ⟨⟨m0, A0, l0, c0⟩, he⟩ : ∃ x, rs[i]? = some x := ⟨_, List.getElem?_eq_getElem (by omega)⟩
 obtain ⟨f1, f2⟩ := flat_at rs i m0 A0 l0 c0 he
 have k0 := hcells _ _ f1
 have k1 := hcells _ _ f2
 rw [addq, Nat.zero_add] at k0 k1
 refine ⟨.agg #[.bool m0, .slice A0 l0 c0], ?_, ⟨m0, A0, l0, c0, rfl, hr.2 i m0 A0 l0 c0 he⟩, KI.st _⟩
 unfold execOp
 rw [ho]
 show (do pure (.value (← Instr.loadAt T (a.tmps.getD s undef))) : Sem Next).run Tryz.prog W = _
 rw [h1]
 exact run_val (hl W m0 A0 l0 c0 k0 k1)
theorem DX.lds {T et : TypeId} {K s g c i n : Nat} {zs : List Int} (hi : i < zs.length) (hw : wantB ops fr o = some true) (hd : o.dst = some d) (hN : Nat.blt d N = true) (ho : o.op = .load T (.tmp s)) (hs : look fr s = some (.vl (.pointer (some ⟨g, i * 2, none⟩)))) (hK : look fr K = some (.rs (.slice (some ⟨g, 0, none⟩) n c) et 2 n (RsI zs)))
  (hl : ∀ (W : World) (m : Bool) (A : Option Addr) (l c : Nat), W.cell? ⟨g, i * 2, none⟩ = some (.bool m) → W.cell? ⟨g, i * 2 + 1, none⟩ = some (.slice A l c) → (Instr.loadAt T (.pointer (some ⟨g, i * 2, none⟩))).run Tryz.prog W = .ok (.agg #[.bool m, .slice A l c]) W) : Eo B N w0 ops o fr (.val d (.kw (KI (at0 zs i)))) := DX.val hw hd hN rfl fun a W hf => lds_of ho hs hK hi hl hf
end
section
variable {x y : Operand} {dst : Option Tmp} {ty : TypeId} {pos : String} {after : Array Edge} {guard : Option (Nat × Bool)} {ρ : Operand → Value} {W : World}
theorem r_allocA : (execOp ρ ⟨dst, .alloc 78, ty, pos, after, guard⟩).run Tryz.prog W = .ok (.value (ptr W.heap.size)) (W.alloc (.cells #[.bool false, .slice none 0 0, .bool false, .slice none 0 0, .bool false, .slice none 0 0, .bool false, .slice none 0 0] 78)) := by
 go_simp
theorem r_idxA4 {g i : Nat} (h1 : ρ x = .pointer (some ⟨g, 0, none⟩)) (h2 : ρ y = .int .i64 (i : Int)) (hi : i < 4) : (execOp ρ ⟨dst, .indexAddr 78 x y, ty, pos, after, guard⟩).run Tryz.prog W = .ok (.value (.pointer (some ⟨g, i * 2, none⟩))) W := by
 go_simp
 exact fun h => absurd h (by omega)
end
theorem st_int {g q : Nat} (W : World) (m : Bool) (A : Option Addr) (l c : Nat) (m0 : Bool) (A0 : Option Addr) (l0 c0 : Nat) (h1 : W.cell? ⟨g, q, none⟩ = some (.bool m0)) (h2 : W.cell? ⟨g, q + 1, none⟩ = some (.slice A0 l0 c0)) (h3 : W.frozen? ⟨g, q, none⟩ = false) (h4 : W.frozen? ⟨g, q + 1, none⟩ = false) : (Instr.storeAt 31 (.pointer (some ⟨g, q, none⟩)) (.agg #[.bool m, .slice A l c])).run Tryz.prog W = .ok () ((W.setCell ⟨g, q, none⟩ (.bool m)).setCell ⟨g, q + 1, none⟩ (.slice A l c)) := by
 go_simp
theorem ld_int {g q : Nat} (W : World) (m : Bool) (A : Option Addr) (l c : Nat) (h1 : W.cell? ⟨g, q, none⟩ = some (.bool m)) (h2 : W.cell? ⟨g, q + 1, none⟩ = some (.slice A l c)) : (Instr.loadAt 31 (.pointer (some ⟨g, q, none⟩))).run Tryz.prog W = .ok (.agg #[.bool m, .slice A l c]) W := by
 go_simp
end Go.Proofs.YthpjmhhfcechmaaGreat.Sy
/- Plain laws: what the roundings of a quotient leave. -/
namespace Go.Proofs.YthpjmhhfcechmaaGreat.Sy
open Go Go.RowKit Ma
theorem sgq_1 {x : Rat} (h : 0 < x) : sgq x = 1 := by
 have := (num_pos_iff x).2 h
 unfold sgq sgn; rw [if_neg (by omega), if_neg (by omega)]
theorem sgq_m {x : Rat} (h : x < 0) : sgq x = -1 := by
 have := (num_neg_iff x).2 h
 unfold sgq sgn; rw [if_pos this]
theorem sgq_0 : sgq 0 = 0 := by decide +kernel
theorem fl_lt1 (x : Rat) : x < (flq x : Rat) + 1 := by have := lt_fl x; rwa [Rat.intCast_add] at this
theorem cl_ge (x : Rat) : x ≤ (clq x : Rat) := by have := fl_le (-x); unfold clq; rw [Rat.intCast_neg]; grind
theorem cl_lt (x : Rat) : (clq x : Rat) < x + 1 := by have := fl_lt1 (-x); unfold clq; rw [Rat.intCast_neg]; grind
theorem rdq_near (way : Int) (z : Rat) : -1 < z - (rdq way z : Rat) ∧ z - (rdq way z : Rat) < 1 := by
 have a := fl_le z
 have b := fl_lt1 z
 have c := cl_ge z
 have d := cl_lt z
 unfold rdq
 split
 ·grind
 split
 ·grind
 split
 ·split <;> grind
 ·unfold nrq
  split
  ·rename_i h
   have hh : Rat.divInt 1 2 ≤ z - (flq z : Rat) := by
    rcases h with h | h
    ·unfold cmpq at h; split at h
     ·omega
     ·split at h
      ·rename_i h2 h3; rw [h3]; exact Rat.le_refl
      ·rename_i h2 h3; exact Rat.not_lt.1 h2
    ·unfold cmpq at h; split at h
     ·omega
     ·split at h
      ·rename_i h2 h3; rw [h3]; exact Rat.le_refl
      ·omega
   have e : (0 : Rat) < Rat.divInt 1 2 := by decide +kernel
   rw [Rat.intCast_add]
   have e1 : ((1 : Int) : Rat) = 1 := rfl
   grind
  ·grind
theorem mul_neg_pos {y t : Rat} (hy : 0 < y) (ht : t < 0) : y * t < 0 := by
 have := Rat.mul_pos hy (show 0 < -t by grind)
 grind
theorem abs_mul_lt {y t : Rat} (hy : y ≠ 0) (h1 : -1 < t) (h2 : t < 1) : absq (y * t) < absq y := by
 have key : ∀ w : Rat, 0 < w → w * t < w ∧ -w < w * t := fun w hw => by
  have a := Rat.mul_lt_mul_of_pos_left h2 hw
  have b := Rat.mul_lt_mul_of_pos_left h1 hw
  grind
 by_cases hp : 0 < y
 ·have := key y hp
  unfold absq
  split <;> split <;> grind
 ·have hn : 0 < -y := by grind
  have := key (-y) hn
  unfold absq
  split <;> split <;> grind
theorem abs_half {y t : Rat} (hy : y ≠ 0) (h1 : -1 ≤ t + t) (h2 : t + t ≤ 1) : absq (y * t + y * t) ≤ absq y := by
 have key : ∀ w : Rat, 0 < w → w * (t + t) ≤ w ∧ -w ≤ w * (t + t) := fun w hw => by
  have a := Rat.mul_le_mul_of_nonneg_left h2 (Rat.le_of_lt hw)
  have b := Rat.mul_le_mul_of_nonneg_left h1 (Rat.le_of_lt hw)
  grind
 by_cases hp : 0 < y
 ·have := key y hp
  unfold absq
  split <;> split <;> grind
 ·have hn : 0 < -y := by grind
  have := key (-y) hn
  unfold absq
  split <;> split <;> grind
theorem sgq_mul_pos {y t : Rat} (hy : y ≠ 0) (ht : 0 < t) : sgq (y * t) = sgq y := by
 by_cases hp : 0 < y
 ·rw [sgq_1 hp, sgq_1 (Rat.mul_pos hp ht)]
 ·have hn : y < 0 := by grind
  rw [sgq_m hn, sgq_m (by have := Rat.mul_pos (show 0 < -y by grind) ht; grind)]
theorem sgq_mul_neg {y t : Rat} (hy : y ≠ 0) (ht : t < 0) : sgq (y * t) = -(sgq y) := by
 by_cases hp : 0 < y
 ·rw [sgq_1 hp, sgq_m (mul_neg_pos hp ht)]
 ·have hn : y < 0 := by grind
  rw [sgq_m hn, sgq_1 (by have := Rat.mul_pos (show 0 < -y by grind) (show 0 < -t by grind); grind)]; rfl
theorem sgq_ne {y : Rat} (hy : y ≠ 0) : sgq y ≠ -(sgq y) := by
 by_cases hp : 0 < y
 ·rw [sgq_1 hp]; decide
 ·rw [sgq_m (show y < 0 by grind)]; decide
theorem rem_eq {x y : Rat} (hy : y ≠ 0) (n : Rat) : x - y * n = y * (x / y - n) := by
 have := Rat.div_mul_cancel (a := x) hy
 grind
theorem rnd_small {x y : Rat} (hy : y ≠ 0) (way : Int) : absq (x - y * (rdq way (x / y) : Rat)) < absq y := by
 rw [rem_eq hy]
 have := rdq_near way (x / y)
 exact abs_mul_lt hy this.1 this.2
theorem rnd_0 {x y : Rat} (hy : y ≠ 0) : sgq (x - y * (rdq 0 (x / y) : Rat)) ≠ -(sgq y) := by
 rw [rem_eq hy]
 have a := fl_le (x / y)
 show sgq (y * (x / y - (flq (x / y) : Rat))) ≠ _
 by_cases h : 0 < x / y - (flq (x / y) : Rat)
 ·rw [sgq_mul_pos hy h]; exact sgq_ne hy
 ·have : x / y - (flq (x / y) : Rat) = 0 := by grind
  rw [this, Rat.mul_zero, sgq_0]
  have := sgq_ne hy
  omega
theorem rnd_1 {x y : Rat} (hy : y ≠ 0) : sgq (x - y * (rdq 1 (x / y) : Rat)) ≠ sgq y := by
 rw [rem_eq hy]
 have a := cl_ge (x / y)
 show sgq (y * (x / y - (clq (x / y) : Rat))) ≠ _
 by_cases h : x / y - (clq (x / y) : Rat) < 0
 ·rw [sgq_mul_neg hy h]; exact fun e => sgq_ne hy e.symm
 ·have : x / y - (clq (x / y) : Rat) = 0 := by grind
  rw [this, Rat.mul_zero, sgq_0]
  have := sgq_ne hy
  omega
theorem rnd_2 {x y : Rat} (hy : y ≠ 0) (h0 : sgq (x - y * (rdq 2 (x / y) : Rat)) ≠ 0) : sgq (x - y * (rdq 2 (x / y) : Rat)) = sgq x := by
 rw [rem_eq hy] at h0 ⊢
 have a := cl_ge (x / y)
 have b := fl_le (x / y)
 have ex : x = y * (x / y) := by have := Rat.div_mul_cancel (a := x) hy; grind
 have h1 : x / y - (rdq 2 (x / y) : Rat) ≠ 0 := fun e => h0 (by rw [e, Rat.mul_zero, sgq_0])
 have e : rdq 2 (x / y) = if sgq (x / y) < 0 then clq (x / y) else flq (x / y) := rfl
 rw [e] at h1 ⊢
 by_cases hn : x / y < 0
 ·have hs : sgq (x / y) < 0 := by rw [sgq_m hn]; decide
  rw [if_pos hs] at h1 ⊢
  rw [sgq_mul_neg hy (by grind)]
  conv => rhs; rw [ex]
  rw [sgq_mul_neg hy hn]
 ·have hs : ¬ sgq (x / y) < 0 := by
   by_cases h0 : x / y = 0
   ·rw [h0, sgq_0]; decide
   ·rw [sgq_1 (by grind)]; decide
  rw [if_neg hs] at h1 ⊢
  have hp : 0 < x / y := by
   apply Classical.byContradiction
   intro h3
   have h4 : x / y = 0 := by grind
   rw [h4] at h1
   exact h1 (by decide +kernel)
  rw [sgq_mul_pos hy (by grind)]
  conv => rhs; rw [ex]
  rw [sgq_mul_pos hy hp]
theorem rnd_3 {x y : Rat} (hy : y ≠ 0) : absq ((x - y * (rdq 3 (x / y) : Rat)) + (x - y * (rdq 3 (x / y) : Rat))) ≤ absq y := by
 rw [rem_eq hy]
 have a := fl_le (x / y)
 have b := fl_lt1 (x / y)
 have e2 : Rat.divInt 1 2 + Rat.divInt 1 2 = 1 := by decide +kernel
 have e1 : ((1 : Int) : Rat) = 1 := rfl
 show absq (y * (x / y - (nrq (x / y) : Rat)) + y * (x / y - (nrq (x / y) : Rat))) ≤ _
 have key : -1 ≤ (x / y - (nrq (x / y) : Rat)) + (x / y - (nrq (x / y) : Rat)) ∧ (x / y - (nrq (x / y) : Rat)) + (x / y - (nrq (x / y) : Rat)) ≤ 1 := by
  generalize x / y = z at *
  unfold nrq cmpq
  by_cases h1 : z - (flq z : Rat) < Rat.divInt 1 2
  ·rw [if_pos h1, if_neg (by omega)]
   grind
  ·rw [if_neg h1]
   by_cases h2 : z - (flq z : Rat) = Rat.divInt 1 2
   ·rw [if_pos h2]
    split
    ·rw [Rat.intCast_add]; grind
    ·grind
   ·rw [if_neg h2, if_pos (.inl (by decide)), Rat.intCast_add]
    grind
 exact abs_half hy key.1 key.2
theorem neg_div' (x y : Rat) : (-x) / y = -(x / y) := by rw [Rat.div_def, Rat.div_def, Rat.neg_mul]
end Go.Proofs.YthpjmhhfcechmaaGreat.Sy
