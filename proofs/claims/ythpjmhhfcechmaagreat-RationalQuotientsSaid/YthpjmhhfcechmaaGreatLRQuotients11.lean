/- Parts Ry, Lpw, Rk0, Sj, Rs, Szq, Ru, Ru2, Rqu, D2, D3, in one file. -/
import Derived.RowKit
import Derived.WalkKit
import Derived.ProofKit
import Derived.OpenShut
import Derived.ShutString
import Derived.ChangeOld
import Derived.Lib.SmallJoins
import Derived.Test.YthpjmhhfcechmaaGreatLRQuotients10
import Derived.Test.YthpjmhhfcechmaaGreatLRQuotients2
import Derived.Test.YthpjmhhfcechmaaGreatLRQuotients3
import Derived.Test.YthpjmhhfcechmaaGreatLRQuotients5
import Derived.Test.YthpjmhhfcechmaaGreatLRQuotients8
import Derived.Test.YthpjmhhfcechmaaGreatLRQuotients9
/- Words for the laws of chapter 03: their Short, what came in. -/
set_option linter.unusedVariables false
set_option linter.unusedSimpArgs false
namespace Go.Proofs.YthpjmhhfcechmaaGreat.Sy
open Go Go.RowKit Ma
theorem in_be {w W : World} {A : Option Addr} {l c : Nat} {xs : List Int} (h : In w A l c xs) (k : Below w.heap.size w W) : In W A l c xs := ⟨h.1, h.2.1, h.2.2.1.kept (IntK.of_below k), h.2.2.2⟩
theorem sh_VQ {T : TypeId} {x1 x2 : Bool} {A1 A2 : Option Addr} {l1 c1 l2 c2 : Nat} (v : Value) (W : World) (h : KV (.agg #[.bool x1, .slice A1 l1 c1, .bool x2, .slice A2 l2 c2]) v W) : ∃ cs, (BQ T).sh v cs := by
 obtain rfl : v = _ := h
 exact ⟨_, _, _, _, _, _, _, _, _, rfl, rfl⟩
section
variable {B N : Nat} {w0 : World} {ops : Array Oper} {o : Oper} {rest : List Oper} {fr : List (Nat × AV)} {Q : Exit → Act → World → Prop} {d : Nat}
theorem PW.short3 {o2 : Oper} {d2 : Nat} {c : Call} (most : Nat) (ns : List Qq) {t : Bool} (ob : Obj) (hw : wantB ops fr o = some true) (hd : o.dst = some d) (hN : Nat.blt d N = true)
  (hq : ∀ a W, Fr B N w0 fr a W → (execOp a.eval o).run Tryz.prog W = .ok (.value (.slice (some ⟨W.heap.size, 0, none⟩) ns.length ns.length)) (W.alloc ob)) (hns : ∀ W : World, Qs (W.alloc ob) W.heap.size ns) (hL : ∀ x ∈ ns, x.1.2.2.1 ≤ 9223372036854775807 ∧ x.2.2.2.1 ≤ 9223372036854775807) (hm : Nat.ble most 1000 = true) (hl : Nat.ble ns.length 1000 = true) (ht : shQ most ns = t)
  (hw2 : wantB ops ((d, .kw KT) :: fr) o2 = some true) (hd2 : o2.dst = some d2) (hN2 : Nat.blt d2 N = true) (ho : o2.op = .call c) (hc : c.callee = .value (.func 12)) (ha : c.args = #[.const (.int .i64 (most : Int)), .tmp d])
  (hk : PW B N w0 ops rest ((d2, .vl (.bool t)) :: (d, .kw KT) :: fr) Q) : PW B N w0 ops (o :: o2 :: rest) fr Q :=
 PW.step hw fun a W hf K' hK' => by
  unfold Oper.wp
  rw [hq a W hf, Oper.upon_value, hd]
  have hf1 := (hf.nw ((Nw.refl W).alloc ob)).set (v := .vl (.slice (some ⟨W.heap.size, 0, none⟩) ns.length ns.length)) hN (u := .slice (some ⟨W.heap.size, 0, none⟩) ns.length ns.length) rfl rfl
  have hf2 := (hf.nw ((Nw.refl W).alloc ob)).set (v := .kw KT) hN (u := .slice (some ⟨W.heap.size, 0, none⟩) ns.length ns.length) ⟨trivial, KT.st⟩ rfl
  refine hK' _ _ (wpList_step fun K2 hK2 => ?_)
  rw [if_pos (wantB_spec hf2 hw2)]
  have s1 : (a.put (some d) (.slice (some ⟨W.heap.size, 0, none⟩) ns.length ns.length)).eval (.tmp d) = .slice (some ⟨W.heap.size, 0, none⟩) ns.length ns.length := hf1.vl (s := d) (by rw [look_cons, if_pos rfl])
  obtain ⟨dst, op, ty, pos, after, guard⟩ := o2
  simp only at ho hd2
  subst ho
  subst hd2
  unfold Oper.wp
  have ce : CE 12 := fun args W => by go_simp
  rw [run_call ce hc _ rfl ty _]
  simp only [Oper.upon]
  have e0 : c.args.map (a.put (some d) (.slice (some ⟨W.heap.size, 0, none⟩) ns.length ns.length)).eval = #[.int .i64 (most : Int), .slice (some ⟨W.heap.size, 0, none⟩) ns.length ns.length] := by
   rw [ha, List.map_toArray]; exact congrArg (fun z => #[Value.int .i64 (most : Int), z]) s1
  rw [e0]
  refine (short3_c (b := W.heap.size) (c := ns.length) (hns W) (Nat.le_of_ble_eq_true hm) (Nat.le_of_ble_eq_true hl) hL).mono fun e W' ⟨v, he, hv, hn⟩ => ?_
  subst he
  obtain rfl : v = _ := hv
  exact hK2 _ _ (hk _ _ ((hf2.nw hn).set hN2 (v := .vl (.bool t)) (by show Value.bool _ = _; rw [ht]) rfl))
end
section
variable {x y z : Operand} {dst : Option Tmp} {ty : TypeId} {pos : String} {after : Array Edge} {guard : Option (Nat × Bool)} {ρ : Operand → Value} {W : World}
variable {n1 n2 n3 n4 : Bool} {A1 A2 A3 A4 : Option Addr} {l1 l2 l3 l4 c1 c2 c3 c4 : Nat}
theorem r_bQ2 (h1 : ρ x = .agg #[.bool n1, .slice A1 l1 c1, .bool n2, .slice A2 l2 c2]) (h2 : ρ y = .agg #[.bool n3, .slice A3 l3 c3, .bool n4, .slice A4 l4 c4]) : (execOp ρ ⟨dst, .buildSlice 105 2 #[(0, x), (1, y)], ty, pos, after, guard⟩).run Tryz.prog W = .ok (.value (.slice (some ⟨W.heap.size, 0, none⟩) 2 2)) (W.alloc (.cells #[.bool n1, .slice A1 l1 c1, .bool n2, .slice A2 l2 c2, .bool n3, .slice A3 l3 c3, .bool n4, .slice A4 l4 c4] 26)) := by
 go_simp
end
section
variable {n1 n2 n3 n4 : Bool} {A1 A2 A3 A4 : Option Addr} {l1 l2 l3 l4 c1 c2 c3 c4 : Nat}
theorem qs_lit2 (W : World) : Qs (W.alloc (.cells #[.bool n1, .slice A1 l1 c1, .bool n2, .slice A2 l2 c2, .bool n3, .slice A3 l3 c3, .bool n4, .slice A4 l4 c4] 26)) W.heap.size [((n1, A1, l1, c1), (n2, A2, l2, c2)), ((n3, A3, l3, c3), (n4, A4, l4, c4))] := by
 intro i n A l c m D k d e
 match i, e with
 | 0, e => simp at e; obtain ⟨⟨rfl, rfl, rfl, rfl⟩, rfl, rfl, rfl, rfl⟩ := e; exact ⟨by go_simp, by go_simp, by go_simp, by go_simp⟩
 | 1, e => simp at e; obtain ⟨⟨rfl, rfl, rfl, rfl⟩, rfl, rfl, rfl, rfl⟩ := e; exact ⟨by go_simp, by go_simp, by go_simp, by go_simp⟩
 | i + 2, e => simp at e
end
end Go.Proofs.YthpjmhhfcechmaaGreat.Sy
/- Plain laws: powers and roots of fractions, rounded quotients. -/
namespace Go.Proofs.YthpjmhhfcechmaaGreat.Sy
open Go Go.RowKit Ma
structure Rts (x : Rat) (r s : Int) : Prop where
 r0 : 0 ≤ r
 r1 : r * r ≤ x.num
 r2 : x.num < (r + 1) * (r + 1)
 s0 : 0 ≤ s
 s1 : s * s ≤ (x.den : Int)
 s2 : (x.den : Int) < (s + 1) * (s + 1)
theorem Rts.pos {x : Rat} {r s : Int} (h : Rts x r s) : 0 < s := by
 have := h.s0
 have := h.s2
 have := den_pos x
 apply Classical.byContradiction
 intro h2
 obtain rfl : s = 0 := by omega
 omega
def clq (x : Rat) : Int := -flq (-x)
def nrq (x : Rat) : Int := if 0 < cmpq (x - ((flq x : Int) : Rat)) (Rat.divInt 1 2) ∨ (cmpq (x - ((flq x : Int) : Rat)) (Rat.divInt 1 2) = 0 ∧ flq x % 2 = 1) then flq x + 1 else flq x
def rdq (way : Int) (x : Rat) : Int := if way = 0 then flq x else if way = 1 then clq x else if way = 2 then (if sgq x < 0 then clq x else flq x) else nrq x
theorem not_dvd {x : Rat} (h : x.den ≠ 1) : ¬ (x.den : Int) ∣ x.num := fun hd => h (by
 have h1 : x.den ∣ x.num.natAbs := Int.ofNat_dvd_left.1 hd
 exact Nat.Coprime.eq_one_of_dvd x.reduced.symm h1)
theorem clq_eq (x : Rat) : clq x = if x.den = 1 then flq x else flq x + 1 := by
 unfold clq flq
 have hd := den_pos x
 rw [Rat.neg_num, Rat.neg_den, Int.neg_ediv]
 by_cases h : x.den = 1
 ·rw [if_pos h, if_pos (by rw [h]; exact Int.one_dvd _)]; omega
 ·rw [if_neg h, if_neg (not_dvd h), Int.sign_eq_one_of_pos hd]; omega
theorem nrq_whole {x : Rat} (h : x.den = 1) : nrq x = flq x := by
 have e : ((flq x : Int) : Rat) = x := by
  refine Rat.ext ?_ ?_
  ·rw [Rat.num_intCast]; unfold flq; rw [h]; exact Int.ediv_one _
  ·rw [Rat.den_intCast, h]
 unfold nrq
 rw [e, Rat.sub_self]
 rw [show cmpq 0 (Rat.divInt 1 2) = -1 by decide +kernel, if_neg (by omega)]
end Go.Proofs.YthpjmhhfcechmaaGreat.Sy
/- The contract of rounded: four functions, one of which looks into a box. -/
namespace Go.Proofs.YthpjmhhfcechmaaGreat.Sy
open Go Go.RowKit Ma
abbrev fv (f : Nat) : Value := .func (.func f) #[] #[]
def four (p : Nat) : Value := .agg #[fv 131, fv 135, .func (.func 136) #[] #[.pointer (some ⟨p, 0, none⟩)], fv 137]
def RF : List Value → World → Prop := fun xs _ => xs = [fv 135]
theorem OwS.onef (W : World) : OwS (W.alloc (.cells #[fv 135] 133)) W.heap.size 133 1 (.slice (some ⟨W.heap.size, 0, none⟩) 1 1) 1 RF := by
 refine ⟨⟨[fv 135], ⟨by simp, .inr ⟨W.heap.size, 1, _, rfl, Nat.le_refl _, heap_alloc_new W _, Nat.le_refl _, by unfold maxLen; omega, by simp, by simp⟩⟩, rfl⟩, ?_, fun xs w1 w2 _ h => h⟩
 intro g hg
 injection hg with hg
 subst hg
 refine ⟨_, _, _, heap_alloc_new W _, fun u hu => ?_⟩
 obtain rfl : u = fv 135 := by simpa using hu
 exact fun k x => by simp
set_option maxHeartbeats 1600000 in
theorem rounded_c {w : World} : Calls Tryz.prog 97 #[] w (Ret w (fun v W => ∃ p, v = four p ∧ OwS W w.heap.size 133 1 (.slice (some ⟨p, 0, none⟩) 1 1) 1 RF)) := by
 have hs : ∀ (a : Addr) (f : Fn) (t : Array Value) (c : Array Value) (m : Mode) (w : World), (store a (.func f t c) m).run Tryz.prog w = stored Tryz.prog w a (.func f t c) m := fun a f t c m w => run_store Tryz.prog w a _ m rfl
 go_enter Tryz.func97, Tryz.ntmps97
 go_wp2
 have own := OwS.onef (w.alloc (.cells #[fv 131, fv 135, .func (.func 136) #[] #[.pointer (some ⟨w.heap.size + 1, 0, none⟩)], fv 137] 134))
 have hz : (w.alloc (.cells #[fv 131, fv 135, .func (.func 136) #[] #[.pointer (some ⟨w.heap.size + 1, 0, none⟩)], fv 137] 134)).heap.size = w.heap.size + 1 := by simp
 rw [hz] at own
 exact bodyPost_ret (v := four (w.heap.size + 1)) (by unfold four; simp [results, Tryz.results97, go_sem]) rfl ⟨_, rfl, ⟨w.heap.size + 1, rfl, own.weaken (by omega)⟩, ((Nw.refl w).alloc _).alloc _⟩
end Go.Proofs.YthpjmhhfcechmaaGreat.Sy
/- A walk by rules: a statement that draws its order, by an invariant over what was carried out; functions as values. -/
namespace Go.Proofs.YthpjmhhfcechmaaGreat.Sy
open Go Go.RowKit Ma
theorem SC.inv {B N : Nat} {w0 : World} {id : Nat} {l : List Oper} {fr : List (Nat × AV)} {Q : Exit → Act → World → Prop} (m : Nat) (I : (Nat → Bool) → Act → World → Prop) (hlen : Nat.ble m l.length = true)
  (h1 : backB l.toArray = true) (hc : tailB l.toArray m = true) (h0 : ∀ a W, Fr B N w0 fr a W → I (fun _ => false) a W) (hI : ∀ L L' a W, (∀ j, L j = L' j) → I L a W → I L' a W)
  (hs : ∀ i o, i < m → l.toArray[i]? = some o → ∀ L a W, Dn l.toArray L → L i = false → (∀ j, wt l.toArray i j = true → L j = true) → I L a W → ∀ K : Act → World → Prop, (∀ a' W', I (add L i) a' W' → K a' W') → wpOp Tryz.prog l.toArray Q i K a W)
  (hk : ∀ L a W, (∀ j, j < m → L j = true) → I L a W → wpList Tryz.prog l.toArray Q (l.drop m) a W) : SC B N w0 (.region id l.toArray true) fr Q := fun a W hf => by
 have hd : Nw W W.drew := (Nw.refl W).drew
 have hlen : m ≤ l.length := Nat.le_of_ble_eq_true hlen
 refine wp_region_any (by kernel_rfl) ?_
 have key : ∀ (fuel : Nat) (listed : Array Bool) (a : Act) (W : World), listed.size = l.length → Dn l.toArray (fun j => listed.getD j false) → (∀ j, m ≤ j → j < l.length → listed.getD j false = false) → lft l.length (fun j => listed.getD j false) ≤ fuel → I (fun j => listed.getD j false) a W → wpAny Tryz.prog .any l.toArray Q fuel listed a W := by
  intro fuel
  induction fuel with
  | zero =>
   intro listed a W hz hD hT hl hf
   have hall := lft_zero l.length (Nat.le_zero.1 hl)
   refine tail_run h1 hc (l.drop m) m 0 listed a W rfl (Nat.le_refl _) hz hD (fun j hj => ?_) ?_ (hk _ a W (fun k hk2 => hall k (by omega)) hf)
   ·rw [hall j hj]
    by_cases e : j < m
    ·simp [e]
    ·have := hT j (by omega) hj; rw [hall j hj] at this; cases this
   ·have := lft_ge l.length hT
    simp; omega
  | succ fuel ih =>
   intro listed a W hz hD hT hl hf
   have hzz : listed.size = l.toArray.size := by simpa using hz
   by_cases hall : ∀ j, j < m → listed.getD j false = true
   ·refine tail_run h1 hc (l.drop m) m (fuel + 1) listed a W rfl (Nat.le_refl _) hz hD (fun j hj => ?_) ?_ (hk _ a W (fun k hk2 => hall k (by omega)) hf)
    ·by_cases e : j < m
     ·rw [hall j e]; simp [e]
     ·rw [hT j (by omega) hj]; simp [e]
    ·have := lft_ge l.length hT
     simp; omega
   ·obtain ⟨k, hk1, hk2, hk3⟩ := least hall
    refine ⟨fun hr => ?_, fun i hi => ?_⟩
    ·have := ready_min h1 hzz (k := k) (by simp; omega) hk2 hk3
     rw [hr] at this
     cases this
    ·obtain ⟨a1, a2, a3⟩ := wt_ready hi
     have a1' : i < l.length := by simpa using a1
     have him : i < m := by
      by_cases e : i < m
      ·exact e
      ·have := tailB_spec hc hD (i := i) (by omega) a1 a3 k (by omega)
       rw [hk2] at this; cases this
     have hoo : l.toArray[i]? = some l[i] := by simp [a1']
     have hLadd := set_add (listed := listed) (i := i) (by omega)
     refine hs i l[i] him hoo _ a W hD a2 a3 hf _ fun a' W' hf' => ih _ a' W' (by simpa using hz) ?_ ?_ ?_ ?_
     ·rw [hLadd]; exact dn_set hD a3
     ·intro j hj hj2
      rw [congrFun hLadd j]
      unfold add
      rw [if_neg (by omega)]
      exact hT j hj hj2
     ·rw [hLadd]
      have := lft_add (L := fun j => listed.getD j false) (i := i) a2 l.length a1'
      omega
     ·rw [hLadd]
      exact hf'
 refine key _ _ a W.drew (by simp) (fun i j hi => ?_) (fun j _ hj => by simp [hj]) ?_ ?_
 ·exfalso
  rcases Nat.lt_or_ge i l.length with h' | h'
  ·simp [h'] at hi
  ·simp [Array.getElem?_eq_none, h'] at hi
 ·have : ∀ n, lft n (fun j => (Array.replicate l.toArray.size false).getD j false) ≤ n := by
   intro n
   induction n with
   | zero => exact Nat.le_refl _
   | succ n ih => unfold lft; split <;> omega
  simpa using this l.length
 ·refine hI (fun _ => false) _ a _ (fun k => ?_) (h0 a _ (hf.nw hd))
  rcases Nat.lt_or_ge k l.length with h' | h'
  ·simp [h']
  ·simp [Array.getElem?_eq_none, h']
theorem look_cur_congr {L : Nat → Bool} : ∀ (es : List Eff) (i : Nat) (f g : List (Nat × AV)), (∀ s, look f s = look g s) → ∀ s, look (cur i es L f) s = look (cur i es L g) s
 | [], _, f, g, h, s => h s
 | e :: es, i, f, g, h, s => by
  unfold cur
  refine look_cur_congr es (i + 1) _ _ (fun s' => ?_) s
  by_cases hL : L i = true
  ·rw [if_pos hL, if_pos hL, show e.ent = (e.ent.1, e.ent.2) from rfl, look_cons, look_cons, h]
  ·rw [if_neg hL, if_neg hL, h]
theorem look_cur_base {L : Nat → Bool} {K : Nat} {v : AV} : ∀ (es : List Eff) (i : Nat) (f : List (Nat × AV)), (∀ e ∈ es, e.slot ≠ K) → ∀ s, look (cur i es L ((K, v) :: f)) s = look ((K, v) :: cur i es L f) s
 | [], _, f, h, s => rfl
 | e :: es, i, f, h, s => by
  unfold cur
  have hne : e.ent.1 ≠ K := by rw [Eff.ent_slot]; exact h e (by simp)
  by_cases hL : L i = true
  ·rw [if_pos hL, if_pos hL]
   rw [look_cur_congr es (i + 1) (e.ent :: (K, v) :: f) ((K, v) :: e.ent :: f) (fun s' => by
    rw [show e.ent = (e.ent.1, e.ent.2) from rfl]
    simp only [look_cons]
    by_cases e1 : e.ent.1 = s'
    ·subst e1; rw [if_pos rfl, if_neg (fun x => hne x.symm), if_pos rfl]
    ·rw [if_neg e1, if_neg e1]) s]
   exact look_cur_base es (i + 1) _ (fun e' he => h e' (by simp [he])) s
  ·rw [if_neg hL, if_neg hL]
   exact look_cur_base es (i + 1) _ (fun e' he => h e' (by simp [he])) s
theorem run_callF {c : Call} {f : FuncId} {s : Nat} {caps : Array Value} (ce : CE f) (hc : c.callee = .value (.tmp s)) (ρ : Operand → Value) (hρ : ρ (.tmp s) = .func (.func f) #[] caps) (ty : TypeId) (W : World) {dst : Option Tmp} {pos : String} {after : Array Edge} {guard : Option (Nat × Bool)} :
  (execOp ρ ⟨dst, .call c, ty, pos, after, guard⟩).run Tryz.prog W = .ok (.enter f (c.args.map ρ ++ caps)) W := by
 obtain ⟨cal, args, ats⟩ := c
 simp only at hc
 subst hc
 have := ce (args.map ρ ++ caps) W
 simp [execOp, resolve, hρ, go_sem, this]
end Go.Proofs.YthpjmhhfcechmaaGreat.Sy
/- Power and Root of fractions, both sides, by rules. -/
namespace Go.Proofs.YthpjmhhfcechmaaGreat.Sy
open Go Go.RowKit Ma
theorem zero_bq {x : Rat} (h : x = 0) : bq 1 x := by subst h; exact ⟨bd.lit (by decide), bd.lit (by decide)⟩
section
variable {x y : Operand} {dst : Option Tmp} {ty : TypeId} {pos : String} {after : Array Edge} {guard : Option (Nat × Bool)} {ρ : Operand → Value} {W : World} {a b : Int}
end

end Go.Proofs.YthpjmhhfcechmaaGreat.Sy
/- A walk by rules: rows of the program's fractions. -/
namespace Go.Proofs.YthpjmhhfcechmaaGreat.Sy
open Go Go.RowKit Ma
def atq (zs : List Rat) (i : Nat) : Rat := zs.getD i 0
def flatq (rs : List Qq) : List Value := rs.flatMap fun x => [.bool x.1.1, .slice x.1.2.1 x.1.2.2.1 x.1.2.2.2, .bool x.2.1, .slice x.2.2.1 x.2.2.2.1 x.2.2.2.2]
def Rsq (w : World) (rs : List Qq) (zs : List Rat) : Prop := rs.length = zs.length ∧ ∀ i n A l c m D k d, rs[i]? = some ((n, A, l, c), (m, D, k, d)) → RI w n A l c (atq zs i).num ∧ RI w m D k d (((atq zs i).den : Int) - 1)
def RsQ (zs : List Rat) : List Value → World → Prop := fun xs w => ∃ rs, xs = flatq rs ∧ Rsq w rs zs
theorem RsQ.st (zs : List Rat) : ∀ xs w1 w2, IntK w1 w2 → RsQ zs xs w1 → RsQ zs xs w2 := fun xs w1 w2 hk ⟨rs, e, h1, h2⟩ => ⟨rs, e, h1, fun i n A l c m D k d e => have ⟨q1, q2⟩ := h2 i n A l c m D k d e; ⟨q1.kept hk, q2.kept hk⟩⟩
section
variable {B N : Nat} {w0 : World} {ops : Array Oper} {o : Oper} {rest : List Oper} {fr : List (Nat × AV)} {Q : Exit → Act → World → Prop} {d : Nat}
theorem OwS.oneq {W : World} {n m : Bool} {A D : Option Addr} {l c k d : Nat} {z : Rat} (h : RI W n A l c z.num) (h2 : RI W m D k d ((z.den : Int) - 1)) : OwS (W.alloc (.cells #[.bool n, .slice A l c, .bool m, .slice D k d] 38)) W.heap.size 38 4 (.slice (some ⟨W.heap.size, 0, none⟩) 1 1) 1 (RsQ [z]) := by
 refine ⟨⟨[.bool n, .slice A l c, .bool m, .slice D k d], ⟨by simp, .inr ⟨W.heap.size, 1, _, rfl, Nat.le_refl _, heap_alloc_new W _, Nat.le_refl _, by unfold maxLen; omega, by simp, by simp⟩⟩, [((n, A, l, c), (m, D, k, d))], rfl, rfl, fun i n' A' l' c' m' D' k' d' e => ?_⟩, ?_, RsQ.st _⟩
 ·match i, e with
  | 0, e =>
   simp at e
   obtain ⟨⟨rfl, rfl, rfl, rfl⟩, rfl, rfl, rfl, rfl⟩ := e
   exact ⟨h.kept (IntK.alloc _ _), h2.kept (IntK.alloc _ _)⟩
  | i + 1, e => simp at e
 ·intro g hg
  injection hg with hg
  subst hg
  refine ⟨_, _, _, heap_alloc_new W _, fun u hu => ?_⟩
  have : u = .bool n ∨ u = .slice A l c ∨ u = .bool m ∨ u = .slice D k d := by simpa using hu
  rcases this with rfl | rfl | rfl | rfl
  ·exact fun k x => by simp
  ·exact fun k x => by simp
  ·exact fun k x => by simp
  ·exact fun k x => by simp
theorem PW.bq {z : Rat} {x : Operand} (hw : wantB ops fr o = some true) (hd : o.dst = some d) (hN : Nat.blt d N = true) (hx : opv fr x = some (.kw (KQ z.num ((z.den : Int) - 1))))
  (hr : ∀ (ρ : Operand → Value) (W : World) (n m : Bool) (A D : Option Addr) (l c k d : Nat), ρ x = .agg #[.bool n, .slice A l c, .bool m, .slice D k d] → (execOp ρ o).run Tryz.prog W = .ok (.value (.slice (some ⟨W.heap.size, 0, none⟩) 1 1)) (W.alloc (.cells #[.bool n, .slice A l c, .bool m, .slice D k d] 38))) (hk : PW B N w0 ops rest ((d, .rz 38 4 1 (RsQ [z])) :: fr) Q) : PW B N w0 ops (o :: rest) fr Q :=
 PW.step hw fun a W hf K' hK' => by
  obtain ⟨⟨n, A, l, c, m, D, k, d', e1, h1, h2⟩, _⟩ := (opv_spec hf hx).1
  unfold Oper.wp
  rw [hr a.eval W n m A D l c k d' e1, Oper.upon_value, hd]
  have hn : Nw W (W.alloc (.cells #[.bool n, .slice A l c, .bool m, .slice D k d'] 38)) := (Nw.refl W).alloc _
  refine hK' _ _ (hk _ _ ((hf.nw hn).put hN (v := .rz 38 4 1 (RsQ [z])) (OwS.weaken (OwS.oneq h1 h2) hf.bs) fun i v' q hi e1 e2 => ?_))
  have a1 := (OwS.oneq h1 h2).base q e1
  have a2 := (hf.ho i _ hi).blk e2
  omega
theorem Fr.srow {a : Act} {W W' : World} {K : Nat} {v : Value} {e : TypeId} {s n : Nat} {R : List Value → World → Prop} (h : Fr B N w0 fr a W) (hn : Nw W W') (hg : ∀ g, v.ownBlock = some g → W.heap.size ≤ g) (ho : OwS W' B e s v n R) : Fr B N w0 ((K, .rs v e s n R) :: fr) a W' :=
 (h.nw hn).more ho fun j v' p hj e1 e2 => by
  have := hg p e1
  have := (h.ho j v' hj).blk e2
  omega
end
section
variable {x y : Operand} {dst : Option Tmp} {ty : TypeId} {pos : String} {after : Array Edge} {guard : Option (Nat × Bool)} {ρ : Operand → Value} {W : World} {m n : Bool} {A D : Option Addr} {l c k d j : Nat}
end
section
variable {B N : Nat} {w0 : World} {ops : Array Oper} {rest : List Oper} {fr : List (Nat × AV)} {Q : Exit → Act → World → Prop} {d : Nat} {ty : TypeId} {pos : String} {after : Array Edge}
end
end Go.Proofs.YthpjmhhfcechmaaGreat.Sy
/- Quotient of fractions, both sides, by rules. -/
namespace Go.Proofs.YthpjmhhfcechmaaGreat.Sy
open Go Go.RowKit Ma
theorem bq.cl {a : Nat} {x : Rat} (X : bq a x) : bd a (clq x) := by unfold clq; exact (bq.fl (bq.neg X)).neg
theorem bq.rd {a : Nat} {way : Int} {x : Rat} (X : bq a x) : bd (a + 2) (rdq way x) := by
 have F := bq.fl X
 have F1 : bd (a + 2) (flq x + 1) := (F.add (bd.lit (by decide) : bd 1 1)).mono (by omega)
 unfold rdq
 split
 ·exact F.mono (by omega)
 split
 ·exact (bq.cl X).mono (by omega)
 split
 ·split
  ·exact (bq.cl X).mono (by omega)
  ·exact F.mono (by omega)
 ·unfold nrq
  split
  ·exact F1
  ·exact F.mono (by omega)
def trq (x : Rat) : Int := if sgq x < 0 then clq x else flq x
theorem clq_whole {x : Rat} (h : x.den = 1) : clq x = flq x := by rw [clq_eq, if_pos h]
theorem rdq_whole {way : Int} {x : Rat} (h : x.den = 1) : rdq way x = flq x := by
 unfold rdq
 rw [clq_whole h, nrq_whole h]
 simp
theorem rdq_0 {way : Int} {x : Rat} (h : way = 0) : rdq way x = flq x := if_pos h
theorem rdq_1 {way : Int} {x : Rat} (hd : ¬ x.den = 1) (h : way = 1) : rdq way x = flq x + 1 := by subst h; unfold rdq; rw [if_neg (by decide), if_pos rfl, clq_eq, if_neg hd]
theorem rdq_2n {way : Int} {x : Rat} (hd : ¬ x.den = 1) (h : way = 2) (hn : sgq x < 0) : rdq way x = flq x + 1 := by subst h; unfold rdq; rw [if_neg (by decide), if_neg (by decide), if_pos rfl, if_pos hn, clq_eq, if_neg hd]
theorem rdq_2p {way : Int} {x : Rat} (hd : ¬ x.den = 1) (h : way = 2) (hn : ¬ sgq x < 0) : rdq way x = flq x := by subst h; unfold rdq; rw [if_neg (by decide), if_neg (by decide), if_pos rfl, if_neg hn]
theorem rdq_3 {way : Int} {x : Rat} (h0 : ¬ way = 0) (h1 : ¬ way = 1) (h2 : ¬ way = 2) : rdq way x = nrq x := by unfold rdq; rw [if_neg h0, if_neg h1, if_neg h2]
def KQt (way : Int) (x y : Rat) : Know := if way < 0 ∨ way > 3 then K3 (KI 0) (KQ 0 0) (KV (.int .i64 1)) else if y = 0 then K3 (KI 0) (KQ 0 0) (KV (.int .i64 6)) else K3 (KI (rdq way (x / y))) (KQ (x - y * ((rdq way (x / y) : Int) : Rat)).num (((x - y * ((rdq way (x / y) : Int) : Rat)).den : Int) - 1)) (KV (.int .i64 0))
theorem KQt_bad {way : Int} {x y : Rat} (h : way < 0 ∨ way > 3) : KQt way x y = K3 (KI 0) (KQ 0 0) (KV (.int .i64 1)) := if_pos h
theorem KQt_zero {way : Int} {x y : Rat} (h1 : ¬ way < 0) (h2 : ¬ way > 3) (h : y = 0) : KQt way x y = K3 (KI 0) (KQ 0 0) (KV (.int .i64 6)) := by unfold KQt; rw [if_neg (by omega), if_pos h]
theorem KQt_ok {way : Int} {x y : Rat} (h1 : ¬ way < 0) (h2 : ¬ way > 3) (h : y ≠ 0) : KQt way x y = K3 (KI (rdq way (x / y))) (KQ (x - y * ((rdq way (x / y) : Int) : Rat)).num (((x - y * ((rdq way (x / y) : Int) : Rat)).den : Int) - 1)) (KV (.int .i64 0)) := by unfold KQt; rw [if_neg (by omega), if_neg h]
def KJt (way : Int) (x y : Rat) : Know := if way < 0 ∨ way > 3 then K3 (KJ 0) (KR3 ((0 : Int) : Rat).num (((0 : Int) : Rat).den : Int)) (KV (.int .i64 1)) else if y = 0 then K3 (KJ 0) (KR3 ((0 : Int) : Rat).num (((0 : Int) : Rat).den : Int)) (KV (.int .i64 6)) else K3 (KJ (rdq way (x / y))) (KR3 (x - ((rdq way (x / y) : Int) : Rat) * y).num ((x - ((rdq way (x / y) : Int) : Rat) * y).den : Int)) (KV (.int .i64 0))
theorem KJt_bad {way : Int} {x y : Rat} (h : way < 0 ∨ way > 3) : KJt way x y = K3 (KJ 0) (KR3 ((0 : Int) : Rat).num (((0 : Int) : Rat).den : Int)) (KV (.int .i64 1)) := if_pos h
theorem KJt_zero {way : Int} {x y : Rat} (h1 : ¬ way < 0) (h2 : ¬ way > 3) (h : y = 0) : KJt way x y = K3 (KJ 0) (KR3 ((0 : Int) : Rat).num (((0 : Int) : Rat).den : Int)) (KV (.int .i64 6)) := by unfold KJt; rw [if_neg (by omega), if_pos h]
theorem KJt_ok {way : Int} {x y : Rat} (h1 : ¬ way < 0) (h2 : ¬ way > 3) (h : y ≠ 0) : KJt way x y = K3 (KJ (rdq way (x / y))) (KR3 (x - ((rdq way (x / y) : Int) : Rat) * y).num ((x - ((rdq way (x / y) : Int) : Rat) * y).den : Int)) (KV (.int .i64 0)) := by unfold KJt; rw [if_neg (by omega), if_neg h]
section
variable {B N : Nat} {w0 : World} {ops : Array Oper} {o : Oper} {rest : List Oper} {fr : List (Nat × AV)} {Q : Exit → Act → World → Prop} {d : Nat}
theorem PW.fload {T : TypeId} {s p f : Nat} (hw : wantB ops fr o = some true) (hd : o.dst = some d) (hN : Nat.blt d N = true) (ho : o.op = .load T (.tmp s)) (hs : look fr s = some (.vl (.pointer (some ⟨p, 0, none⟩)))) (hB : B = w0.heap.size) (hc : w0.cell? ⟨p, 0, none⟩ = some (fv f))
  (hl : ∀ (W : World), W.cell? ⟨p, 0, none⟩ = some (fv f) → (Instr.loadAt T (.pointer (some ⟨p, 0, none⟩))).run Tryz.prog W = .ok (fv f) W) (hk : PW B N w0 ops rest ((d, .vl (fv f)) :: fr) Q) : PW B N w0 ops (o :: rest) fr Q :=
 PW.val (r := .vl (fv f)) hw hd hN rfl (fun a W hf => by
  have h1 : a.tmps.getD s undef = .pointer (some ⟨p, 0, none⟩) := hf.ho s _ hs
  have h2 : W.cell? ⟨p, 0, none⟩ = some (fv f) := by
   rw [hf.be.cell (by rw [hB]; exact World.block_lt_of_cell? w0 ⟨p, 0, none⟩ hc)]; exact hc
  refine ⟨_, ?_, rfl⟩
  unfold execOp
  rw [ho]
  show (do pure (.value (← Instr.loadAt T (a.tmps.getD s undef))) : Sem Next).run Tryz.prog W = _
  rw [h1]
  exact run_val (hl W h2)) hk
theorem PW.callF {c : Call} {f : FuncId} {ks : List Know} {r : AV} {s : Nat} (hw : wantB ops fr o = some true) (hd : o.dst = some d) (hN : Nat.blt d N = true) (ho : o.op = .call c) (hc : c.callee = .value (.tmp s)) (hs : look fr s = some (.vl (fv f))) (ha : opks fr c.args.toList = some ks) (hst : St r.of) (hr : r.isBx = false)
  (h : CallOk f ks r.of) (hk : PW B N w0 ops rest ((d, r) :: fr) Q) : PW B N w0 ops (o :: rest) fr Q :=
 PW.step hw fun a W hf K hK => by
  obtain ⟨dst, op, ty, pos, after, guard⟩ := o
  simp only at ho hd
  subst ho
  subst hd
  unfold Oper.wp
  rw [run_callF h.1 hc a.eval (hf.ho s _ hs) ty W]
  simp only [Oper.upon]
  have e : (c.args.toList.map a.eval).toArray = c.args.map a.eval ++ #[] := by rw [← Array.toList_map, Array.toArray_toList, Array.append_empty]
  have := h.2 W _ (opks_spec hf ha)
  rw [e] at this
  refine this.mono fun e W' ⟨v, he, hv, hn⟩ => ?_
  subst he
  exact hK _ _ (hk _ _ ((hf.nw hn).set hN (Ho.mk hr hv hst) hr))
end

theorem ce_k_ceil : CE 135 := fun args W => by go_simp
set_option maxHeartbeats 6400000 in
set_option maxRecDepth 100000 in
theorem k_ceil {x : Rat} {a : Nat} (X : bq a x) (ha : a ≤ 20000) : CallOk 135 [KQ (x).num (((x).den : Int) - 1)] (KI (clq x)) := by
 refine CallOk.enter (l := [.kw (KQ (x).num (((x).den : Int) - 1))]) 7 ce_k_ceil Tryz.func135 rfl Tryz.ntmps135 (by simp) ⟨(KQ.st _ _), rfl, trivial⟩ fun w => ?_
 refine SC.seq (SC.region ?_)
 refine PW.box (x := .tmp 0) (r := .kw (KQ (x).num (((x).den : Int) - 1))) (BQ 38) rfl rfl rfl rfl rfl bQ rfl sh_Q ?_
 refine PW.alloc (BI 31) rfl rfl rfl rfl rfl bI ?_
 refine PW.nil (SX.then (SC.seq (SC.region ?_)))
 refine PW.load rfl rfl rfl rfl rfl rfl ?_
 refine PW.call (r := .kw (KQ (-x).num (((-x).den : Int) - 1))) rfl rfl rfl rfl rfl rfl (KQ.st _ _) rfl (k_rneg) ?_
 refine PW.call (r := .kw (KI (flq (-x)))) rfl rfl rfl rfl rfl rfl (KI.st _) rfl (k_rfloor X.neg (by omega)) ?_
 refine PW.call (r := .kw (KI (-(flq (-x))))) rfl rfl rfl rfl rfl rfl (KI.st _) rfl (k_neg) ?_
 refine PW.store (x := .tmp 6) (r := .kw (KI (-(flq (-x))))) rfl rfl rfl rfl rfl rfl sh_I ?_
 refine PW.nil (SX.then (SC.ret ?_))
 exact SX.doneC (s := 2) (.inl rfl) rfl rfl rfl
theorem ce_k_near : CE 137 := fun args W => by go_simp
set_option maxHeartbeats 6400000 in
set_option maxRecDepth 100000 in
theorem k_near {x : Rat} {a : Nat} (X : bq a x) (ha : a ≤ 20000) : CallOk 137 [KQ (x).num (((x).den : Int) - 1)] (KI (nrq x)) := by
 refine CallOk.enter (l := [.kw (KQ (x).num (((x).den : Int) - 1))]) 31 ce_k_near Tryz.func137 rfl Tryz.ntmps137 (by simp) ⟨(KQ.st _ _), rfl, trivial⟩ fun w => ?_
 refine SC.seq (SC.region ?_)
 refine PW.box (x := .tmp 0) (r := .kw (KQ (x).num (((x).den : Int) - 1))) (BQ 38) rfl rfl rfl rfl rfl bQ rfl sh_Q ?_
 refine PW.alloc (BI 31) rfl rfl rfl rfl rfl bI ?_
 refine PW.nil (SX.then (SC.seq (SC.region ?_)))
 refine PW.load rfl rfl rfl rfl rfl rfl ?_
 refine PW.call (r := .kw (KI (flq x))) rfl rfl rfl rfl rfl rfl (KI.st _) rfl (k_rfloor X (by omega)) ?_
 refine PW.alloc (BI 31) rfl rfl rfl rfl rfl bI ?_
 refine PW.store (x := .tmp 7) (r := .kw (KI (flq x))) rfl rfl rfl rfl rfl rfl sh_I ?_
 refine PW.nil (SX.then (SC.seq (SC.region ?_)))
 refine PW.call (r := .kw (KI (1))) rfl rfl rfl rfl rfl rfl (KI.st _) rfl (k_one) ?_
 refine PW.call (r := .kw (KI (2))) rfl rfl rfl rfl rfl rfl (KI.st _) rfl (k_new (by decide)) ?_
 refine PW.call (r := .kw (KQ (Rat.divInt (1) (2)).num (((Rat.divInt (1) (2)).den : Int) - 1))) rfl rfl rfl rfl rfl rfl (KQ.st _ _) rfl (k_rmade bd.one (bd.lit (by decide)) (by decide) (by omega) (by omega)) ?_
 refine PW.alloc (BQ 38) rfl rfl rfl rfl rfl bQ ?_
 refine PW.store (x := .tmp 10) (r := .kw (KQ (Rat.divInt (1) (2)).num (((Rat.divInt (1) (2)).den : Int) - 1))) rfl rfl rfl rfl rfl rfl sh_Q ?_
 refine PW.nil (SX.then (SC.seq ?_))
 refine SC.dx [.val 11 (.kw (KQ (x).num (((x).den : Int) - 1))), .val 12 (.kw (KI (flq x))), .val 13 (.kw (KQ (((flq x : Int) : Rat)).num (((((flq x : Int) : Rat)).den : Int) - 1))), .val 14 (.kw (KQ (x - (((flq x : Int) : Rat))).num (((x - (((flq x : Int) : Rat))).den : Int) - 1))), .val 15 (.kw (KQ (Rat.divInt (1) (2)).num (((Rat.divInt (1) (2)).den : Int) - 1))), .val 16 (.vl (.int .i64 (cmpq (x - (((flq x : Int) : Rat))) (Rat.divInt (1) (2))))), .val 5 (.vl (.int .i64 (cmpq (x - (((flq x : Int) : Rat))) (Rat.divInt (1) (2)))))] [([], [1]), ([], [3]), ([1], []), ([0, 2], []), ([], [4]), ([3, 4], []), ([5], [])] rfl (by kernel_rfl) (by kernel_rfl) (by kernel_rfl) rfl ⟨?_, ?_, ?_, ?_, ?_, ?_, ?_, trivial⟩ ?_
 ·exact DX.load rfl rfl rfl rfl rfl rfl
 ·exact DX.load rfl rfl rfl rfl rfl rfl
 ·exact DX.call (r := .kw (KQ (((flq x : Int) : Rat)).num (((((flq x : Int) : Rat)).den : Int) - 1))) rfl rfl rfl rfl rfl rfl (KQ.st _ _) rfl (k_rof)
 ·exact DX.call (r := .kw (KQ (x - (((flq x : Int) : Rat))).num (((x - (((flq x : Int) : Rat))).den : Int) - 1))) rfl rfl rfl rfl rfl rfl (KQ.st _ _) rfl (k_rsub X (bq.int1 ((bq.fl X))) (by omega) (by omega))
 ·exact DX.load rfl rfl rfl rfl rfl rfl
 ·exact DX.call (r := .vl (.int .i64 (cmpq (x - (((flq x : Int) : Rat))) (Rat.divInt (1) (2))))) rfl rfl rfl rfl rfl rfl (KV.st _) rfl (k_rcmp (X.sub (bq.int1 ((bq.fl X)))) (bq.over bd.one (bd.lit (by decide)) (by decide)) (by omega) (by omega))
 ·exact DX.assign rfl rfl rfl rfl rfl rfl
 refine SX.then (SC.seq (SC.seq ?_))
 by_cases n1 : 0 < cmpq (x - ((flq x : Int) : Rat)) (Rat.divInt (1) (2))
 ·refine SC.region ?_
  refine PW.move rfl rfl rfl rfl rfl ?_
  refine PW.q2 (x := .tmp 17) (y := .const (.int .i64 0)) (.bool true) rfl rfl rfl rfl rfl (fun ρ W h1 h2 => by exact r_gt h1 h2 (decide_eq_true n1)) ?_
  refine PW.move rfl rfl rfl rfl rfl ?_
  refine PW.skip rfl rfl rfl ?_
  refine PW.skip rfl rfl rfl ?_
  refine PW.skip rfl rfl rfl ?_
  refine PW.skip rfl rfl rfl ?_
  refine PW.skip rfl rfl rfl ?_
  refine PW.skip rfl rfl rfl ?_
  refine PW.pick (t := true) rfl rfl rfl rfl rfl rfl ?_
  refine PW.nil (SX.then (SC.cond (t := true) rfl (SC.seq ?_)))
  refine SC.dx [.val 27 (.kw (KI (flq x))), .val 28 (.kw (KI (1))), .val 29 (.kw (KI ((flq x) + 1))), .put 2 (BI 31) (.kw (KI ((flq x) + 1)))] [([], [3]), ([], []), ([0, 1], []), ([2], [2])] rfl (by kernel_rfl) (by kernel_rfl) (by kernel_rfl) rfl ⟨?_, ?_, ?_, ?_, trivial⟩ ?_
  ·exact DX.load rfl rfl rfl rfl rfl rfl
  ·exact DX.call (r := .kw (KI (1))) rfl rfl rfl rfl rfl rfl (KI.st _) rfl (k_one)
  ·exact DX.call (r := .kw (KI ((flq x) + 1))) rfl rfl rfl rfl rfl rfl (KI.st _) rfl (k_add ((bq.fl X)) bd.one (by omega) (by omega))
  ·exact DX.store (x := .tmp 29) (r := .kw (KI ((flq x) + 1))) rfl rfl rfl rfl rfl rfl sh_I
  refine SX.then (SC.ret (SX.thenR ?_))
  rw [show nrq x = _ from if_pos (.inl n1)]
  exact SX.doneC (s := 2) (.inl rfl) rfl rfl rfl
 ·by_cases n2 : cmpq (x - ((flq x : Int) : Rat)) (Rat.divInt (1) (2)) = 0
  ·by_cases n3 : flq x % 2 = 1
   ·refine SC.region ?_
    refine PW.move rfl rfl rfl rfl rfl ?_
    refine PW.q2 (x := .tmp 17) (y := .const (.int .i64 0)) (.bool false) rfl rfl rfl rfl rfl (fun ρ W h1 h2 => by exact r_gt h1 h2 (decide_eq_false n1)) ?_
    refine PW.move rfl rfl rfl rfl rfl (PW.move rfl rfl rfl rfl rfl ?_)
    refine PW.q2 (x := .tmp 20) (y := .const (.int .i64 0)) (.bool true) rfl rfl rfl rfl rfl (fun ρ W h1 h2 => by exact r_eqT h1 h2 n2) ?_
    refine PW.move rfl rfl rfl rfl rfl ?_
    refine PW.load rfl rfl rfl rfl rfl rfl ?_
    refine PW.call (r := .vl (.bool true)) rfl rfl rfl rfl rfl rfl (KV.st _) rfl (callK (k_odd ((bq.fl X)) (by omega)) (by rw [decide_eq_true n3]; rfl)) ?_
    refine PW.pick (t := true) rfl rfl rfl rfl rfl rfl ?_
    refine PW.pick (t := false) rfl rfl rfl rfl rfl rfl ?_
    refine PW.nil (SX.then (SC.cond (t := true) rfl (SC.seq ?_)))
    refine SC.dx [.val 27 (.kw (KI (flq x))), .val 28 (.kw (KI (1))), .val 29 (.kw (KI ((flq x) + 1))), .put 2 (BI 31) (.kw (KI ((flq x) + 1)))] [([], [3]), ([], []), ([0, 1], []), ([2], [2])] rfl (by kernel_rfl) (by kernel_rfl) (by kernel_rfl) rfl ⟨?_, ?_, ?_, ?_, trivial⟩ ?_
    ·exact DX.load rfl rfl rfl rfl rfl rfl
    ·exact DX.call (r := .kw (KI (1))) rfl rfl rfl rfl rfl rfl (KI.st _) rfl (k_one)
    ·exact DX.call (r := .kw (KI ((flq x) + 1))) rfl rfl rfl rfl rfl rfl (KI.st _) rfl (k_add ((bq.fl X)) bd.one (by omega) (by omega))
    ·exact DX.store (x := .tmp 29) (r := .kw (KI ((flq x) + 1))) rfl rfl rfl rfl rfl rfl sh_I
    refine SX.then (SC.ret (SX.thenR ?_))
    rw [show nrq x = _ from if_pos (.inr ⟨n2, n3⟩)]
    exact SX.doneC (s := 2) (.inl rfl) rfl rfl rfl
   ·refine SC.region ?_
    refine PW.move rfl rfl rfl rfl rfl ?_
    refine PW.q2 (x := .tmp 17) (y := .const (.int .i64 0)) (.bool false) rfl rfl rfl rfl rfl (fun ρ W h1 h2 => by exact r_gt h1 h2 (decide_eq_false n1)) ?_
    refine PW.move rfl rfl rfl rfl rfl (PW.move rfl rfl rfl rfl rfl ?_)
    refine PW.q2 (x := .tmp 20) (y := .const (.int .i64 0)) (.bool true) rfl rfl rfl rfl rfl (fun ρ W h1 h2 => by exact r_eqT h1 h2 n2) ?_
    refine PW.move rfl rfl rfl rfl rfl ?_
    refine PW.load rfl rfl rfl rfl rfl rfl ?_
    refine PW.call (r := .vl (.bool false)) rfl rfl rfl rfl rfl rfl (KV.st _) rfl (callK (k_odd ((bq.fl X)) (by omega)) (by rw [decide_eq_false n3]; rfl)) ?_
    refine PW.pick (t := true) rfl rfl rfl rfl rfl rfl ?_
    refine PW.pick (t := false) rfl rfl rfl rfl rfl rfl ?_
    refine PW.nil (SX.then (SC.cond (t := false) rfl (SC.skip (SX.then (SC.seq (SC.region ?_))))))
    refine PW.load rfl rfl rfl rfl rfl rfl ?_
    refine PW.store (x := .tmp 30) (r := .kw (KI (flq x))) rfl rfl rfl rfl rfl rfl sh_I ?_
    refine PW.nil (SX.then (SC.ret ?_))
    rw [show nrq x = _ from if_neg (fun h => h.elim n1 (fun h => n3 h.2))]
    exact SX.doneC (s := 2) (.inl rfl) rfl rfl rfl
  ·refine SC.region ?_
   refine PW.move rfl rfl rfl rfl rfl ?_
   refine PW.q2 (x := .tmp 17) (y := .const (.int .i64 0)) (.bool false) rfl rfl rfl rfl rfl (fun ρ W h1 h2 => by exact r_gt h1 h2 (decide_eq_false n1)) ?_
   refine PW.move rfl rfl rfl rfl rfl (PW.move rfl rfl rfl rfl rfl ?_)
   refine PW.q2 (x := .tmp 20) (y := .const (.int .i64 0)) (.bool false) rfl rfl rfl rfl rfl (fun ρ W h1 h2 => by exact r_eqF h1 h2 n2) ?_
   refine PW.move rfl rfl rfl rfl rfl ?_
   refine PW.skip rfl rfl rfl ?_
   refine PW.skip rfl rfl rfl ?_
   refine PW.pick (t := false) rfl rfl rfl rfl rfl rfl ?_
   refine PW.pick (t := false) rfl rfl rfl rfl rfl rfl ?_
   refine PW.nil (SX.then (SC.cond (t := false) rfl (SC.skip (SX.then (SC.seq (SC.region ?_))))))
   refine PW.load rfl rfl rfl rfl rfl rfl ?_
   refine PW.store (x := .tmp 30) (r := .kw (KI (flq x))) rfl rfl rfl rfl rfl rfl sh_I ?_
   refine PW.nil (SX.then (SC.ret ?_))
   rw [show nrq x = _ from if_neg (fun h => h.elim n1 (fun h => n2 h.1))]
   exact SX.doneC (s := 2) (.inl rfl) rfl rfl rfl
set_option maxHeartbeats 3200000 in
theorem trunc_c {x : Rat} {a : Nat} (X : bq a x) (ha : a ≤ 20000) {u : Value} {w : World} {p : Nat} (hu : (KQ (x).num (((x).den : Int) - 1)) u w) (hc : w.cell? ⟨p, 0, none⟩ = some (fv 135)) : Calls Tryz.prog 136 #[u, .pointer (some ⟨p, 0, none⟩)] w (Ret w (KI (trq x))) := by
 refine calls_sc (l := [.kw (KQ (x).num (((x).den : Int) - 1)), .vl (.pointer (some ⟨p, 0, none⟩))]) (us := [u, .pointer (some ⟨p, 0, none⟩)]) 12 Tryz.func136 rfl Tryz.ntmps136 (by simp) ⟨⟨hu, KQ.st _ _⟩, rfl, rfl, rfl, trivial⟩ ?_
 refine SC.seq (SC.region ?_)
 refine PW.box (x := .tmp 0) (r := .kw (KQ (x).num (((x).den : Int) - 1))) (BQ 38) rfl rfl rfl rfl rfl bQ rfl sh_Q ?_
 refine PW.alloc (BI 31) rfl rfl rfl rfl rfl bI ?_
 refine PW.nil (SX.then (SC.seq (SC.seq ?_)))
 by_cases hn : sgq x < 0
 ·refine SC.region ?_
  refine PW.load rfl rfl rfl rfl rfl rfl ?_
  refine PW.call (r := .vl (.int .i64 (sgq x))) rfl rfl rfl rfl rfl rfl (KV.st _) rfl (k_rsign) ?_
  refine PW.q2 (x := .tmp 5) (y := .const (.int .i64 0)) (.bool true) rfl rfl rfl rfl rfl (fun ρ W h1 h2 => by exact r_lt h1 h2 (decide_eq_true hn)) ?_
  refine PW.nil (SX.then (SC.cond (t := true) rfl (SC.seq (SC.region ?_))))
  refine PW.fload (T := 133) rfl rfl rfl rfl rfl rfl hc (fun W h => by go_simp) ?_
  refine PW.load rfl rfl rfl rfl rfl rfl ?_
  refine PW.callF (s := 7) (r := .kw (KI (clq x))) rfl rfl rfl rfl rfl rfl rfl (KI.st _) rfl (k_ceil X ha) ?_
  refine PW.store (x := .tmp 9) (r := .kw (KI (clq x))) rfl rfl rfl rfl rfl rfl sh_I ?_
  refine PW.nil (SX.then (SC.ret (SX.thenR ?_)))
  rw [show trq x = _ from if_pos hn]
  exact SX.doneC (s := 3) (.inl rfl) rfl rfl rfl
 ·refine SC.region ?_
  refine PW.load rfl rfl rfl rfl rfl rfl ?_
  refine PW.call (r := .vl (.int .i64 (sgq x))) rfl rfl rfl rfl rfl rfl (KV.st _) rfl (k_rsign) ?_
  refine PW.q2 (x := .tmp 5) (y := .const (.int .i64 0)) (.bool false) rfl rfl rfl rfl rfl (fun ρ W h1 h2 => by exact r_lt h1 h2 (decide_eq_false hn)) ?_
  refine PW.nil (SX.then (SC.cond (t := false) rfl (SC.skip (SX.then (SC.seq (SC.region ?_))))))
  refine PW.load rfl rfl rfl rfl rfl rfl ?_
  refine PW.call (r := .kw (KI (flq x))) rfl rfl rfl rfl rfl rfl (KI.st _) rfl (k_rfloor X (by omega)) ?_
  refine PW.store (x := .tmp 11) (r := .kw (KI (flq x))) rfl rfl rfl rfl rfl rfl sh_I ?_
  refine PW.nil (SX.then (SC.ret ?_))
  rw [show trq x = _ from if_neg hn]
  exact SX.doneC (s := 3) (.inl rfl) rfl rfl rfl
def fnv (way : Int) (p : Nat) : Value := if way = 0 then fv 131 else if way = 1 then fv 135 else if way = 2 then .func (.func 136) #[] #[.pointer (some ⟨p, 0, none⟩)] else fv 137
theorem r_index4 {x y : Operand} {dst : Option Tmp} {ty : TypeId} {pos : String} {after : Array Edge} {guard : Option (Nat × Bool)} {ρ : Operand → Value} {W : World} {p : Nat} {way : Int} (h1 : ρ x = four p) (h2 : ρ y = .int .i64 way) (hw0 : ¬ way < 0) (hw3 : ¬ way > 3) : (execOp ρ ⟨dst, .index 134 x y, ty, pos, after, guard⟩).run Tryz.prog W = .ok (.value (fnv way p)) W := by
 have hu := run_underlying Tryz.underlying134
 have e : ∀ j : Nat, j < 4 → (Instr.index 134 (four p) (.int .i64 (j : Int))).run Tryz.prog W = .ok (fnv (j : Int) p) W := fun j hj => by
  match j, hj with
  | 0, _ => simp [four, fnv, Instr.index, hu, asIntOf, go_sem]
  | 1, _ => simp [four, fnv, Instr.index, hu, asIntOf, go_sem]
  | 2, _ => simp [four, fnv, Instr.index, hu, asIntOf, go_sem]
  | 3, _ => simp [four, fnv, Instr.index, hu, asIntOf, go_sem]
 obtain ⟨j, rfl⟩ : ∃ j : Nat, way = (j : Int) := ⟨way.toNat, by omega⟩
 unfold execOp
 simp only [h1, h2]
 exact run_val (e j (by omega))
theorem fnv_call {x : Rat} {a : Nat} (X : bq a x) (ha : a ≤ 20000) {way : Int} (hw0 : ¬ way < 0) (hw3 : ¬ way > 3) {W : World} {b p : Nat} {u : Value} (hu : KQ (x).num (((x).den : Int) - 1) u W) (own : OwS W b 133 1 (.slice (some ⟨p, 0, none⟩) 1 1) 1 RF) :
  ∃ f caps, fnv way p = .func (.func f) #[] caps ∧ CE f ∧ Calls Tryz.prog f (#[u] ++ caps) W (Ret W (KI (rdq way x))) := by
 obtain rfl | rfl | rfl | rfl : way = 0 ∨ way = 1 ∨ way = 2 ∨ way = 3 := by omega
 ·have k := k_rfloor X (by omega)
  exact ⟨_, #[], rfl, k.1, k.2 W [u] ⟨hu, trivial⟩⟩
 ·have k := k_ceil X ha
  exact ⟨_, #[], rfl, k.1, k.2 W [u] ⟨hu, trivial⟩⟩
 ·obtain ⟨⟨xs, p1, p2⟩, _⟩ := own
  have hx : xs = [fv 135] := p2
  subst hx
  have hc := p1.cells (g := p) rfl 0 _ rfl
  have hc : W.cell? ⟨p, 0, none⟩ = some (fv 135) := hc
  exact ⟨_, #[.pointer (some ⟨p, 0, none⟩)], rfl, fun args W => by go_simp, trunc_c X ha hu hc⟩
 ·have k := k_near X ha
  exact ⟨_, #[], rfl, k.1, k.2 W [u] ⟨hu, trivial⟩⟩
def qes (way : Int) (z : Rat) (p : Nat) : List Eff := [.val 31 (.vl (four p)), .val 32 (.vl (.int .i64 (way))), .val 33 (.vl (fnv way p)), .val 34 (.kw (KQ (z).num (((z).den : Int) - 1))), .val 35 (.kw (KI (rdq way z))), .new 11 (BI 31)]
def qk (p : Nat) : AV := .rs (.slice (some ⟨p, 0, none⟩) 1 1) 133 1 1 RF
theorem twice_off {ops : Array Oper} {es : List Eff} (h : twiceB ops es = true) {L : Nat → Bool} (hD : Dn ops L) {i : Nat} {e : Eff} (he : es[i]? = some e) (hL : L i = false) : ∀ k e', i < k → es[k]? = some e' → e'.slot = e.slot → L k = false := fun k e' hik hk hsl => by
 cases hk2 : L k with
 | false => rfl
 | true => exact absurd ((hD k i hk2 (twice_spec h hik hk he hsl)).symm.trans hL) (by simp)
theorem step_see {B N : Nat} {w0 : World} {ops : Array Oper} {es : List Eff} {base : List (Nat × AV)} {i : Nat} {o : Oper} {e : Eff} {L : Nat → Bool} {Q : Exit → Act → World → Prop} (hi : ops[i]? = some o) (he : es[i]? = some e) (htw : twiceB ops es = true) (js ss : List Nat) (hsb : seeB ops es i js ss = true) (hE : Eo B N w0 ops o (see es base js ss) e) (hcal : e.isR = false) (hD : Dn ops L) (hL : L i = false) (hw : ∀ j, wt ops i j = true → L j = true)
  {a : Act} {W : World} (hf : Fr B N w0 (cur 0 es L base) a W) {K : Act → World → Prop} (hK : ∀ a' W', Fr B N w0 (cur 0 es (add L i) base) a' W' → K a' W') : wpOp Tryz.prog ops Q i K a W :=
 hE.step hi hf (see_spec hD hL hw js ss hsb) (fun hr => by rw [hcal] at hr; cases hr) fun a' W' hf' => hK a' W' (hf'.ext fun s => look_add he hL (twice_off htw hD he hL) s)
theorem callV {B N : Nat} {w0 : World} {ops : Array Oper} {o : Oper} {fr : List (Nat × AV)} {d s : Nat} {c : Call} {r : AV} (hw : wantB ops fr o = some true) (hd : o.dst = some d) (hN : Nat.blt d N = true) (ho : o.op = .call c) (hc : c.callee = .value (.tmp s)) (hst : St r.of) (hr : r.isBx = false)
  (h : ∀ a W, Fr B N w0 fr a W → ∃ f caps, a.tmps.getD s undef = .func (.func f) #[] caps ∧ CE f ∧ Calls Tryz.prog f (c.args.map a.eval ++ caps) W (Ret W r.of)) : Eo B N w0 ops o fr (.val d r) := by
 refine ⟨hd, hN, hr, fun a W hf => .inl ⟨wantB_spec hf hw, ?_⟩⟩
 obtain ⟨dst, op, ty, pos, after, guard⟩ := o
 simp only at ho
 subst ho
 unfold Rh.gives
 obtain ⟨f, caps, h1, h2, h3⟩ := h a W hf
 rw [run_callF h2 hc a.eval h1 ty W]
 exact Rh.gives_enter (h3.mono fun e W' ⟨v, he, hv, hn⟩ => ⟨v, he, hn, Ho.mk hr hv hst⟩)
set_option maxRecDepth 100000 in
theorem gives_rounded {o : Oper} {c : Call} (ho : o.op = .call c) (hc : c.callee = .value (.func 97)) (ha : c.args = #[]) (a : Act) (W : World) : Rh.gives Tryz.prog o a W fun u W' => Nw W W' ∧ ∃ p, u = four p ∧ OwS W' W.heap.size 133 1 (.slice (some ⟨p, 0, none⟩) 1 1) 1 RF := by
 obtain ⟨dst, op, ty, pos, after, guard⟩ := o
 simp only at ho
 subst ho
 unfold Rh.gives
 have ce : CE 97 := fun args W => by go_simp
 rw [run_call ce hc a.eval rfl ty W, ha, Array.map_empty]
 exact Rh.gives_enter (rounded_c.mono fun e W' ⟨v, he, hv, hn⟩ => ⟨v, he, hn, hv⟩)
theorem PW.go {B N : Nat} {w0 : World} {ops : Array Oper} {rest : List Oper} {fr : List (Nat × AV)} {Q : Exit → Act → World → Prop} {a : Act} {W : World} (hf : Fr B N w0 fr a W) (h : PW B N w0 ops rest fr Q) : wpList Tryz.prog ops Q rest a W := h a W hf
theorem ce_k_rquo : CE 45 := fun args W => by go_simp
set_option maxHeartbeats 6400000 in
set_option maxRecDepth 100000 in
theorem k_rquo {x y : Rat} {way : Int} {a b : Nat} (X : bq a x) (Y : bq b y) (ha : a ≤ 1000) (hb : b ≤ 1000) : CallOk 45 [KQ (x).num (((x).den : Int) - 1), KV (.int .i64 (way)), KQ (y).num (((y).den : Int) - 1)] (KQt way x y) := by
 refine CallOk.enter (l := [.kw (KQ (x).num (((x).den : Int) - 1)), .vl (.int .i64 (way)), .kw (KQ (y).num (((y).den : Int) - 1))]) 43 ce_k_rquo Tryz.func45 rfl Tryz.ntmps45 (by simp) ⟨(KQ.st _ _), rfl, (KV.st _), rfl, (KQ.st _ _), rfl, trivial⟩ fun w => ?_
 refine SC.seq (SC.region ?_)
 refine PW.box (x := .tmp 0) (r := .kw (KQ (x).num (((x).den : Int) - 1))) (BQ 38) rfl rfl rfl rfl rfl bQ rfl sh_Q ?_
 refine PW.box (x := .tmp 2) (r := .kw (KQ (y).num (((y).den : Int) - 1))) (BQ 38) rfl rfl rfl rfl rfl bQ rfl sh_Q ?_
 refine PW.alloc (BI 31) rfl rfl rfl rfl rfl bI ?_
 refine PW.alloc (BQ 38) rfl rfl rfl rfl rfl bQ ?_
 refine PW.assign rfl rfl rfl rfl rfl (PW.nil (SX.then (SC.seq (SC.seq ?_))))
 by_cases w0 : way < 0
 ·refine SC.region ?_
  refine PW.move rfl rfl rfl rfl rfl ?_
  refine PW.q2 (x := .tmp 12) (y := .const (.int .i64 0)) (.bool true) rfl rfl rfl rfl rfl (fun ρ W h1 h2 => by exact r_lt h1 h2 (decide_eq_true (by omega))) ?_
  refine PW.move rfl rfl rfl rfl rfl ?_
  refine PW.skip rfl rfl rfl ?_
  refine PW.skip rfl rfl rfl ?_
  refine PW.pick (t := true) rfl rfl rfl rfl rfl rfl ?_
  refine PW.nil (SX.then (SC.cond (t := true) rfl (SC.seq (SC.region ?_))))
  refine PW.val (r := .kw (KI (0))) rfl rfl rfl rfl (fun a W hf => ⟨.agg #[.bool false, .slice none 0 0], by go_simp, zeroI _ w W⟩) ?_
  refine PW.val (r := .kw (KQ (0) (0))) rfl rfl rfl rfl (fun a W hf => ⟨_, r_bldQ0, zeroQ W, KQ.st _ _⟩) ?_
  refine PW.store (x := .tmp 18) (r := .kw (KI (0))) rfl rfl rfl rfl rfl rfl sh_I ?_
  refine PW.store (x := .tmp 19) (r := .kw (KQ (0) (0))) rfl rfl rfl rfl rfl rfl sh_Q ?_
  refine PW.assign rfl rfl rfl rfl rfl (PW.nil (SX.then (SC.ret (SX.thenR ?_))))
  rw [KQt_bad (.inl w0)]
  exact SX.done3 (s := 6) (s' := 7) (t := 8) (r := .vl (.int .i64 1)) (.inl rfl) rfl rfl rfl rfl rfl
 ·by_cases w3 : way > 3
  ·refine SC.region ?_
   refine PW.move rfl rfl rfl rfl rfl ?_
   refine PW.q2 (x := .tmp 12) (y := .const (.int .i64 0)) (.bool false) rfl rfl rfl rfl rfl (fun ρ W h1 h2 => by exact r_lt h1 h2 (decide_eq_false (by omega))) ?_
   refine PW.move rfl rfl rfl rfl rfl (PW.move rfl rfl rfl rfl rfl ?_)
   refine PW.q2 (x := .tmp 15) (y := .const (.int .i64 3)) (.bool true) rfl rfl rfl rfl rfl (fun ρ W h1 h2 => by exact r_gt h1 h2 (decide_eq_true (by omega))) ?_
   refine PW.pick (t := false) rfl rfl rfl rfl rfl rfl ?_
   refine PW.nil (SX.then (SC.cond (t := true) rfl (SC.seq (SC.region ?_))))
   refine PW.val (r := .kw (KI (0))) rfl rfl rfl rfl (fun a W hf => ⟨.agg #[.bool false, .slice none 0 0], by go_simp, zeroI _ w W⟩) ?_
   refine PW.val (r := .kw (KQ (0) (0))) rfl rfl rfl rfl (fun a W hf => ⟨_, r_bldQ0, zeroQ W, KQ.st _ _⟩) ?_
   refine PW.store (x := .tmp 18) (r := .kw (KI (0))) rfl rfl rfl rfl rfl rfl sh_I ?_
   refine PW.store (x := .tmp 19) (r := .kw (KQ (0) (0))) rfl rfl rfl rfl rfl rfl sh_Q ?_
   refine PW.assign rfl rfl rfl rfl rfl (PW.nil (SX.then (SC.ret (SX.thenR ?_))))
   rw [KQt_bad (.inr w3)]
   exact SX.done3 (s := 6) (s' := 7) (t := 8) (r := .vl (.int .i64 1)) (.inl rfl) rfl rfl rfl rfl rfl
  ·refine SC.region ?_
   refine PW.move rfl rfl rfl rfl rfl ?_
   refine PW.q2 (x := .tmp 12) (y := .const (.int .i64 0)) (.bool false) rfl rfl rfl rfl rfl (fun ρ W h1 h2 => by exact r_lt h1 h2 (decide_eq_false (by omega))) ?_
   refine PW.move rfl rfl rfl rfl rfl (PW.move rfl rfl rfl rfl rfl ?_)
   refine PW.q2 (x := .tmp 15) (y := .const (.int .i64 3)) (.bool false) rfl rfl rfl rfl rfl (fun ρ W h1 h2 => by exact r_gt h1 h2 (decide_eq_false (by omega))) ?_
   refine PW.pick (t := false) rfl rfl rfl rfl rfl rfl ?_
   refine PW.nil (SX.then (SC.cond (t := false) rfl (SC.skip (SX.then (SC.seq ?_)))))
   by_cases h0 : y ≠ 0
   ·refine SC.region ?_
    refine PW.load rfl rfl rfl rfl rfl rfl ?_
    refine PW.load rfl rfl rfl rfl rfl rfl ?_
    refine PW.call (r := .kw (K2 (KQ (x / y).num (((x / y).den : Int) - 1)) (KV (.int .i64 0)))) rfl rfl rfl rfl rfl rfl (K2.st (KQ.st _ _) (KV.st _)) rfl (k_rdiv X Y (by omega) (by omega) h0) ?_
    refine PW.move rfl rfl rfl rfl rfl ?_
    refine PW.ext (r := .kw (KQ (x / y).num (((x / y).den : Int) - 1))) rfl rfl rfl rfl rfl ex20 (KQ.st _ _) rfl ?_
    refine PW.ext (r := .vl (.int .i64 0)) rfl rfl rfl rfl rfl ex21v (KV.st _) rfl ?_
    refine PW.alloc (BQ 38) rfl rfl rfl rfl rfl bQ ?_
    refine PW.store (x := .tmp 24) (r := .kw (KQ (x / y).num (((x / y).den : Int) - 1))) rfl rfl rfl rfl rfl rfl sh_Q ?_
    refine PW.assign rfl rfl rfl rfl rfl (PW.nil (SX.then (SC.seq (SC.seq (SC.region (PW.move rfl rfl rfl rfl rfl ?_))))))
    refine PW.q2 (x := .tmp 26) (y := .const (.int .i64 0)) (.bool false) rfl rfl rfl rfl rfl (fun ρ W h1 h2 => by go_simp) ?_
    refine PW.nil (SX.then (SC.cond (t := false) rfl (SC.skip (SX.then (SC.seq ?_)))))
    refine SC.keep [(1, .vl (.int .i64 (way))), (3, .bx (BQ 38) (KQ (x).num (((x).den : Int) - 1))), (5, .bx (BQ 38) (KQ (y).num (((y).den : Int) - 1))), (6, .nb (BI 31)), (7, .nb (BQ 38)), (8, .vl (.int .i64 0)), (9, .bx (BQ 38) (KQ (x / y).num (((x / y).den : Int) - 1)))] ⟨rfl, rfl, rfl, rfl, rfl, rfl, rfl, trivial⟩ ?_
    refine SC.inv 6 (fun L a W => ∃ p, Fr w.heap.size 43 w (cur 0 (qes way (x / y) p) L (bif L 0 then (43, qk p) :: [(1, .vl (.int .i64 (way))), (3, .bx (BQ 38) (KQ (x).num (((x).den : Int) - 1))), (5, .bx (BQ 38) (KQ (y).num (((y).den : Int) - 1))), (6, .nb (BI 31)), (7, .nb (BQ 38)), (8, .vl (.int .i64 0)), (9, .bx (BQ 38) (KQ (x / y).num (((x / y).den : Int) - 1)))] else [(1, .vl (.int .i64 (way))), (3, .bx (BQ 38) (KQ (x).num (((x).den : Int) - 1))), (5, .bx (BQ 38) (KQ (y).num (((y).den : Int) - 1))), (6, .nb (BI 31)), (7, .nb (BQ 38)), (8, .vl (.int .i64 0)), (9, .bx (BQ 38) (KQ (x / y).num (((x / y).den : Int) - 1)))])) a W) rfl (by kernel_rfl) (by kernel_rfl) ?_ ?_ ?_ ?_
    ·exact fun a W hf => ⟨0, hf⟩
    ·intro L L' a W e hI
     obtain rfl : L = L' := funext e
     exact hI
    ·intro i o hi ho L a W hD hL hw hI K hK
     obtain ⟨p, hf⟩ := hI
     obtain rfl | rfl | rfl | rfl | rfl | rfl : i = 0 ∨ i = 1 ∨ i = 2 ∨ i = 3 ∨ i = 4 ∨ i = 5 := by omega
     ·have h2 : L 2 = false := by
       cases h : L 2 with
       | false => rfl
       | true => exact absurd (hD 2 0 h (by kernel_rfl)) (by rw [hL]; decide)
      rw [hL] at hf
      simp only [cond_false] at hf
      have e1 : ∀ p', cur 0 (qes way (x / y) p) L [(1, .vl (.int .i64 (way))), (3, .bx (BQ 38) (KQ (x).num (((x).den : Int) - 1))), (5, .bx (BQ 38) (KQ (y).num (((y).den : Int) - 1))), (6, .nb (BI 31)), (7, .nb (BQ 38)), (8, .vl (.int .i64 0)), (9, .bx (BQ 38) (KQ (x / y).num (((x / y).den : Int) - 1)))] = cur 0 (qes way (x / y) p') L [(1, .vl (.int .i64 (way))), (3, .bx (BQ 38) (KQ (x).num (((x).den : Int) - 1))), (5, .bx (BQ 38) (KQ (y).num (((y).den : Int) - 1))), (6, .nb (BI 31)), (7, .nb (BQ 38)), (8, .vl (.int .i64 0)), (9, .bx (BQ 38) (KQ (x / y).num (((x / y).den : Int) - 1)))] := fun p' => by
       simp only [qes, cur, hL, h2, Nat.zero_add, Nat.reduceAdd, Bool.false_eq_true, if_false]
      unfold wpOp
      rw [ho]
      simp only []
      injection ho with ho
      subst ho
      rw [if_pos (by rfl)]
      refine .inl (Rh.gives_wp (fun u W' hu => ?_) (gives_rounded rfl rfl rfl a W))
      obtain ⟨hn, p', rfl, own⟩ := hu
      refine hK _ _ ⟨p', ?_⟩
      have hf1 : Fr w.heap.size 43 w (cur 0 (qes way (x / y) p') L [(1, .vl (.int .i64 (way))), (3, .bx (BQ 38) (KQ (x).num (((x).den : Int) - 1))), (5, .bx (BQ 38) (KQ (y).num (((y).den : Int) - 1))), (6, .nb (BI 31)), (7, .nb (BQ 38)), (8, .vl (.int .i64 0)), (9, .bx (BQ 38) (KQ (x / y).num (((x / y).den : Int) - 1)))]) a W := e1 p' ▸ hf
      have hf2 := hf1.srow (K := 43) hn (fun g hg => own.base g hg) (own.weaken hf1.bs)
      have hf3 := hf2.set (d := 31) (v := .vl (four p')) rfl (u := four p') rfl rfl
      refine hf3.ext fun s => ?_
      show look (cur 0 (qes way (x / y) p') (add L 0) ((43, qk p') :: [(1, .vl (.int .i64 (way))), (3, .bx (BQ 38) (KQ (x).num (((x).den : Int) - 1))), (5, .bx (BQ 38) (KQ (y).num (((y).den : Int) - 1))), (6, .nb (BI 31)), (7, .nb (BQ 38)), (8, .vl (.int .i64 0)), (9, .bx (BQ 38) (KQ (x / y).num (((x / y).den : Int) - 1)))])) s = _
      rw [look_add (es := qes way (x / y) p') (i := 0) (e := .val 31 (.vl (four p'))) rfl hL (twice_off (by kernel_rfl) hD rfl hL) s]
      show look ((31, .vl (four p')) :: cur 0 (qes way (x / y) p') L ((43, qk p') :: [(1, .vl (.int .i64 (way))), (3, .bx (BQ 38) (KQ (x).num (((x).den : Int) - 1))), (5, .bx (BQ 38) (KQ (y).num (((y).den : Int) - 1))), (6, .nb (BI 31)), (7, .nb (BQ 38)), (8, .vl (.int .i64 0)), (9, .bx (BQ 38) (KQ (x / y).num (((x / y).den : Int) - 1)))])) s = _
      rw [look_cons, look_cons, look_cur_base _ _ _ (by intro e he; simp only [qes, List.mem_cons, List.not_mem_nil, or_false] at he; rcases he with rfl | rfl | rfl | rfl | rfl | rfl <;> simp [Eff.slot]) s]
      rfl
     ·injection ho with ho
      subst ho
      cases hL0 : L 0 with
      | false => rw [hL0] at hf; simp only [cond_false, cond_true] at hf; exact step_see (i := 1) rfl (es := qes way (x / y) p) rfl (by kernel_rfl) [] [1] (by kernel_rfl) (by exact DX.move rfl rfl rfl rfl rfl rfl) rfl hD hL hw hf fun a' W' h => hK _ _ ⟨p, by rw [show add L 1 0 = L 0 from rfl, hL0]; exact h⟩
      | true => rw [hL0] at hf; simp only [cond_false, cond_true] at hf; exact step_see (i := 1) rfl (es := qes way (x / y) p) rfl (by kernel_rfl) [] [1] (by kernel_rfl) (by exact DX.move rfl rfl rfl rfl rfl rfl) rfl hD hL hw hf fun a' W' h => hK _ _ ⟨p, by rw [show add L 1 0 = L 0 from rfl, hL0]; exact h⟩
     ·injection ho with ho
      subst ho
      have hL0 : L 0 = true := hw 0 (by kernel_rfl)
      rw [hL0] at hf
      simp only [cond_true] at hf
      exact step_see (i := 2) rfl (es := qes way (x / y) p) rfl (by kernel_rfl) [0, 1] [] (by kernel_rfl) (by exact DX.q2 (x := .tmp 31) (y := .tmp 32) (fnv way p) rfl rfl rfl rfl rfl (fun ρ W h1 h2 => r_index4 h1 h2 w0 w3)) rfl hD hL hw hf fun a' W' h => hK _ _ ⟨p, by rw [show add L 2 0 = L 0 from rfl, hL0]; exact h⟩
     ·injection ho with ho
      subst ho
      cases hL0 : L 0 with
      | false => rw [hL0] at hf; simp only [cond_false, cond_true] at hf; exact step_see (i := 3) rfl (es := qes way (x / y) p) rfl (by kernel_rfl) [] [9] (by kernel_rfl) (by exact DX.load rfl rfl rfl rfl rfl rfl) rfl hD hL hw hf fun a' W' h => hK _ _ ⟨p, by rw [show add L 3 0 = L 0 from rfl, hL0]; exact h⟩
      | true => rw [hL0] at hf; simp only [cond_false, cond_true] at hf; exact step_see (i := 3) rfl (es := qes way (x / y) p) rfl (by kernel_rfl) [] [9] (by kernel_rfl) (by exact DX.load rfl rfl rfl rfl rfl rfl) rfl hD hL hw hf fun a' W' h => hK _ _ ⟨p, by rw [show add L 3 0 = L 0 from rfl, hL0]; exact h⟩
     ·injection ho with ho
      subst ho
      have hL0 : L 0 = true := hw 0 (by kernel_rfl)
      rw [hL0] at hf
      simp only [cond_true] at hf
      refine step_see (i := 4) rfl (es := qes way (x / y) p) rfl (by kernel_rfl) [2, 3] [43] (by kernel_rfl) (callV (s := 33) (r := .kw (KI (rdq way (x / y)))) rfl rfl rfl rfl rfl (KI.st _) rfl (fun a W hf => ?_)) rfl hD hL hw hf fun a' W' h => hK _ _ ⟨p, by rw [show add L 4 0 = L 0 from rfl, hL0]; exact h⟩
      have e33 : a.tmps.getD 33 undef = fnv way p := hf.ho 33 _ rfl
      have e34 : KQ ((x / y)).num ((((x / y)).den : Int) - 1) (a.tmps.getD 34 undef) W := (hf.ho 34 (.kw (KQ ((x / y)).num ((((x / y)).den : Int) - 1))) rfl).1
      have own : OwS W w.heap.size 133 1 (.slice (some ⟨p, 0, none⟩) 1 1) 1 RF := hf.ho 43 (qk p) rfl
      obtain ⟨f, caps, q1, q2, q3⟩ := fnv_call (X.div Y h0) (by omega) w0 w3 e34 own
      refine ⟨f, caps, e33.trans q1, q2, ?_⟩
      show Calls Tryz.prog f (Array.map a.eval #[.tmp 34] ++ caps) W _
      rw [List.map_toArray]
      exact q3
     ·injection ho with ho
      subst ho
      cases hL0 : L 0 with
      | false => rw [hL0] at hf; simp only [cond_false, cond_true] at hf; exact step_see (i := 5) rfl (es := qes way (x / y) p) rfl (by kernel_rfl) [] [] (by kernel_rfl) (by exact DX.alloc (BI 31) rfl rfl rfl rfl bI rfl) rfl hD hL hw hf fun a' W' h => hK _ _ ⟨p, by rw [show add L 5 0 = L 0 from rfl, hL0]; exact h⟩
      | true => rw [hL0] at hf; simp only [cond_false, cond_true] at hf; exact step_see (i := 5) rfl (es := qes way (x / y) p) rfl (by kernel_rfl) [] [] (by kernel_rfl) (by exact DX.alloc (BI 31) rfl rfl rfl rfl bI rfl) rfl hD hL hw hf fun a' W' h => hK _ _ ⟨p, by rw [show add L 5 0 = L 0 from rfl, hL0]; exact h⟩
    intro L a W hall hI
    obtain ⟨p, hf⟩ := hI
    rw [hall 0 (by decide), cur_all _ 0 _ (fun k _ hk => hall k (by simpa [qes] using hk))] at hf
    refine PW.go hf ?_
    refine PW.keep [(1, .vl (.int .i64 (way))), (3, .bx (BQ 38) (KQ (x).num (((x).den : Int) - 1))), (5, .bx (BQ 38) (KQ (y).num (((y).den : Int) - 1))), (6, .nb (BI 31)), (7, .nb (BQ 38)), (8, .vl (.int .i64 0)), (9, .bx (BQ 38) (KQ (x / y).num (((x / y).den : Int) - 1))), (11, .nb (BI 31)), (35, .kw (KI (rdq way (x / y))))] ⟨rfl, rfl, rfl, rfl, rfl, rfl, rfl, rfl, rfl, trivial⟩ ?_
    refine PW.store (x := .tmp 35) (r := .kw (KI (rdq way (x / y)))) rfl rfl rfl rfl rfl rfl sh_I ?_
    refine PW.nil (SX.then (SC.seq ?_))
    refine SC.dx [.val 36 (.kw (KI (rdq way (x / y)))), .val 37 (.kw (KQ (x).num (((x).den : Int) - 1))), .val 38 (.kw (KQ (y).num (((y).den : Int) - 1))), .val 39 (.kw (KI (rdq way (x / y)))), .val 40 (.kw (KQ (((rdq way (x / y) : Int) : Rat)).num (((((rdq way (x / y) : Int) : Rat)).den : Int) - 1))), .val 41 (.kw (KQ (y * (((rdq way (x / y) : Int) : Rat))).num (((y * (((rdq way (x / y) : Int) : Rat))).den : Int) - 1))), .val 42 (.kw (KQ (x - (y * (((rdq way (x / y) : Int) : Rat)))).num (((x - (y * (((rdq way (x / y) : Int) : Rat)))).den : Int) - 1))), .put 6 (BI 31) (.kw (KI (rdq way (x / y)))), .put 7 (BQ 38) (.kw (KQ (x - (y * (((rdq way (x / y) : Int) : Rat)))).num (((x - (y * (((rdq way (x / y) : Int) : Rat)))).den : Int) - 1))), .val 8 (.vl (.int .i64 0))] [([], [11]), ([], [3]), ([], [5]), ([], [11]), ([3], []), ([2, 4], []), ([1, 5], []), ([0], [6]), ([6], [7]), ([], [])] rfl (by kernel_rfl) (by kernel_rfl) (by kernel_rfl) rfl ⟨?_, ?_, ?_, ?_, ?_, ?_, ?_, ?_, ?_, ?_, trivial⟩ ?_
    ·exact DX.load rfl rfl rfl rfl rfl rfl
    ·exact DX.load rfl rfl rfl rfl rfl rfl
    ·exact DX.load rfl rfl rfl rfl rfl rfl
    ·exact DX.load rfl rfl rfl rfl rfl rfl
    ·exact DX.call (r := .kw (KQ (((rdq way (x / y) : Int) : Rat)).num (((((rdq way (x / y) : Int) : Rat)).den : Int) - 1))) rfl rfl rfl rfl rfl rfl (KQ.st _ _) rfl (k_rof)
    ·exact DX.call (r := .kw (KQ (y * (((rdq way (x / y) : Int) : Rat))).num (((y * (((rdq way (x / y) : Int) : Rat))).den : Int) - 1))) rfl rfl rfl rfl rfl rfl (KQ.st _ _) rfl (k_rmul Y (bq.int1 ((bq.rd (X.div Y h0)))) (by omega) (by omega))
    ·exact DX.call (r := .kw (KQ (x - (y * (((rdq way (x / y) : Int) : Rat)))).num (((x - (y * (((rdq way (x / y) : Int) : Rat)))).den : Int) - 1))) rfl rfl rfl rfl rfl rfl (KQ.st _ _) rfl (k_rsub X (Y.mul (bq.int1 ((bq.rd (X.div Y h0))))) (by omega) (by omega))
    ·exact DX.store (x := .tmp 36) (r := .kw (KI (rdq way (x / y)))) rfl rfl rfl rfl rfl rfl sh_I
    ·exact DX.store (x := .tmp 42) (r := .kw (KQ (x - (y * (((rdq way (x / y) : Int) : Rat)))).num (((x - (y * (((rdq way (x / y) : Int) : Rat)))).den : Int) - 1))) rfl rfl rfl rfl rfl rfl sh_Q
    ·exact DX.assign rfl rfl rfl rfl rfl rfl
    refine SX.then (SC.ret ?_)
    rw [KQt_ok w0 w3 h0]
    exact SX.done3 (s := 6) (s' := 7) (t := 8) (r := .vl (.int .i64 0)) (.inl rfl) rfl rfl rfl rfl rfl
   ·have h0 : y = 0 := Classical.not_not.1 h0
    refine SC.region ?_
    refine PW.load rfl rfl rfl rfl rfl rfl ?_
    refine PW.load rfl rfl rfl rfl rfl rfl ?_
    refine PW.call (r := .kw (K2 (KQ (((0 : Int) : Rat)).num (((((0 : Int) : Rat)).den : Int) - 1)) (KV (.int .i64 6)))) rfl rfl rfl rfl rfl rfl (K2.st (KQ.st _ _) (KV.st _)) rfl (callK (k_rdiv0 (x := x) h0) rfl) ?_
    refine PW.move rfl rfl rfl rfl rfl ?_
    refine PW.ext (r := .kw (KQ (((0 : Int) : Rat)).num (((((0 : Int) : Rat)).den : Int) - 1))) rfl rfl rfl rfl rfl ex20 (KQ.st _ _) rfl ?_
    refine PW.ext (r := .vl (.int .i64 6)) rfl rfl rfl rfl rfl ex21v (KV.st _) rfl ?_
    refine PW.alloc (BQ 38) rfl rfl rfl rfl rfl bQ ?_
    refine PW.store (x := .tmp 24) (r := .kw (KQ (((0 : Int) : Rat)).num (((((0 : Int) : Rat)).den : Int) - 1))) rfl rfl rfl rfl rfl rfl sh_Q ?_
    refine PW.assign rfl rfl rfl rfl rfl (PW.nil (SX.then (SC.seq (SC.seq (SC.region (PW.move rfl rfl rfl rfl rfl ?_))))))
    refine PW.q2 (x := .tmp 26) (y := .const (.int .i64 0)) (.bool true) rfl rfl rfl rfl rfl (fun ρ W h1 h2 => by go_simp) ?_
    refine PW.nil (SX.then (SC.cond (t := true) rfl (SC.seq (SC.region ?_))))
    refine PW.val (r := .kw (KI (0))) rfl rfl rfl rfl (fun a W hf => ⟨.agg #[.bool false, .slice none 0 0], by go_simp, zeroI _ w W⟩) ?_
    refine PW.val (r := .kw (KQ (0) (0))) rfl rfl rfl rfl (fun a W hf => ⟨_, r_bldQ0, zeroQ W, KQ.st _ _⟩) ?_
    refine PW.move rfl rfl rfl rfl rfl ?_
    refine PW.store (x := .tmp 28) (r := .kw (KI (0))) rfl rfl rfl rfl rfl rfl sh_I ?_
    refine PW.store (x := .tmp 29) (r := .kw (KQ (0) (0))) rfl rfl rfl rfl rfl rfl sh_Q ?_
    refine PW.assign rfl rfl rfl rfl rfl (PW.nil (SX.then (SC.ret (SX.thenR ?_))))
    rw [KQt_zero w0 w3 h0]
    exact SX.done3 (s := 6) (s' := 7) (t := 8) (r := .vl (.int .i64 6)) (.inl rfl) rfl rfl rfl rfl rfl
theorem ce_k_jrfloor : CE 99 := fun args W => by go_simp
set_option maxHeartbeats 6400000 in
set_option maxRecDepth 100000 in
theorem k_jrfloor {x : Rat} {a : Nat} (X : bq a x) (ha : a ≤ 20000) : CallOk 99 [KR3 (x).num ((x).den : Int)] (KJ (flq x)) := by
 refine CallOk.enter (l := [.kw (KR3 (x).num ((x).den : Int))]) 8 ce_k_jrfloor Tryz.func99 rfl Tryz.ntmps99 (by simp) ⟨(KR3.st _ _), rfl, trivial⟩ fun w => ?_
 refine SC.seq (SC.region ?_)
 refine PW.box (x := .tmp 0) (r := .kw (KR3 (x).num ((x).den : Int))) (BQ 43) rfl rfl rfl rfl rfl bQJ rfl sh_R3 ?_
 refine PW.alloc (BI 34) rfl rfl rfl rfl rfl bJ ?_
 refine PW.nil (SX.then (SC.seq (SC.region ?_)))
 refine PW.fld (r := .kw (KJ ((x).num))) rfl rfl rfl rfl rfl rfl rfl rfl rfl rfl rfl fldR0 (KJ.st _) ?_
 refine PW.fld (r := .kw (KJ (((x).den : Int)))) rfl rfl rfl rfl rfl rfl rfl rfl rfl rfl rfl fldR1 (KJ.st _) ?_
 refine PW.call (r := .kw (KJ (((x).num) / (((x).den : Int))))) rfl rfl rfl rfl rfl rfl (KJ.st _) rfl (k_jfloor X.1 X.2 (by omega) (by omega) (den_pos x)) ?_
 refine PW.store (x := .tmp 7) (r := .kw (KJ (((x).num) / (((x).den : Int))))) rfl rfl rfl rfl rfl rfl sh_J ?_
 refine PW.nil (SX.then (SC.ret ?_))
 rw [show flq x = _ from rfl]
 exact SX.doneC (s := 2) (.inl rfl) rfl rfl rfl
theorem ce_k_jrounded : CE 104 := fun args W => by go_simp
set_option maxHeartbeats 6400000 in
set_option maxRecDepth 100000 in
theorem k_jrounded {x : Rat} {way : Int} {a : Nat} (X : bq a x) (ha : a ≤ 20000) : CallOk 104 [KV (.int .i64 (way)), KR3 (x).num ((x).den : Int)] (KJ (rdq way x)) := by
 refine CallOk.enter (l := [.vl (.int .i64 (way)), .kw (KR3 (x).num ((x).den : Int))]) 52 ce_k_jrounded Tryz.func104 rfl Tryz.ntmps104 (by simp) ⟨(KV.st _), rfl, (KR3.st _ _), rfl, trivial⟩ fun w => ?_
 refine SC.seq (SC.region ?_)
 refine PW.box (x := .tmp 1) (r := .kw (KR3 (x).num ((x).den : Int))) (BQ 43) rfl rfl rfl rfl rfl bQJ rfl sh_R3 ?_
 refine PW.alloc (BI 34) rfl rfl rfl rfl rfl bJ ?_
 refine PW.nil (SX.then (SC.seq (SC.region ?_)))
 refine PW.load rfl rfl rfl rfl rfl rfl ?_
 refine PW.call (r := .kw (KJ (flq x))) rfl rfl rfl rfl rfl rfl (KJ.st _) rfl (k_jrfloor X (by omega)) ?_
 refine PW.alloc (BI 34) rfl rfl rfl rfl rfl bJ ?_
 refine PW.store (x := .tmp 10) (r := .kw (KJ (flq x))) rfl rfl rfl rfl rfl rfl sh_J ?_
 refine PW.nil (SX.then (SC.seq (SC.seq ?_)))
 by_cases hd : x.den = 1
 ·refine SC.region ?_
  refine PW.load rfl rfl rfl rfl rfl rfl ?_
  refine PW.call (r := .vl (.bool true)) rfl rfl rfl rfl rfl rfl (KV.st _) rfl (callK (k_jrwhole X (by omega)) (by rw [decide_eq_true hd]; rfl)) ?_
  refine PW.nil (SX.then (SC.cond (t := true) rfl (SC.seq (SC.region ?_))))
  refine PW.load rfl rfl rfl rfl rfl rfl ?_
  refine PW.store (x := .tmp 13) (r := .kw (KJ (flq x))) rfl rfl rfl rfl rfl rfl sh_J ?_
  refine PW.nil (SX.then (SC.ret (SX.thenR ?_)))
  rw [rdq_whole hd]
  exact SX.doneC (s := 4) (.inl rfl) rfl rfl rfl
 ·refine SC.region ?_
  refine PW.load rfl rfl rfl rfl rfl rfl ?_
  refine PW.call (r := .vl (.bool false)) rfl rfl rfl rfl rfl rfl (KV.st _) rfl (callK (k_jrwhole X (by omega)) (by rw [decide_eq_false hd]; rfl)) ?_
  refine PW.nil (SX.then (SC.cond (t := false) rfl (SC.skip (SX.then (SC.seq ?_)))))
  refine SC.dx [.val 14 (.kw (KJ (flq x))), .val 15 (.kw (KJ (1))), .val 16 (.kw (KJ ((flq x) + 1))), .new 6 (BI 34), .put 6 (BI 34) (.kw (KJ ((flq x) + 1)))] [([], [5]), ([], []), ([0, 1], []), ([], []), ([3, 2], [])] rfl (by kernel_rfl) (by kernel_rfl) (by kernel_rfl) rfl ⟨?_, ?_, ?_, ?_, ?_, trivial⟩ ?_
  ·exact DX.load rfl rfl rfl rfl rfl rfl
  ·exact DX.call (r := .kw (KJ (1))) rfl rfl rfl rfl rfl rfl (KJ.st _) rfl (k_jone)
  ·exact DX.call (r := .kw (KJ ((flq x) + 1))) rfl rfl rfl rfl rfl rfl (KJ.st _) rfl (k_jadd ((bq.fl X)) bd.one (by omega) (by omega))
  ·exact DX.alloc (BI 34) rfl rfl rfl rfl bJ rfl
  ·exact DX.store (x := .tmp 16) (r := .kw (KJ ((flq x) + 1))) rfl rfl rfl rfl rfl rfl sh_J
  refine SX.then (SC.seq (SC.seq (SC.region (PW.move rfl rfl rfl rfl rfl (PW.nil (SX.then (SC.block (SC.seq ?_))))))))
  by_cases v0 : way = 0
  ·refine SC.region ?_
   refine PW.q2 (x := .tmp 17) (y := .const (.int .i64 0)) (.bool true) rfl rfl rfl rfl rfl (fun ρ W h1 h2 => by exact r_eqT h1 h2 v0) ?_
   refine PW.assign rfl rfl rfl rfl rfl (PW.nil (SX.then (SC.cond (t := true) rfl (SC.seq (SC.region ?_)))))
   refine PW.load rfl rfl rfl rfl rfl rfl ?_
   refine PW.store (x := .tmp 20) (r := .kw (KJ (flq x))) rfl rfl rfl rfl rfl rfl sh_J ?_
   refine PW.nil (SX.then (SC.ret (SX.blockR (SX.thenR ?_))))
   rw [rdq_0 v0]
   exact SX.doneC (s := 4) (.inl rfl) rfl rfl rfl
  ·refine SC.region ?_
   refine PW.q2 (x := .tmp 17) (y := .const (.int .i64 0)) (.bool false) rfl rfl rfl rfl rfl (fun ρ W h1 h2 => by exact r_eqF h1 h2 v0) ?_
   refine PW.assign rfl rfl rfl rfl rfl (PW.nil (SX.then (SC.cond (t := false) rfl (SC.seq ?_))))
   by_cases v1 : way = 1
   ·refine SC.region ?_
    refine PW.q2 (x := .tmp 17) (y := .const (.int .i64 1)) (.bool true) rfl rfl rfl rfl rfl (fun ρ W h1 h2 => by exact r_eqT h1 h2 v1) ?_
    refine PW.assign rfl rfl rfl rfl rfl (PW.nil (SX.then (SC.cond (t := true) rfl (SC.seq (SC.region ?_)))))
    refine PW.load rfl rfl rfl rfl rfl rfl ?_
    refine PW.store (x := .tmp 23) (r := .kw (KJ ((flq x) + 1))) rfl rfl rfl rfl rfl rfl sh_J ?_
    refine PW.nil (SX.then (SC.ret (SX.blockR (SX.thenR ?_))))
    rw [rdq_1 hd v1]
    exact SX.doneC (s := 4) (.inl rfl) rfl rfl rfl
   ·refine SC.region ?_
    refine PW.q2 (x := .tmp 17) (y := .const (.int .i64 1)) (.bool false) rfl rfl rfl rfl rfl (fun ρ W h1 h2 => by exact r_eqF h1 h2 v1) ?_
    refine PW.assign rfl rfl rfl rfl rfl (PW.nil (SX.then (SC.cond (t := false) rfl (SC.seq ?_))))
    by_cases v2 : way = 2
    ·refine SC.region ?_
     refine PW.q2 (x := .tmp 17) (y := .const (.int .i64 2)) (.bool true) rfl rfl rfl rfl rfl (fun ρ W h1 h2 => by exact r_eqT h1 h2 v2) ?_
     refine PW.assign rfl rfl rfl rfl rfl (PW.nil (SX.then (SC.cond (t := true) rfl (SC.seq (SC.seq ?_)))))
     by_cases hn : sgq x < 0
     ·refine SC.region ?_
      refine PW.load rfl rfl rfl rfl rfl rfl ?_
      refine PW.call (r := .vl (.int .i64 (sgq x))) rfl rfl rfl rfl rfl rfl (KV.st _) rfl (k_jrsign) ?_
      refine PW.q2 (x := .tmp 27) (y := .const (.int .i64 0)) (.bool true) rfl rfl rfl rfl rfl (fun ρ W h1 h2 => by exact r_lt h1 h2 (decide_eq_true hn)) ?_
      refine PW.nil (SX.then (SC.cond (t := true) rfl (SC.seq (SC.region ?_))))
      refine PW.load rfl rfl rfl rfl rfl rfl ?_
      refine PW.store (x := .tmp 29) (r := .kw (KJ ((flq x) + 1))) rfl rfl rfl rfl rfl rfl sh_J ?_
      refine PW.nil (SX.then (SC.ret (SX.thenR (SX.blockR (SX.thenR ?_)))))
      rw [rdq_2n hd v2 hn]
      exact SX.doneC (s := 4) (.inl rfl) rfl rfl rfl
     ·refine SC.region ?_
      refine PW.load rfl rfl rfl rfl rfl rfl ?_
      refine PW.call (r := .vl (.int .i64 (sgq x))) rfl rfl rfl rfl rfl rfl (KV.st _) rfl (k_jrsign) ?_
      refine PW.q2 (x := .tmp 27) (y := .const (.int .i64 0)) (.bool false) rfl rfl rfl rfl rfl (fun ρ W h1 h2 => by exact r_lt h1 h2 (decide_eq_false hn)) ?_
      refine PW.nil (SX.then (SC.cond (t := false) rfl (SC.skip (SX.then (SC.seq (SC.region ?_))))))
      refine PW.load rfl rfl rfl rfl rfl rfl ?_
      refine PW.store (x := .tmp 30) (r := .kw (KJ (flq x))) rfl rfl rfl rfl rfl rfl sh_J ?_
      refine PW.nil (SX.then (SC.ret (SX.blockR (SX.thenR ?_))))
      rw [rdq_2p hd v2 hn]
      exact SX.doneC (s := 4) (.inl rfl) rfl rfl rfl
    ·refine SC.region ?_
     refine PW.q2 (x := .tmp 17) (y := .const (.int .i64 2)) (.bool false) rfl rfl rfl rfl rfl (fun ρ W h1 h2 => by exact r_eqF h1 h2 v2) ?_
     refine PW.assign rfl rfl rfl rfl rfl (PW.nil (SX.then (SC.cond (t := false) rfl (SC.skip ?_))))
     refine SX.blockN ?_
     refine SX.then (SC.seq (SC.region ?_))
     refine PW.call (r := .kw (KJ (1))) rfl rfl rfl rfl rfl rfl (KJ.st _) rfl (k_jone) ?_
     refine PW.call (r := .kw (KJ (2))) rfl rfl rfl rfl rfl rfl (KJ.st _) rfl (k_jnew (by decide)) ?_
     refine PW.call (r := .kw (KR3 (Rat.divInt (1) (2)).num ((Rat.divInt (1) (2)).den : Int))) rfl rfl rfl rfl rfl rfl (KR3.st _ _) rfl (k_jover bd.one (bd.lit (by decide)) (by decide) (by omega) (by omega)) ?_
     refine PW.alloc (BQ 43) rfl rfl rfl rfl rfl bQJ ?_
     refine PW.store (x := .tmp 33) (r := .kw (KR3 (Rat.divInt (1) (2)).num ((Rat.divInt (1) (2)).den : Int))) rfl rfl rfl rfl rfl rfl sh_R3 ?_
     refine PW.nil (SX.then (SC.seq ?_))
     refine SC.dx [.val 34 (.kw (KR3 (x).num ((x).den : Int))), .val 35 (.kw (KJ (flq x))), .val 36 (.kw (KR3 (((flq x : Int) : Rat)).num ((((flq x : Int) : Rat)).den : Int))), .val 37 (.kw (KR3 (x - (((flq x : Int) : Rat))).num ((x - (((flq x : Int) : Rat))).den : Int))), .val 38 (.kw (KR3 (Rat.divInt (1) (2)).num ((Rat.divInt (1) (2)).den : Int))), .val 39 (.vl (.int .i64 (cmpq (x - (((flq x : Int) : Rat))) (Rat.divInt (1) (2))))), .val 8 (.vl (.int .i64 (cmpq (x - (((flq x : Int) : Rat))) (Rat.divInt (1) (2)))))] [([], [3]), ([], [5]), ([1], []), ([0, 2], []), ([], [7]), ([3, 4], []), ([5], [])] rfl (by kernel_rfl) (by kernel_rfl) (by kernel_rfl) rfl ⟨?_, ?_, ?_, ?_, ?_, ?_, ?_, trivial⟩ ?_
     ·exact DX.load rfl rfl rfl rfl rfl rfl
     ·exact DX.load rfl rfl rfl rfl rfl rfl
     ·exact DX.call (r := .kw (KR3 (((flq x : Int) : Rat)).num ((((flq x : Int) : Rat)).den : Int))) rfl rfl rfl rfl rfl rfl (KR3.st _ _) rfl (k_jrof)
     ·exact DX.call (r := .kw (KR3 (x - (((flq x : Int) : Rat))).num ((x - (((flq x : Int) : Rat))).den : Int))) rfl rfl rfl rfl rfl rfl (KR3.st _ _) rfl (k_jrsub X (bq.int1 ((bq.fl X))) (by omega) (by omega))
     ·exact DX.load rfl rfl rfl rfl rfl rfl
     ·exact DX.call (r := .vl (.int .i64 (cmpq (x - (((flq x : Int) : Rat))) (Rat.divInt (1) (2))))) rfl rfl rfl rfl rfl rfl (KV.st _) rfl (k_jrcmp (X.sub (bq.int1 ((bq.fl X)))) (bq.over bd.one (bd.lit (by decide)) (by decide)) (by omega) (by omega))
     ·exact DX.assign rfl rfl rfl rfl rfl rfl
     refine SX.then (SC.seq (SC.seq ?_))
     by_cases n1 : 0 < cmpq (x - ((flq x : Int) : Rat)) (Rat.divInt (1) (2))
     ·refine SC.region ?_
      refine PW.move rfl rfl rfl rfl rfl ?_
      refine PW.q2 (x := .tmp 40) (y := .const (.int .i64 0)) (.bool true) rfl rfl rfl rfl rfl (fun ρ W h1 h2 => by exact r_gt h1 h2 (decide_eq_true n1)) ?_
      refine PW.move rfl rfl rfl rfl rfl ?_
      refine PW.skip rfl rfl rfl ?_
      refine PW.skip rfl rfl rfl ?_
      refine PW.skip rfl rfl rfl ?_
      refine PW.skip rfl rfl rfl ?_
      refine PW.skip rfl rfl rfl ?_
      refine PW.skip rfl rfl rfl ?_
      refine PW.pick (t := true) rfl rfl rfl rfl rfl rfl ?_
      refine PW.nil (SX.then (SC.cond (t := true) rfl (SC.seq (SC.region ?_))))
      refine PW.load rfl rfl rfl rfl rfl rfl ?_
      refine PW.store (x := .tmp 50) (r := .kw (KJ ((flq x) + 1))) rfl rfl rfl rfl rfl rfl sh_J ?_
      refine PW.nil (SX.then (SC.ret (SX.thenR ?_)))
      rw [rdq_3 v0 v1 v2, show nrq x = _ from if_pos (.inl n1)]
      exact SX.doneC (s := 4) (.inl rfl) rfl rfl rfl
     ·by_cases n2 : cmpq (x - ((flq x : Int) : Rat)) (Rat.divInt (1) (2)) = 0
      ·by_cases n3 : flq x % 2 = 1
       ·refine SC.region ?_
        refine PW.move rfl rfl rfl rfl rfl ?_
        refine PW.q2 (x := .tmp 40) (y := .const (.int .i64 0)) (.bool false) rfl rfl rfl rfl rfl (fun ρ W h1 h2 => by exact r_gt h1 h2 (decide_eq_false n1)) ?_
        refine PW.move rfl rfl rfl rfl rfl (PW.move rfl rfl rfl rfl rfl ?_)
        refine PW.q2 (x := .tmp 43) (y := .const (.int .i64 0)) (.bool true) rfl rfl rfl rfl rfl (fun ρ W h1 h2 => by exact r_eqT h1 h2 n2) ?_
        refine PW.move rfl rfl rfl rfl rfl ?_
        refine PW.load rfl rfl rfl rfl rfl rfl ?_
        refine PW.call (r := .vl (.bool true)) rfl rfl rfl rfl rfl rfl (KV.st _) rfl (callK (k_jodd ((bq.fl X)) (by omega)) (by rw [decide_eq_true n3]; rfl)) ?_
        refine PW.pick (t := true) rfl rfl rfl rfl rfl rfl ?_
        refine PW.pick (t := false) rfl rfl rfl rfl rfl rfl ?_
        refine PW.nil (SX.then (SC.cond (t := true) rfl (SC.seq (SC.region ?_))))
        refine PW.load rfl rfl rfl rfl rfl rfl ?_
        refine PW.store (x := .tmp 50) (r := .kw (KJ ((flq x) + 1))) rfl rfl rfl rfl rfl rfl sh_J ?_
        refine PW.nil (SX.then (SC.ret (SX.thenR ?_)))
        rw [rdq_3 v0 v1 v2, show nrq x = _ from if_pos (.inr ⟨n2, n3⟩)]
        exact SX.doneC (s := 4) (.inl rfl) rfl rfl rfl
       ·refine SC.region ?_
        refine PW.move rfl rfl rfl rfl rfl ?_
        refine PW.q2 (x := .tmp 40) (y := .const (.int .i64 0)) (.bool false) rfl rfl rfl rfl rfl (fun ρ W h1 h2 => by exact r_gt h1 h2 (decide_eq_false n1)) ?_
        refine PW.move rfl rfl rfl rfl rfl (PW.move rfl rfl rfl rfl rfl ?_)
        refine PW.q2 (x := .tmp 43) (y := .const (.int .i64 0)) (.bool true) rfl rfl rfl rfl rfl (fun ρ W h1 h2 => by exact r_eqT h1 h2 n2) ?_
        refine PW.move rfl rfl rfl rfl rfl ?_
        refine PW.load rfl rfl rfl rfl rfl rfl ?_
        refine PW.call (r := .vl (.bool false)) rfl rfl rfl rfl rfl rfl (KV.st _) rfl (callK (k_jodd ((bq.fl X)) (by omega)) (by rw [decide_eq_false n3]; rfl)) ?_
        refine PW.pick (t := true) rfl rfl rfl rfl rfl rfl ?_
        refine PW.pick (t := false) rfl rfl rfl rfl rfl rfl ?_
        refine PW.nil (SX.then (SC.cond (t := false) rfl (SC.skip (SX.then (SC.seq (SC.region ?_))))))
        refine PW.load rfl rfl rfl rfl rfl rfl ?_
        refine PW.store (x := .tmp 51) (r := .kw (KJ (flq x))) rfl rfl rfl rfl rfl rfl sh_J ?_
        refine PW.nil (SX.then (SC.ret ?_))
        rw [rdq_3 v0 v1 v2, show nrq x = _ from if_neg (fun h => h.elim n1 (fun h => n3 h.2))]
        exact SX.doneC (s := 4) (.inl rfl) rfl rfl rfl
      ·refine SC.region ?_
       refine PW.move rfl rfl rfl rfl rfl ?_
       refine PW.q2 (x := .tmp 40) (y := .const (.int .i64 0)) (.bool false) rfl rfl rfl rfl rfl (fun ρ W h1 h2 => by exact r_gt h1 h2 (decide_eq_false n1)) ?_
       refine PW.move rfl rfl rfl rfl rfl (PW.move rfl rfl rfl rfl rfl ?_)
       refine PW.q2 (x := .tmp 43) (y := .const (.int .i64 0)) (.bool false) rfl rfl rfl rfl rfl (fun ρ W h1 h2 => by exact r_eqF h1 h2 n2) ?_
       refine PW.move rfl rfl rfl rfl rfl ?_
       refine PW.skip rfl rfl rfl ?_
       refine PW.skip rfl rfl rfl ?_
       refine PW.pick (t := false) rfl rfl rfl rfl rfl rfl ?_
       refine PW.pick (t := false) rfl rfl rfl rfl rfl rfl ?_
       refine PW.nil (SX.then (SC.cond (t := false) rfl (SC.skip (SX.then (SC.seq (SC.region ?_))))))
       refine PW.load rfl rfl rfl rfl rfl rfl ?_
       refine PW.store (x := .tmp 51) (r := .kw (KJ (flq x))) rfl rfl rfl rfl rfl rfl sh_J ?_
       refine PW.nil (SX.then (SC.ret ?_))
       rw [rdq_3 v0 v1 v2, show nrq x = _ from if_neg (fun h => h.elim n1 (fun h => n2 h.1))]
       exact SX.doneC (s := 4) (.inl rfl) rfl rfl rfl
theorem ce_k_jrquo : CE 55 := fun args W => by go_simp
set_option maxHeartbeats 6400000 in
set_option maxRecDepth 100000 in
theorem k_jrquo {x y : Rat} {way : Int} {a b : Nat} (X : bq a x) (Y : bq b y) (ha : a ≤ 1000) (hb : b ≤ 1000) : CallOk 55 [KV (.int .i64 (way)), KR3 (x).num ((x).den : Int), KR3 (y).num ((y).den : Int)] (KJt way x y) := by
 refine CallOk.enter (l := [.vl (.int .i64 (way)), .kw (KR3 (x).num ((x).den : Int)), .kw (KR3 (y).num ((y).den : Int))]) 41 ce_k_jrquo Tryz.func55 rfl Tryz.ntmps55 (by simp) ⟨(KV.st _), rfl, (KR3.st _ _), rfl, (KR3.st _ _), rfl, trivial⟩ fun w => ?_
 refine SC.seq (SC.region ?_)
 refine PW.box (x := .tmp 1) (r := .kw (KR3 (x).num ((x).den : Int))) (BQ 43) rfl rfl rfl rfl rfl bQJ rfl sh_R3 ?_
 refine PW.box (x := .tmp 2) (r := .kw (KR3 (y).num ((y).den : Int))) (BQ 43) rfl rfl rfl rfl rfl bQJ rfl sh_R3 ?_
 refine PW.alloc (BI 34) rfl rfl rfl rfl rfl bJ ?_
 refine PW.alloc (BQ 43) rfl rfl rfl rfl rfl bQJ ?_
 refine PW.assign rfl rfl rfl rfl rfl (PW.nil (SX.then (SC.seq (SC.seq ?_))))
 by_cases w0 : way < 0
 ·refine SC.region ?_
  refine PW.move rfl rfl rfl rfl rfl ?_
  refine PW.q2 (x := .tmp 12) (y := .const (.int .i64 0)) (.bool true) rfl rfl rfl rfl rfl (fun ρ W h1 h2 => by exact r_lt h1 h2 (decide_eq_true (by omega))) ?_
  refine PW.move rfl rfl rfl rfl rfl ?_
  refine PW.skip rfl rfl rfl ?_
  refine PW.skip rfl rfl rfl ?_
  refine PW.pick (t := true) rfl rfl rfl rfl rfl rfl ?_
  refine PW.nil (SX.then (SC.cond (t := true) rfl (SC.seq (SC.region ?_))))
  refine PW.val (r := .kw (KJ (0))) rfl rfl rfl rfl (fun a W hf => ⟨.agg #[.bool false, .slice none 0 0], by go_simp, zeroJ W, KJ.st _⟩) ?_
  refine PW.call (r := .kw (KR3 (((0 : Int) : Rat)).num ((((0 : Int) : Rat)).den : Int))) rfl rfl rfl rfl rfl rfl (KR3.st _ _) rfl (k_jrint (by decide)) ?_
  refine PW.store (x := .tmp 18) (r := .kw (KJ (0))) rfl rfl rfl rfl rfl rfl sh_J ?_
  refine PW.store (x := .tmp 19) (r := .kw (KR3 (((0 : Int) : Rat)).num ((((0 : Int) : Rat)).den : Int))) rfl rfl rfl rfl rfl rfl sh_R3 ?_
  refine PW.assign rfl rfl rfl rfl rfl (PW.nil (SX.then (SC.ret (SX.thenR ?_))))
  rw [KJt_bad (.inl w0)]
  exact SX.done3 (s := 6) (s' := 7) (t := 8) (r := .vl (.int .i64 1)) (.inl rfl) rfl rfl rfl rfl rfl
 ·by_cases w3 : way > 3
  ·refine SC.region ?_
   refine PW.move rfl rfl rfl rfl rfl ?_
   refine PW.q2 (x := .tmp 12) (y := .const (.int .i64 0)) (.bool false) rfl rfl rfl rfl rfl (fun ρ W h1 h2 => by exact r_lt h1 h2 (decide_eq_false (by omega))) ?_
   refine PW.move rfl rfl rfl rfl rfl (PW.move rfl rfl rfl rfl rfl ?_)
   refine PW.q2 (x := .tmp 15) (y := .const (.int .i64 3)) (.bool true) rfl rfl rfl rfl rfl (fun ρ W h1 h2 => by exact r_gt h1 h2 (decide_eq_true (by omega))) ?_
   refine PW.pick (t := false) rfl rfl rfl rfl rfl rfl ?_
   refine PW.nil (SX.then (SC.cond (t := true) rfl (SC.seq (SC.region ?_))))
   refine PW.val (r := .kw (KJ (0))) rfl rfl rfl rfl (fun a W hf => ⟨.agg #[.bool false, .slice none 0 0], by go_simp, zeroJ W, KJ.st _⟩) ?_
   refine PW.call (r := .kw (KR3 (((0 : Int) : Rat)).num ((((0 : Int) : Rat)).den : Int))) rfl rfl rfl rfl rfl rfl (KR3.st _ _) rfl (k_jrint (by decide)) ?_
   refine PW.store (x := .tmp 18) (r := .kw (KJ (0))) rfl rfl rfl rfl rfl rfl sh_J ?_
   refine PW.store (x := .tmp 19) (r := .kw (KR3 (((0 : Int) : Rat)).num ((((0 : Int) : Rat)).den : Int))) rfl rfl rfl rfl rfl rfl sh_R3 ?_
   refine PW.assign rfl rfl rfl rfl rfl (PW.nil (SX.then (SC.ret (SX.thenR ?_))))
   rw [KJt_bad (.inr w3)]
   exact SX.done3 (s := 6) (s' := 7) (t := 8) (r := .vl (.int .i64 1)) (.inl rfl) rfl rfl rfl rfl rfl
  ·refine SC.region ?_
   refine PW.move rfl rfl rfl rfl rfl ?_
   refine PW.q2 (x := .tmp 12) (y := .const (.int .i64 0)) (.bool false) rfl rfl rfl rfl rfl (fun ρ W h1 h2 => by exact r_lt h1 h2 (decide_eq_false (by omega))) ?_
   refine PW.move rfl rfl rfl rfl rfl (PW.move rfl rfl rfl rfl rfl ?_)
   refine PW.q2 (x := .tmp 15) (y := .const (.int .i64 3)) (.bool false) rfl rfl rfl rfl rfl (fun ρ W h1 h2 => by exact r_gt h1 h2 (decide_eq_false (by omega))) ?_
   refine PW.pick (t := false) rfl rfl rfl rfl rfl rfl ?_
   refine PW.nil (SX.then (SC.cond (t := false) rfl (SC.skip (SX.then (SC.seq ?_)))))
   by_cases h0 : y ≠ 0
   ·refine SC.region ?_
    refine PW.load rfl rfl rfl rfl rfl rfl ?_
    refine PW.load rfl rfl rfl rfl rfl rfl ?_
    refine PW.call (r := .kw (K2 (KR3 (x / y).num ((x / y).den : Int)) (KV (.int .i64 0)))) rfl rfl rfl rfl rfl rfl (K2.st (KR3.st _ _) (KV.st _)) rfl (k_jrdiv X Y (by omega) (by omega) h0) ?_
    refine PW.move rfl rfl rfl rfl rfl ?_
    refine PW.ext (r := .kw (KR3 (x / y).num ((x / y).den : Int))) rfl rfl rfl rfl rfl ex20 (KR3.st _ _) rfl ?_
    refine PW.ext (r := .vl (.int .i64 0)) rfl rfl rfl rfl rfl ex21v (KV.st _) rfl ?_
    refine PW.alloc (BQ 43) rfl rfl rfl rfl rfl bQJ ?_
    refine PW.store (x := .tmp 24) (r := .kw (KR3 (x / y).num ((x / y).den : Int))) rfl rfl rfl rfl rfl rfl sh_R3 ?_
    refine PW.assign rfl rfl rfl rfl rfl (PW.nil (SX.then (SC.seq (SC.seq (SC.region (PW.move rfl rfl rfl rfl rfl ?_))))))
    refine PW.q2 (x := .tmp 26) (y := .const (.int .i64 0)) (.bool false) rfl rfl rfl rfl rfl (fun ρ W h1 h2 => by go_simp) ?_
    refine PW.nil (SX.then (SC.cond (t := false) rfl (SC.skip (SX.then (SC.seq (SC.region (PW.move rfl rfl rfl rfl rfl ?_)))))))
    refine PW.load rfl rfl rfl rfl rfl rfl ?_
    refine PW.call (r := .kw (KJ (rdq way (x / y)))) rfl rfl rfl rfl rfl rfl (KJ.st _) rfl (k_jrounded ((X.div Y h0)) (by omega)) ?_
    refine PW.alloc (BI 34) rfl rfl rfl rfl rfl bJ ?_
    refine PW.store (x := .tmp 33) (r := .kw (KJ (rdq way (x / y)))) rfl rfl rfl rfl rfl rfl sh_J ?_
    refine PW.nil (SX.then (SC.seq ?_))
    refine SC.dx [.val 34 (.kw (KJ (rdq way (x / y)))), .val 35 (.kw (KR3 (x).num ((x).den : Int))), .val 36 (.kw (KJ (rdq way (x / y)))), .val 37 (.kw (KR3 (((rdq way (x / y) : Int) : Rat)).num ((((rdq way (x / y) : Int) : Rat)).den : Int))), .val 38 (.kw (KR3 (y).num ((y).den : Int))), .val 39 (.kw (KR3 ((((rdq way (x / y) : Int) : Rat)) * y).num (((((rdq way (x / y) : Int) : Rat)) * y).den : Int))), .val 40 (.kw (KR3 (x - ((((rdq way (x / y) : Int) : Rat)) * y)).num ((x - ((((rdq way (x / y) : Int) : Rat)) * y)).den : Int))), .put 6 (BI 34) (.kw (KJ (rdq way (x / y)))), .put 7 (BQ 43) (.kw (KR3 (x - ((((rdq way (x / y) : Int) : Rat)) * y)).num ((x - ((((rdq way (x / y) : Int) : Rat)) * y)).den : Int))), .val 8 (.vl (.int .i64 0))] [([], [11]), ([], [4]), ([], [11]), ([2], []), ([], [5]), ([3, 4], []), ([1, 5], []), ([0], [6]), ([6], [7]), ([], [])] rfl (by kernel_rfl) (by kernel_rfl) (by kernel_rfl) rfl ⟨?_, ?_, ?_, ?_, ?_, ?_, ?_, ?_, ?_, ?_, trivial⟩ ?_
    ·exact DX.load rfl rfl rfl rfl rfl rfl
    ·exact DX.load rfl rfl rfl rfl rfl rfl
    ·exact DX.load rfl rfl rfl rfl rfl rfl
    ·exact DX.call (r := .kw (KR3 (((rdq way (x / y) : Int) : Rat)).num ((((rdq way (x / y) : Int) : Rat)).den : Int))) rfl rfl rfl rfl rfl rfl (KR3.st _ _) rfl (k_jrof)
    ·exact DX.load rfl rfl rfl rfl rfl rfl
    ·exact DX.call (r := .kw (KR3 ((((rdq way (x / y) : Int) : Rat)) * y).num (((((rdq way (x / y) : Int) : Rat)) * y).den : Int))) rfl rfl rfl rfl rfl rfl (KR3.st _ _) rfl (k_jrmul (bq.int1 ((bq.rd ((X.div Y h0))))) Y (by omega) (by omega))
    ·exact DX.call (r := .kw (KR3 (x - ((((rdq way (x / y) : Int) : Rat)) * y)).num ((x - ((((rdq way (x / y) : Int) : Rat)) * y)).den : Int))) rfl rfl rfl rfl rfl rfl (KR3.st _ _) rfl (k_jrsub X ((bq.int1 ((bq.rd ((X.div Y h0))))).mul Y) (by omega) (by omega))
    ·exact DX.store (x := .tmp 34) (r := .kw (KJ (rdq way (x / y)))) rfl rfl rfl rfl rfl rfl sh_J
    ·exact DX.store (x := .tmp 40) (r := .kw (KR3 (x - ((((rdq way (x / y) : Int) : Rat)) * y)).num ((x - ((((rdq way (x / y) : Int) : Rat)) * y)).den : Int))) rfl rfl rfl rfl rfl rfl sh_R3
    ·exact DX.assign rfl rfl rfl rfl rfl rfl
    refine SX.then (SC.ret ?_)
    rw [KJt_ok w0 w3 h0]
    exact SX.done3 (s := 6) (s' := 7) (t := 8) (r := .vl (.int .i64 0)) (.inl rfl) rfl rfl rfl rfl rfl
   ·have h0 : y = 0 := Classical.not_not.1 h0
    refine SC.region ?_
    refine PW.load rfl rfl rfl rfl rfl rfl ?_
    refine PW.load rfl rfl rfl rfl rfl rfl ?_
    refine PW.call (r := .kw (K2 (KR3 (((0 : Int) : Rat)).num ((((0 : Int) : Rat)).den : Int)) (KV (.int .i64 6)))) rfl rfl rfl rfl rfl rfl (K2.st (KR3.st _ _) (KV.st _)) rfl (callK (k_jrdiv0 (x := x) h0) rfl) ?_
    refine PW.move rfl rfl rfl rfl rfl ?_
    refine PW.ext (r := .kw (KR3 (((0 : Int) : Rat)).num ((((0 : Int) : Rat)).den : Int))) rfl rfl rfl rfl rfl ex20 (KR3.st _ _) rfl ?_
    refine PW.ext (r := .vl (.int .i64 6)) rfl rfl rfl rfl rfl ex21v (KV.st _) rfl ?_
    refine PW.alloc (BQ 43) rfl rfl rfl rfl rfl bQJ ?_
    refine PW.store (x := .tmp 24) (r := .kw (KR3 (((0 : Int) : Rat)).num ((((0 : Int) : Rat)).den : Int))) rfl rfl rfl rfl rfl rfl sh_R3 ?_
    refine PW.assign rfl rfl rfl rfl rfl (PW.nil (SX.then (SC.seq (SC.seq (SC.region (PW.move rfl rfl rfl rfl rfl ?_))))))
    refine PW.q2 (x := .tmp 26) (y := .const (.int .i64 0)) (.bool true) rfl rfl rfl rfl rfl (fun ρ W h1 h2 => by go_simp) ?_
    refine PW.nil (SX.then (SC.cond (t := true) rfl (SC.seq (SC.region ?_))))
    refine PW.val (r := .kw (KJ (0))) rfl rfl rfl rfl (fun a W hf => ⟨.agg #[.bool false, .slice none 0 0], by go_simp, zeroJ W, KJ.st _⟩) ?_
    refine PW.call (r := .kw (KR3 (((0 : Int) : Rat)).num ((((0 : Int) : Rat)).den : Int))) rfl rfl rfl rfl rfl rfl (KR3.st _ _) rfl (k_jrint (by decide)) ?_
    refine PW.move rfl rfl rfl rfl rfl ?_
    refine PW.store (x := .tmp 28) (r := .kw (KJ (0))) rfl rfl rfl rfl rfl rfl sh_J ?_
    refine PW.store (x := .tmp 29) (r := .kw (KR3 (((0 : Int) : Rat)).num ((((0 : Int) : Rat)).den : Int))) rfl rfl rfl rfl rfl rfl sh_R3 ?_
    refine PW.assign rfl rfl rfl rfl rfl (PW.nil (SX.then (SC.ret (SX.thenR ?_))))
    rw [KJt_zero w0 w3 h0]
    exact SX.done3 (s := 6) (s' := 7) (t := 8) (r := .vl (.int .i64 6)) (.inl rfl) rfl rfl rfl rfl rfl
end Go.Proofs.YthpjmhhfcechmaaGreat.Sy
/- Quotient of fractions, both sides: one contract, whatever comes in. -/
namespace Go.Proofs.YthpjmhhfcechmaaGreat.Sy
open Go Go.RowKit Ma
theorem quo_both {x y : Rat} {way : Int} (X : bq 5 x) (Y : bq 5 y) : ∃ (q : Int) (r : Rat) (e : Int), bd 100 q ∧ bq 100 r ∧ CallOk 45 [KQ (x).num (((x).den : Int) - 1), KV (.int .i64 (way)), KQ (y).num (((y).den : Int) - 1)] (K3 (KI q) (KQ (r).num (((r).den : Int) - 1)) (KV (.int .i64 e))) ∧ CallOk 55 [KV (.int .i64 (way)), KR3 (x).num ((x).den : Int), KR3 (y).num ((y).den : Int)] (K3 (KJ q) (KR3 (r).num ((r).den : Int)) (KV (.int .i64 e))) := by
 have k1 := k_rquo (way := way) X Y (by omega) (by omega)
 have k2 := k_jrquo (way := way) X Y (by omega) (by omega)
 by_cases hw : way < 0 ∨ way > 3
 ·rw [KQt_bad hw] at k1
  rw [KJt_bad hw] at k2
  exact ⟨0, 0, 1, bd.mono (k := 1) (bd.lit (by decide)) (by omega), (zero_bq rfl).mono (by omega), k1, k2⟩
 ·by_cases h0 : y = 0
  ·rw [KQt_zero (by omega) (by omega) h0] at k1
   rw [KJt_zero (by omega) (by omega) h0] at k2
   exact ⟨0, 0, 6, bd.mono (k := 1) (bd.lit (by decide)) (by omega), (zero_bq rfl).mono (by omega), k1, k2⟩
  ·rw [KQt_ok (by omega) (by omega) h0] at k1
   rw [KJt_ok (by omega) (by omega) h0] at k2
   rw [Rat.mul_comm _ y] at k2
   have Q := bq.rd (way := way) (X.div Y h0)
   exact ⟨_, _, 0, Q.mono (by omega), (bq.sub X (Y.mul (bq.int1 Q))).mono (by omega), k1, k2⟩
end Go.Proofs.YthpjmhhfcechmaaGreat.Sy
/- RationalQuotients: the walk, by rules. -/
namespace Go.Proofs.YthpjmhhfcechmaaGreat
open Go.RowKit Ma Sy
set_option maxHeartbeats 12800000 in
set_option maxRecDepth 100000 in
theorem rationalQuotients_walk {n1 n2 n3 n4 : Bool} {A1 A2 A3 A4 : Option Addr} {l1 l2 l3 l4 c1 c2 c3 c4 : Nat} {xs1 xs2 xs3 xs4 : List Int} {way : Int} {w : World} (hw : (Lit.int .i64 way).wf = true) (h1 : In w A1 l1 c1 xs1) (h2 : In w A2 l2 c2 xs2) (h3 : In w A3 l3 c3 xs3) (h4 : In w A4 l4 c4 xs4) :
  Calls Tryz.prog 8 #[.int .i64 way, .agg #[.bool n1, .slice A1 l1 c1, .bool n2, .slice A2 l2 c2], .agg #[.bool n3, .slice A3 l3 c3, .bool n4, .slice A4 l4 c4]] w (Ret w (KV (.bool true))) := by
 obtain ⟨x, hz1⟩ : ∃ z, z = sg n1 (lv b32 xs1) := ⟨_, rfl⟩
 obtain ⟨y, hz2⟩ : ∃ z, z = sg n2 (lv b32 xs2) := ⟨_, rfl⟩
 obtain ⟨z, hz3⟩ : ∃ z, z = sg n3 (lv b32 xs3) := ⟨_, rfl⟩
 obtain ⟨u, hz4⟩ : ∃ z, z = sg n4 (lv b32 xs4) := ⟨_, rfl⟩
 refine calls_sc (l := [.vl (.int .i64 way), .vl (.agg #[.bool n1, .slice A1 l1 c1, .bool n2, .slice A2 l2 c2]), .vl (.agg #[.bool n3, .slice A3 l3 c3, .bool n4, .slice A4 l4 c4])]) (us := [.int .i64 way, .agg #[.bool n1, .slice A1 l1 c1, .bool n2, .slice A2 l2 c2], .agg #[.bool n3, .slice A3 l3 c3, .bool n4, .slice A4 l4 c4]]) 65 Tryz.func8 rfl Tryz.ntmps8 (by simp) ⟨rfl, rfl, rfl, rfl, rfl, rfl, trivial⟩ ?_
 refine SC.seq (SC.region ?_)
 refine PW.box (x := .tmp 1) (r := .vl (.agg #[.bool n1, .slice A1 l1 c1, .bool n2, .slice A2 l2 c2])) (BQ 26) rfl rfl rfl rfl rfl bQN rfl sh_VQ ?_
 refine PW.box (x := .tmp 2) (r := .vl (.agg #[.bool n3, .slice A3 l3 c3, .bool n4, .slice A4 l4 c4])) (BQ 26) rfl rfl rfl rfl rfl bQN rfl sh_VQ ?_
 refine PW.assign rfl rfl rfl rfl rfl (PW.nil (SX.then (SC.seq (SC.seq ?_))))
 by_cases hq : shQ 4 [((n1, A1, l1, c1), (n2, A2, l2, c2)), ((n3, A3, l3, c3), (n4, A4, l4, c4))] = true
 ·have hlehq : (l1 ≤ 4 ∧ l2 ≤ 4) ∧ (l3 ≤ 4 ∧ l4 ≤ 4) := by simpa [shB, shQ] using hq
  have X : bd 4 x := hz1 ▸ bd_sg h1.2.2.2 (by have := h1.1; omega)
  have Y : bd 4 y := hz2 ▸ bd_sg h2.2.2.2 (by have := h2.1; omega)
  have Z : bd 4 z := hz3 ▸ bd_sg h3.2.2.2 (by have := h3.1; omega)
  have U : bd 4 u := hz4 ▸ bd_sg h4.2.2.2 (by have := h4.1; omega)
  have hl1 : l1 ≤ 4 := by omega
  have hl2 : l2 ≤ 4 := by omega
  have hl3 : l3 ≤ 4 := by omega
  have hl4 : l4 ≤ 4 := by omega
  refine SC.region ?_
  refine PW.loadV rfl rfl rfl rfl rfl rfl ?_
  refine PW.loadV rfl rfl rfl rfl rfl rfl ?_
  refine PW.short3 4 [((n1, A1, l1, c1), (n2, A2, l2, c2)), ((n3, A3, l3, c3), (n4, A4, l4, c4))] _ rfl rfl rfl (fun a W hf => r_bQ2 (hf.vl (s := 17) rfl) (hf.vl (s := 18) rfl)) (fun W => qs_lit2 W) (by simp; exact ⟨⟨In.lim h1, In.lim h2⟩, ⟨In.lim h3, In.lim h4⟩⟩) rfl rfl hq rfl rfl rfl rfl rfl rfl ?_
  refine PW.q1 (x := .tmp 20) (.bool false) rfl rfl rfl rfl (fun ρ W h1 => by go_simp) ?_
  refine PW.nil (SX.then (SC.cond (t := false) rfl (SC.skip (SX.then (SC.seq (SC.region ?_))))))
  refine PW.loadV rfl rfl rfl rfl rfl rfl ?_
  refine PW.callG (r := .kw (K2 (KQ (ofq x y).num (((ofq x y).den : Int) - 1)) (KR3 (ofq x y).num ((ofq x y).den : Int)))) ce_of3 rfl rfl rfl rfl rfl (K2.st (KQ.st _ _) (KR3.st _ _)) rfl (fun a W hf => by have e1 := hf.vl (s := 24) rfl; show Calls Tryz.prog _ #[a.tmps.getD 24 undef] W _; rw [e1]; exact of3_c (in_be h1 hf.be) (in_be h2 hf.be) hz1 hz2 X Y (by omega) (by omega) (by decide)) ?_
  refine PW.move rfl rfl rfl rfl rfl ?_
  refine PW.ext (r := .kw (KQ (ofq x y).num (((ofq x y).den : Int) - 1))) rfl rfl rfl rfl rfl ex20 (KQ.st _ _) rfl ?_
  refine PW.ext (r := .kw (KR3 (ofq x y).num ((ofq x y).den : Int))) rfl rfl rfl rfl rfl ex21 (KR3.st _ _) rfl ?_
  refine PW.alloc (BQ 38) rfl rfl rfl rfl rfl bQ ?_
  refine PW.alloc (BQ 43) rfl rfl rfl rfl rfl bQJ ?_
  refine PW.store (x := .tmp 26) (r := .kw (KQ (ofq x y).num (((ofq x y).den : Int) - 1))) rfl rfl rfl rfl rfl rfl sh_Q ?_
  refine PW.store (x := .tmp 27) (r := .kw (KR3 (ofq x y).num ((ofq x y).den : Int))) rfl rfl rfl rfl rfl rfl sh_R3 ?_
  refine PW.nil (SX.then (SC.seq (SC.region ?_)))
  refine PW.loadV rfl rfl rfl rfl rfl rfl ?_
  refine PW.callG (r := .kw (K2 (KQ (ofq z u).num (((ofq z u).den : Int) - 1)) (KR3 (ofq z u).num ((ofq z u).den : Int)))) ce_of3 rfl rfl rfl rfl rfl (K2.st (KQ.st _ _) (KR3.st _ _)) rfl (fun a W hf => by have e1 := hf.vl (s := 29) rfl; show Calls Tryz.prog _ #[a.tmps.getD 29 undef] W _; rw [e1]; exact of3_c (in_be h3 hf.be) (in_be h4 hf.be) hz3 hz4 Z U (by omega) (by omega) (by decide)) ?_
  refine PW.move rfl rfl rfl rfl rfl ?_
  refine PW.ext (r := .kw (KQ (ofq z u).num (((ofq z u).den : Int) - 1))) rfl rfl rfl rfl rfl ex20 (KQ.st _ _) rfl ?_
  refine PW.ext (r := .kw (KR3 (ofq z u).num ((ofq z u).den : Int))) rfl rfl rfl rfl rfl ex21 (KR3.st _ _) rfl ?_
  refine PW.alloc (BQ 38) rfl rfl rfl rfl rfl bQ ?_
  refine PW.alloc (BQ 43) rfl rfl rfl rfl rfl bQJ ?_
  refine PW.store (x := .tmp 31) (r := .kw (KQ (ofq z u).num (((ofq z u).den : Int) - 1))) rfl rfl rfl rfl rfl rfl sh_Q ?_
  refine PW.store (x := .tmp 32) (r := .kw (KR3 (ofq z u).num ((ofq z u).den : Int))) rfl rfl rfl rfl rfl rfl sh_R3 ?_
  refine PW.nil (SX.then (SC.seq ?_))
  obtain ⟨q, r, e, hqb, hrb, hq1, hq2⟩ := quo_both (way := way) (bq.of X Y) (bq.of Z U)
  refine SC.region ?_
  refine PW.load rfl rfl rfl rfl rfl rfl (PW.move rfl rfl rfl rfl rfl ?_)
  refine PW.load rfl rfl rfl rfl rfl rfl ?_
  refine PW.call (r := .kw (K3 (KI (q)) (KQ (r).num (((r).den : Int) - 1)) (KV (.int .i64 (e))))) rfl rfl rfl rfl rfl rfl (K3.st (KI.st _) (KQ.st _ _) (KV.st _)) rfl (hq1) ?_
  refine PW.move rfl rfl rfl rfl rfl ?_
  refine PW.ext (r := .kw (KI (q))) rfl rfl rfl rfl rfl ex30 (KI.st _) rfl ?_
  refine PW.ext (r := .kw (KQ (r).num (((r).den : Int) - 1))) rfl rfl rfl rfl rfl ex31 (KQ.st _ _) rfl ?_
  refine PW.ext (r := .vl (.int .i64 (e))) rfl rfl rfl rfl rfl ex32v (KV.st _) rfl ?_
  refine PW.alloc (BI 31) rfl rfl rfl rfl rfl bI ?_
  refine PW.alloc (BQ 38) rfl rfl rfl rfl rfl bQ ?_
  refine PW.store (x := .tmp 38) (r := .kw (KI (q))) rfl rfl rfl rfl rfl rfl sh_I ?_
  refine PW.store (x := .tmp 39) (r := .kw (KQ (r).num (((r).den : Int) - 1))) rfl rfl rfl rfl rfl rfl sh_Q ?_
  refine PW.assign rfl rfl rfl rfl rfl (PW.nil (SX.then (SC.seq (SC.region (PW.move rfl rfl rfl rfl rfl ?_)))))
  refine PW.load rfl rfl rfl rfl rfl rfl ?_
  refine PW.load rfl rfl rfl rfl rfl rfl ?_
  refine PW.call (r := .kw (K3 (KJ (q)) (KR3 (r).num ((r).den : Int)) (KV (.int .i64 (e))))) rfl rfl rfl rfl rfl rfl (K3.st (KJ.st _) (KR3.st _ _) (KV.st _)) rfl (hq2) ?_
  refine PW.move rfl rfl rfl rfl rfl ?_
  refine PW.ext (r := .kw (KJ (q))) rfl rfl rfl rfl rfl ex30 (KJ.st _) rfl ?_
  refine PW.ext (r := .kw (KR3 (r).num ((r).den : Int))) rfl rfl rfl rfl rfl ex31 (KR3.st _ _) rfl ?_
  refine PW.ext (r := .vl (.int .i64 (e))) rfl rfl rfl rfl rfl ex32v (KV.st _) rfl ?_
  refine PW.alloc (BI 34) rfl rfl rfl rfl rfl bJ ?_
  refine PW.alloc (BQ 43) rfl rfl rfl rfl rfl bQJ ?_
  refine PW.store (x := .tmp 46) (r := .kw (KJ (q))) rfl rfl rfl rfl rfl rfl sh_J ?_
  refine PW.store (x := .tmp 47) (r := .kw (KR3 (r).num ((r).den : Int))) rfl rfl rfl rfl rfl rfl sh_R3 ?_
  refine PW.assign rfl rfl rfl rfl rfl (PW.nil (SX.then (SC.seq (SC.region (PW.move rfl rfl rfl rfl rfl (PW.move rfl rfl rfl rfl rfl ?_))))))
  refine PW.q2 (x := .tmp 49) (y := .tmp 50) (.bool true) rfl rfl rfl rfl rfl (fun ρ W h1 h2 => by go_simp) ?_
  refine PW.move rfl rfl rfl rfl rfl ?_
  refine PW.load rfl rfl rfl rfl rfl rfl ?_
  refine PW.load rfl rfl rfl rfl rfl rfl ?_
  refine PW.call (r := .vl (.bool true)) rfl rfl rfl rfl rfl rfl (KV.st _) rfl (k_is hqb (by omega) rfl) ?_
  refine PW.pick (t := true) rfl rfl rfl rfl rfl rfl ?_
  refine PW.move rfl rfl rfl rfl rfl ?_
  refine PW.load rfl rfl rfl rfl rfl rfl ?_
  refine PW.load rfl rfl rfl rfl rfl rfl ?_
  refine PW.call (r := .vl (.bool true)) rfl rfl rfl rfl rfl rfl (KV.st _) rfl (k_is3 hrb (by omega)) ?_
  refine PW.pick (t := true) rfl rfl rfl rfl rfl rfl ?_
  refine PW.move rfl rfl rfl rfl rfl ?_
  refine PW.call (r := .vl (.bool true)) rfl rfl rfl rfl rfl rfl (KV.st _) rfl (k_awake3) ?_
  refine PW.pick (t := true) rfl rfl rfl rfl rfl rfl ?_
  refine PW.assign rfl rfl rfl rfl rfl (PW.nil (SX.then (SC.ret ?_)))
  exact SX.done (r := .vl (.bool true)) rfl rfl rfl
 ·have hq : shQ 4 [((n1, A1, l1, c1), (n2, A2, l2, c2)), ((n3, A3, l3, c3), (n4, A4, l4, c4))] = false := by simpa using hq
  refine SC.region ?_
  refine PW.loadV rfl rfl rfl rfl rfl rfl ?_
  refine PW.loadV rfl rfl rfl rfl rfl rfl ?_
  refine PW.short3 4 [((n1, A1, l1, c1), (n2, A2, l2, c2)), ((n3, A3, l3, c3), (n4, A4, l4, c4))] _ rfl rfl rfl (fun a W hf => r_bQ2 (hf.vl (s := 17) rfl) (hf.vl (s := 18) rfl)) (fun W => qs_lit2 W) (by simp; exact ⟨⟨In.lim h1, In.lim h2⟩, ⟨In.lim h3, In.lim h4⟩⟩) rfl rfl hq rfl rfl rfl rfl rfl rfl ?_
  refine PW.q1 (x := .tmp 20) (.bool true) rfl rfl rfl rfl (fun ρ W h1 => by go_simp) ?_
  refine PW.nil (SX.then (SC.cond (t := true) rfl (SC.seq (SC.region ?_))))
  refine PW.call (r := .vl (.bool true)) rfl rfl rfl rfl rfl rfl (KV.st _) rfl (k_awake3) ?_
  refine PW.assign rfl rfl rfl rfl rfl (PW.nil (SX.then (SC.ret (SX.thenR ?_))))
  exact SX.done (r := .vl (.bool true)) rfl rfl rfl
end Go.Proofs.YthpjmhhfcechmaaGreat
/- How plain data that came in read. -/
namespace Go.Proofs.YthpjmhhfcechmaaGreat
open Go.RowKit Ma
theorem In.nil (W : World) : In W none 0 0 [] := ⟨rfl, Nat.le_refl _, Rd.nil _ _ _, dg_nil _⟩
theorem In.of {W : World} {x : Addr} {l c : Nat} {zs : List Int} (hl : l ≤ c) (hm : c ≤ maxLen) (hz : zs.length = c) (hcell : ∀ i, i < zs.length → W.cell? (x.add i) = some (.int .u32 (zs.getD i 0))) (hw : ∀ n ∈ zs, (Lit.int .u32 n).wf = true) : In W (some x) l c (zs.take l) := by
 have h1 : (zs.take l).length = l := by rw [List.length_take]; omega
 refine ⟨h1.symm, hl, ⟨by rw [h1]; unfold maxLen at hm; omega, fun i hi => ⟨x, rfl, ?_⟩⟩, fun n hn => ?_⟩
 ·rw [h1] at hi
  rw [hcell i (by omega)]
  simp only [at0, List.getD_eq_getElem?_getD, List.getElem?_take, hi, if_true]
 ·have h2 := hw n (List.mem_of_mem_take hn)
  simp only [Lit.wf, Bool.and_eq_true, decide_eq_true_eq] at h2
  have hm : IntKind.u32.max = 4294967295 := by simp [IntKind.max, IntKind.bits, IntKind.signed]
  have hn : IntKind.u32.min = 0 := by simp [IntKind.min, IntKind.signed]
  rw [hm, hn] at h2
  rw [b32_eq]
  omega
end Go.Proofs.YthpjmhhfcechmaaGreat
/- A fraction as plain data that came in, opened: two signs, two slices. -/
namespace Go.Proofs.YthpjmhhfcechmaaGreat
open Go.ChangeShapes Go.WideShapes Go.ChangeAt Go.RowKit Go.Joins
set_option maxHeartbeats 1600000 in
set_option maxRecDepth 100000 in
theorem open_Q {H : Type} {enc : TypeId × Value → H} {w : World} {base : Nat} {spare : Nat → Bool} {held : Bool} {r : Reach} {b0 : Nat} {v : Value} {d : DataW H} {p : List MemPlace} (hv : Value.okWide Tryz.prog w r b0 26 v) (h : DataW.Trod enc Tryz.prog w base spare held 26 v d p) :
  ∃ (q0 q1 q2 q3 : Value) (y0 y1 y2 y3 : DataW H × List MemPlace) (n m : Nat), v = .agg #[q0, q1, q2, q3] ∧ DataW.trod enc Tryz.prog w base spare held n 4 [q0] = some y0 ∧ DataW.trod enc Tryz.prog w base spare held n 22 [q1] = some y1 ∧ DataW.trod enc Tryz.prog w base spare held m 4 [q2] = some y2 ∧ DataW.trod enc Tryz.prog w base spare held m 22 [q3] = some y3 := by
 obtain ⟨cs, rfl, hsz⟩ := okWide_struct Tryz.underlying26 hv
 have k4 : Tryz.prog.cellsOf 26 = 4 := by kernel_rfl
 have k2 : Tryz.prog.cellsOf 24 = 2 := by kernel_rfl
 have kb : Tryz.prog.cellsOf 4 = 1 := by kernel_rfl
 have ks : Tryz.prog.cellsOf 22 = 1 := by kernel_rfl
 obtain ⟨q0, q1, q2, q3, rfl⟩ := array4 (hsz.trans k4)
 obtain ⟨fuel, hf⟩ := h
 obtain ⟨y0, y1, n, hx, _, h0, h1⟩ := trod_struct2 Tryz.underlying26 hf
 have g0 : DataW.trod enc Tryz.prog w base spare held n 24 [q0, q1] = some y0 := by simpa [Value.cells, k2] using h0
 have g1 : DataW.trod enc Tryz.prog w base spare held n 24 [q2, q3] = some y1 := by simpa [Value.cells, k2] using h1
 obtain ⟨a0, a1, i, _, _, e0, e1⟩ := trod_struct2 Tryz.underlying24 g0
 obtain ⟨b0, b1, j, _, _, f0, f1⟩ := trod_struct2 Tryz.underlying24 g1
 exact ⟨q0, q1, q2, q3, a0, a1, b0, b1, i, j, rfl, by simpa [kb] using e0, by simpa [ks] using e1, by simpa [kb] using f0, by simpa [ks] using f1⟩
end Go.Proofs.YthpjmhhfcechmaaGreat
