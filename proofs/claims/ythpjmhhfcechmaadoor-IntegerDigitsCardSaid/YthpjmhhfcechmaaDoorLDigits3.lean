/- Parts B9, C1, Cb, Cd, Ce, B0, Mi, Mb, Lm, Lr, Lw, Rh, Sy0, Sya, Syb, C2, C3, C4, C5, C6, in one file. -/
import Derived.OpenShut
import Derived.Lib.Tables
import Derived.Deep.AppendLies
import Derived.Deep.RegionLaw
import Derived.IntWalk
import Derived.BigRegion
import Derived.Still
import Derived.Deep.Draws
import Derived.Deep.Quiet
import Derived.Maps.AppendAt
import Derived.Tactics2
import Derived.Scope
import Derived.Test.YthpjmhhfcechmaaDoorLDigits1
import Derived.Test.YthpjmhhfcechmaaDoorLDigits2
/- The contract of the program's Boole: its closure, the walk. -/
set_option linter.unusedVariables false
set_option linter.unusedSimpArgs false
namespace Go.Proofs.YthpjmhhfcechmaaDoor
open Go.RowKit Ma

def tq (q a b : Int) : Int := if (bits .and .i64 q 1 == 0) = true then 0 else bits .and .u32 a b
def bl (op p q : Int) : Int := bits .or .u32 (bits .or .u32 (bits .or .u32 (tq op (bits .xor .u32 IntKind.u32.max p) (bits .xor .u32 IntKind.u32.max q)) (tq (op / 2) (bits .xor .u32 IntKind.u32.max p) q)) (tq (op / 4) p (bits .xor .u32 IntKind.u32.max q))) (tq (op / 8) p q)
set_option maxHeartbeats 800000 in
set_option maxRecDepth 100000 in
theorem term_0 (p : Nat) (op a b : Int) (w : World) (ho : 0 ≤ op) (ho2 : op ≤ 15) (hc : w.cell? ⟨p, 0, none⟩ = some (.int .i64 op)) :
  Calls Tryd.prog 43 #[.int .i64 0, .int .u32 a, .int .u32 b, .pointer (some ⟨p, 0, none⟩)] w fun e w' => e = .returned (.int .u32 (tq op a b)) ∧ w = w' := by
 by_cases hb : (bits .and .i64 op 1 == 0) = true
 ·have ht : tq op a b = 0 := by unfold tq; rw [if_pos hb]
  have HT := Lib.hid ht
  clear ht
  go_enter Tryd.func43, Tryd.ntmps43
  go_wp2
  go_ret
  exact ⟨ret_val (by rw [HT.out]; rfl), rfl⟩
 ·have ht : tq op a b = bits .and .u32 a b := by unfold tq; rw [if_neg hb]
  have HT := Lib.hid ht
  have hb : (bits .and .i64 op 1 == 0) = false := by simpa using hb
  clear ht
  go_enter Tryd.func43, Tryd.ntmps43
  go_wp2
  go_ret
  exact ⟨ret_val (by rw [HT.out]; rfl), rfl⟩
set_option maxHeartbeats 800000 in
set_option maxRecDepth 100000 in
theorem term_1 (p : Nat) (op a b : Int) (w : World) (ho : 0 ≤ op) (ho2 : op ≤ 15) (hc : w.cell? ⟨p, 0, none⟩ = some (.int .i64 op)) :
  Calls Tryd.prog 43 #[.int .i64 1, .int .u32 a, .int .u32 b, .pointer (some ⟨p, 0, none⟩)] w fun e w' => e = .returned (.int .u32 (tq (op / 2) a b)) ∧ w = w' := by
 by_cases hb : (bits .and .i64 (op / 2) 1 == 0) = true
 ·have ht : tq (op / 2) a b = 0 := by unfold tq; rw [if_pos hb]
  have HT := Lib.hid ht
  clear ht
  go_enter Tryd.func43, Tryd.ntmps43
  go_wp2
  go_ret
  exact ⟨ret_val (by rw [HT.out]; rfl), rfl⟩
 ·have ht : tq (op / 2) a b = bits .and .u32 a b := by unfold tq; rw [if_neg hb]
  have HT := Lib.hid ht
  have hb : (bits .and .i64 (op / 2) 1 == 0) = false := by simpa using hb
  clear ht
  go_enter Tryd.func43, Tryd.ntmps43
  go_wp2
  go_ret
  exact ⟨ret_val (by rw [HT.out]; rfl), rfl⟩
set_option maxHeartbeats 800000 in
set_option maxRecDepth 100000 in
theorem term_2 (p : Nat) (op a b : Int) (w : World) (ho : 0 ≤ op) (ho2 : op ≤ 15) (hc : w.cell? ⟨p, 0, none⟩ = some (.int .i64 op)) :
  Calls Tryd.prog 43 #[.int .i64 2, .int .u32 a, .int .u32 b, .pointer (some ⟨p, 0, none⟩)] w fun e w' => e = .returned (.int .u32 (tq (op / 4) a b)) ∧ w = w' := by
 by_cases hb : (bits .and .i64 (op / 4) 1 == 0) = true
 ·have ht : tq (op / 4) a b = 0 := by unfold tq; rw [if_pos hb]
  have HT := Lib.hid ht
  clear ht
  go_enter Tryd.func43, Tryd.ntmps43
  go_wp2
  go_ret
  exact ⟨ret_val (by rw [HT.out]; rfl), rfl⟩
 ·have ht : tq (op / 4) a b = bits .and .u32 a b := by unfold tq; rw [if_neg hb]
  have HT := Lib.hid ht
  have hb : (bits .and .i64 (op / 4) 1 == 0) = false := by simpa using hb
  clear ht
  go_enter Tryd.func43, Tryd.ntmps43
  go_wp2
  go_ret
  exact ⟨ret_val (by rw [HT.out]; rfl), rfl⟩
set_option maxHeartbeats 800000 in
set_option maxRecDepth 100000 in
theorem term_3 (p : Nat) (op a b : Int) (w : World) (ho : 0 ≤ op) (ho2 : op ≤ 15) (hc : w.cell? ⟨p, 0, none⟩ = some (.int .i64 op)) :
  Calls Tryd.prog 43 #[.int .i64 3, .int .u32 a, .int .u32 b, .pointer (some ⟨p, 0, none⟩)] w fun e w' => e = .returned (.int .u32 (tq (op / 8) a b)) ∧ w = w' := by
 by_cases hb : (bits .and .i64 (op / 8) 1 == 0) = true
 ·have ht : tq (op / 8) a b = 0 := by unfold tq; rw [if_pos hb]
  have HT := Lib.hid ht
  clear ht
  go_enter Tryd.func43, Tryd.ntmps43
  go_wp2
  go_ret
  exact ⟨ret_val (by rw [HT.out]; rfl), rfl⟩
 ·have ht : tq (op / 8) a b = bits .and .u32 a b := by unfold tq; rw [if_neg hb]
  have HT := Lib.hid ht
  have hb : (bits .and .i64 (op / 8) 1 == 0) = false := by simpa using hb
  clear ht
  go_enter Tryd.func43, Tryd.ntmps43
  go_wp2
  go_ret
  exact ⟨ret_val (by rw [HT.out]; rfl), rfl⟩
theorem u32_bd (o : BinOp) (x y : Int) : 0 ≤ bits o .u32 x y ∧ bits o .u32 x y < 4294967296 := by
 have h := wf_bits o .u32 x y
 simp only [Lit.wf, Bool.and_eq_true, decide_eq_true_eq] at h
 have hm : IntKind.u32.max = 4294967295 := by simp [IntKind.max, IntKind.bits, IntKind.signed]
 have hn : IntKind.u32.min = 0 := by simp [IntKind.min, IntKind.signed]
 rw [hm, hn] at h
 omega
theorem bl_dg (op p q : Int) : 0 ≤ bl op p q ∧ bl op p q < b32 := u32_bd .or _ _
theorem Own.grew {w : World} {base : Nat} {e : TypeId} {k : IntKind} {g n cap : Nat} {zs : List Int} (h : Own w base e k (.slice (some ⟨g, 0, none⟩) n cap) zs) (hn : n = zs.length) (i : Nat) (x : Value) : w.grownBy (w.setCell ⟨g, i, none⟩ x) (some g) := by
 subst hn; exact (World.ownsRow.stored h i x).2
theorem untwos_l {A : Option Addr} {l c : Nat} {ts : List Int} {w : World} (e : l = ts.length) (rA : Rd w .u32 A ts) (hc : l ≤ c) (d : dg b32 ts) (hl : l ≤ 400000) (h0 : 0 < l) :
  Calls Tryd.prog 45 #[.slice A l c] w (Ret w (KI (sx l (lv b32 ts)))) := by
 subst e; exact untwos_c rA hc d hl h0
structure BoAt (op : Int) (us vs : List Int) (N i : Nat) (zs : List Int) : Prop where
 le : i ≤ N
 len : zs.length = N
 done : ∀ j, j < i → at0 zs j = bl op (at0 us j) (at0 vs j)
 rest : ∀ j, i ≤ j → at0 zs j = at0 us j
theorem BoAt.step {op : Int} {us vs : List Int} {N i : Nat} {zs : List Int} (h : BoAt op us vs N i zs) (hi : i < N) : BoAt op us vs N (i + 1) (zs.set i (bl op (at0 us i) (at0 vs i))) := by
 obtain ⟨h1, h2, h3, h4⟩ := h
 refine ⟨by omega, by simp [h2], fun j hj => ?_, fun j hj => ?_⟩
 ·rw [at0_set _ _ _ _ (by omega)]
  by_cases e : j = i
  ·rw [if_pos e, e]
  ·rw [if_neg e]; exact h3 j (by omega)
 ·rw [at0_set _ _ _ _ (by omega), if_neg (by omega)]; exact h4 j (by omega)
set_option maxHeartbeats 6400000 in
set_option maxRecDepth 100000 in
theorem boole_w {x y : Int} {n m : Bool} {A B : Option Addr} {l l' c d : Nat} {w : World} {op : Int} (hx : RI w n A l c x) (hy : RI w m B l' d y) (hl : l ≤ 300000) (hl' : l' ≤ 300000) (ho : 0 ≤ op) (ho2 : op ≤ 15) :
    Calls Tryd.prog 19 #[.agg #[.bool n, .slice A l c], .int .i64 op, .agg #[.bool m, .slice B l' d]] w (Ret w (K2 (fun v W => ∃ us vs ts N, N = max l l' + 1 ∧ us.length = N ∧ vs.length = N ∧ ts.length = N ∧ dg b32 us ∧ dg b32 vs ∧ dg b32 ts ∧ lv b32 us = x % b32 ^ N ∧ lv b32 vs = y % b32 ^ N ∧ (∀ i, i < N → at0 ts i = bl op (at0 us i) (at0 vs i)) ∧ KI (sx N (lv b32 ts)) v W) (KV (.int .i64 0)))) := by
  have nw1 : Nw w ((((w.alloc (.cells #[.bool n, .slice A l c] 28)).alloc (.cells #[.int .i64 op] 3)).alloc (.cells #[.bool m, .slice B l' d] 28)).alloc (.cells #[.bool false, .slice none 0 0] 28)) := ((((Nw.refl w).alloc _).alloc _).alloc _).alloc _
  have hop15 : ¬ (15 < op) := by omega
  have HX := Lib.hid (hx.kept nw1.kept)
  have HY := Lib.hid (hy.kept nw1.kept)
  clear hx hy
  go_enter Tryd.func19, Tryd.ntmps19
  go_wp2
  obtain ⟨N, hN⟩ : ∃ N : Nat, N = max l l' + 1 := ⟨_, rfl⟩
  have eN : (max (l : Int) (l' : Int) + 1) = (N : Int) := by omega
  rw [eN]
  obtain ⟨M, hM⟩ : ∃ M : Int, M = max (l : Int) (l' : Int) := ⟨_, rfl⟩
  rw [← hM]
  obtain ⟨W1, hW1⟩ : ∃ W1, W1 = ((((w.alloc (.cells #[.bool n, .slice A l c] 28)).alloc (.cells #[.int .i64 op] 3)).alloc (.cells #[.bool m, .slice B l' d] 28)).alloc (.cells #[.bool false, .slice none 0 0] 28)) := ⟨_, rfl⟩
  have sg0 : Sg [(w.heap.size, 0, Value.bool n), (w.heap.size, 1, Value.slice A l c), (w.heap.size + 1, 0, Value.int .i64 op), (w.heap.size + 1 + 1, 0, Value.bool m), (w.heap.size + 1 + 1, 1, Value.slice B l' d)] (w.heap.size + 1 + 1 + 1) 2 W1 := by
    rw [hW1]
    refine ⟨⟨by go_simp, by go_simp, by go_simp, by go_simp, by go_simp, trivial⟩, ?_, by go_simp⟩
    have := box_two (((w.alloc (.cells #[.bool n, .slice A l c] 28)).alloc (.cells #[.int .i64 op] 3)).alloc (.cells #[.bool m, .slice B l' d] 28)) 28 false none 0 0
    simpa using this
  have hsz : W1.heap.size = w.heap.size + 1 + 1 + 1 + 1 := by rw [hW1]; go_simp
  rw [← hW1] at nw1 HX HY ⊢
  have hN1 : l ≤ N := by omega
  have hN2 : l' ≤ N := by omega
  have hN3 : 0 < N := by omega
  have hN4 : N ≤ 400000 := by omega
  have HN := Lib.hid hN
  have HS := Lib.hid hsz
  have SG := Lib.hid sg0
  obtain ⟨⟨q1, q2, q3, q4, q5, _⟩, _, _⟩ := sg0
  clear hN eN hM hW1 hsz
  have hd0 : Nw W1 W1.drew := (Nw.refl W1).drew
  have cX : ∀ W, Nw W1 W → Calls Tryd.prog 44 #[.agg #[.bool n, .slice A l c], .int .i64 N] W (Ret W (KO W.heap.size 56 .u32 fun ts => dg b32 ts ∧ ts.length = N ∧ lv b32 ts = x % b32 ^ N)) := fun W h => twos_c N (HX.out.kept h.kept) (by omega) hN3 (by omega) hN1
  have cY : ∀ W, Nw W1 W → Calls Tryd.prog 44 #[.agg #[.bool m, .slice B l' d], .int .i64 N] W (Ret W (KO W.heap.size 56 .u32 fun ts => dg b32 ts ∧ ts.length = N ∧ lv b32 ts = y % b32 ^ N)) := fun W h => twos_c N (HY.out.kept h.kept) (by omega) hN3 (by omega) hN2
  go_region_with
    (first
      | (go_at_call 44; (with_reducible show Calls _ _ #[.agg #[.bool n, .slice A l c], _] (World.drew W1) _); refine (cX _ hd0).mono ?_; rintro e wx ⟨_, rfl, ⟨us, gu, cu, rfl, ou, pu⟩, hbx⟩; have nx : Nw W1 wx := hd0.trans hbx; obtain ⟨a1, a2, a3, a4, a5, _⟩ := SG.out.1.nw nx)
      | (go_at_call 44; (with_reducible show Calls _ _ #[.agg #[.bool n, .slice A l c], _] wy _); refine (cX _ ny).mono ?_; rintro e wx ⟨_, rfl, ⟨us, gu, cu, rfl, ou, pu⟩, hbx⟩; have nx : Nw W1 wx := ny.trans hbx; obtain ⟨a1, a2, a3, a4, a5, _⟩ := SG.out.1.nw nx)
      | (go_at_call 44; (with_reducible show Calls _ _ #[.agg #[.bool m, .slice B l' d], _] (World.drew W1) _); refine (cY _ hd0).mono ?_; rintro e wy ⟨_, rfl, ⟨vs, gv, cv, rfl, ov, pv⟩, hby⟩; have ny : Nw W1 wy := hd0.trans hby; obtain ⟨a1, a2, a3, a4, a5, _⟩ := SG.out.1.nw ny)
      | (go_at_call 44; (with_reducible show Calls _ _ #[.agg #[.bool m, .slice B l' d], _] wx _); refine (cY _ nx).mono ?_; rintro e wy ⟨_, rfl, ⟨vs, gv, cv, rfl, ov, pv⟩, hby⟩; have ny : Nw W1 wy := nx.trans hby; obtain ⟨a1, a2, a3, a4, a5, _⟩ := SG.out.1.nw ny))
  all_goals (first
    | (have ou2 := ou.kept hby
       have hne : gu ≠ gv := by have := (World.ownsRow.lt ou gu rfl).2; have := row_ge ov; omega
       have ou3 : Own wy (w.heap.size + 1 + 1 + 1 + 1) 56 .u32 (.slice (some ⟨gu, 0, none⟩) us.length cu) us := row_base ou2 (by have := HS.out; have := hd0.size; omega)
       have ov3 : Own wy (w.heap.size + 1 + 1 + 1 + 1) 56 .u32 (.slice (some ⟨gv, 0, none⟩) vs.length cv) vs := row_base ov (by have := HS.out; have := nx.size; omega)
       have nz := ny
       clear ou ou2 ov hbx hby nx ny a1 a2 a3 a4 a5
       generalize wy = wz at *)
    | (have ov2 := ov.kept hbx
       have hne : gu ≠ gv := by have := (World.ownsRow.lt ov gv rfl).2; have := row_ge ou; omega
       have ov3 : Own wx (w.heap.size + 1 + 1 + 1 + 1) 56 .u32 (.slice (some ⟨gv, 0, none⟩) vs.length cv) vs := row_base ov2 (by have := HS.out; have := hd0.size; omega)
       have ou3 : Own wx (w.heap.size + 1 + 1 + 1 + 1) 56 .u32 (.slice (some ⟨gu, 0, none⟩) us.length cu) us := row_base ou (by have := HS.out; have := ny.size; omega)
       have nz := nx
       clear ou ov2 ov hbx hby nx ny a1 a2 a3 a4 a5
       generalize wx = wz at *))
  all_goals clear cX cY q1 q2 q3 q4 q5 hd0
  all_goals
    obtain ⟨du, lu, eu⟩ := pu
    obtain ⟨dv, lv9, ev⟩ := pv
    have n1 : Nw w wz := nw1.trans nz
    have SGW := Lib.hid (SG.out.nw nz)
    have OU : Own wz (w.heap.size + 1 + 1 + 1 + 1) 56 .u32 (.slice (some ⟨gu, 0, none⟩) N cu) us := by rw [← lu]; exact ou3
    have OV : Own wz (w.heap.size + 1 + 1 + 1 + 1) 56 .u32 (.slice (some ⟨gv, 0, none⟩) N cv) vs := by rw [← lv9]; exact ov3
    have hgu := OU.ge
    have hgv := OV.ge
    have OU := Lib.hid OU
    have OV := Lib.hid OV
    have LU := Lib.hid lu
    have LV9 := Lib.hid lv9
    have EU := Lib.hid eu
    have EV := Lib.hid ev
    clear ou3 ov3 lu lv9 eu ev
    go_wp2
  all_goals
    go_loopw [38] (fun ci wr => ∃ (i : Nat) (zs : List Int), ci = .int .i64 i ∧ Own wr (w.heap.size + 1 + 1 + 1 + 1) 56 .u32 (.slice (some ⟨gu, 0, none⟩) N cu) zs ∧ Own wr (w.heap.size + 1 + 1 + 1 + 1) 56 .u32 (.slice (some ⟨gv, 0, none⟩) N cv) vs ∧ BoAt op us vs N i zs ∧ Nw w wr ∧ Sg [(w.heap.size + 1, 0, Value.int .i64 op)] (w.heap.size + 1 + 1 + 1) 2 wr)
      (fun ci _ => N - (intOf ci).toNat)
    case atStart => exact ⟨0, us, rfl, OU.out, OV.out, ⟨by omega, LU.out, fun j hj => by omega, fun j _ => rfl⟩, n1, ⟨⟨SGW.out.1.2.2.1, trivial⟩, SGW.out.2⟩⟩
    case round =>
      obtain ⟨i, zs, rfl, hu, hv, hb, hn, hs⟩ := hrel
      have hile := hb.le
      by_cases hi : i < N
      · have ca := hu.cellAt (i := i) (by rw [hb.len]; exact hi) hb.len.symm
        rw [hb.rest i (Nat.le_refl _)] at ca
        have fa := hu.frozenAt hb.len.symm i
        have cb := hv.cellAt (i := i) (by rw [LV9.out]; exact hi) LV9.out.symm
        have c3 := hs.1.1
        have HU := Lib.hid hu
        have HV := Lib.hid hv
        have HB := Lib.hid hb
        have HSS := Lib.hid hs
        clear hu hv hb hs
        go_wp2
        go_quiet (fail)
        have c4 : (wr.drewN nq).cell? ⟨w.heap.size + 1, 0, none⟩ = some (.int .i64 op) := c3
        go_wp2_with fail
        refine (term_0 (w.heap.size + 1) op _ _ _ ho ho2 c4).mono ?_
        rintro e w9 ⟨rfl, rfl⟩
        go_wp2_with fail
        refine (term_1 (w.heap.size + 1) op _ _ _ ho ho2 c4).mono ?_
        rintro e w9 ⟨rfl, rfl⟩
        go_wp2_with fail
        refine (term_2 (w.heap.size + 1) op _ _ _ ho ho2 c4).mono ?_
        rintro e w9 ⟨rfl, rfl⟩
        go_wp2_with fail
        refine (term_3 (w.heap.size + 1) op _ _ _ ho ho2 c4).mono ?_
        rintro e w9 ⟨rfl, rfl⟩
        go_wp2
        have HU2 := HU.out.kept ((Nw.refl wr).drewN nq)
        have HV2 := HV.out.kept ((Nw.refl wr).drewN nq)
        have B2 := (HSS.out.2.1.below ((Nw.refl wr).drewN nq))
        exact ⟨⟨i + 1, _, by go_num, HU2.set HB.out.len.symm i _, World.ownsRow.kept HV2 (Own.grew HU2 HB.out.len.symm i _) (.inr (by simp only [Value.ownBlock, ne_eq, Option.some.injEq]; exact fun e => hne e.symm)), HB.out.step hi, (hn.drewN nq).set (by simp; omega) _, ⟨⟨by rw [World.cell?_setCell_other (h := by simp <;> omega)]; exact c4, trivial⟩, B2.cellset (by omega) _, by have := HSS.out.2.2; simp; omega⟩⟩, by simp [intOf]; omega⟩
      · have hie : i = N := by omega
        have hd := hb.done
        rw [hie] at hd
        have hzl := hb.len
        have dz : dg b32 zs := by
          intro z hz
          obtain ⟨j, hj, rfl⟩ := List.getElem_of_mem hz
          rw [← at0_of_lt hj, hd j (by omega)]
          exact bl_dg _ _ _
        have hr := hu.rdg.2.2
        have hcc := hu.rdg.2.1
        have HD := Lib.hid hd
        have HZ := Lib.hid hzl
        have HSS := Lib.hid hs
        clear hu hv hb hs hd hzl hie
        go_wp2_with (go_at_call 45; refine (untwos_l HZ.out.symm hr hcc dz hN4 hN3).mono ?_; rintro e w2 ⟨_, rfl, ⟨m2, D2, l2, c2, rfl, hi2⟩, hb2⟩; have b2 := (HSS.out.nw hb2).2.1; obtain ⟨⟨v0, hv0, hn0⟩, hf0⟩ := b2 0 (by omega); obtain ⟨⟨v1, hv1, hn1⟩, hf1⟩ := b2 1 (by omega))
        exact bodyPost_ret (v := .tuple #[.agg #[.bool m2, .slice D2 l2 c2], .int .i64 0]) (by simp [results, Tryd.results19, go_sem, hv0, hv1]) rfl ⟨_, rfl, ⟨_, _, rfl, ⟨us, vs, zs, N, HN.out, LU.out, LV9.out, HZ.out, du, dv, dz, EU.out, EV.out, HD.out, ⟨_, _, _, _, rfl, (hi2.kept (store_I b2 hi2).1.2.1)⟩⟩, rfl⟩, ((hn.trans hb2).rr (store_I b2 hi2).1 (by omega))⟩
end Go.Proofs.YthpjmhhfcechmaaDoor
/- The law of Boole: the bits of what a round stores; of the number that is read back. No walk. -/
namespace Go.Proofs.YthpjmhhfcechmaaDoor
open Go.RowKit Ma

def ch (op : Int) (a b : Bool) : Bool := decide (op / (if a then (if b then 8 else 4) else (if b then 2 else 1)) % 2 = 1)
theorem and1 (q : Int) (h0 : 0 ≤ q) (h1 : q ≤ 15) : (bits .and .i64 q 1 == 0) = decide (q % 2 = 0) := by
 obtain ⟨n, rfl⟩ := Int.eq_ofNat_of_zero_le h0
 have key : ∀ n : Fin 16, (bits .and .i64 ((n.val : Nat) : Int) 1 == 0) = decide (((n.val : Nat) : Int) % 2 = 0) := by decide
 exact key ⟨n, by omega⟩
theorem tq_nat (q : Int) (h0 : 0 ≤ q) (h1 : q ≤ 15) (A B : Nat) (hA : A < 4294967296) (hB : B < 4294967296) : tq q A B = ((if q % 2 = 0 then 0 else A &&& B : Nat) : Int) := by
 unfold tq
 rw [and1 q h0 h1, u32_and_nat A B hA hB]
 by_cases h : q % 2 = 0 <;> simp [h]
theorem ones_bit (k : Nat) (hk : k < 32) : Nat.testBit 4294967295 k = true := by
 have := Nat.testBit_two_pow_sub_one 32 k
 have p32 : (2 : Nat) ^ 32 - 1 = 4294967295 := by decide
 rw [p32] at this
 rw [this]; simp [hk]
theorem bl_bit (op p q : Int) (h0 : 0 ≤ op) (h1 : op ≤ 15) (hp : 0 ≤ p ∧ p < 4294967296) (hq : 0 ≤ q ∧ q < 4294967296) (k : Nat) (hk : k < 32) : tb (bl op p q) k = ch op (tb p k) (tb q k) := by
 obtain ⟨P, rfl⟩ := Int.eq_ofNat_of_zero_le hp.1
 obtain ⟨Q, rfl⟩ := Int.eq_ofNat_of_zero_le hq.1
 have hP : P < 4294967296 := by omega
 have hQ : Q < 4294967296 := by omega
 have hm : IntKind.u32.max = ((4294967295 : Nat) : Int) := by simp [IntKind.max, IntKind.bits, IntKind.signed]
 have p32 : (2 : Nat) ^ 32 = 4294967296 := by decide
 have l1 : 4294967295 ^^^ P < 4294967296 := by rw [← p32]; exact Nat.xor_lt_two_pow (by omega) (by omega)
 have l2 : 4294967295 ^^^ Q < 4294967296 := by rw [← p32]; exact Nat.xor_lt_two_pow (by omega) (by omega)
 unfold bl
 rw [hm, u32_xor_nat _ _ (by omega) hP, u32_xor_nat _ _ (by omega) hQ, tq_nat op h0 h1 _ _ l1 l2, tq_nat (op / 2) (by omega) (by omega) _ _ l1 hQ, tq_nat (op / 4) (by omega) (by omega) _ _ hP l2, tq_nat (op / 8) (by omega) (by omega) _ _ hP hQ]
 have b : ∀ (c : Prop) [Decidable c] (X Y : Nat), X < 4294967296 → (if c then 0 else X &&& Y) < 4294967296 := by
  intro c _ X Y hX
  split
  ·omega
  ·exact Nat.lt_of_le_of_lt Nat.and_le_left hX
 have o : ∀ X Y : Nat, X < 4294967296 → Y < 4294967296 → X ||| Y < 4294967296 := fun X Y hX hY => by rw [← p32]; exact Nat.or_lt_two_pow (by omega) (by omega)
 rw [u32_or_nat _ _ (b _ _ _ l1) (b _ _ _ l1), u32_or_nat _ _ (o _ _ (b _ _ _ l1) (b _ _ _ l1)) (b _ _ _ hP), u32_or_nat _ _ (o _ _ (o _ _ (b _ _ _ l1) (b _ _ _ l1)) (b _ _ _ hP)) (b _ _ _ hP)]
 rw [tb_nat, tb_nat, tb_nat]
 simp only [Nat.testBit_or]
 have t : ∀ (c : Prop) [Decidable c] (X Y : Nat), (if c then 0 else X &&& Y).testBit k = (!decide c && (X.testBit k && Y.testBit k)) := by
  intro c _ X Y
  by_cases h : c <;> simp [h]
 rw [t, t, t, t]
 simp only [Nat.testBit_xor, ones_bit k hk]
 have hdec : ∀ x : Int, (!decide (x % 2 = 0)) = decide (x % 2 = 1) := by
  intro x
  rw [Bool.eq_iff_iff, Bool.not_eq_true', decide_eq_false_iff_not, decide_eq_true_eq]
  omega
 rw [hdec, hdec, hdec, hdec]
 unfold ch
 cases P.testBit k <;> cases Q.testBit k <;> simp
theorem pow32 (n : Nat) : b32 ^ n = 2 ^ (32 * n) := by rw [Int.pow_mul]; rfl
theorem boole_law {x y op : Int} {us vs ts : List Int} {N : Nat} (h0 : 0 ≤ op) (h1 : op ≤ 15) (hN : 0 < N) (lu : us.length = N) (lv' : vs.length = N) (lt : ts.length = N) (du : dg b32 us) (dv : dg b32 vs) (dt : dg b32 ts)
  (eu : lv b32 us = x % b32 ^ N) (ev : lv b32 vs = y % b32 ^ N) (ht : ∀ i, i < N → at0 ts i = bl op (at0 us i) (at0 vs i))
  (x0 : -(b32 ^ (N - 1)) ≤ x) (x1 : x < b32 ^ (N - 1)) (y0 : -(b32 ^ (N - 1)) ≤ y) (y1 : y < b32 ^ (N - 1)) (i : Nat) : tb (sx N (lv b32 ts)) i = ch op (tb x i) (tb y i) := by
 have t0 := lv_nonneg (show (0 : Int) < b32 by decide) dt
 have t1 := lv_lt (show (0 : Int) < b32 by decide) dt
 rw [lt] at t1
 rw [pow32] at eu ev t1 x0 x1 y0 y1
 have low : ∀ i, i < 32 * N → tb (sx N (lv b32 ts)) i = ch op (tb x i) (tb y i) := by
  intro i hi
  have e1 : tb (sx N (lv b32 ts)) i = tb (lv b32 ts) i := by
   unfold sx
   split
   ·rfl
   ·rw [pow32, show lv b32 ts - 2 ^ (32 * N) = lv b32 ts + 2 ^ (32 * N) * (-1) by omega, tb_add_mul _ _ hi]
  have hj : i / 32 < N := by omega
  have hk : i % 32 < 32 := Nat.mod_lt _ (by decide)
  have hi2 : 32 * (i / 32) + i % 32 = i := by omega
  have a1 := lv_tb dt (i / 32) (i % 32) hk
  have a2 := lv_tb du (i / 32) (i % 32) hk
  have a3 := lv_tb dv (i / 32) (i % 32) hk
  rw [hi2] at a1 a2 a3
  have b2 := dg_at du (by decide) (i / 32)
  have b3 := dg_at dv (by decide) (i / 32)
  rw [b32_eq] at b2 b3
  rw [e1]
  rw [show lv b32 ts = lv 4294967296 ts from rfl, a1, ht _ hj, bl_bit op _ _ h0 h1 b2 b3 _ hk, ← a2, ← a3]
  rw [show lv 4294967296 us = lv b32 us from rfl, show lv 4294967296 vs = lv b32 vs from rfl, eu, ev, tb_emod _ hi, tb_emod _ hi]
 by_cases hi : i < 32 * N
 ·exact low i hi
 ·have hM : 32 * N - 1 + 1 = 32 * N := by omega
  have hpp : (2 : Int) ^ (32 * N) = 2 ^ (32 * N - 1) * 2 := by rw [← Int.pow_succ]; congr 1; omega
  have z0 : -(2 ^ (32 * N - 1)) ≤ sx N (lv b32 ts) := by unfold sx; rw [pow32]; split <;> omega
  have z1 : sx N (lv b32 ts) < 2 ^ (32 * N - 1) := by unfold sx; rw [pow32]; split <;> omega
  rw [tb_high z0 z1 (show 32 * N - 1 ≤ i by omega), ← tb_high z0 z1 (Nat.le_refl _), low _ (by omega)]
  rw [tb_high x0 x1 (show 32 * (N - 1) ≤ 32 * N - 1 by omega), tb_high x0 x1 (show 32 * (N - 1) ≤ i by omega), tb_high y0 y1 (show 32 * (N - 1) ≤ 32 * N - 1 by omega), tb_high y0 y1 (show 32 * (N - 1) ≤ i by omega)]
noncomputable def bo (op x y : Int) : Int := @dite _ (∃ z, ∀ i, tb z i = ch op (tb x i) (tb y i)) (Classical.propDecidable _) (fun h => Classical.choose h) (fun _ => 0)
theorem bo_eq {op x y z : Int} (h : ∀ i, tb z i = ch op (tb x i) (tb y i)) : z = bo op x y := by
 have hex : ∃ z, ∀ i, tb z i = ch op (tb x i) (tb y i) := ⟨z, h⟩
 unfold bo
 rw [dif_pos hex]
 exact tb_ext fun i => (h i).trans (Classical.choose_spec hex i).symm
theorem boole_c {x y : Int} {n m : Bool} {A B : Option Addr} {l l' c d : Nat} {w : World} {op : Int} (hx : RI w n A l c x) (hy : RI w m B l' d y) (hl : l ≤ 300000) (hl' : l' ≤ 300000) (ho : 0 ≤ op) (ho2 : op ≤ 15) :
  Calls Tryd.prog 19 #[.agg #[.bool n, .slice A l c], .int .i64 op, .agg #[.bool m, .slice B l' d]] w (Ret w (K2 (KI (bo op x y)) (KV (.int .i64 0)))) := by
 have bx := hx.abs_lt
 have by' := hy.abs_lt
 refine (boole_w hx hy hl hl' ho ho2).mono fun e w' ⟨v, e1, ⟨v1, v2, e2, ⟨us, vs, ts, N, hN, lu, lv', lt, du, dv, dt, eu, ev, ht, hk⟩, h2⟩, hb⟩ => ⟨v, e1, ⟨v1, v2, e2, ?_, h2⟩, hb⟩
 have p1 := pow_le (b := b32) (by decide) (show l ≤ N - 1 by omega)
 have p2 := pow_le (b := b32) (by decide) (show l' ≤ N - 1 by omega)
 rw [← bo_eq (boole_law ho ho2 (by omega) lu lv' lt du dv dt eu ev ht (by omega) (by omega) (by omega) (by omega))]
 exact hk
end Go.Proofs.YthpjmhhfcechmaaDoor
/- The contracts of the program's pattern, length, Length, Count, Bit. -/
namespace Go.Proofs.YthpjmhhfcechmaaDoor
open Go.RowKit Ma

end Go.Proofs.YthpjmhhfcechmaaDoor
/- The contracts of the program's raised, lowered, shift, Shift. -/
namespace Go.Proofs.YthpjmhhfcechmaaDoor
open Go.RowKit Ma

end Go.Proofs.YthpjmhhfcechmaaDoor
/- The contract of the program's lowered. -/
namespace Go.Proofs.YthpjmhhfcechmaaDoor
open Go.RowKit Ma

end Go.Proofs.YthpjmhhfcechmaaDoor
/- The contract of the program's shift. -/
namespace Go.Proofs.YthpjmhhfcechmaaDoor
open Go.RowKit Ma

def sh (x n : Int) : Int := if 0 ≤ n then x * 2 ^ n.toNat else x / 2 ^ (-n).toNat
end Go.Proofs.YthpjmhhfcechmaaDoor
/- Bits of whole numbers: sums, fields and deposits (no program in sight). -/
namespace Go.Proofs.YthpjmhhfcechmaaDoor
open Go.RowKit Ma

end Go.Proofs.YthpjmhhfcechmaaDoor
/- The estimate of a digit of a long division: no program in sight. -/
namespace Go.Proofs.YthpjmhhfcechmaaDoor.Ma

end Go.Proofs.YthpjmhhfcechmaaDoor.Ma
/- Long division of limbs: what its loops keep. No program in sight. -/
namespace Go.Proofs.YthpjmhhfcechmaaDoor.Ma
theorem at0_set {xs : List Int} {i m : Nat} (x : Int) (h : i < xs.length) : at0 (xs.set i x) m = if i = m then x else at0 xs m := by
 unfold at0
 simp only [List.getD_eq_getElem?_getD, List.getElem?_set]
 by_cases e : i = m
 ·subst e; simp [h]
 ·simp [e]
theorem lt_of_zeros {b : Int} (hb : 0 < b) {zs : List Int} (d : dg b zs) {t : Nat} (h : ∀ m, t ≤ m → at0 zs m = 0) : lv b zs < b ^ t := by
 by_cases hl : zs.length ≤ t
 ·exact Int.lt_of_lt_of_le (lv_lt hb d) (pow_le (by omega) hl)
 ·have e := lv_split b zs t (by omega)
  have z : lv b (zs.drop t) = 0 := by
   have : zs.drop t = List.replicate (zs.drop t).length 0 := by
    apply List.eq_replicate_iff.2
    refine ⟨rfl, fun x hx => ?_⟩
    obtain ⟨m, hm, rfl⟩ := List.mem_iff_getElem.1 hx
    have := h (t + m) (by omega)
    simp only [at0, List.getD_eq_getElem?_getD] at this
    rw [List.getElem_drop]
    rw [List.length_drop] at hm
    rw [List.getElem?_eq_getElem (by omega)] at this
    simpa using this
   rw [this, lv_zeros]
  rw [e, z, Int.mul_zero, Int.add_zero]
  have := lv_lt hb (dg_take d t)
  rw [List.length_take, Nat.min_eq_left (by omega)] at this
  exact this
theorem zeros_of_lt {b : Int} (hb : 0 < b) {zs : List Int} (d : dg b zs) {t : Nat} (h : lv b zs < b ^ t) (m : Nat) (hm : t ≤ m) : at0 zs m = 0 := by
 by_cases hl : m < zs.length
 ·obtain ⟨a0, a1⟩ := dg_at d hb m
  have e := lv_split b zs m (by omega)
  have e2 := lv_drop b zs m hl
  have n1 := lv_nonneg hb (dg_take d m)
  have n2 := lv_nonneg hb (dg_drop d (m + 1))
  have hp := pos_pow hb m
  have hq := pow_le (b := b) (by omega) hm
  apply Classical.byContradiction
  intro hne
  have h1 : 1 ≤ lv b (zs.drop m) := by rw [e2]; have := Int.mul_nonneg (Int.le_of_lt hb) n2; omega
  have h2 : b ^ m * 1 ≤ b ^ m * lv b (zs.drop m) := Int.mul_le_mul_of_nonneg_left h1 (Int.le_of_lt hp)
  omega
 ·exact at0_ge (by omega)
theorem three {b : Int} (hb : 0 < b) {zs : List Int} (d : dg b zs) {k : Nat} (hk : 2 ≤ k) (h : ∀ m, k < m → at0 zs m = 0) : lv b zs = ((at0 zs k * b + at0 zs (k - 1)) * b + at0 zs (k - 2)) * b ^ (k - 2) + lv b (zs.take (k - 2)) := by
 obtain ⟨j, rfl⟩ : ∃ j, k = j + 2 := ⟨k - 2, by omega⟩
 simp only [Nat.add_sub_cancel, show j + 2 - 1 = j + 1 by omega]
 have key : ∀ m, lv b (zs.drop m) = at0 zs m + b * lv b (zs.drop (m + 1)) := fun m => by
  by_cases hm : m < zs.length
  ·exact lv_drop b zs m hm
  ·rw [at0_ge (by omega), List.drop_eq_nil_of_le (by omega), List.drop_eq_nil_of_le (by omega)]; simp [lv]
 have z : lv b (zs.drop (j + 3)) = 0 := by
  have h1 : lv b (zs.drop (j + 3)) < b ^ 0 := lt_of_zeros hb (dg_drop d _) fun m _ => by
   have := h (j + 3 + m) (by omega)
   simp only [at0, List.getD_eq_getElem?_getD, List.getElem?_drop] at this ⊢
   exact this
  have := lv_nonneg hb (dg_drop d (j + 3))
  rw [Int.pow_zero] at h1
  omega
 have e : lv b zs = lv b (zs.take j) + b ^ j * lv b (zs.drop j) := by
  by_cases hj : j ≤ zs.length
  ·exact lv_split b zs j hj
  ·rw [List.take_of_length_le (by omega), List.drop_eq_nil_of_le (by omega)]; simp [lv]
 rw [e, key j, key (j + 1), key (j + 2), z]
 grind
/-! ### Multiply and subtract -/
/-! ### Add back -/
/-! ### A round -/
/-! ### The estimate -/
section
variable {us vs : List Int} {i : Nat}
end
end Go.Proofs.YthpjmhhfcechmaaDoor.Ma
/- Digits to the base 65536: sums, differences, products as the reference reckons them. No program in sight. -/
namespace Go.Proofs.YthpjmhhfcechmaaDoor.Ma
end Go.Proofs.YthpjmhhfcechmaaDoor.Ma
/- Plain laws for the reference's width, bits, powers of two: digits to the base 65536. No program in sight. -/
namespace Go.Proofs.YthpjmhhfcechmaaDoor.Ma
open Go
theorem at0_put_self {zs : List Int} {i : Nat} (x : Int) (h : i < zs.length) : at0 (zs.set i x) i = x := by simp [at0, List.getD_eq_getElem?_getD, h]
end Go.Proofs.YthpjmhhfcechmaaDoor.Ma
/- (As Rg; what is known of the last operation may hang on the frame.) A region that draws its order, walked once in the order of the text: what is known of an operation's value is said by a predicate, not by the value itself, so that calls that make memory are let in. -/
namespace Go.Proofs.YthpjmhhfcechmaaDoor.Rh
open Go

abbrev Know := Value → World → Prop
abbrev Facts := Nat → World → Prop
def noFacts : Facts := fun _ _ => True
def upd (F : Facts) (i : Nat) (p : World → Prop) : Facts := fun k w => if k = i then p w else F k w
theorem upd_self (F : Facts) (i : Nat) (p : World → Prop) (w : World) : upd F i p i w = p w := by simp [upd]
theorem upd_at {F : Facts} {i k : Nat} {p : World → Prop} {w : World} (h : k = i) (hf : upd F i p k w) : p w := by subst h; rwa [upd_self] at hf
theorem upd_off {F : Facts} {i k : Nat} {p : World → Prop} {w : World} (h : (k == i) = false) (hf : upd F i p k w) : F k w := by unfold upd at hf; rwa [if_neg (by simpa using h)] at hf
theorem upd_ne (F : Facts) {i k : Nat} (p : World → Prop) (w : World) (h : k ≠ i) : upd F i p k w = F k w := by simp [upd, h]
theorem upd_comm (F : Facts) {i j : Nat} (p q : World → Prop) (h : i ≠ j) : upd (upd F i p) j q = upd (upd F j q) i p := by
 funext k w
 unfold upd
 by_cases h1 : k = j
 ·have h2 : k ≠ i := fun e => h (e.symm.trans h1)
  simp [h1, h, Ne.symm h]
 ·simp [h1]
section
variable (P : Program)

def givesUpon (K : Value → World → Prop) : Result Next → Prop
 | .ok (.value v) w' => K v w'
 | .ok .skip w' => K undef w'
 | .ok (.enter f args) w' => Calls P f args w' (fun e w'' => ∃ v, e = .returned v ∧ K v w'')
 | _ => False
def gives (o : Oper) (a : Act) (w : World) (K : Value → World → Prop) : Prop := givesUpon P K ((execOp a.eval o).run P w)
variable {P}
theorem gives_value {K : Value → World → Prop} {v : Value} {w : World} (h : K v w) : givesUpon P K (.ok (.value v) w) := h
theorem gives_skip {K : Value → World → Prop} {w : World} (h : K undef w) : givesUpon P K (.ok .skip w) := h
theorem gives_enter {K : Value → World → Prop} {f : FuncId} {args : Array Value} {w : World} (h : Calls P f args w (fun e w'' => ∃ v, e = .returned v ∧ K v w'')) : givesUpon P K (.ok (.enter f args) w) := h
theorem gives_wp {o : Oper} {a : Act} {w : World} {K : Value → World → Prop} {K' : Act → World → Prop} {Q : Exit → Act → World → Prop}
  (h : ∀ v w', K v w' → K' (a.put o.dst v) w') (hh : gives P o a w K) : o.wp P a w K' Q := by
 unfold gives at hh
 unfold Oper.wp
 generalize (execOp a.eval o).run P w = r at *
 cases r with
 | ok n w' =>
  cases n <;> simp only [givesUpon] at hh <;> simp only [Oper.upon]
  case value u => exact h _ _ hh
  case skip => exact h _ _ hh
  case enter f args => exact hh.mono fun e w'' ⟨v, he, hk⟩ => by subst he; exact h _ _ hk
 | halt x w' => simp only [givesUpon] at hh
theorem gives_some {o : Oper} {a : Act} {w : World} {K : Value → World → Prop} (hh : gives P o a w K) : ∃ v w', K v w' := by
 unfold gives at hh
 generalize (execOp a.eval o).run P w = r at *
 cases r with
 | ok n w' =>
  cases n <;> simp only [givesUpon] at hh
  case value u => exact ⟨_, _, hh⟩
  case skip => exact ⟨_, _, hh⟩
  case enter f args =>
   obtain ⟨e, w'', fr, ⟨v, he, hk⟩, _⟩ := hh []
   exact ⟨v, w'', hk⟩
 | halt x w' => simp only [givesUpon] at hh
end

section
variable {P : Program} {ops : Array Oper} {md : Region.Mode} {R : World → World → Prop} {S : World → Prop} {w0 : World} {J : Nat → Nat → Bool} {Ks : Nat → Act → Option Know} {tl : Nat}

def Wit (R : World → World → Prop) (S : World → Prop) (w0 : World) (F : Facts) : Prop := ∃ w, R w0 w ∧ S w ∧ ∀ k, F k w
def Quietly (P : Program) (S : World → Prop) (o : Oper) (a : Act) (v : Value) : Prop := ∀ w, S w → (execOp a.eval o).run P w = .ok (.value v) w
def Actively (P : Program) (R : World → World → Prop) (S : World → Prop) (w0 : World) (J : Nat → Nat → Bool) (i : Nat) (o : Oper) (a : Act) (F : Facts) (K : Know) : Prop :=
 ∀ w, R w0 w → S w → (∀ k, J i k = true → F k w) → gives P o a w (fun v w' => R w w' ∧ K v w')
def kOp (P : Program) (ops : Array Oper) (R : World → World → Prop) (S : World → Prop) (w0 : World) (J : Nat → Nat → Bool) (Ks : Nat → Act → Option Know) (i : Nat) (K : Act → Facts → Prop) (a : Act) (F : Facts) : Prop :=
 match ops[i]? with
 | none => K a F
 | some o => if Region.wanted o (yielded ops a.tmps) = true then
   match Ks i a with
   | none => ∃ v, Quietly P S o a v ∧ K (a.put o.dst v) F
   | some k => Actively P R S w0 J i o a F k ∧ ∀ u, Wit R S w0 (upd F i (k u)) → K (a.put o.dst u) (upd F i (k u))
  else K (a.put o.dst undef) F
theorem kOp_mono {i : Nat} {K K' : Act → Facts → Prop} {a : Act} {F : Facts} (h : ∀ a F, K a F → K' a F) (hh : kOp P ops R S w0 J Ks i K a F) : kOp P ops R S w0 J Ks i K' a F := by
 unfold kOp at *
 split
 ·rename_i ho; simp only [ho] at hh; exact h _ _ hh
 ·rename_i o ho
  simp only [ho] at hh
  split
  ·rename_i hw
   simp only [hw, if_true] at hh
   split
   ·rename_i hk; simp only [hk] at hh; obtain ⟨v, h1, h2⟩ := hh; exact ⟨v, h1, h _ _ h2⟩
   ·rename_i k hk; simp only [hk] at hh; exact ⟨hh.1, fun u hu => h _ _ (hh.2 u hu)⟩
  ·rename_i hw; simp only [hw] at hh; exact h _ _ hh
def wpAnyK (P : Program) (md : Region.Mode) (ops : Array Oper) (R : World → World → Prop) (S : World → Prop) (w0 : World) (J : Nat → Nat → Bool) (Ks : Nat → Act → Option Know) (Q : Act → Facts → Prop) : Nat → Array Bool → Act → Facts → Prop
 | 0, listed, a, F => Region.ready md ops listed = [] ∧ Q a F
 | fuel + 1, listed, a, F =>
  (Region.ready md ops listed = [] → Q a F) ∧
  ∀ i ∈ Region.ready md ops listed, kOp P ops R S w0 J Ks i (wpAnyK P md ops R S w0 J Ks Q fuel (listed.setIfInBounds i true)) a F
structure Fits (R : World → World → Prop) (S : World → Prop) (Ks : Nat → Act → Option Know) (tl : Nat) : Prop where
 refl : ∀ w, R w w
 trans : ∀ x y z, R x y → R y z → R x z
 kept : ∀ w w', R w w' → S w → S w'
 noact : ∀ i a b, i ≠ tl → Ks i a = Ks i b
 know : ∀ i a k, Ks i a = some k → i ≠ tl → ∀ v w w', R w w' → k v w → k v w'
def FKept (R : World → World → Prop) (F : Facts) : Prop := ∀ k w w', R w w' → F k w → F k w'
theorem FKept.upd {F : Facts} (hF : FKept R F) {i : Nat} {k : Know} (hk : ∀ v w w', R w w' → k v w → k v w') (u : Value) : FKept R (upd F i (k u)) := by
 intro j w w' hr hf
 unfold Rh.upd at *
 split
 ·rename_i e; simp only [e, if_true] at hf; exact hk _ _ _ hr hf
 ·rename_i e; simp only [e, if_false] at hf; exact hF _ _ _ hr hf
def Direct (md : Region.Mode) (ops : Array Oper) (j k : Nat) : Prop := ∃ oj, ops[j]? = some oj ∧ ∃ e ∈ oj.after, Region.binds md e = true ∧ e.on = k
theorem listed_not {listed : Array Bool} {i : Nat} (h : listed.getD i true = false) : listed.getD i false = false := by
 rcases Nat.lt_or_ge i listed.size with h' | h'
 ·simp [h'] at h ⊢; exact h
 ·simp [Array.getElem?_eq_none h']
def TlOk (md : Region.Mode) (ops : Array Oper) (tl : Nat) : Prop := ∀ j oj ot, ops[j]? = some oj → ops[tl]? = some ot → j ≠ tl → Direct md ops tl j
theorem tl_alone (ht : TlOk md ops tl) {listed : Array Bool} (h : tl ∈ Region.ready md ops listed) {j : Nat} {oj : Oper} (hj : ops[j]? = some oj) (hne : j ≠ tl) : listed.getD j false = true := by
 obtain ⟨hun, o, ho, hall⟩ := mem_ready.1 h
 obtain ⟨o', ho', e, he, hb, rfl⟩ := ht j oj o hj ho hne
 rw [ho] at ho'
 injection ho' with ho'
 subst ho'
 exact hall e he hb
theorem not_both {listed : Array Bool} {j : Nat} (h : listed.getD j true = false) (h' : listed.getD j false = true) : False := by
 rw [listed_not h] at h'; cases h'
theorem tl_done (ht : TlOk md ops tl) {listed : Array Bool} (h : tl ∈ Region.ready md ops listed) : Region.ready md ops (listed.setIfInBounds tl true) = [] := by
 cases hr : Region.ready md ops (listed.setIfInBounds tl true) with
 | nil => rfl
 | cons j l =>
  exfalso
  have hj : j ∈ Region.ready md ops (listed.setIfInBounds tl true) := by rw [hr]; exact List.mem_cons_self
  obtain ⟨hun, o, ho, _⟩ := mem_ready.1 hj
  by_cases hjt : j = tl
  ·subst hjt
   have h0 := (mem_ready.1 h).1
   rcases Nat.lt_or_ge j listed.size with h' | h'
   ·simp [h'] at hun
   ·simp [Array.getElem?_eq_none, h'] at h0
  ·exact not_both hun (getD_set_true (tl_alone ht h ho hjt))
theorem two_ne (ht : TlOk md ops tl) {listed : Array Bool} {i j : Nat} (hi : i ∈ Region.ready md ops listed) (hj : j ∈ Region.ready md ops listed) (hne : i ≠ j) : i ≠ tl := by
 intro e
 subst e
 obtain ⟨hun, o, ho, _⟩ := mem_ready.1 hj
 exact not_both hun (tl_alone ht hi ho (Ne.symm hne))
theorem wpOp_of_kOp (hf : Fits R S Ks tl) {i : Nat} {K : Act → Facts → Prop} {K' : Act → World → Prop} {Q' : Exit → Act → World → Prop} {a : Act} {F : Facts} {w : World}
  (hF : FKept R F) (hr : R w0 w) (hS : S w) (hFw : ∀ k, F k w)
  (h : ∀ a F w, (i ≠ tl → FKept R F) → R w0 w → S w → (∀ k, F k w) → K a F → K' a w) (hh : kOp P ops R S w0 J Ks i K a F) : wpOp P ops Q' i K' a w := by
 unfold kOp at hh
 unfold wpOp
 split
 ·rename_i ho; simp only [ho] at hh; exact h _ _ _ (fun _ => hF) hr hS hFw hh
 ·rename_i o ho
  simp only [ho] at hh
  split
  ·rename_i hw
   simp only [hw, if_true] at hh
   refine .inl ?_
   split at hh
   ·rename_i hk
    obtain ⟨v, h1, h2⟩ := hh
    unfold Oper.wp
    rw [h1 w hS]
    exact h _ _ _ (fun _ => hF) hr hS hFw h2
   ·rename_i k hk
    refine gives_wp (fun v w' hv => ?_) (hh.1 w hr hS (fun k _ => hFw k))
    have hn : ∀ k_1, upd F i (k v) k_1 w' := by
     intro j
     unfold upd
     split
     ·exact hv.2
     ·exact hF _ _ _ hv.1 (hFw j)
    have hS' := hf.kept _ _ hv.1 hS
    have hr' := hf.trans _ _ _ hr hv.1
    exact h _ _ _ (fun hi => hF.upd (hf.know i _ k hk hi) v) hr' hS' hn (hh.2 v ⟨w', hr', hS', hn⟩)
  ·rename_i hw; simp only [hw] at hh; exact h _ _ _ (fun _ => hF) hr hS hFw hh
theorem wpAny_of_know (hf : Fits R S Ks tl) (ht : TlOk md ops tl) {Q : Act → Facts → Prop} {Q' : Exit → Act → World → Prop} (hQ : ∀ a F w, R w0 w → S w → (∀ k, F k w) → Q a F → Q' .normal a w) :
  ∀ (fuel : Nat) (listed : Array Bool) (a : Act) (F : Facts) (w : World), (Region.ready md ops listed ≠ [] → FKept R F) → R w0 w → S w → (∀ k, F k w) →
   wpAnyK P md ops R S w0 J Ks Q fuel listed a F → wpAny P md ops Q' fuel listed a w
 | 0, _, _, _, _, _, hr, hS, hw, h => ⟨h.1, hQ _ _ _ hr hS hw h.2⟩
 | fuel + 1, _, _, _, _, hF, hr, hS, hw, h => ⟨fun h0 => hQ _ _ _ hr hS hw (h.1 h0), fun i hi => wpOp_of_kOp hf (hF (fun e => by rw [e] at hi; cases hi)) hr hS hw (fun a' F' w' hF' hr' hS' hw' => wpAny_of_know hf ht hQ fuel _ a' F' w' (fun hne => hF' (fun e => hne (by subst e; exact tl_done ht hi))) hr' hS' hw') (h.2 i hi)⟩
def Pre (P : Program) (ops : Array Oper) (R : World → World → Prop) (S : World → Prop) (w0 : World) (J : Nat → Nat → Bool) (Ks : Nat → Act → Option Know) (i : Nat) (o : Oper) (a : Act) (F : Facts) : Prop :=
 Region.wanted o (yielded ops a.tmps) = true → match Ks i a with
  | none => ∃ v, Quietly P S o a v
  | some k => Actively P R S w0 J i o a F k
def Out (P : Program) (ops : Array Oper) (R : World → World → Prop) (S : World → Prop) (w0 : World) (Ks : Nat → Act → Option Know) (i : Nat) (o : Oper) (a : Act) (F : Facts) (u : Value) : Prop :=
 if Region.wanted o (yielded ops a.tmps) = true then
  match Ks i a with
  | none => Quietly P S o a u
  | some k => Wit R S w0 (upd F i (k u))
 else u = undef
def aft (ops : Array Oper) (Ks : Nat → Act → Option Know) (i : Nat) (o : Oper) (a : Act) (F : Facts) (u : Value) : Facts :=
 if Region.wanted o (yielded ops a.tmps) = true then
  match Ks i a with
  | none => F
  | some k => upd F i (k u)
 else F
theorem aft_ne {i m : Nat} {o : Oper} {a : Act} {F : Facts} {u : Value} {w : World} (h : m ≠ i) : aft ops Ks i o a F u m w = F m w := by
 unfold aft
 by_cases hw : Region.wanted o (yielded ops a.tmps) = true
 ·cases hk : Ks i a with
  | none => simp only [hw, if_true]
  | some k => simp only [hw, if_true]; exact upd_ne _ _ _ h
 ·simp [hw]
theorem aft_some {i : Nat} {o : Oper} {a : Act} {F : Facts} {u : Value} {k : Know} (hw : Region.wanted o (yielded ops a.tmps) = true) (hk : Ks i a = some k) : aft ops Ks i o a F u = upd F i (k u) := by
 unfold aft
 simp only [hw, if_true, hk]
theorem quietly_one {o : Oper} {a : Act} {u v : Value} {w : World} (hw : S w) (hu : Quietly P S o a u) (hv : Quietly P S o a v) : u = v := by
 have h1 := hu w hw
 rw [hv w hw] at h1
 injection h1 with h1
 injection h1 with h1
 exact h1.symm
theorem kOp_iff {i : Nat} {o : Oper} (ho : ops[i]? = some o) {K : Act → Facts → Prop} {a : Act} {F : Facts} (hW : Wit R S w0 F) :
  kOp P ops R S w0 J Ks i K a F ↔ Pre P ops R S w0 J Ks i o a F ∧ ∀ u, Out P ops R S w0 Ks i o a F u → K (a.put o.dst u) (aft ops Ks i o a F u) := by
 obtain ⟨w, hr, hS, hFw⟩ := hW
 unfold kOp Pre Out aft
 simp only [ho]
 by_cases hw : Region.wanted o (yielded ops a.tmps) = true
 ·simp only [hw, if_true, true_implies]
  cases hk : Ks i a with
  | none =>
   simp only []
   constructor
   ·rintro ⟨v, h1, h2⟩
    exact ⟨⟨v, h1⟩, fun u hu => by rw [quietly_one hS hu h1]; exact h2⟩
   ·rintro ⟨⟨v, h1⟩, h2⟩
    exact ⟨v, h1, h2 v h1⟩
  | some k => simp only []
 ·simp only [hw, if_false, false_implies, true_and, Bool.false_eq_true]
  exact ⟨fun h u hu => by rw [hu]; exact h, fun h => h undef rfl⟩
theorem out_some (hf : Fits R S Ks tl) {i : Nat} {o : Oper} {a : Act} {F : Facts} (hF : FKept R F) (hW : Wit R S w0 F) (hp : Pre P ops R S w0 J Ks i o a F) : ∃ u, Out P ops R S w0 Ks i o a F u := by
 obtain ⟨w, hr, hS, hFw⟩ := hW
 unfold Out
 unfold Pre at hp
 by_cases hw : Region.wanted o (yielded ops a.tmps) = true
 ·have hp := hp hw
  simp only [hw, if_true]
  cases hk : Ks i a with
  | none => rw [hk] at hp; exact hp
  | some k =>
   rw [hk] at hp
   simp only [] at hp ⊢
   obtain ⟨v, w', hrw, hv⟩ := gives_some (hp w hr hS (fun k _ => hFw k))
   refine ⟨v, w', hf.trans _ _ _ hr hrw, hf.kept _ _ hrw hS, fun j => ?_⟩
   unfold upd
   split
   ·exact hv
   ·exact hF _ _ _ hrw (hFw j)
 ·simp only [hw]
  exact ⟨undef, rfl⟩
theorem out_wit (hf : Fits R S Ks tl) {i : Nat} (hit : i ≠ tl) {o : Oper} {a : Act} {F : Facts} {u : Value} (hF : FKept R F) (hW : Wit R S w0 F) (hu : Out P ops R S w0 Ks i o a F u) : FKept R (aft ops Ks i o a F u) ∧ Wit R S w0 (aft ops Ks i o a F u) := by
 unfold Out at hu
 unfold aft
 by_cases hw : Region.wanted o (yielded ops a.tmps) = true
 ·simp only [hw, if_true] at hu ⊢
  cases hk : Ks i a with
  | none => exact ⟨hF, hW⟩
  | some k => rw [hk] at hu; exact ⟨hF.upd (hf.know i _ k hk hit) u, hu⟩
 ·simp only [hw] at hu ⊢
  exact ⟨hF, hW⟩
theorem out_wit' {i : Nat} {o : Oper} {a : Act} {F : Facts} {u : Value} (hW : Wit R S w0 F) (hu : Out P ops R S w0 Ks i o a F u) : Wit R S w0 (aft ops Ks i o a F u) := by
 unfold Out at hu
 unfold aft
 by_cases hw : Region.wanted o (yielded ops a.tmps) = true
 ·simp only [hw, if_true] at hu ⊢
  cases hk : Ks i a with
  | none => exact hW
  | some k => rw [hk] at hu; exact hu
 ·simp only [hw] at hu ⊢
  exact hW
theorem kOp_swap (hf : Fits R S Ks tl) {i j : Nat} {oi oj : Oper} (hi : ops[i]? = some oi) (hj : ops[j]? = some oj) (hap : oi.apart ops oj = true) (hne : i ≠ j) (hit : i ≠ tl) (hjt : j ≠ tl)
  (hsi : ∀ cs b, oi.op ≠ .select cs b) (hsj : ∀ cs b, oj.op ≠ .select cs b) (hji : J j i = false) (hij : J i j = false) {K : Act → Facts → Prop} {a : Act} {F : Facts} (hF : FKept R F) (hW : Wit R S w0 F) (hFj : ∀ w, F j w)
  (h : kOp P ops R S w0 J Ks i (fun a F => kOp P ops R S w0 J Ks j K a F) a F) : kOp P ops R S w0 J Ks j (fun a F => kOp P ops R S w0 J Ks i K a F) a F := by
 obtain ⟨h1, h2, h3⟩ := Oper.apart_spec hap
 have h2' : ∀ d, oj.dst = some d → oi.dst ≠ some d := fun d hd hd' => h2 d hd' hd
 have ei : ∀ u, execOp (a.put oj.dst u).eval oi = execOp a.eval oi := fun u => execOp_put oi hsi a oj.dst u h3
 have ej : ∀ u, execOp (a.put oi.dst u).eval oj = execOp a.eval oj := fun u => execOp_put oj hsj a oi.dst u h1
 have wi : ∀ u, Region.wanted oi (yielded ops (a.put oj.dst u).tmps) = Region.wanted oi (yielded ops a.tmps) := fun u => wanted_put oi a oj.dst u h3
 have wj : ∀ u, Region.wanted oj (yielded ops (a.put oi.dst u).tmps) = Region.wanted oj (yielded ops a.tmps) := fun u => wanted_put oj a oi.dst u h1
 have ki : ∀ b, Ks i b = Ks i a := fun b => hf.noact i b a hit
 have kj : ∀ b, Ks j b = Ks j a := fun b => hf.noact j b a hjt
 rw [kOp_iff hi hW] at h
 obtain ⟨hp, hall⟩ := h
 obtain ⟨u0, hu0⟩ := out_some hf hF hW hp
 have hw0 := out_wit hf hit hF hW hu0
 have h0 := (kOp_iff hj hw0.2).1 (hall u0 hu0)
 rw [kOp_iff hj hW]
 -- what is asked of j now
 have hpj : Pre P ops R S w0 J Ks j oj a F := by
  intro hwj
  have hq := h0.1 (by rw [wj]; exact hwj)
  cases hk : Ks j a with
  | none => rw [kj, hk] at hq; simp only [Quietly, ej] at hq ⊢; exact hq
  | some k =>
   rw [kj, hk] at hq
   simp only [Actively, gives, ej] at hq ⊢
   intro w hr hS hJ
   refine hq w hr hS (fun m hm => ?_)
   have hmi : m ≠ i := fun e => by rw [e, hji] at hm; cases hm
   rw [aft_ne hmi]
   exact hJ m hm
 refine ⟨hpj, fun v hv => ?_⟩
 have hwv := out_wit hf hjt hF hW hv
 rw [kOp_iff hi hwv.2]
 refine ⟨fun hwi => ?_, fun u hu => ?_⟩
 ·rw [wi] at hwi
  have hq := hp hwi
  rw [ki (a.put oj.dst v)]
  cases hk : Ks i a with
  | none => rw [hk] at hq; simp only [Quietly, ei] at hq ⊢; exact hq
  | some k =>
   rw [hk] at hq
   simp only [Actively, gives, ei] at hq ⊢
   intro w hr hS hJ
   refine hq w hr hS (fun m hm => ?_)
   have hmj : m ≠ j := fun e => by rw [e, hij] at hm; cases hm
   have := hJ m hm
   rwa [aft_ne hmj] at this
 ·-- u is an outcome of i at first, v one of j behind it
  have hcomm : aft ops Ks i oi (a.put oj.dst v) (aft ops Ks j oj a F v) u = aft ops Ks j oj (a.put oi.dst u) (aft ops Ks i oi a F u) v := by
   unfold aft
   rw [wi, wj, ki (a.put oj.dst v), kj (a.put oi.dst u)]
   by_cases hwi : Region.wanted oi (yielded ops a.tmps) = true <;> by_cases hwj : Region.wanted oj (yielded ops a.tmps) = true <;> cases Ks i a <;> cases Ks j a <;> simp only [hwi, hwj, if_true, if_false, Bool.false_eq_true] <;> exact upd_comm _ _ _ (Ne.symm hne)
  have hui : Out P ops R S w0 Ks i oi a F u := by
   unfold Out at hu ⊢
   rw [wi, ki (a.put oj.dst v)] at hu
   split
   ·rename_i hwi
    simp only [hwi, if_true] at hu
    cases hk : Ks i a with
    | none => rw [hk] at hu; simp only [Quietly, ei] at hu ⊢; exact hu
    | some k =>
     rw [hk] at hu
     simp only [] at hu ⊢
     obtain ⟨w, hr, hS, hFw⟩ := hu
     refine ⟨w, hr, hS, fun m => ?_⟩
     have hm := hFw m
     unfold upd at hm ⊢
     split
     ·rename_i e; simp only [e, if_true] at hm; exact hm
     ·rename_i e
      simp only [e, if_false] at hm
      by_cases hmj : m = j
      ·rw [hmj]; exact hFj w
      ·rwa [aft_ne hmj] at hm
   ·rename_i hwi
    simp only [hwi] at hu
    exact hu
  have hwu := out_wit hf hit hF hW hui
  have hvj : Out P ops R S w0 Ks j oj (a.put oi.dst u) (aft ops Ks i oi a F u) v := by
   have hwit := (out_wit hf hit hwv.1 hwv.2 hu).2
   rw [hcomm] at hwit
   unfold Out at hv ⊢
   rw [wj, kj (a.put oi.dst u)]
   split
   ·rename_i hwj
    simp only [hwj, if_true] at hv
    cases hk : Ks j a with
    | none => rw [hk] at hv; simp only [Quietly, ej] at hv ⊢; exact hv
    | some k =>
     simp only []
     have e : aft ops Ks j oj (a.put oi.dst u) (aft ops Ks i oi a F u) v = upd (aft ops Ks i oi a F u) j (k v) := aft_some (by rw [wj]; exact hwj) ((kj _).trans hk)
     rw [← e]; exact hwit
   ·rename_i hwj
    simp only [hwj] at hv
    exact hv
  have hfin := ((kOp_iff hj hwu.2).1 (hall u hui)).2 v hvj
  rw [hcomm, Act.put_comm a v u h2']
  exact hfin
def NoF (listed : Array Bool) (F : Facts) : Prop := ∀ k, listed.getD k true = false → ∀ w, F k w
def DownJ (J : Nat → Nat → Bool) (listed : Array Bool) : Prop := ∀ d k, listed.getD d false = true → J d k = true → listed.getD k false = true
def JOk (md : Region.Mode) (ops : Array Oper) (J : Nat → Nat → Bool) : Prop := ∀ j k, J j k = true → Direct md ops j k ∨ ∃ d, Direct md ops j d ∧ J d k = true
theorem ready_J (hJ : JOk md ops J) {listed : Array Bool} (hd : DownJ J listed) {j k : Nat} (hr : j ∈ Region.ready md ops listed) (hk : J j k = true) : listed.getD k false = true := by
 obtain ⟨hun, o, ho, hall⟩ := mem_ready.1 hr
 have dir : ∀ d, Direct md ops j d → listed.getD d false = true := by
  rintro d ⟨oj, hoj, e, he, hb, rfl⟩
  rw [ho] at hoj
  injection hoj with hoj
  subst hoj
  exact hall e he hb
 rcases hJ j k hk with h | ⟨d, h, h2⟩
 ·exact dir _ h
 ·exact hd _ _ (dir _ h) h2
theorem DownJ.set (hJ : JOk md ops J) {listed : Array Bool} (hd : DownJ J listed) {j : Nat} (hr : j ∈ Region.ready md ops listed) : DownJ J (listed.setIfInBounds j true) := by
 intro d k h1 h2
 by_cases hdj : j = d
 ·subst hdj; exact getD_set_true (ready_J hJ hd hr h2)
 ·rw [getD_set_ne false hdj] at h1
  exact getD_set_true (hd d k h1 h2)
theorem NoF.set {listed : Array Bool} {F : Facts} (h : NoF listed F) {j : Nat} {o : Oper} {a : Act} {u : Value} : NoF (listed.setIfInBounds j true) (aft ops Ks j o a F u) := by
 intro k hk w
 by_cases hkj : j = k
 ·subst hkj
  rcases Nat.lt_or_ge j listed.size with h' | h'
  ·simp [h'] at hk
  ·simp [Array.getElem?_eq_none, h'] at hk
 ·rw [getD_set_ne true hkj] at hk
  rw [aft_ne (Ne.symm hkj)]
  exact h k hk w
theorem wpAnyK_first (hf : Fits R S Ks tl) (ht : TlOk md ops tl) (hJ : JOk md ops J) {Q : Act → Facts → Prop} {i : Nat} {oi : Oper} (hi : ops[i]? = some oi) (hsel : ∀ (j : Nat) (o : Oper) cs b, ops[j]? = some o → o.op ≠ .select cs b) :
  ∀ (fuel : Nat) (listed : Array Bool) (a : Act) (F : Facts), FKept R F → Wit R S w0 F → NoF listed F → DownJ J listed →
   (∀ j oj, ops[j]? = some oj → j ≠ i → listed.getD j true = false → (∀ e ∈ oj.after, Region.binds md e = true → e.on ≠ i) → oi.apart ops oj = true) →
   i ∈ Region.ready md ops listed → kOp P ops R S w0 J Ks i (wpAnyK P md ops R S w0 J Ks Q fuel (listed.setIfInBounds i true)) a F → wpAnyK P md ops R S w0 J Ks Q (fuel + 1) listed a F := by
 intro fuel
 induction fuel with
 | zero =>
  intro listed a F hF hW hN hD _ hr H
  refine ⟨fun h => (by rw [h] at hr; cases hr), fun j hj => ?_⟩
  by_cases hji : j = i
  ·subst hji; exact H
  ·have h0 := (kOp_iff hi hW).1 H
   obtain ⟨u, hu⟩ := out_some hf hF hW h0.1
   have h1 := (h0.2 u hu).1
   have h2 := ready_mono hj hji
   rw [h1] at h2
   cases h2
 | succ fuel ih =>
  intro listed a F hF hW hN hD hfree hr H
  refine ⟨fun h => (by rw [h] at hr; cases hr), fun j hj => ?_⟩
  by_cases hji : j = i
  ·subst hji; exact H
  ·obtain ⟨hjun, oj, hoj, hall⟩ := mem_ready.1 hj
   have hiun := (mem_ready.1 hr).1
   have hnot : ∀ e ∈ oj.after, Region.binds md e = true → e.on ≠ i := fun e he hb heq => by
    have h1 := hall e he hb
    rw [heq, listed_not hiun] at h1
    cases h1
   have hJji : J j i = false := by
    cases hk : J j i with
    | false => rfl
    | true => have := ready_J hJ hD hj hk; rw [listed_not hiun] at this; cases this
   have hJij : J i j = false := by
    cases hk : J i j with
    | false => rfl
    | true => have := ready_J hJ hD hr hk; rw [listed_not hjun] at this; cases this
   have hap := hfree j oj hoj hji hjun hnot
   have h1 : kOp P ops R S w0 J Ks i (fun a F => kOp P ops R S w0 J Ks j (wpAnyK P md ops R S w0 J Ks Q fuel ((listed.setIfInBounds i true).setIfInBounds j true)) a F) a F :=
    kOp_mono (fun a F h => h.2 j (ready_mono hj hji)) H
   have h2 := kOp_swap hf hi hoj hap (Ne.symm hji) (two_ne ht hr hj (Ne.symm hji)) (two_ne ht hj hr hji) (fun cs b => hsel i oi cs b hi) (fun cs b => hsel j oj cs b hoj) hJji hJij hF hW (hN j hjun) h1
   have hfree' : ∀ k ok, ops[k]? = some ok → k ≠ i → (listed.setIfInBounds j true).getD k true = false →
     (∀ e ∈ ok.after, Region.binds md e = true → e.on ≠ i) → oi.apart ops ok = true := fun k ok hk hki hun hno => by
    refine hfree k ok hk hki ?_ hno
    by_cases hjk : j = k
    ·subst hjk; exact hjun
    ·rw [getD_set_ne true hjk] at hun; exact hun
   rw [kOp_iff hoj hW] at h2 ⊢
   refine ⟨h2.1, fun u hu => ?_⟩
   have hw := out_wit hf (two_ne ht hj hr hji) hF hW hu
   refine ih (listed.setIfInBounds j true) _ _ hw.1 hw.2 hN.set (hD.set hJ hj) hfree' (ready_mono hr (Ne.symm hji)) ?_
   rw [Array.setIfInBounds_comm _ _ hji]
   exact h2.2 u hu
def wpK (P : Program) (ops : Array Oper) (R : World → World → Prop) (S : World → Prop) (w0 : World) (J : Nat → Nat → Bool) (Ks : Nat → Act → Option Know) (Q : Act → Facts → Prop) : Nat → List Oper → Act → Facts → Prop
 | _, [], a, F => Q a F
 | i, o :: rest, a, F => if Region.wanted o (yielded ops a.tmps) = true then
   match Ks i a with
   | none => ∃ v, Quietly P S o a v ∧ wpK P ops R S w0 J Ks Q (i + 1) rest (a.put o.dst v) F
   | some k => Actively P R S w0 J i o a F k ∧ ∀ u, Wit R S w0 (upd F i (k u)) → wpK P ops R S w0 J Ks Q (i + 1) rest (a.put o.dst u) (upd F i (k u))
  else wpK P ops R S w0 J Ks Q (i + 1) rest (a.put o.dst undef) F
theorem wpAnyK_lex (hf : Fits R S Ks tl) (ht : TlOk md ops tl) (hJ : JOk md ops J) {Q : Act → Facts → Prop} (hs : Region.noSelect ops = true) : ∀ (l : List Oper) (k : Nat) (listed : Array Bool) (a : Act) (F : Facts), (∀ j, l[j]? = ops[k + j]?) →
  Region.lexFrom md ops l.length k listed = true → (l ≠ [] → FKept R F) → Wit R S w0 F → NoF listed F → DownJ J listed → wpK P ops R S w0 J Ks Q k l a F → wpAnyK P md ops R S w0 J Ks Q l.length listed a F
 | [], _, _, _, _, _, hB, _, _, _, _, h => ⟨by simpa [Region.lexFrom] using hB, h⟩
 | o :: l, k, listed, a, F, hl, hB, hF, hW, hN, hD, h => by
  have h0 : ops[k]? = some o := by simpa using (hl 0).symm
  simp only [List.length_cons, Region.lexFrom, Bool.and_eq_true] at hB
  obtain ⟨⟨hr, hfr⟩, hB'⟩ := hB
  have hr' : k ∈ Region.ready md ops listed := by simpa using hr
  have hst : kOp P ops R S w0 J Ks k (wpK P ops R S w0 J Ks Q (k + 1) l) a F := by unfold kOp; simp only [h0]; exact h
  refine wpAnyK_first hf ht hJ h0 (Region.noSelect_spec hs) l.length listed a F (hF (by simp)) hW hN hD (Region.free_spec h0 hfr) hr' ?_
  rw [kOp_iff h0 hW] at hst ⊢
  refine ⟨hst.1, fun u hu => ?_⟩
  have hw := out_wit' hW hu
  refine wpAnyK_lex hf ht hJ hs l (k + 1) _ _ _ (fun j => by have := hl (j + 1); simpa [Nat.add_assoc, Nat.add_comm 1 j] using this) hB' (fun hne => ?_) hw hN.set (hD.set hJ hr') (hst.2 u hu)
  refine (out_wit hf (fun e => ?_) (hF (by simp)) hW hu).1
  subst e
  cases l with
  | nil => exact hne rfl
  | cons o2 l2 =>
   have h1 : ops[k + 1]? = some o2 := by simpa using (hl 1).symm
   simp only [List.length_cons, Region.lexFrom, Bool.and_eq_true] at hB'
   have h2 : k + 1 ∈ Region.ready md ops (listed.setIfInBounds k true) := by simpa using hB'.1.1
   have h3 := (mem_ready.1 h2).1
   rw [tl_done ht hr'] at h2
   cases h2
def jOkB (ops : Array Oper) (jss : List (List Nat)) : Bool :=
 (List.range jss.length).all fun j => ((jss.getD j []).all fun k => match ops[j]? with
  | none => false
  | some o => o.after.any fun e => Region.binds .any e && (e.on == k || (jss.getD e.on []).contains k))
def jOf (jss : List (List Nat)) (j k : Nat) : Bool := (jss.getD j []).contains k
theorem jOkB_spec {jss : List (List Nat)} (h : jOkB ops jss = true) : JOk .any ops (jOf jss) := by
 intro j k hjk
 unfold jOf at hjk
 unfold jOkB at h
 rw [List.all_eq_true] at h
 have hj : j < jss.length := by
  rcases Nat.lt_or_ge j jss.length with h' | h'
  ·exact h'
  ·simp [List.getD_eq_getElem?_getD, List.getElem?_eq_none h'] at hjk
 have h1 := h j (List.mem_range.2 hj)
 rw [List.all_eq_true] at h1
 have h2 := h1 k (by simpa using hjk)
 split at h2
 ·cases h2
 ·rename_i o ho
  rw [Array.any_eq_true'] at h2
  obtain ⟨e, he, hb⟩ := h2
  simp only [Bool.and_eq_true, Bool.or_eq_true, beq_iff_eq] at hb
  rcases hb.2 with hk | hk
  ·exact .inl ⟨o, ho, e, he, hb.1, hk⟩
  ·exact .inr ⟨e.on, ⟨o, ho, e, he, hb.1, rfl⟩, hk⟩
def ancs (ops : Array Oper) : List (List Nat) :=
 ops.toList.foldl (fun acc o => acc ++ [(List.range acc.length).filter fun k => o.after.any fun e => Region.binds .any e && (e.on == k || (acc.getD e.on []).contains k)]) []
def tlB (ops : Array Oper) (tl : Nat) : Bool := match ops[tl]? with
 | none => true
 | some o => (List.range ops.size).all fun j => j == tl || o.after.any fun e => Region.binds .any e && e.on == j
theorem tlB_spec (h : tlB ops tl = true) : TlOk .any ops tl := by
 intro j oj ot hj ho hne
 unfold tlB at h
 rw [ho] at h
 simp only [List.all_eq_true, List.mem_range, Bool.or_eq_true, beq_iff_eq] at h
 rcases h j (Array.getElem?_eq_some_iff.1 hj).1 with h | h
 ·exact absurd h hne
 ·rw [Array.any_eq_true'] at h
  obtain ⟨e, he, hb⟩ := h
  simp only [Bool.and_eq_true, beq_iff_eq] at hb
  exact ⟨ot, ho, e, he, hb.1, hb.2⟩
theorem wp_region_know {id : Nat} {Q : Exit → Act → World → Prop} {a : Act} {w : World} {l : List Oper} (S : World → Prop) (R : World → World → Prop) (jss : List (List Nat)) (tl : Nat) (Ks : Nat → Act → Option Know)
  (hm : P.follows .mixedOrders = true) (hB : Region.lexB .any l.toArray = true) (hJ : jOkB l.toArray jss = true) (ht : tlB l.toArray tl = true) (hf : Fits R S Ks tl) (hS : S w.drew)
  (h : wpK P l.toArray R S w.drew (jOf jss) Ks (fun a' F => ∀ w', R w.drew w' → S w' → (∀ k, F k w') → Q .normal a' w') 0 l a noFacts) : (Code.region id l.toArray true).wp P Q a w := by
 simp only [Region.lexB, Bool.and_eq_true] at hB
 refine wp_region_any hm (wpAny_of_know (R := R) (S := S) (w0 := w.drew) (J := jOf jss) (Ks := Ks) (Q := fun a' F => ∀ w', R w.drew w' → S w' → (∀ k, F k w') → Q .normal a' w') hf (tlB_spec ht) (fun a' F w' hr hS' hF' hq => hq w' hr hS' hF') _ _ a noFacts _ (fun _ _ _ _ _ h => h) (hf.refl _) hS (fun _ => trivial) ?_)
 have := wpAnyK_lex (P := P) (w0 := w.drew) hf (tlB_spec ht) (jOkB_spec hJ) hB.1 l 0 (Array.replicate l.toArray.size false) a noFacts (by simp) (by simpa using hB.2) (fun _ _ _ _ _ h => h) ⟨w.drew, hf.refl _, hS, fun _ => trivial⟩ (fun _ _ _ => trivial)
  (fun d k h1 h2 => by
   rcases Nat.lt_or_ge d l.length with h' | h'
   ·simp [h'] at h1
   ·simp [Array.getElem?_eq_none, h'] at h1) h
 simpa using this
/-! ### The steps of a walk -/
section
variable {Q : Act → Facts → Prop} {i : Nat} {o : Oper} {rest : List Oper} {a : Act} {F : Facts}
theorem wpK_step (h : ∀ K : Act → Facts → Prop, (∀ a F, wpK P ops R S w0 J Ks Q (i + 1) rest a F → K a F) →
  if Region.wanted o (yielded ops a.tmps) = true then
   match Ks i a with
   | none => ∃ v, Quietly P S o a v ∧ K (a.put o.dst v) F
   | some k => Actively P R S w0 J i o a F k ∧ ∀ u, Wit R S w0 (upd F i (k u)) → K (a.put o.dst u) (upd F i (k u))
  else K (a.put o.dst undef) F) : wpK P ops R S w0 J Ks Q i (o :: rest) a F := h _ (fun _ _ h => h)
theorem wpK_quiet (hk : Ks i a = none) (hw : Region.wanted o (yielded ops a.tmps) = true) {v : Value} (hq : Quietly P S o a v) {a' : Act} (he : a' = a.put o.dst v) (h : wpK P ops R S w0 J Ks Q (i + 1) rest a' F) : wpK P ops R S w0 J Ks Q i (o :: rest) a F := by
 subst he
 refine wpK_step fun K hK => ?_
 rw [if_pos hw, hk]
 exact ⟨v, hq, hK _ _ h⟩
theorem wpK_know {k : Know} (hk : Ks i a = some k) (hw : Region.wanted o (yielded ops a.tmps) = true) (ha : Actively P R S w0 J i o a F k) (h : ∀ u, Wit R S w0 (upd F i (k u)) → ∃ a', a' = a.put o.dst u ∧ wpK P ops R S w0 J Ks Q (i + 1) rest a' (upd F i (k u))) : wpK P ops R S w0 J Ks Q i (o :: rest) a F := by
 refine wpK_step fun K hK => ?_
 rw [if_pos hw, hk]
 refine ⟨ha, fun u hu => ?_⟩
 obtain ⟨a', rfl, h⟩ := h u hu
 exact hK _ _ h
theorem wpK_end (h : Q a F) : wpK P ops R S w0 J Ks Q i [] a F := h
end
end
attribute [irreducible] gives wpK
end Go.Proofs.YthpjmhhfcechmaaDoor.Rh
/- Words for rows of structs of the call's own, in whose block no number lies. -/
namespace Go.Proofs.YthpjmhhfcechmaaDoor.Sy
open Go Go.RowKit
def notInt (u : Value) : Prop := ∀ k x, u ≠ .int k x
def NoI (v : Value) (w : World) : Prop := ∀ g, v.ownBlock = some g → ∃ cur e fz, w.heap[g]? = some (.cells cur e fz) ∧ ∀ u ∈ cur.toList, notInt u
theorem NoI.same {v : Value} {w w' : World} (h : NoI v w) (e : ∀ g, v.ownBlock = some g → w'.heap[g]? = w.heap[g]?) : NoI v w' := fun g hg => by
 obtain ⟨cur, t, fz, h1, h2⟩ := h g hg
 exact ⟨cur, t, fz, (e g hg).trans h1, h2⟩
theorem NoI.lt {v : Value} {w : World} (h : NoI v w) {g : Nat} (hg : v.ownBlock = some g) : g < w.heap.size := by
 obtain ⟨cur, t, fz, h1, h2⟩ := h g hg
 exact (Array.getElem?_eq_some_iff.1 h1).1
def OwS (w : World) (base : Nat) (e : TypeId) (s : Nat) (v : Value) (n : Nat) (R : List Value → World → Prop) : Prop := (∃ xs, w.ownsRow base e s v n xs ∧ R xs w) ∧ NoI v w ∧ ∀ xs w1 w2, IntK w1 w2 → R xs w1 → R xs w2
section
variable {w w' : World} {b : Nat} {e : TypeId} {s n : Nat} {v : Value} {R : List Value → World → Prop}
theorem OwS.turn {row : Option Nat} (h : OwS w b e s v n R) (hg : w.grownBy w' row) (hi : IntK w w') (hne : v.ownBlock = none ∨ v.ownBlock ≠ row) : OwS w' b e s v n R := by
 obtain ⟨⟨xs, h1, h2⟩, h3, h4⟩ := h
 refine ⟨⟨xs, World.ownsRow.kept h1 hg hne, h4 _ _ _ hi h2⟩, h3.same fun g hg' => hg.block g (h3.lt hg') (fun e2 => ?_), h4⟩
 rcases hne with h5 | h5
 ·rw [h5] at hg'; cases hg'
 ·exact h5 (hg'.trans e2)
theorem OwS.kept (h : OwS w b e s v n R) (hb : Below w.heap.size w w') : OwS w' b e s v n R :=
 h.turn (row := none) ⟨hb.os, hb.tape, hb.output, hb.size, fun i hi _ => hb.block i hi⟩ (IntK.of_below hb) (by cases v.ownBlock <;> simp)
theorem OwS.off {q : Nat} (h : OwS w b e s v n R) (hg : w.grownBy w' (some q)) (hi : IntK w w') (hne : v.ownBlock ≠ some q) : OwS w' b e s v n R := h.turn hg hi (.inr hne)
end
end Go.Proofs.YthpjmhhfcechmaaDoor.Sy
/- Words for a walk by rules: what is known of a frame's slots, boxes of the call's own; what the operations of a statement in the order of the text do. -/
namespace Go.Proofs.YthpjmhhfcechmaaDoor.Sy
open Go Go.RowKit

abbrev Know := Rg.Know
abbrev ptr (p : Nat) : Value := .pointer (some ⟨p, 0, none⟩)
/-! ### Boxes -/
structure BT where
 T : TypeId
 sh : Value → List Value → Prop
def Holds (b : BT) (p : Nat) (v : Value) (W : World) : Prop := ∃ cs, b.sh v cs ∧ ∀ i x, cs[i]? = some x → W.cell? ⟨p, i, none⟩ = some x ∧ W.frozen? ⟨p, i, none⟩ = false
structure Only (p : Nat) (W W' : World) : Prop where
 gr : W.grownBy W' (some p)
 nu : IntK W W'
 sz : W'.heap.size = W.heap.size
structure BT.Ok (b : BT) : Prop where
 ne : ∀ v cs, b.sh v cs → cs ≠ []
 load : ∀ v cs W p, b.sh v cs → (∀ i x, cs[i]? = some x → W.cell? ⟨p, i, none⟩ = some x) → (Instr.loadAt b.T (ptr p)).run Tryd.prog W = .ok v W
 store : ∀ v v' cs' W p, Holds b p v W → b.sh v' cs' → ∃ W', (Instr.storeAt b.T (ptr p) v').run Tryd.prog W = .ok () W' ∧ Holds b p v' W' ∧ Only p W W'
 alloc : ∃ o z cs, b.sh z cs ∧ ∀ W, (Instr.alloc b.T true (.tuple #[])).run Tryd.prog W = .ok (ptr W.heap.size) (W.alloc o) ∧ (∀ i x, cs[i]? = some x → (W.alloc o).cell? ⟨W.heap.size, i, none⟩ = some x ∧ (W.alloc o).frozen? ⟨W.heap.size, i, none⟩ = false)
 box : ∀ v cs, b.sh v cs → ∃ o, ∀ W, (Instr.box b.T v).run Tryd.prog W = .ok (ptr W.heap.size) (W.alloc o) ∧ (∀ i x, cs[i]? = some x → (W.alloc o).cell? ⟨W.heap.size, i, none⟩ = some x ∧ (W.alloc o).frozen? ⟨W.heap.size, i, none⟩ = false)
theorem Holds.lt {b : BT} (hb : b.Ok) {p : Nat} {v : Value} {W : World} (h : Holds b p v W) : p < W.heap.size := by
 obtain ⟨cs, hs, hc⟩ := h
 cases cs with
 | nil => exact absurd rfl (hb.ne _ _ hs)
 | cons x l => exact World.block_lt_of_cell? W ⟨p, 0, none⟩ (hc 0 x rfl).1
theorem Holds.same {b : BT} {p : Nat} {v : Value} {W W' : World} (h : Holds b p v W) (e : W'.heap[p]? = W.heap[p]?) : Holds b p v W' := by
 obtain ⟨cs, hs, hc⟩ := h
 refine ⟨cs, hs, fun i x hx => ?_⟩
 obtain ⟨a, c⟩ := hc i x hx
 exact ⟨(World.cell?_of_block (a := ⟨p, i, none⟩) e).trans a, (World.frozen?_of_block (a := ⟨p, i, none⟩) e).trans c⟩
theorem Holds.nw {b : BT} (hb : b.Ok) {p : Nat} {v : Value} {W W' : World} (h : Holds b p v W) (k : Nw W W') : Holds b p v W' := h.same (Below.block k p (h.lt hb))
theorem Holds.off {b : BT} (hb : b.Ok) {p q : Nat} {v : Value} {W W' : World} (h : Holds b p v W) (k : Only q W W') (hne : p ≠ q) : Holds b p v W' :=
 h.same (k.gr.block p (h.lt hb) (fun e => hne (by injection e)))
/-! ### Rows of the call's own -/
def OwF (w : World) (base : Nat) (e : TypeId) (f : Int → Value) (v : Value) (xs : List Int) : Prop := w.ownsRow base e 1 v xs.length (xs.map f)
section
variable {w : World} {b0 : Nat} {e : TypeId} {f : Int → Value} {v : Value} {zs : List Int}
theorem OwF.kept {w' : World} (h : OwF w b0 e f v zs) (hb : Below w.heap.size w w') : OwF w' b0 e f v zs :=
 World.ownsRow.kept h (row := none) ⟨hb.os, hb.tape, hb.output, hb.size, fun i hi _ => hb.block i hi⟩ (by cases v.ownBlock <;> simp)
theorem OwF.off {w' : World} {q : Nat} (h : OwF w b0 e f v zs) (hg : w.grownBy w' (some q)) (hne : v.ownBlock ≠ some q) : OwF w' b0 e f v zs := World.ownsRow.kept h hg (.inr hne)
theorem OwF.base (h : OwF w b0 e f v zs) : ∀ g, v.ownBlock = some g → b0 ≤ g := fun g hg => (World.ownsRow.lt h g hg).1
theorem OwF.len {A : Option Addr} {n c : Nat} (h : OwF w b0 e f (.slice A n c) zs) : n = zs.length := by
 obtain ⟨_, h1 | ⟨g, cap, cur, hv, _⟩⟩ := h
 ·obtain ⟨e1, e2⟩ := h1
  injection e1 with _ e1 _
  rw [e1]; exact e2.symm
 ·injection hv with _ e1 _
theorem OwF.cellAt {g n c i : Nat} (h : OwF w b0 e f (.slice (some ⟨g, 0, none⟩) n c) zs) (hi : i < zs.length) : w.cell? ⟨g, i, none⟩ = some (f (Ma.at0 zs i)) := by
 have hn := h.len
 subst hn
 rw [World.ownsRow.cellAt h i (by omega), List.getElem?_map, List.getElem?_eq_getElem hi, Ma.at0_of_lt hi]
 rfl
theorem OwF.frozenAt {g n c : Nat} (h : OwF w b0 e f (.slice (some ⟨g, 0, none⟩) n c) zs) (i : Nat) : w.frozen? ⟨g, i, none⟩ = false := by
 have hn := h.len
 subst hn
 exact World.ownsRow.frozenAt h i
theorem OwF.set {g n c : Nat} (h : OwF w b0 e f (.slice (some ⟨g, 0, none⟩) n c) zs) (i : Nat) (x : Int) : OwF (w.setCell ⟨g, i, none⟩ (f x)) b0 e f (.slice (some ⟨g, 0, none⟩) n c) (zs.set i x) := by
 have hn := h.len
 subst hn
 have := World.ownsRow.stored h i (f x)
 unfold OwF
 rw [List.length_set, List.map_set]
 exact this.1
theorem OwF.ge {g n c : Nat} (h : OwF w b0 e f (.slice (some ⟨g, 0, none⟩) n c) zs) : b0 ≤ g := h.base g rfl
theorem OwF.grew {g n c : Nat} (h : OwF w b0 e f (.slice (some ⟨g, 0, none⟩) n c) zs) (i : Nat) (x : Value) : w.grownBy (w.setCell ⟨g, i, none⟩ x) (some g) := by
 have hn := h.len
 subst hn
 exact (World.ownsRow.stored h i x).2
theorem OwF.form (h : OwF w b0 e f v zs) : (v = .slice none 0 0 ∧ zs = []) ∨ ∃ g c, v = .slice (some ⟨g, 0, none⟩) zs.length c ∧ zs.length ≤ c := by
 obtain ⟨_, h1 | ⟨g, cap, cur, hv, hb, hg, hc, hm, _, _⟩⟩ := h
 ·exact .inl ⟨h1.1, List.eq_nil_of_length_eq_zero h1.2⟩
 ·exact .inr ⟨g, cap, hv, hc⟩
end
/-! ### Frames -/
inductive AV
 | vl (v : Value)
 | kw (k : Know)
 | bx (b : BT) (k : Know)
 | nb (b : BT)
 | bp (b : BT) (p : Nat) (k : Know)
 | ro (v : Value) (e : TypeId) (f : Int → Value) (zs : List Int)
 | rx (e : TypeId) (f : Int → Value) (p : List Int → Prop)
 | bc (b : BT) (p : Nat) (v : Value)
 | rs (v : Value) (e : TypeId) (s n : Nat) (R : List Value → World → Prop)
 | rz (e : TypeId) (s n : Nat) (R : List Value → World → Prop)
def AV.isBx : AV → Bool
 | .vl _ => false
 | .kw _ => false
 | _ => true
def AV.of : AV → Know
 | .vl v => KV v
 | .kw k => k
 | _ => fun _ _ => False
def blk0 : Value → Option Nat
 | .pointer (some ⟨p, 0, none⟩) => some p
 | _ => none
def AV.blk : AV → Value → Option Nat
 | .bx _ _, u => blk0 u
 | .nb _, u => blk0 u
 | .bp _ p _, _ => some p
 | .ro v _ _ _, _ => v.ownBlock
 | .rx _ _ _, u => u.ownBlock
 | .bc _ p _, _ => some p
 | .rs v _ _ _ _, _ => v.ownBlock
 | .rz _ _ _ _, u => u.ownBlock
 | _, _ => none
theorem AV.blk_no {v : AV} (h : v.isBx = false) (u : Value) : v.blk u = none := by cases v <;> first | rfl | cases h
def look : List (Nat × AV) → Nat → Option AV
 | [], _ => none
 | (j, v) :: l, i => match Nat.beq j i with
  | true => some v
  | false => look l i
def Ho (B : Nat) : AV → Value → World → Prop
 | .vl v, u, _ => u = v
 | .kw k, u, W => k u W ∧ St k
 | .bx b k, u, W => ∃ p v, u = ptr p ∧ B ≤ p ∧ Holds b p v W ∧ k v W ∧ St k ∧ b.Ok
 | .nb b, u, W => ∃ p v, u = ptr p ∧ B ≤ p ∧ Holds b p v W ∧ b.Ok
 | .bp b p k, u, W => ∃ v, u = ptr p ∧ B ≤ p ∧ Holds b p v W ∧ k v W ∧ St k ∧ b.Ok
 | .ro v e f zs, _, W => OwF W B e f v zs
 | .rx e f p, u, W => ∃ zs, OwF W B e f u zs ∧ p zs
 | .bc b p v, u, W => u = ptr p ∧ Holds b p v W ∧ b.Ok
 | .rs v e s n R, _, W => OwS W B e s v n R
 | .rz e s n R, u, W => OwS W B e s u n R
theorem Ho.of {B : Nat} {v : AV} (hv : v.isBx = false) {u : Value} {W : World} (h : Ho B v u W) : v.of u W ∧ St v.of := by
 cases v with
 | vl v => exact ⟨h, KV.st v⟩
 | kw k => exact h
 | _ => cases hv
theorem Ho.mk {B : Nat} {v : AV} (hv : v.isBx = false) {u : Value} {W : World} (h : v.of u W) (hs : St v.of) : Ho B v u W := by
 cases v with
 | vl v => exact h
 | kw k => exact ⟨h, hs⟩
 | _ => cases hv
theorem Ho.nw {B : Nat} {v : AV} {u : Value} {W W' : World} (h : Ho B v u W) (k : Nw W W') : Ho B v u W' := by
 cases v with
 | vl v => exact h
 | kw kk => exact ⟨h.2 _ _ _ k.kept h.1, h.2⟩
 | bx b kk =>
  obtain ⟨p, x, e, hp, hh, hk, hs, ok⟩ := h
  exact ⟨p, x, e, hp, hh.nw ok k, hs _ _ _ k.kept hk, hs, ok⟩
 | nb b =>
  obtain ⟨p, x, e, hp, hh, ok⟩ := h
  exact ⟨p, x, e, hp, hh.nw ok k, ok⟩
 | bp b p kk =>
  obtain ⟨x, e, hp, hh, hk, hs, ok⟩ := h
  exact ⟨x, e, hp, hh.nw ok k, hs _ _ _ k.kept hk, hs, ok⟩
 | ro v e f zs => exact OwF.kept h k
 | rx e f p => obtain ⟨zs, h1, h2⟩ := h; exact ⟨zs, OwF.kept h1 k, h2⟩
 | bc b p v => obtain ⟨e, hh, ok⟩ := h; exact ⟨e, hh.nw ok k, ok⟩
 | rs v e s n R => exact OwS.kept h k
 | rz e s n R => exact OwS.kept h k
theorem Ho.off {B : Nat} {v : AV} {u : Value} {W W' : World} {q : Nat} (h : Ho B v u W) (k : Only q W W') (hne : v.blk u ≠ some q) : Ho B v u W' := by
 cases v with
 | vl v => exact h
 | kw kk => exact ⟨h.2 _ _ _ k.nu h.1, h.2⟩
 | bx b kk =>
  obtain ⟨p, x, e, hp, hh, hk, hs, ok⟩ := h
  subst e
  exact ⟨p, x, rfl, hp, hh.off ok k (fun e2 => hne (by rw [e2]; rfl)), hs _ _ _ k.nu hk, hs, ok⟩
 | nb b =>
  obtain ⟨p, x, e, hp, hh, ok⟩ := h
  subst e
  exact ⟨p, x, rfl, hp, hh.off ok k (fun e2 => hne (by rw [e2]; rfl)), ok⟩
 | bp b p kk =>
  obtain ⟨x, e, hp, hh, hk, hs, ok⟩ := h
  exact ⟨x, e, hp, hh.off ok k (fun e2 => hne (by rw [e2]; rfl)), hs _ _ _ k.nu hk, hs, ok⟩
 | ro v e f zs => exact OwF.off h k.gr hne
 | rx e f p => obtain ⟨zs, h1, h2⟩ := h; exact ⟨zs, OwF.off h1 k.gr hne, h2⟩
 | bc b p v => obtain ⟨e, hh, ok⟩ := h; exact ⟨e, hh.off ok k (fun e2 => hne (by rw [e2]; rfl)), ok⟩
 | rs v e s n R => exact OwS.off h k.gr k.nu hne
 | rz e s n R => exact OwS.off h k.gr k.nu hne
theorem Ho.blk {B : Nat} {v : AV} {u : Value} {W : World} {p : Nat} (h : Ho B v u W) (e : v.blk u = some p) : p < W.heap.size := by
 cases v with
 | vl v => cases e
 | kw k => cases e
 | bx b k =>
  obtain ⟨q, x, e2, hp, hh, _, _, ok⟩ := h
  subst e2
  injection e with e
  subst e
  exact hh.lt ok
 | nb b =>
  obtain ⟨q, x, e2, hp, hh, ok⟩ := h
  subst e2
  injection e with e
  subst e
  exact hh.lt ok
 | bp b q k =>
  obtain ⟨x, _, hp, hh, _, _, ok⟩ := h
  injection e with e
  subst e
  exact hh.lt ok
 | ro v e2 f zs => exact (World.ownsRow.lt h p e).2
 | rx e2 f pp => obtain ⟨zs, h1, h2⟩ := h; exact (World.ownsRow.lt h1 p e).2
 | bc b q x =>
  obtain ⟨_, hh, ok⟩ := h
  injection e with e
  subst e
  exact hh.lt ok
 | rs v e2 s n R => exact NoI.lt h.2.1 e
 | rz e2 s n R => exact NoI.lt h.2.1 e
structure Fr (B N : Nat) (w0 : World) (fr : List (Nat × AV)) (a : Act) (W : World) : Prop where
 df : a.defers = []
 sz : a.tmps.size = N
 be : Below B w0 W
 bs : B ≤ W.heap.size
 ho : ∀ i v, look fr i = some v → Ho B v (a.tmps.getD i undef) W
 di : ∀ i j v v' p, i ≠ j → look fr i = some v → look fr j = some v' → v.blk (a.tmps.getD i undef) = some p → v'.blk (a.tmps.getD j undef) ≠ some p
section
variable {B N : Nat} {w0 : World} {fr : List (Nat × AV)} {a : Act} {W : World}
theorem Fr.nw {W' : World} (h : Fr B N w0 fr a W) (k : Nw W W') : Fr B N w0 fr a W' :=
 ⟨h.df, h.sz, h.be.trans (Below.mono k h.bs), Nat.le_trans h.bs k.size, fun i v hi => (h.ho i v hi).nw k, h.di⟩
theorem getD_put {a : Act} {d i : Nat} {u : Value} (hd : d < a.tmps.size) : (a.put (some d) u).tmps.getD i undef = if d = i then u else a.tmps.getD i undef := by
 show (a.tmps.setIfInBounds d u).getD i undef = _
 simp only [Array.getD_eq_getD_getElem?, Array.getElem?_setIfInBounds]
 by_cases e : d = i
 ·subst e; simp [hd]
 ·simp [e]
theorem look_cons (j : Nat) (v : AV) (l : List (Nat × AV)) (i : Nat) : look ((j, v) :: l) i = if j = i then some v else look l i := by
 show (match Nat.beq j i with | true => some v | false => look l i) = _
 by_cases e : j = i
 ·subst e; simp
 ·have : Nat.beq j i = false := by rw [← Bool.not_eq_true]; exact fun h => e (Nat.eq_of_beq_eq_true h)
  rw [this, if_neg e]
theorem Fr.put {d : Nat} {u : Value} {v : AV} (h : Fr B N w0 fr a W) (hd : Nat.blt d N = true) (hu : Ho B v u W) (hn : ∀ i v' p, look fr i = some v' → v.blk u = some p → v'.blk (a.tmps.getD i undef) ≠ some p) : Fr B N w0 ((d, v) :: fr) (a.put (some d) u) W := by
 have hd' : d < a.tmps.size := by rw [h.sz]; simpa [Nat.blt_eq] using hd
 refine ⟨h.df, by show (a.tmps.setIfInBounds d u).size = N; rw [Array.size_setIfInBounds]; exact h.sz, h.be, h.bs, fun i x hi => ?_, fun i j b b' p hij hi hj => ?_⟩
 ·rw [look_cons] at hi
  rw [getD_put hd']
  by_cases e : d = i
  ·rw [if_pos e] at hi ⊢; injection hi with hi; subst hi; exact hu
  ·rw [if_neg e] at hi ⊢; exact h.ho i x hi
 ·rw [look_cons] at hi hj
  rw [getD_put hd', getD_put hd']
  by_cases e : d = i
  ·rw [if_pos e] at hi ⊢
   injection hi with hi
   subst hi
   have e' : d ≠ j := fun x => hij (e.symm.trans x)
   rw [if_neg e'] at hj ⊢
   intro x
   exact hn j b' p hj x
  ·rw [if_neg e] at hi ⊢
   by_cases e' : d = j
   ·rw [if_pos e'] at hj ⊢
    injection hj with hj
    subst hj
    intro x y
    exact hn i b p hi y x
   ·rw [if_neg e'] at hj ⊢; exact h.di i j b b' p hij hi hj
theorem Fr.set {d : Nat} {u : Value} {v : AV} (h : Fr B N w0 fr a W) (hd : Nat.blt d N = true) (hu : Ho B v u W) (hv : v.isBx = false) : Fr B N w0 ((d, v) :: fr) (a.put (some d) u) W :=
 h.put hd hu fun _ _ p _ e => by rw [AV.blk_no hv] at e; cases e
theorem Fr.fresh {d p : Nat} {v : AV} {W' : World} (h : Fr B N w0 fr a W) (hn : Nw W W') (hd : Nat.blt d N = true) (hp : W.heap.size ≤ p) (hv : v.blk (ptr p) = some p) (hu : Ho B v (ptr p) W') : Fr B N w0 ((d, v) :: fr) (a.put (some d) (ptr p)) W' := by
 refine (h.nw hn).put hd hu fun i v' q hi e e2 => ?_
 rw [hv] at e
 injection e with e
 have := (h.ho i _ hi).blk e2
 omega
theorem Fr.more {i : Nat} {v : AV} (h : Fr B N w0 fr a W) (hu : Ho B v (a.tmps.getD i undef) W) (hn : ∀ j v' p, look fr j = some v' → v.blk (a.tmps.getD i undef) = some p → v'.blk (a.tmps.getD j undef) ≠ some p) : Fr B N w0 ((i, v) :: fr) a W := by
 refine ⟨h.df, h.sz, h.be, h.bs, fun j x hj => ?_, fun j l b b' p hjl hj hl => ?_⟩
 ·rw [look_cons] at hj
  by_cases e : i = j
  ·rw [if_pos e] at hj; injection hj with hj; subst hj; subst e; exact hu
  ·rw [if_neg e] at hj; exact h.ho j x hj
 ·rw [look_cons] at hj hl
  by_cases e : i = j
  ·have e' : i ≠ l := fun x => hjl (e.symm.trans x)
   rw [if_pos e] at hj
   rw [if_neg e'] at hl
   injection hj with hj
   subst hj e
   exact fun x => hn l b' p hl x
  ·rw [if_neg e] at hj
   by_cases e' : i = l
   ·rw [if_pos e'] at hl
    injection hl with hl
    subst hl e'
    exact fun x y => hn j b p hj y x
   ·rw [if_neg e'] at hl; exact h.di j l b b' p hjl hj hl
theorem Fr.know {i : Nat} {v : AV} (h : Fr B N w0 fr a W) (hv : v.isBx = false) (hu : Ho B v (a.tmps.getD i undef) W) : Fr B N w0 ((i, v) :: fr) a W :=
 h.more hu fun _ _ p _ e => by rw [AV.blk_no hv] at e; cases e
theorem Fr.stored {s q : Nat} {v : AV} {b : BT} {k' : Know} {v' : Value} {W' : World} (h : Fr B N w0 fr a W) (hs : look fr s = some v) (hq : a.tmps.getD s undef = ptr q) (hB : B ≤ q) (hvq : v.blk (ptr q) = some q) (ok : b.Ok) (ho : Only q W W') (hh : Holds b q v' W') (hk : k' v' W') (hst : St k') : Fr B N w0 ((s, .bx b k') :: fr) a W' := by
 refine ⟨h.df, h.sz, ?_, by rw [ho.sz]; exact h.bs, fun j y hj => ?_, fun j l y y' p hjl hj hl => ?_⟩
 ·exact Below.grown h.be ho.gr h.bs (fun k e => by injection e with e; omega)
 ·rw [look_cons] at hj
  by_cases e' : s = j
  ·rw [if_pos e'] at hj; injection hj with hj; subst hj; subst e'; exact ⟨q, v', hq, hB, hh, hk, hst, ok⟩
  ·rw [if_neg e'] at hj
   exact (h.ho j y hj).off ho (h.di s j v y q e' hs hj (by rw [hq]; exact hvq))
 ·rw [look_cons] at hj hl
  by_cases e1 : s = j
  ·have e2 : s ≠ l := fun x => hjl (e1.symm.trans x)
   rw [if_pos e1] at hj
   rw [if_neg e2] at hl
   injection hj with hj
   subst hj e1
   intro x
   have x' : some q = some p := by rw [← x, hq]; rfl
   injection x' with x'
   subst x'
   exact h.di s l v y' q e2 hs hl (by rw [hq]; exact hvq)
  ·rw [if_neg e1] at hj
   by_cases e2 : s = l
   ·rw [if_pos e2] at hl
    injection hl with hl
    subst hl e2
    intro x y2
    have x' : some q = some p := by rw [← y2, hq]; rfl
    injection x' with x'
    subst x'
    exact h.di s j v y q e1 hs hj (by rw [hq]; exact hvq) x
   ·rw [if_neg e2] at hl; exact h.di j l y y' p hjl hj hl
end

/-! ### Operands -/
def opv (fr : List (Nat × AV)) : Operand → Option AV
 | .tmp t => match look fr t with
  | some (.vl v) => some (.vl v)
  | some (.kw k) => some (.kw k)
  | _ => none
 | .const v => some (.vl v)
 | .func f => some (.vl (.func (.func f) #[] #[]))
 | .global g => some (.vl (ptr g))
theorem opv_spec {B N : Nat} {w0 : World} {fr : List (Nat × AV)} {a : Act} {W : World} (h : Fr B N w0 fr a W) {x : Operand} {v : AV} (hx : opv fr x = some v) : Ho B v (a.eval x) W ∧ v.isBx = false := by
 cases x with
 | tmp t =>
  simp only [opv] at hx
  cases hl : look fr t with
  | none => rw [hl] at hx; cases hx
  | some r =>
   rw [hl] at hx
   cases r with
   | vl x => injection hx with hx; subst hx; exact ⟨h.ho t _ hl, rfl⟩
   | kw x => injection hx with hx; subst hx; exact ⟨h.ho t _ hl, rfl⟩
   | _ => cases hx
 | const v' => injection hx with hx; subst hx; exact ⟨rfl, rfl⟩
 | func f => injection hx with hx; subst hx; exact ⟨rfl, rfl⟩
 | global g => injection hx with hx; subst hx; exact ⟨rfl, rfl⟩
theorem opv_vl {B N : Nat} {w0 : World} {fr : List (Nat × AV)} {a : Act} {W : World} (h : Fr B N w0 fr a W) {x : Operand} {v : Value} (hx : opv fr x = some (.vl v)) : a.eval x = v := (opv_spec h hx).1
def All : List Know → List Value → World → Prop
 | [], [], _ => True
 | k :: ks, u :: us, W => k u W ∧ All ks us W
 | _, _, _ => False
def opks (fr : List (Nat × AV)) : List Operand → Option (List Know)
 | [] => some []
 | x :: xs => match opv fr x with
  | none => none
  | some v => match opks fr xs with
   | none => none
   | some ks => some (v.of :: ks)
theorem opks_spec {B N : Nat} {w0 : World} {fr : List (Nat × AV)} {a : Act} {W : World} (h : Fr B N w0 fr a W) : ∀ {xs : List Operand} {ks : List Know}, opks fr xs = some ks → All ks (xs.map a.eval) W
 | [], ks, e => by injection e with e; subst e; trivial
 | x :: xs, ks, e => by
  unfold opks at e
  split at e
  ·cases e
  ·rename_i v hv
   split at e
   ·cases e
   ·rename_i ks' hk
    injection e with e
    subst e
    obtain ⟨h1, h2⟩ := opv_spec h hv
    exact ⟨(h1.of h2).1, opks_spec h hk⟩
def wantB (ops : Array Oper) (fr : List (Nat × AV)) (o : Oper) : Option Bool := match o.guard with
 | none => some true
 | some (j, b) => match (ops[j]?).bind (·.dst) with
  | none => some false
  | some d => match look fr d with
   | some (.vl (.bool c)) => some (c == b)
   | some (.vl (.tuple _)) => some false
   | _ => none
theorem wantB_ex {ops : Array Oper} {fr : List (Nat × AV)} {o : Oper} {a : Act} (h : ∀ s v, look fr s = some (.vl v) → a.tmps.getD s undef = v) {b : Bool} (hw : wantB ops fr o = some b) : Region.wanted o (yielded ops a.tmps) = b := by
 unfold wantB at hw
 unfold Region.wanted
 split at hw
 ·rename_i hg; rw [hg]; injection hw
 ·rename_i j c hg
  rw [hg]
  split at hw
  ·rename_i hd
   injection hw with hw
   subst hw
   simp only [yielded, hd, Option.bind_none]
   rfl
  ·rename_i d hd
   have key : ∀ v, look fr d = some (.vl v) → yielded ops a.tmps j = (match (some v : Option Value) with | some (.bool b) => some b | _ => none) ∨ (yielded ops a.tmps j = none ∧ v = undef) := by
    intro v hv
    have e : a.tmps.getD d undef = v := h d v hv
    simp only [Array.getD_eq_getD_getElem?] at e
    simp only [yielded, hd, Option.bind_some]
    cases hq : a.tmps[d]? with
    | none => rw [hq] at e; exact .inr ⟨rfl, by simpa using e.symm⟩
    | some x => rw [hq] at e; simp only [Option.getD_some] at e; subst e; exact .inl rfl
   split at hw
   ·rename_i c' hl
    injection hw with hw
    subst hw
    rcases key _ hl with e | ⟨_, e⟩
    ·simp only [e]; rfl
    ·unfold undef at e; cases e
   ·rename_i xs hl
    injection hw with hw
    subst hw
    rcases key _ hl with e | ⟨e, _⟩
    ·simp only [e]; rfl
    ·simp only [e]; rfl
   ·cases hw
theorem Fr.ex {B N : Nat} {w0 : World} {fr : List (Nat × AV)} {a : Act} {W : World} (h : Fr B N w0 fr a W) : ∀ s v, look fr s = some (.vl v) → a.tmps.getD s undef = v := fun s v e => h.ho s _ e
theorem wantB_spec {B N : Nat} {w0 : World} {ops : Array Oper} {fr : List (Nat × AV)} {o : Oper} {a : Act} {W : World} (h : Fr B N w0 fr a W) {b : Bool} (hw : wantB ops fr o = some b) : Region.wanted o (yielded ops a.tmps) = b := wantB_ex h.ex hw
end Go.Proofs.YthpjmhhfcechmaaDoor.Sy
/- A walk by rules: statements in the order of the text, and how they follow one another. -/
namespace Go.Proofs.YthpjmhhfcechmaaDoor.Sy
open Go Go.RowKit
section
variable {B N : Nat} {w0 : World} {ops : Array Oper} {o : Oper} {rest : List Oper} {fr : List (Nat × AV)} {Q : Exit → Act → World → Prop} {d : Nat}

def PW (B N : Nat) (w0 : World) (ops : Array Oper) (rest : List Oper) (fr : List (Nat × AV)) (Q : Exit → Act → World → Prop) : Prop := ∀ a W, Fr B N w0 fr a W → wpList Tryd.prog ops Q rest a W
def SC (B N : Nat) (w0 : World) (c : Code) (fr : List (Nat × AV)) (Q : Exit → Act → World → Prop) : Prop := ∀ a W, Fr B N w0 fr a W → c.wp Tryd.prog Q a W
def SX (B N : Nat) (w0 : World) (e : Exit) (fr : List (Nat × AV)) (Q : Exit → Act → World → Prop) : Prop := ∀ a W, Fr B N w0 fr a W → Q e a W
theorem PW.nil (h : SX B N w0 .normal fr Q) : PW B N w0 ops [] fr Q := fun a W hf => wpList_nil (h a W hf)
theorem PW.step (hw : wantB ops fr o = some true) (h : ∀ a W, Fr B N w0 fr a W → ∀ K : Act → World → Prop, (∀ a W, wpList Tryd.prog ops Q rest a W → K a W) → o.wp Tryd.prog a W K Q) : PW B N w0 ops (o :: rest) fr Q :=
 fun a W hf => wpList_step fun K hK => by rw [if_pos (wantB_spec hf hw)]; exact h a W hf K hK
theorem PW.val {r : AV} (hw : wantB ops fr o = some true) (hd : o.dst = some d) (hN : Nat.blt d N = true) (hr : r.isBx = false)
  (h : ∀ a W, Fr B N w0 fr a W → ∃ u, (execOp a.eval o).run Tryd.prog W = .ok (.value u) W ∧ Ho B r u W) (hk : PW B N w0 ops rest ((d, r) :: fr) Q) : PW B N w0 ops (o :: rest) fr Q :=
 PW.step hw fun a W hf K hK => by
  obtain ⟨u, e, hu⟩ := h a W hf
  unfold Oper.wp
  rw [e, Oper.upon_value, hd]
  exact hK _ _ (hk _ _ (hf.set hN hu hr))
theorem PW.skip (hw : wantB ops fr o = some false) (hd : o.dst = some d) (hN : Nat.blt d N = true) (hk : PW B N w0 ops rest ((d, .vl undef) :: fr) Q) : PW B N w0 ops (o :: rest) fr Q :=
 fun a W hf => wpList_skip (wantB_spec hf hw) (by rw [hd]; exact hk _ _ (hf.set hN rfl rfl))
theorem PW.move {x : Operand} {r : AV} (hw : wantB ops fr o = some true) (hd : o.dst = some d) (hN : Nat.blt d N = true) (ho : o.op = .move x) (hx : opv fr x = some r) (hk : PW B N w0 ops rest ((d, r) :: fr) Q) : PW B N w0 ops (o :: rest) fr Q :=
 PW.step hw fun a W hf K hK => by
  obtain ⟨h1, h2⟩ := opv_spec hf hx
  have e : (execOp a.eval o).run Tryd.prog W = .ok (.value (a.eval x)) W := by unfold execOp; rw [ho]; rfl
  unfold Oper.wp
  rw [e, Oper.upon_value, hd]
  exact hK _ _ (hk _ _ (hf.set hN h1 h2))
theorem PW.assign {x : Operand} {r : AV} (hw : wantB ops fr o = some true) (hd : o.dst = some d) (hN : Nat.blt d N = true) (ho : o.op = .assign x) (hx : opv fr x = some r) (hk : PW B N w0 ops rest ((d, r) :: fr) Q) : PW B N w0 ops (o :: rest) fr Q :=
 PW.step hw fun a W hf K hK => by
  obtain ⟨h1, h2⟩ := opv_spec hf hx
  have e : (execOp a.eval o).run Tryd.prog W = .ok (.value (a.eval x)) W := by unfold execOp; rw [ho]; rfl
  unfold Oper.wp
  rw [e, Oper.upon_value, hd]
  exact hK _ _ (hk _ _ (hf.set hN h1 h2))
theorem run_val {s : Sem Value} {W W' : World} {v : Value} (h : s.run Tryd.prog W = .ok v W') : (do pure (.value (← s)) : Sem Next).run Tryd.prog W = .ok (.value v) W' := by
 simp [h, go_sem]
theorem run_skip {s : Sem Unit} {W W' : World} (h : s.run Tryd.prog W = .ok () W') : (do s; pure .skip : Sem Next).run Tryd.prog W = .ok .skip W' := by
 simp [h, go_sem]
theorem PW.load {T : TypeId} {s : Nat} {b : BT} {k : Know} (hw : wantB ops fr o = some true) (hd : o.dst = some d) (hN : Nat.blt d N = true) (ho : o.op = .load T (.tmp s)) (hs : look fr s = some (.bx b k)) (hT : b.T = T) (hk : PW B N w0 ops rest ((d, .kw k) :: fr) Q) : PW B N w0 ops (o :: rest) fr Q :=
 PW.val hw hd hN rfl (fun a W hf => by
  obtain ⟨p, v, e, _, ⟨cs, hs1, hc⟩, hv, st, ok⟩ := hf.ho s _ hs
  refine ⟨v, ?_, hv, st⟩
  have := run_val (ok.load v cs W p hs1 fun i x hx => (hc i x hx).1)
  unfold execOp
  rw [ho]
  show (do pure (.value (← Instr.loadAt T (a.tmps.getD s undef))) : Sem Next).run Tryd.prog W = _
  rw [e, ← hT]
  exact this) hk
def Ex (k : Know) (i : Nat) (r : AV) : Prop := ∀ u W, k u W → ∃ vs v, u = .tuple vs ∧ vs[i]? = some v ∧ r.of v W
theorem ex20 {k1 k2 : Know} : Ex (K2 k1 k2) 0 (.kw k1) := fun u W ⟨v1, v2, e, h1, h2⟩ => ⟨_, v1, e, rfl, h1⟩
theorem ex20v {v : Value} {k2 : Know} : Ex (K2 (KV v) k2) 0 (.vl v) := fun u W ⟨v1, v2, e, h1, h2⟩ => ⟨_, v1, e, rfl, h1⟩
theorem ex21v {v : Value} {k1 : Know} : Ex (K2 k1 (KV v)) 1 (.vl v) := fun u W ⟨v1, v2, e, h1, h2⟩ => ⟨_, v2, e, rfl, h2⟩
theorem run_ext {vs : Array Value} {i : Nat} {v : Value} (h : vs[i]? = some v) (W : World) : (Instr.extract (.tuple vs) i).run Tryd.prog W = .ok v W := by
 simp [Instr.extract, h, go_sem]
theorem PW.ext {s i : Nat} {k : Know} {r : AV} (hw : wantB ops fr o = some true) (hd : o.dst = some d) (hN : Nat.blt d N = true) (ho : o.op = .extract (.tmp s) i) (hs : look fr s = some (.kw k)) (hx : Ex k i r) (hst : St r.of) (hr : r.isBx = false) (hk : PW B N w0 ops rest ((d, r) :: fr) Q) : PW B N w0 ops (o :: rest) fr Q :=
 PW.val hw hd hN hr (fun a W hf => by
  obtain ⟨hv, _⟩ := hf.ho s _ hs
  obtain ⟨vs, v, e, hi, hv'⟩ := hx _ W hv
  refine ⟨v, ?_, Ho.mk hr hv' hst⟩
  unfold execOp
  rw [ho]
  show (do pure (.value (← Instr.extract (a.tmps.getD s undef) i)) : Sem Next).run Tryd.prog W = _
  rw [e]
  exact run_val (run_ext hi W)) hk
def CE (f : FuncId) : Prop := ∀ args W, (callFunc f args).run Tryd.prog W = .ok (.enter f args) W
def CallOk (f : FuncId) (ks : List Know) (r : Know) : Prop := CE f ∧ ∀ W us, All ks us W → Calls Tryd.prog f us.toArray W (Ret W r)
theorem run_call {c : Call} {f : FuncId} (ce : CE f) (hc : c.callee = .value (.func f)) (ρ : Operand → Value) (hρ : ρ (.func f) = .func (.func f) #[] #[]) (ty : TypeId) (W : World) {dst : Option Tmp} {pos : String} {after : Array Edge} {guard : Option (Nat × Bool)} :
  (execOp ρ ⟨dst, .call c, ty, pos, after, guard⟩).run Tryd.prog W = .ok (.enter f (c.args.map ρ)) W := by
 obtain ⟨cal, args, ats⟩ := c
 simp only at hc
 subst hc
 have := ce (args.map ρ) W
 simp [execOp, resolve, hρ, go_sem, this]
theorem PW.call {c : Call} {f : FuncId} {ks : List Know} {r : AV} (hw : wantB ops fr o = some true) (hd : o.dst = some d) (hN : Nat.blt d N = true) (ho : o.op = .call c) (hc : c.callee = .value (.func f)) (ha : opks fr c.args.toList = some ks) (hst : St r.of) (hr : r.isBx = false)
  (h : CallOk f ks r.of) (hk : PW B N w0 ops rest ((d, r) :: fr) Q) : PW B N w0 ops (o :: rest) fr Q :=
 PW.step hw fun a W hf K hK => by
  obtain ⟨dst, op, ty, pos, after, guard⟩ := o
  simp only at ho hd
  subst ho
  subst hd
  unfold Oper.wp
  rw [run_call h.1 hc a.eval rfl ty W]
  simp only [Oper.upon]
  have e : (c.args.toList.map a.eval).toArray = c.args.map a.eval := by rw [← Array.toList_map]
  have := h.2 W _ (opks_spec hf ha)
  rw [e] at this
  refine this.mono fun e W' ⟨v, he, hv, hn⟩ => ?_
  subst he
  exact hK _ _ (hk _ _ ((hf.nw hn).set hN (Ho.mk hr hv hst) hr))
def KT : Know := fun _ _ => True
theorem PW.alloc {T : TypeId} (b : BT) (hw : wantB ops fr o = some true) (hd : o.dst = some d) (hN : Nat.blt d N = true) (ho : o.op = .alloc T) (hT : b.T = T) (ok : b.Ok) (hk : PW B N w0 ops rest ((d, .nb b) :: fr) Q) : PW B N w0 ops (o :: rest) fr Q :=
 PW.step hw fun a W hf K hK => by
  obtain ⟨ob, z, cs, hz, hal⟩ := ok.alloc
  obtain ⟨h1, h2⟩ := hal W
  have e : (execOp a.eval o).run Tryd.prog W = .ok (.value (ptr W.heap.size)) (W.alloc ob) := by
   unfold execOp
   rw [ho, ← hT]
   exact run_val h1
  unfold Oper.wp
  rw [e, Oper.upon_value, hd]
  exact hK _ _ (hk _ _ (hf.fresh ((Nw.refl W).alloc ob) hN (Nat.le_refl _) rfl ⟨_, z, rfl, hf.bs, ⟨cs, hz, h2⟩, ok⟩))
def bxT : AV → Option BT
 | .bx b _ => some b
 | .nb b => some b
 | _ => none
theorem Ho.bxT {B : Nat} {v : AV} {b : BT} {u : Value} {W : World} (h : Ho B v u W) (e : Sy.bxT v = some b) : ∃ p x, u = ptr p ∧ B ≤ p ∧ Holds b p x W ∧ b.Ok ∧ v.blk (ptr p) = some p := by
 cases v with
 | bx b' k =>
  injection e with e
  subst e
  obtain ⟨p, x, e2, hp, hh, _, _, ok⟩ := h
  exact ⟨p, x, e2, hp, hh, ok, rfl⟩
 | nb b' =>
  injection e with e
  subst e
  obtain ⟨p, x, e2, hp, hh, ok⟩ := h
  exact ⟨p, x, e2, hp, hh, ok, rfl⟩
 | _ => cases e
theorem bind_look {fr : List (Nat × AV)} {s : Nat} {b : BT} (h : (look fr s).bind Sy.bxT = some b) : ∃ v, look fr s = some v ∧ Sy.bxT v = some b := by
 cases hl : look fr s with
 | none => rw [hl] at h; cases h
 | some v => rw [hl] at h; exact ⟨v, rfl, h⟩
theorem PW.store {T : TypeId} {s : Nat} {x : Operand} {r : AV} {b : BT} (hw : wantB ops fr o = some true) (hd : o.dst = none) (ho : o.op = .store T (.tmp s) x) (hs : (look fr s).bind bxT = some b) (hT : b.T = T) (hx : opv fr x = some r) (hsh : ∀ v W, r.of v W → ∃ cs, b.sh v cs) (hk : PW B N w0 ops rest ((s, .bx b r.of) :: fr) Q) : PW B N w0 ops (o :: rest) fr Q :=
 PW.step hw fun a W hf K hK => by
  obtain ⟨h1, h2⟩ := opv_spec hf hx
  obtain ⟨h3, h4⟩ := h1.of h2
  obtain ⟨cs', hcs⟩ := hsh _ _ h3
  obtain ⟨y, hl, hy⟩ := bind_look hs
  obtain ⟨p, v, e, hB, hh, ok, hbk⟩ := (hf.ho s _ hl).bxT hy
  obtain ⟨W', h5, h6, h7⟩ := ok.store v _ cs' W p hh hcs
  have e2 : (execOp a.eval o).run Tryd.prog W = .ok .skip W' := by
   unfold execOp
   rw [ho, ← hT]
   show (do (Instr.storeAt b.T (a.tmps.getD s undef) (a.eval x)); pure .skip : Sem Next).run Tryd.prog W = _
   rw [e]
   exact run_skip h5
  unfold Oper.wp
  rw [e2]
  show K (a.put o.dst undef) W'
  rw [hd]
  exact hK _ _ (hk _ _ (hf.stored hl e hB hbk ok h7 h6 (h4 _ _ _ h7.nu h3) h4))
theorem PW.q1 {x : Operand} {u : Value} (v : Value) (hw : wantB ops fr o = some true) (hd : o.dst = some d) (hN : Nat.blt d N = true) (hx : opv fr x = some (.vl u)) (h : ∀ (ρ : Operand → Value) (W : World), ρ x = u → (execOp ρ o).run Tryd.prog W = .ok (.value v) W) (hk : PW B N w0 ops rest ((d, .vl v) :: fr) Q) : PW B N w0 ops (o :: rest) fr Q :=
 PW.val (r := .vl v) hw hd hN rfl (fun a W hf => ⟨v, h _ W (opv_vl hf hx), rfl⟩) hk
theorem PW.q2 {x y : Operand} {u u2 : Value} (v : Value) (hw : wantB ops fr o = some true) (hd : o.dst = some d) (hN : Nat.blt d N = true) (hx : opv fr x = some (.vl u)) (hy : opv fr y = some (.vl u2)) (h : ∀ (ρ : Operand → Value) (W : World), ρ x = u → ρ y = u2 → (execOp ρ o).run Tryd.prog W = .ok (.value v) W) (hk : PW B N w0 ops rest ((d, .vl v) :: fr) Q) : PW B N w0 ops (o :: rest) fr Q :=
 PW.val (r := .vl v) hw hd hN rfl (fun a W hf => ⟨v, h _ W (opv_vl hf hx) (opv_vl hf hy), rfl⟩) hk
theorem PW.pick {c x y : Operand} {t : Bool} {r : AV} (hw : wantB ops fr o = some true) (hd : o.dst = some d) (hN : Nat.blt d N = true) (ho : o.op = .pick c x y) (hc : opv fr c = some (.vl (.bool t))) (hx : opv fr (bif t then x else y) = some r) (hk : PW B N w0 ops rest ((d, r) :: fr) Q) : PW B N w0 ops (o :: rest) fr Q :=
 PW.step hw fun a W hf K hK => by
  obtain ⟨h1, h2⟩ := opv_spec hf hx
  have e : (execOp a.eval o).run Tryd.prog W = .ok (.value (a.eval (bif t then x else y))) W := by
   unfold execOp
   rw [ho]
   have := opv_vl hf hc
   simp only [this]
   cases t <;> simp [asBool, go_sem]
  unfold Oper.wp
  rw [e, Oper.upon_value, hd]
  exact hK _ _ (hk _ _ (hf.set hN h1 h2))
/-! ### Code -/
theorem SC.region {id : Nat} {l : List Oper} (h : PW B N w0 l.toArray l fr Q) : SC B N w0 (.region id l.toArray false) fr Q := fun a W hf => wp_region_lit (h a W hf)
theorem SC.seq {x y : Code} (h : SC B N w0 x fr (Exit.then (y.wp Tryd.prog Q) Q)) : SC B N w0 (.seq x y) fr Q := fun a W hf => wp_seq (h a W hf)
theorem SX.then {y : Code} (h : SC B N w0 y fr Q) : SX B N w0 .normal fr (Exit.then (y.wp Tryd.prog Q) Q) := h
theorem SC.cond {c : Operand} {x y : Code} {t : Bool} (hc : opv fr c = some (.vl (.bool t))) (h : SC B N w0 (bif t then x else y) fr Q) : SC B N w0 (.cond c x y) fr Q :=
 fun a W hf => wp_cond (opv_vl hf hc) (by cases t <;> exact h a W hf)
theorem SC.block {id : Nat} {c : Code} (h : SC B N w0 c fr (Exit.inBlock id Q)) : SC B N w0 (.block id c) fr Q := fun a W hf => wp_block (h a W hf)
theorem SC.skip (h : SX B N w0 .normal fr Q) : SC B N w0 .skip fr Q := fun a W hf => wp_skip (h a W hf)
theorem SC.exit {id : Nat} (h : SX B N w0 (.exit id) fr Q) : SC B N w0 (.exit id) fr Q := fun a W hf => wp_exit (h a W hf)
theorem SC.ret (h : SX B N w0 .ret fr Q) : SC B N w0 .ret fr Q := fun a W hf => wp_ret (h a W hf)
theorem SX.blockN {id : Nat} (h : SX B N w0 .normal fr Q) : SX B N w0 .normal fr (Exit.inBlock id Q) := h
theorem SX.blockE {id : Nat} (h : SX B N w0 .normal fr Q) : SX B N w0 (.exit id) fr (Exit.inBlock id Q) := fun a W hf => by show (if id = id then _ else _); rw [if_pos rfl]; exact h a W hf
theorem SX.blockR {id : Nat} (h : SX B N w0 .ret fr Q) : SX B N w0 .ret fr (Exit.inBlock id Q) := h
theorem SX.thenE {id : Nat} {K : Act → World → Prop} (h : SX B N w0 (.exit id) fr Q) : SX B N w0 (.exit id) fr (Exit.then K Q) := h
theorem SX.thenR {K : Act → World → Prop} (h : SX B N w0 .ret fr Q) : SX B N w0 .ret fr (Exit.then K Q) := h
theorem SC.weak {c : Code} {fr' : List (Nat × AV)} (hf : ∀ a W, Fr B N w0 fr a W → Fr B N w0 fr' a W) (h : SC B N w0 c fr' Q) : SC B N w0 c fr Q := fun a W f => h a W (hf a W f)
end

/-! ### The boxes of integers -/
def BI (T : TypeId) : BT := ⟨T, fun v cs => ∃ m A l c, v = .agg #[.bool m, .slice A l c] ∧ cs = [.bool m, .slice A l c]⟩
theorem two_at {x y : Value} {i : Nat} {z : Value} (h : [x, y][i]? = some z) : (i = 0 ∧ z = x) ∨ (i = 1 ∧ z = y) := by
 match i, h with
 | 0, h => exact .inl ⟨rfl, by simpa using h.symm⟩
 | 1, h => exact .inr ⟨rfl, by simpa using h.symm⟩
theorem bI : (BI 28).Ok := by
 refine ⟨?_, ?_, ?_, ?_, ?_⟩
 ·rintro v cs ⟨m, A, l, c, rfl, rfl⟩; simp
 ·rintro v cs W p ⟨m, A, l, c, rfl, rfl⟩ h
  have h0 := h 0 _ rfl
  have h1 := h 1 _ rfl
  show (Instr.loadAt 28 (ptr p)).run Tryd.prog W = _
  go_simp
 ·rintro v v' cs' W p ⟨cs, ⟨m, A, l, c, rfl, rfl⟩, hc⟩ ⟨m', A', l', c', rfl, rfl⟩
  obtain ⟨h0, f0⟩ := hc 0 _ rfl
  obtain ⟨h1, f1⟩ := hc 1 _ rfl
  have hb : Box p 2 W := fun i hi => match i, hi with
   | 0, _ => ⟨⟨_, h0, by simp⟩, f0⟩
   | 1, _ => ⟨⟨_, h1, by simp⟩, f1⟩
  obtain ⟨W', e, hr, k0, k1⟩ := store_two (m := m') (D := A') (l := l') (c := c') hb
  refine ⟨(W.setCell ⟨p, 0, none⟩ (.bool m')).setCell ⟨p, 1, none⟩ (.slice A' l' c'), ?_, ⟨_, ⟨m', A', l', c', rfl, rfl⟩, fun i x hx => ?_⟩, ?_, ?_, ?_⟩
  ·show (Instr.storeAt 28 (ptr p) _).run Tryd.prog W = _
   go_simp
  ·rcases two_at hx with ⟨rfl, rfl⟩ | ⟨rfl, rfl⟩
   ·exact ⟨by rw [e]; exact k0, by simp [World.frozen?_setCell, f0]⟩
   ·exact ⟨by rw [e]; exact k1, by simp [World.frozen?_setCell, f1]⟩
  ·exact ⟨by simp [World.setCell], by simp [World.setCell], by simp [World.setCell], by simp [World.setCell], fun k _ hk => by rw [Below.heap_setCell _ _ _ _ (fun x => hk (by rw [x])), Below.heap_setCell _ _ _ _ (fun x => hk (by rw [x]))]⟩
  ·rw [e]; exact hr.2.1
  ·simp [World.setCell]
 ·refine ⟨.cells #[.bool false, .slice none 0 0] 28, _, _, ⟨false, none, 0, 0, rfl, rfl⟩, fun W => ⟨by show (Instr.alloc 28 true (.tuple #[])).run Tryd.prog W = _; go_simp, fun i x hx => ?_⟩⟩
  rcases two_at hx with ⟨rfl, rfl⟩ | ⟨rfl, rfl⟩
  ·exact ⟨by rw [World.cell?_alloc_at _ _ _ _ rfl]; rfl, World.frozen?_alloc_at _ _ _ _ rfl⟩
  ·exact ⟨by rw [World.cell?_alloc_at _ _ _ _ rfl]; rfl, World.frozen?_alloc_at _ _ _ _ rfl⟩
 ·rintro v cs ⟨m, A, l, c, rfl, rfl⟩
  refine ⟨.cells #[.bool m, .slice A l c] 28, fun W => ⟨by show (Instr.box 28 _).run Tryd.prog W = _; go_simp, fun i x hx => ?_⟩⟩
  rcases two_at hx with ⟨rfl, rfl⟩ | ⟨rfl, rfl⟩
  ·exact ⟨by rw [World.cell?_alloc_at _ _ _ _ rfl]; rfl, World.frozen?_alloc_at _ _ _ _ rfl⟩
  ·exact ⟨by rw [World.cell?_alloc_at _ _ _ _ rfl]; rfl, World.frozen?_alloc_at _ _ _ _ rfl⟩
theorem sh_I {T : TypeId} {z : Int} (v : Value) (W : World) (h : KI z v W) : ∃ cs, (BI T).sh v cs := by obtain ⟨m, A, l, c, rfl, _⟩ := h; exact ⟨_, m, A, l, c, rfl, rfl⟩
end Go.Proofs.YthpjmhhfcechmaaDoor.Sy
/- The contracts of the reference's trimmed and made. -/
namespace Go.Proofs.YthpjmhhfcechmaaDoor
open Go.RowKit Ma

set_option maxHeartbeats 800000 in
theorem rtrimmed_c {A : Option Addr} {l c : Nat} {xs : List Int} {w : World} (e : l = xs.length) (h : Rd w .i64 A xs) (hc : l ≤ c) :
  Calls Tryd.prog 68 #[.slice A l c] w fun e w' => e = .returned (.slice A (trim xs).length c) ∧ w = w' := by
 subst e
 have hl := h.1
 have key : ∀ n, n ≤ xs.length → trim (xs.take n) = trim xs → trim (xs.take n) = xs.take n → n = (trim xs).length := by
  intro n hn h1 h2
  rw [← h1, h2, List.length_take, Nat.min_eq_left hn]
 go_enter Tryd.func68, Tryd.ntmps68
 go_wp2
 go_loop [3] (fun l => ∃ n : Nat, n ≤ xs.length ∧ trim (xs.take n) = trim xs ∧ l = .int .i64 n) (fun l => (intOf l).toNat)
 case atStart => exact ⟨_, Nat.le_refl _, by rw [List.take_length], rfl⟩
 case round =>
  obtain ⟨n, hn, ht, rfl⟩ := hrel
  have HT := Lib.hid ht
  have KEY := Lib.hid key
  clear ht key
  by_cases h0 : 0 < n
  ·obtain ⟨ad, hA, hcell⟩ := h.2 (n - 1) (by omega)
   subst hA
   by_cases hz : at0 xs (n - 1) = 0
   ·have hzb : (at0 xs (n - 1) == 0) = true := by simpa using hz
    have HZ := Lib.hid hz
    clear hz
    go_wp2
    refine ⟨⟨n - 1, by omega, ?_, by apply congrArg (Value.int IntKind.i64); omega⟩, by simp [intOf]; omega⟩
    rw [← HT.out, ← trim_take_succ (by omega) HZ.out, Nat.sub_add_cancel h0]
   ·have hzb : (at0 xs (n - 1) == 0) = false := by simpa using hz
    have HZ := Lib.hid hz
    clear hz
    go_wp2
    go_ret
    have h1 := KEY.out n hn HT.out (by have := trim_stop (n := n - 1) (by omega) HZ.out; rwa [Nat.sub_add_cancel h0] at this)
    exact ⟨ret_val (by rw [← h1]; simp), rfl⟩
  ·obtain rfl : n = 0 := by omega
   go_wp2
   go_ret
   have h1 := KEY.out 0 (by omega) HT.out (by simp [trim])
   exact ⟨ret_val (by rw [← h1]; simp), rfl⟩
set_option maxHeartbeats 400000 in
theorem rmade_c {n : Bool} {A : Option Addr} {l c : Nat} {xs : List Int} {w : World} (e : l = xs.length) (rA : Rd w .i64 A xs) (hc : l ≤ c) (hd : dg b16 xs) :
  Calls Tryd.prog 49 #[.bool n, .slice A l c] w (Ret w (KJ (sg n (lv b16 xs)))) := by
 subst e
 have hn := num_made (n := n) hd
 have hlen := trim_len xs
 have HN := Lib.hid hn
 clear hn
 cases n
 ·go_enter Tryd.func49, Tryd.ntmps49
  go_wp2_with (go_at_call 68; refine (rtrimmed_c rfl (rA.kept (IntK.alloc _ _)) hc).mono ?_; rintro e w' ⟨rfl, rfl⟩)
  refine bodyPost_ret (v := .agg #[.bool false, .slice A (trim xs).length c]) (by simp [results, Tryd.results49, go_sem]) rfl (Ret.J ⟨trim xs, rfl, by omega, ?_, by simpa using HN.out⟩ ?_)
  ·exact rA.trim.kept (IntK.alloc _ _)
  ·exact (Below.refl _ _).alloc (Nat.le_refl _) _
 ·go_enter Tryd.func49, Tryd.ntmps49
  go_wp2_with (go_at_call 68; refine (rtrimmed_c rfl (rA.kept (IntK.alloc _ _)) hc).mono ?_; rintro e w' ⟨rfl, rfl⟩)
  refine bodyPost_ret (v := .agg #[.bool (decide (0 < (trim xs).length)), .slice A (trim xs).length c]) (by simp [results, Tryd.results49, go_sem]) rfl (Ret.J ⟨trim xs, rfl, by omega, ?_, by simpa using HN.out⟩ ?_)
  ·exact rA.trim.kept (IntK.alloc _ _)
  ·exact (Below.refl _ _).alloc (Nat.le_refl _) _
end Go.Proofs.YthpjmhhfcechmaaDoor
/- The contract of the reference's New. -/
namespace Go.Proofs.YthpjmhhfcechmaaDoor
open Go.RowKit Ma

theorem info_int : (Tryd.prog.info? 3).map (fun i => (i.zero, i.size, i.bytes)) = some (some (.int .i64 0), 1, 8) := by kernel_rfl
structure RnAt (V : Int) (k : Nat) (zs : List Int) (u : Int) : Prop where
 le : k ≤ 4
 len : zs.length = k
 dg : dg b16 zs
 u0 : 0 ≤ u
 u1 : u < 65536 ^ (4 - k)
 eq : lv b16 zs + b16 ^ k * u = V
theorem RnAt.lt {V : Int} {k : Nat} {zs : List Int} {u : Int} (h : RnAt V k zs u) (hu : 0 < u) : k < 4 := by
 have h5 := h.u1
 have := h.le
 apply Classical.byContradiction
 intro hk
 have h0 : 4 - k = 0 := by omega
 rw [h0, Int.pow_zero] at h5
 omega
theorem RnAt.step {V : Int} {k : Nat} {zs : List Int} {u : Int} (h : RnAt V k zs u) (hu : 0 < u) : RnAt V (k + 1) (zs ++ [u % 65536]) (u / 65536) := by
 have hk := h.lt hu
 obtain ⟨h1, h2, h3, h4, h5, h6⟩ := h
 refine ⟨by omega, by simp [h2], dg_append.2 ⟨h3, fun x hx => by rw [List.mem_singleton] at hx; rw [hx, b16_eq]; omega⟩, by omega, ?_, ?_⟩
 ·apply Int.ediv_lt_of_lt_mul (by decide)
  rw [← Int.pow_succ, show (4 - (k + 1)).succ = 4 - k by omega]
  exact h5
 ·rw [lv_snoc, h2, Int.pow_succ, ← h6, b16_eq]
  have e := Int.mul_ediv_add_emod u 65536
  generalize u / 65536 = q at *
  generalize u % 65536 = r at *
  generalize (65536 : Int) ^ k = p at *
  rw [← e]
  grind
set_option maxHeartbeats 1600000 in
set_option maxRecDepth 100000 in
theorem rnew_c {x : Int} {w : World} (hx : -9223372036854775808 ≤ x ∧ x < 9223372036854775808) :
  Calls Tryd.prog 21 #[.int .i64 x] w (Ret w (KJ x)) := by
 obtain ⟨hx0, hx1⟩ := hx
 obtain ⟨i0, hi, hz0, hz1, hz2⟩ := info_parts info_int
 have nw1 : Nw w (w.alloc (.cells #[.bool false, .slice none 0 0] 53)) := (Nw.refl w).alloc _
 have sg0 : Sg [] w.heap.size 2 (w.alloc (.cells #[.bool false, .slice none 0 0] 53)) := ⟨trivial, box_two w 53 false none 0 0, by go_simp⟩
 have SG := Lib.hid sg0
 clear sg0
 by_cases hneg : x < 0
 ·have hwx : IntKind.u64.wrap (-IntKind.u64.wrap x) = -x := by simp only [IntKind.wrap_u64]; omega
  have r0 := Lib.hid (⟨by omega, rfl, dg_nil _, by omega, by rw [show (65536 : Int) ^ (4 - 0) = 18446744073709551616 by decide]; omega, by simp [lv]⟩ : RnAt (-x) 0 [] (-x))
  go_enter Tryd.func21, Tryd.ntmps21
  go_wp2
  go_loopw [3, 4] (fun uv ov wr => ∃ (k : Nat) (zs : List Int) (u : Int), uv = .int .u64 u ∧ Own wr (w.heap.size + 1) 3 .i64 ov zs ∧ RnAt (-x) k zs u ∧ Nw (w.alloc (.cells #[.bool false, .slice none 0 0] 53)) wr)
   (fun uv _ _ => (intOf uv).toNat)
  case atStart => exact ⟨0, [], _, rfl, Own.nil _ _ _ _, r0.out, Nw.refl _⟩
  case round =>
   obtain ⟨k, zs, u, rfl, ho, hr, hn⟩ := hrel
   have hu0 := hr.u0
   have hu1 : u < 18446744073709551616 := by
    have h1 := hr.u1
    have h2 := pow_le (b := 65536) (by decide) (show 4 - k ≤ 4 by omega)
    have : (65536 : Int) ^ 4 = 18446744073709551616 := by decide
    omega
   by_cases hu : 0 < u
   ·have HST := Lib.hid (hr.step hu)
    have hk := hr.lt hu
    have hlen := hr.len
    clear hr
    go_wp2_with (at_builtin; refine wpList_append_own _ rfl (.tmp 13) (.tmp 17) 51 rfl (w.heap.size + 1) 3 i0 (.int .i64 0) 1 8 Tryd.underlying51 hi hz0 hz1 hz2 rfl (by decide) _ _ _ rfl (ho.alloc _) ⟨wr.heap.size, 0, none⟩ 1 1 [.int .i64 (u % 65536)] rfl rfl ?c1 ?c2 ?c3 ?c4 ?c5 ?_)
    case c1 => intro j u hu; exact cell_one_new _ _ _ j u hu
    case c2 => simp [Value.oneCell']
    case c3 => unfold maxLen; omega
    case c4 => omega
    case c5 => have := hn.size; simp at this ⊢; omega
    intro v1 w4 hown1 hgrow1 _
    have n4 := hn.grew ho hgrow1 (by simp)
    go_wp2
    go_roundw
    case rel => exact ⟨k + 1, _, _, rfl, Own.cast hown1 (by simp [hlen]) (by simp), HST.out, n4⟩
    case measure => simp [intOf]; omega
   ·have hz : u = 0 := by omega
    subst hz
    have he := hr.eq
    have dz := hr.dg
    rw [Int.mul_zero, Int.add_zero] at he
    have HE := Lib.hid he
    obtain ⟨Az, cz, rfl, hcz, rz⟩ := ho.rd
    clear hr he ho
    go_wp2_with (go_at_call 49; refine (rmade_c rfl rz hcz dz).mono ?_; rintro e w2 ⟨_, rfl, ⟨m, D, l2, c2, rfl, hi⟩, hb2⟩; have b2 := ((SG.out.nw hn).nw hb2).2.1; obtain ⟨⟨v0, hv0, hn0⟩, hf0⟩ := b2 0 (by omega); obtain ⟨⟨v1, hv1, hn1⟩, hf1⟩ := b2 1 (by omega))
    have hi' := hi.eq (z' := x) (by rw [HE.out]; simp [sg] <;> omega)
    exact bodyPost_ret (v := .agg #[.bool m, .slice D l2 c2]) (by simp [results, Tryd.results21, go_sem, hv0, hv1]) rfl (Ret.J (hi'.kept (store_J b2 hi').1.2.1) (((nw1.trans hn).trans hb2).rr (store_J b2 hi').1 (Nat.le_refl _)))
 ·have r0 := Lib.hid (⟨by omega, rfl, dg_nil _, by omega, by rw [show (65536 : Int) ^ (4 - 0) = 18446744073709551616 by decide]; omega, by simp [lv]⟩ : RnAt x 0 [] x)
  go_enter Tryd.func21, Tryd.ntmps21
  go_wp2
  go_loopw [3, 4] (fun uv ov wr => ∃ (k : Nat) (zs : List Int) (u : Int), uv = .int .u64 u ∧ Own wr (w.heap.size + 1) 3 .i64 ov zs ∧ RnAt x k zs u ∧ Nw (w.alloc (.cells #[.bool false, .slice none 0 0] 53)) wr)
   (fun uv _ _ => (intOf uv).toNat)
  case atStart => exact ⟨0, [], _, rfl, Own.nil _ _ _ _, r0.out, Nw.refl _⟩
  case round =>
   obtain ⟨k, zs, u, rfl, ho, hr, hn⟩ := hrel
   have hu0 := hr.u0
   have hu1 : u < 18446744073709551616 := by
    have h1 := hr.u1
    have h2 := pow_le (b := 65536) (by decide) (show 4 - k ≤ 4 by omega)
    have : (65536 : Int) ^ 4 = 18446744073709551616 := by decide
    omega
   by_cases hu : 0 < u
   ·have HST := Lib.hid (hr.step hu)
    have hk := hr.lt hu
    have hlen := hr.len
    clear hr
    go_wp2_with (at_builtin; refine wpList_append_own _ rfl (.tmp 13) (.tmp 17) 51 rfl (w.heap.size + 1) 3 i0 (.int .i64 0) 1 8 Tryd.underlying51 hi hz0 hz1 hz2 rfl (by decide) _ _ _ rfl (ho.alloc _) ⟨wr.heap.size, 0, none⟩ 1 1 [.int .i64 (u % 65536)] rfl rfl ?c1 ?c2 ?c3 ?c4 ?c5 ?_)
    case c1 => intro j u hu; exact cell_one_new _ _ _ j u hu
    case c2 => simp [Value.oneCell']
    case c3 => unfold maxLen; omega
    case c4 => omega
    case c5 => have := hn.size; simp at this ⊢; omega
    intro v1 w4 hown1 hgrow1 _
    have n4 := hn.grew ho hgrow1 (by simp)
    go_wp2
    go_roundw
    case rel => exact ⟨k + 1, _, _, rfl, Own.cast hown1 (by simp [hlen]) (by simp), HST.out, n4⟩
    case measure => simp [intOf]; omega
   ·have hz : u = 0 := by omega
    subst hz
    have he := hr.eq
    have dz := hr.dg
    rw [Int.mul_zero, Int.add_zero] at he
    have HE := Lib.hid he
    obtain ⟨Az, cz, rfl, hcz, rz⟩ := ho.rd
    clear hr he ho
    go_wp2_with (go_at_call 49; refine (rmade_c rfl rz hcz dz).mono ?_; rintro e w2 ⟨_, rfl, ⟨m, D, l2, c2, rfl, hi⟩, hb2⟩; have b2 := ((SG.out.nw hn).nw hb2).2.1; obtain ⟨⟨v0, hv0, hn0⟩, hf0⟩ := b2 0 (by omega); obtain ⟨⟨v1, hv1, hn1⟩, hf1⟩ := b2 1 (by omega))
    have hi' := hi.eq (z' := x) (by rw [HE.out]; simp [sg] <;> omega)
    exact bodyPost_ret (v := .agg #[.bool m, .slice D l2 c2]) (by simp [results, Tryd.results21, go_sem, hv0, hv1]) rfl (Ret.J (hi'.kept (store_J b2 hi').1.2.1) (((nw1.trans hn).trans hb2).rr (store_J b2 hi').1 (Nat.le_refl _)))
end Go.Proofs.YthpjmhhfcechmaaDoor
/- The contracts of the reference's Limbs, of the law's Is. -/
namespace Go.Proofs.YthpjmhhfcechmaaDoor
open Go.RowKit Ma

structure LbAt (ds : List Int) (k : Nat) (zs : List Int) : Prop where
 len : zs.length = k
 le : 2 * k ≤ ds.length + 1
 dg : dg b32 zs
 eq : lv b32 zs = lv b16 (ds.take (2 * k))
theorem LbAt.start (ds : List Int) : LbAt ds 0 [] := ⟨rfl, by omega, dg_nil _, by simp [lv]⟩
theorem pow_b (k : Nat) : b32 ^ k = b16 ^ (2 * k) := by rw [Int.pow_mul]; rfl
theorem LbAt.two {ds : List Int} {k : Nat} {zs : List Int} (h : LbAt ds k zs) (d : Ma.dg b16 ds) (hk : 2 * k + 1 < ds.length) : LbAt ds (k + 1) (zs ++ [at0 ds (2 * k) + at0 ds (2 * k + 1) * 65536]) := by
 obtain ⟨h1, h2, h3, h4⟩ := h
 have a := dg_at d (by decide) (2 * k)
 have b := dg_at d (by decide) (2 * k + 1)
 rw [b16_eq] at a b
 refine ⟨by simp [h1], by omega, dg_append.2 ⟨h3, fun x hx => by rw [List.mem_singleton] at hx; rw [hx, b32_eq]; omega⟩, ?_⟩
 rw [lv_snoc, h4, h1, show 2 * (k + 1) = 2 * k + 1 + 1 by omega, lv_take_succ _ _ _ hk, lv_take_succ _ _ _ (by omega), pow_b, Int.pow_succ, b16_eq]
 grind
theorem LbAt.one {ds : List Int} {k : Nat} {zs : List Int} (h : LbAt ds k zs) (d : Ma.dg b16 ds) (hk : 2 * k + 1 = ds.length) : LbAt ds (k + 1) (zs ++ [at0 ds (2 * k)]) := by
 obtain ⟨h1, h2, h3, h4⟩ := h
 have a := dg_at d (by decide) (2 * k)
 rw [b16_eq] at a
 refine ⟨by simp [h1], by omega, dg_append.2 ⟨h3, fun x hx => by rw [List.mem_singleton] at hx; rw [hx, b32_eq]; omega⟩, ?_⟩
 rw [lv_snoc, h4, h1, List.take_of_length_le (show ds.length ≤ 2 * (k + 1) by omega), pow_b]
 have e := lv_take_succ b16 ds (2 * k) (by omega)
 rw [hk, List.take_length] at e
 rw [e]
theorem LbAt.done {ds : List Int} {k : Nat} {zs : List Int} (h : LbAt ds k zs) (d : Ma.dg b16 ds) (t : Ma.top ds) (hk : ds.length ≤ 2 * k) : Ma.dg b32 zs ∧ Ma.top zs ∧ lv b32 zs = lv b16 ds := by
 obtain ⟨h1, h2, h3, h4⟩ := h
 rw [List.take_of_length_le hk] at h4
 refine ⟨h3, ?_, h4⟩
 by_cases hne : zs = []
 ·subst hne; exact top_nil
 ·rw [top_at hne]
  intro hz
  have hl : 0 < zs.length := List.length_pos_iff.2 hne
  have hd : ds ≠ [] := by intro e; subst e; simp at h2; omega
  have e := lv_take_succ b32 zs (zs.length - 1) (by omega)
  rw [Nat.sub_add_cancel hl, List.take_length, hz, Int.mul_zero, Int.add_zero] at e
  have l1 := lv_lt (show (0 : Int) < b32 by decide) (dg_take h3 (zs.length - 1))
  rw [List.length_take, Nat.min_eq_left (by omega), pow_b] at l1
  have l2 := top_le (show (0 : Int) < b16 by decide) d t hd
  have l3 := pow_le (b := b16) (by decide) (show 2 * (zs.length - 1) ≤ ds.length - 1 by omega)
  omega
set_option maxHeartbeats 1600000 in
set_option maxRecDepth 100000 in
theorem rlimbs_c {n : Bool} {A : Option Addr} {l c : Nat} {z : Int} {w : World} (hx : RJ w n A l c z) (hl : l ≤ 2000000) :
  Calls Tryd.prog 48 #[.agg #[.bool n, .slice A l c]] w (Ret w (KL .u32 fun zs => Num b32 n zs z)) := by
 obtain ⟨ds, rfl, hc, rA, dd, td, nd, ez⟩ := hx
 obtain ⟨i0, hi, hz0, hz1, hz2⟩ := info_parts info_u32
 have nw1 : Nw w (w.alloc (.cells #[.bool n, .slice A ds.length c] 53)) := (Nw.refl w).alloc _
 have q0 : Has [(w.heap.size, 1, Value.slice A ds.length c)] (w.alloc (.cells #[.bool n, .slice A ds.length c] 53)) := ⟨by go_simp, trivial⟩
 have RA := Lib.hid (rA.kept nw1.kept)
 have Q0 := Lib.hid q0
 have EZ := Lib.hid ez
 clear rA q0 ez
 go_enter Tryd.func48, Tryd.ntmps48
 go_wp2
 go_loopw [3, 4] (fun ov iv wr => ∃ (k : Nat) (zs : List Int), iv = .int .i64 ((2 * k : Nat) : Int) ∧ Own wr (w.heap.size + 1) 56 .u32 ov zs ∧ LbAt ds k zs ∧ Nw (w.alloc (.cells #[.bool n, .slice A ds.length c] 53)) wr)
  (fun _ iv _ => ds.length + 2 - (intOf iv).toNat)
 case atStart => exact ⟨0, [], rfl, Own.nil _ _ _ _, LbAt.start ds, Nw.refl _⟩
 case round =>
  obtain ⟨k, zs, rfl, ho, hb, hn⟩ := hrel
  obtain ⟨q1, _⟩ := Q0.out.nw hn
  have hlen := hb.len
  have hle := hb.le
  obtain ⟨j, hj⟩ : ∃ j, j = 2 * k := ⟨_, rfl⟩
  rw [← hj]
  by_cases h0 : j < ds.length
  ·obtain ⟨ad, hA, hcell⟩ := (RA.out.kept hn.kept).2 j h0
   subst hA
   have a0 := dg_at dd (by decide) j
   rw [b16_eq] at a0
   obtain ⟨a1, a2⟩ := a0
   have hb0 := Lib.hid hb
   have hjz : zs.length * 2 = j := by omega
   have HJ := Lib.hid hj
   have HLN := Lib.hid hlen
   have hsz := hn.size
   by_cases h1 : j + 1 < ds.length
   ·obtain ⟨ad', hA', hcell'⟩ := (RA.out.kept hn.kept).2 (j + 1) h1
    injection hA' with hA'
    subst hA'
    rw [Addr.add_succ'] at hcell'
    have b0 := dg_at dd (by decide) (j + 1)
    rw [b16_eq] at b0
    obtain ⟨b1, b2⟩ := b0
    have h2 : (j : Int) + 1 < (ds.length : Int) := by omega
    have HT := Lib.hid (hb.two dd (by omega))
    rw [← hj] at HT
    clear hb hj hlen hle
    go_wp2_with (at_builtin; refine wpList_append_own _ rfl (.tmp 35) (.tmp 37) 22 rfl (w.heap.size + 1) 56 i0 (.int .u32 0) 1 4 Tryd.underlying22 hi hz0 hz1 hz2 rfl (by decide) _ _ _ rfl (ho.alloc _) ⟨wr.heap.size, 0, none⟩ 1 1 [.int .u32 (at0 ds j + at0 ds (j + 1) * 65536)] rfl rfl ?c1 ?c2 ?c3 ?c4 ?c5 ?_)
    case c1 => intro j u hu; exact cell_one_new _ _ _ j u hu
    case c2 => simp [Value.oneCell']
    case c3 => unfold maxLen; omega
    case c4 => omega
    case c5 => simp at hsz ⊢; omega
    intro v1 w4 hown1 hgrow1 _
    have n4 := hn.grew ho hgrow1 (by simp)
    go_wp2
    exact ⟨⟨k + 1, _, by apply congrArg (Value.int IntKind.i64); have := HJ.out; omega, Own.cast hown1 (by simp) (by simp), HT.out, n4⟩, by simp [intOf]; omega⟩
   ·have h2 : ¬ (j : Int) + 1 < (ds.length : Int) := by omega
    have HT := Lib.hid (hb.one dd (by omega))
    rw [← hj] at HT
    clear hb hj hlen hle
    go_wp2_with (at_builtin; refine wpList_append_own _ rfl (.tmp 35) (.tmp 37) 22 rfl (w.heap.size + 1) 56 i0 (.int .u32 0) 1 4 Tryd.underlying22 hi hz0 hz1 hz2 rfl (by decide) _ _ _ rfl (ho.alloc _) ⟨wr.heap.size, 0, none⟩ 1 1 [.int .u32 (at0 ds j)] rfl rfl ?c1 ?c2 ?c3 ?c4 ?c5 ?_)
    case c2 => simp [Value.oneCell']
    case c3 => unfold maxLen; omega
    case c4 => omega
    case c5 => simp at hsz ⊢; omega
    intro v1 w4 hown1 hgrow1 _
    have n4 := hn.grew ho hgrow1 (by simp)
    go_wp2
    exact ⟨⟨k + 1, _, by apply congrArg (Value.int IntKind.i64); have := HJ.out; omega, Own.cast hown1 (by simp) (by simp), HT.out, n4⟩, by simp [intOf]; omega⟩
  ·have hd := hb.done dd td (by omega)
   have HD := Lib.hid hd
   have hnn : n = true → zs ≠ [] := by
    intro e e2; subst e2
    have h3 := nd e
    have := top_le (show (0 : Int) < b16 by decide) dd td h3
    have := pos_pow (show (0 : Int) < b16 by decide) (ds.length - 1)
    have h4 := hd.2.2
    simp [lv] at h4
    omega
   clear hd hb hj hlen hle
   go_wp2
   go_ret
   exact Ret.own ho ⟨HD.out.1, HD.out.2.1, hnn, by rw [EZ.out, HD.out.2.2]⟩ (nw1.trans hn)
end Go.Proofs.YthpjmhhfcechmaaDoor
/- The contracts of the law's Is (of equal numbers), of same. -/
namespace Go.Proofs.YthpjmhhfcechmaaDoor
open Go.RowKit Ma

theorem num_inj {b : Int} (hb : 1 < b) {n m : Bool} {xs ys : List Int} {z : Int} (hx : Num b n xs z) (hy : Num b m ys z) : n = m ∧ xs = ys := by
 obtain ⟨dx, tx, nx, ex⟩ := hx
 obtain ⟨dy, ty, ny, ey⟩ := hy
 have px := lv_nonneg (b := b) (by omega) dx
 have py := lv_nonneg (b := b) (by omega) dy
 have qx : n = true → 0 < lv b xs := fun h => Int.lt_of_lt_of_le (pos_pow (by omega) _) (top_le (b := b) (by omega) dx tx (nx h))
 have qy : m = true → 0 < lv b ys := fun h => Int.lt_of_lt_of_le (pos_pow (by omega) _) (top_le (b := b) (by omega) dy ty (ny h))
 have e : sg n (lv b xs) = sg m (lv b ys) := ex.symm.trans ey
 cases n <;> cases m <;> simp only [sg, if_true, if_false, Bool.false_eq_true, forall_const, true_implies] at e qx qy
 ·exact ⟨rfl, lv_inj hb dx dy tx ty e⟩
 ·omega
 ·omega
 ·exact ⟨rfl, lv_inj hb dx dy tx ty (by omega)⟩
theorem equal_l {A B : Option Addr} {l l' c d : Nat} {xs ys : List Int} {w : World} (e1 : l = xs.length) (e2 : l' = ys.length) (rA : Rd w .u32 A xs) (rB : Rd w .u32 B ys) (e : xs = ys) :
  Calls Tryd.prog 47 #[.slice A l c, .slice B l' d] w (Ret w (KV (.bool true))) := by
 subst e1 e2
 have := equal_c A B c d xs ys w rA rB
 rwa [decide_eq_true e] at this
set_option maxHeartbeats 1600000 in
set_option maxRecDepth 100000 in
theorem is_c {x y : Int} {n m : Bool} {A B : Option Addr} {l l' c d : Nat} {w : World} (hx : RI w n A l c x) (hy : RJ w m B l' d y) (e : x = y) (hl : l ≤ 1000000) (hl' : l' ≤ 2000000) :
  Calls Tryd.prog 20 #[.agg #[.bool n, .slice A l c], .agg #[.bool m, .slice B l' d]] w (Ret w (KV (.bool true))) := by
 subst e
 have nw1 : Nw w ((w.alloc (.cells #[.bool n, .slice A l c] 28)).alloc (.cells #[.bool m, .slice B l' d] 53)) := ((Nw.refl w).alloc _).alloc _
 have hc0 : Has [(w.heap.size + 1, 0, Value.bool m), (w.heap.size + 1, 1, Value.slice B l' d)] ((w.alloc (.cells #[.bool n, .slice A l c] 28)).alloc (.cells #[.bool m, .slice B l' d] 53)) := ⟨by go_simp, by go_simp, trivial⟩
 have HC := Lib.hid hc0
 have HX := Lib.hid hx
 have HY := Lib.hid hy
 have hnm : n = m := by
  obtain ⟨xs, _, _, _, nx⟩ := hx
  obtain ⟨ys, _, _, _, ny⟩ := hy
  have px := nx
  cases n <;> cases m
  ·rfl
  ·exfalso
   have h1 := lv_nonneg (b := b32) (by decide) nx.1
   have h2 := Int.lt_of_lt_of_le (pos_pow (b := b16) (by decide) _) (top_le (b := b16) (by decide) ny.1 ny.2.1 (ny.2.2.1 rfl))
   have e1 := nx.2.2.2
   have e2 := ny.2.2.2
   simp only [sg, if_true, if_false, Bool.false_eq_true] at e1 e2
   omega
  ·exfalso
   have h1 := lv_nonneg (b := b16) (by decide) ny.1
   have h2 := Int.lt_of_lt_of_le (pos_pow (b := b32) (by decide) _) (top_le (b := b32) (by decide) nx.1 nx.2.1 (nx.2.2.1 rfl))
   have e1 := nx.2.2.2
   have e2 := ny.2.2.2
   simp only [sg, if_true, if_false, Bool.false_eq_true] at e1 e2
   omega
  ·rfl
 subst hnm
 clear hx hy hc0
 go_enter Tryd.func20, Tryd.ntmps20
 go_wp2_with (first
  | (go_at_call 46; refine (limbs_c (HX.out.kept nw1.kept) hl).mono ?_; rintro e w1 ⟨_, rfl, ⟨_, _, rfl, rfl, ⟨zs, C, cc, rfl, hcc, rC, nC⟩⟩, hb1⟩; obtain ⟨q1, q2, _⟩ := HC.out.nw hb1)
  | (go_at_call 48; refine (rlimbs_c ((HY.out.kept nw1.kept).kept hb1.kept) hl').mono ?_; rintro e w2 ⟨_, rfl, ⟨us, D, cd, rfl, hcd, rD, nD⟩, hb2⟩)
  | (go_at_call 47; refine (equal_l rfl rfl (rC.kept hb2.kept) rD (num_inj (by decide) nC nD).2).mono ?_; rintro e w3 ⟨_, rfl, rfl, hb3⟩))
 go_ret
 exact Ret.V (((nw1.trans hb1).trans hb2).trans hb3)
theorem cmp_self (x : Int) : cmp x x = 0 := by unfold cmp; rw [if_neg (by omega), if_pos rfl]
set_option maxHeartbeats 1600000 in
set_option maxRecDepth 100000 in
theorem same_c {x y : Int} {n m : Bool} {A B : Option Addr} {l l' c d : Nat} {w : World} (hx : RI w n A l c x) (hy : RI w m B l' d y) (e : x = y) :
  Calls Tryd.prog 13 #[.agg #[.bool n, .slice A l c], .agg #[.bool m, .slice B l' d]] w (Ret w (KV (.bool true))) := by
 subst e
 have nw1 : Nw w ((w.alloc (.cells #[.bool n, .slice A l c] 28)).alloc (.cells #[.bool m, .slice B l' d] 28)) := ((Nw.refl w).alloc _).alloc _
 have HX := Lib.hid hx
 have HY := Lib.hid hy
 clear hx hy
 go_enter Tryd.func13, Tryd.ntmps13
 go_wp2_with (go_at_call 37; refine (cmp_c (HX.out.kept nw1.kept) (HY.out.kept nw1.kept)).mono ?_; rintro e w1 ⟨_, rfl, rfl, hb1⟩; rw [cmp_self])
 go_ret
 exact Ret.V (nw1.trans hb1)
end Go.Proofs.YthpjmhhfcechmaaDoor
/- The contract of the law's Short: a closure handed to slices.ContainsFunc; made. -/
namespace Go.Proofs.YthpjmhhfcechmaaDoor
open Go.RowKit Ma

abbrev Nn := Bool × Option Addr × Nat × Nat
def Ns (w : World) (b : Nat) (ns : List Nn) : Prop := ∀ i n A l c, ns[i]? = some (n, A, l, c) → w.cell? ⟨b, i * 2, none⟩ = some (.bool n) ∧ w.cell? ⟨b, i * 2 + 1, none⟩ = some (.slice A l c)
theorem Ns.nw {w W : World} {b : Nat} {ns : List Nn} (h : Ns w b ns) (k : Nw w W) : Ns W b ns := fun i n A l c e => ⟨k.c (h i n A l c e).1, k.c (h i n A l c e).2⟩
def shB (most : Nat) (ns : List Nn) : Bool := ns.all fun x => decide (x.2.2.1 ≤ most)
def KIx (b : Bool) : Rg.Know := fun v _ => ∃ r : Int, v = .int .i64 r ∧ (if b = true then r < 0 else 0 ≤ r)
set_option maxHeartbeats 1600000 in
set_option maxRecDepth 100000 in
theorem short1_c {n : Bool} {A : Option Addr} {l c p most : Nat} {w : World} (hc : w.cell? ⟨p, 0, none⟩ = some (.int .i64 most)) (hl : l ≤ 9223372036854775807) :
  Calls Tryd.prog 16 #[.agg #[.bool n, .slice A l c], .pointer (some ⟨p, 0, none⟩)] w (Ret w (KV (.bool (decide (most < l))))) := by
 have hc2 := (Nw.refl w).alloc (.cells #[.bool n, .slice A l c] 24) |>.c hc
 go_enter Tryd.func16, Tryd.ntmps16
 go_wp2
 go_ret
 exact Ret.Veq (by simp) ((Nw.refl w).alloc _)
set_option maxHeartbeats 1600000 in
set_option maxRecDepth 100000 in
theorem shortx_c {b c p most : Nat} {ns : List Nn} {w : World} (hc : w.cell? ⟨p, 0, none⟩ = some (.int .i64 most)) (hn : Ns w b ns) (hm : most ≤ 1000) (hl : ns.length ≤ 1000) (hL : ∀ x ∈ ns, x.2.2.1 ≤ 9223372036854775807) :
  Calls Tryd.prog 39 #[.slice (some ⟨b, 0, none⟩) ns.length c, .func (.func 16) #[] #[.pointer (some ⟨p, 0, none⟩)]] w (Ret w (KIx (shB most ns))) := by
 have HN := Lib.hid hn
 have HL := Lib.hid hL
 clear hn hL
 go_enter Tryd.func39, Tryd.ntmps39
 go_wp2
 go_loopw [5, 8] (fun _ ci wr => ∃ k : Nat, ci = .int .i64 k ∧ k ≤ ns.length ∧ shB most (ns.take k) = true ∧ Nw w wr)
  (fun _ ci _ => ns.length - (intOf ci).toNat)
 case atStart => exact ⟨0, rfl, by omega, rfl, Nw.refl w⟩
 case round =>
  obtain ⟨k, rfl, hk, hs, hn⟩ := hrel
  have HS := Lib.hid hs
  clear hs
  have hc2 := hn.c hc
  by_cases hlt : k < ns.length
  ·obtain ⟨⟨n, A, l, cc⟩, he⟩ : ∃ x, ns[k]? = some x := ⟨_, List.getElem?_eq_getElem hlt⟩
   obtain ⟨h1, h2⟩ := (HN.out.nw hn) k n A l cc he
   have hll := HL.out _ (List.mem_of_getElem? he)
   simp only at hll
   have hk0 : (0 : Int) ≤ (k : Int) := by omega
   have hki : (k : Int) < (ns.length : Int) := by omega
   have ht : shB most (ns.take (k + 1)) = (shB most (ns.take k) && decide (l ≤ most)) := by
    unfold shB
    rw [List.take_add_one, he]
    simp
   have HE := Lib.hid he
   have HT := Lib.hid ht
   clear he ht
   by_cases hlm : most < l
   ·have hb : decide (most < l) = true := by simpa using hlm
    go_wp2_with (go_at_call 16; refine (short1_c hc2 hll).mono ?_; rintro e w1 ⟨_, rfl, rfl, hb1⟩)
    go_ret
    have hf : shB most ns = false := by
     unfold shB
     rw [List.all_eq_false]
     exact ⟨_, List.mem_of_getElem? HE.out, by simpa using hlm⟩
    exact ⟨_, rfl, ⟨k, rfl, by rw [hf]; simp⟩, hn.trans hb1⟩
   ·have hb : decide (most < l) = false := by simpa using hlm
    go_wp2_with (go_at_call 16; refine (short1_c hc2 hll).mono ?_; rintro e w1 ⟨_, rfl, rfl, hb1⟩)
    go_roundw
    case rel => exact ⟨k + 1, by go_num, by omega, by rw [HT.out, HS.out]; simp; omega, hn.trans hb1⟩
    case measure => simp [intOf]; omega
  ·have hke : k = ns.length := by omega
   have hf : shB most ns = true := by
    have := HS.out
    rwa [hke, List.take_length] at this
   have HF := Lib.hid hf
   clear hke hf
   go_wp2
   go_ret
   exact ⟨_, rfl, ⟨-1, rfl, by rw [HF.out]; simp⟩, hn⟩
set_option maxHeartbeats 1600000 in
set_option maxRecDepth 100000 in
theorem shortc_c {b c p most : Nat} {ns : List Nn} {w : World} (hc : w.cell? ⟨p, 0, none⟩ = some (.int .i64 most)) (hn : Ns w b ns) (hm : most ≤ 1000) (hl : ns.length ≤ 1000) (hL : ∀ x ∈ ns, x.2.2.1 ≤ 9223372036854775807) :
    Calls Tryd.prog 15 #[.slice (some ⟨b, 0, none⟩) ns.length c, .func (.func 16) #[] #[.pointer (some ⟨p, 0, none⟩)]] w (Ret w (KV (.bool (!shB most ns)))) := by
  have HN := Lib.hid hn
  have HL := Lib.hid hL
  clear hn hL
  by_cases hs : shB most ns = true
  all_goals
    have HS := Lib.hid hs
    clear hs
    go_enter Tryd.func15, Tryd.ntmps15
    go_wp2_with (go_at_call 39; refine (shortx_c hc HN.out hm hl HL.out).mono ?_; rintro e w1 ⟨_, rfl, ⟨r, rfl, hr⟩, hb1⟩)
    go_ret
    have h1 := HS.out
    first
      | (rw [h1] at hr ⊢; exact Ret.Veq (by simp at hr ⊢; omega) hb1)
      | (have h1 : shB most ns = false := by simpa using h1
         rw [h1] at hr ⊢; exact Ret.Veq (by simp at hr ⊢; omega) hb1)
set_option maxHeartbeats 1600000 in
set_option maxRecDepth 100000 in
theorem short_c {b c most : Nat} {ns : List Nn} {w : World} (hn : Ns w b ns) (hm : most ≤ 1000) (hl : ns.length ≤ 1000) (hL : ∀ x ∈ ns, x.2.2.1 ≤ 9223372036854775807) :
  Calls Tryd.prog 4 #[.int .i64 most, .slice (some ⟨b, 0, none⟩) ns.length c] w (Ret w (KV (.bool (shB most ns)))) := by
 have nw1 : Nw w (w.alloc (.cells #[.int .i64 most] 3)) := (Nw.refl w).alloc _
 have hc : (w.alloc (.cells #[.int .i64 most] 3)).cell? ⟨w.heap.size, 0, none⟩ = some (.int .i64 most) := by go_simp
 have HN := Lib.hid (hn.nw nw1)
 have HL := Lib.hid hL
 clear hn hL
 go_enter Tryd.func4, Tryd.ntmps4
 go_wp2_with (go_at_call 15; refine (shortc_c hc HN.out hm hl HL.out).mono ?_; rintro e w1 ⟨_, rfl, rfl, hb1⟩)
 go_ret
 exact Ret.Veq (by simp) (nw1.trans hb1)
end Go.Proofs.YthpjmhhfcechmaaDoor
