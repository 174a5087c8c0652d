/- The contract of the program's Boole: its closure, the walk. -/
import Derived.Test.YtcgkgcciogibkaaB8
import Derived.OpenShut
set_option linter.unusedVariables false
set_option linter.unusedSimpArgs false
namespace Go.Proofs.Ytcgkgcciogibkaa
open Go.RowKit Ma

/-- What the closure of Boole returns. -/
def tq (q a b : Int) : Int := if (bits .and .i64 q 1 == 0) = true then 0 else bits .and .u32 a b
/-- What a round of Boole stores. -/
def bl (op p q : Int) : Int := bits .or .u32 (bits .or .u32 (bits .or .u32 (tq op (bits .xor .u32 IntKind.u32.max p) (bits .xor .u32 IntKind.u32.max q)) (tq (op / 2) (bits .xor .u32 IntKind.u32.max p) q)) (tq (op / 4) p (bits .xor .u32 IntKind.u32.max q))) (tq (op / 8) p q)
set_option maxHeartbeats 800000 in
set_option maxRecDepth 100000 in
theorem term_0 (p : Nat) (op a b : Int) (w : World) (ho : 0 ≤ op) (ho2 : op ≤ 15) (hc : w.cell? ⟨p, 0, none⟩ = some (.int .i64 op)) :
    Calls Try.prog 70 #[.int .i64 0, .int .u32 a, .int .u32 b, .pointer (some ⟨p, 0, none⟩)] w fun e w' => e = .returned (.int .u32 (tq op a b)) ∧ w = w' := by
  by_cases hb : (bits .and .i64 op 1 == 0) = true
  · have ht : tq op a b = 0 := by unfold tq; rw [if_pos hb]
    have HT := Lib.hid ht
    clear ht
    go_enter Try.func70, Try.ntmps70
    go_wp2
    go_ret
    exact ⟨ret_val (by rw [HT.out]; rfl), rfl⟩
  · have ht : tq op a b = bits .and .u32 a b := by unfold tq; rw [if_neg hb]
    have HT := Lib.hid ht
    have hb : (bits .and .i64 op 1 == 0) = false := by simpa using hb
    clear ht
    go_enter Try.func70, Try.ntmps70
    go_wp2
    go_ret
    exact ⟨ret_val (by rw [HT.out]; rfl), rfl⟩
set_option maxHeartbeats 800000 in
set_option maxRecDepth 100000 in
theorem term_1 (p : Nat) (op a b : Int) (w : World) (ho : 0 ≤ op) (ho2 : op ≤ 15) (hc : w.cell? ⟨p, 0, none⟩ = some (.int .i64 op)) :
    Calls Try.prog 70 #[.int .i64 1, .int .u32 a, .int .u32 b, .pointer (some ⟨p, 0, none⟩)] w fun e w' => e = .returned (.int .u32 (tq (op / 2) a b)) ∧ w = w' := by
  by_cases hb : (bits .and .i64 (op / 2) 1 == 0) = true
  · have ht : tq (op / 2) a b = 0 := by unfold tq; rw [if_pos hb]
    have HT := Lib.hid ht
    clear ht
    go_enter Try.func70, Try.ntmps70
    go_wp2
    go_ret
    exact ⟨ret_val (by rw [HT.out]; rfl), rfl⟩
  · have ht : tq (op / 2) a b = bits .and .u32 a b := by unfold tq; rw [if_neg hb]
    have HT := Lib.hid ht
    have hb : (bits .and .i64 (op / 2) 1 == 0) = false := by simpa using hb
    clear ht
    go_enter Try.func70, Try.ntmps70
    go_wp2
    go_ret
    exact ⟨ret_val (by rw [HT.out]; rfl), rfl⟩
set_option maxHeartbeats 800000 in
set_option maxRecDepth 100000 in
theorem term_2 (p : Nat) (op a b : Int) (w : World) (ho : 0 ≤ op) (ho2 : op ≤ 15) (hc : w.cell? ⟨p, 0, none⟩ = some (.int .i64 op)) :
    Calls Try.prog 70 #[.int .i64 2, .int .u32 a, .int .u32 b, .pointer (some ⟨p, 0, none⟩)] w fun e w' => e = .returned (.int .u32 (tq (op / 4) a b)) ∧ w = w' := by
  by_cases hb : (bits .and .i64 (op / 4) 1 == 0) = true
  · have ht : tq (op / 4) a b = 0 := by unfold tq; rw [if_pos hb]
    have HT := Lib.hid ht
    clear ht
    go_enter Try.func70, Try.ntmps70
    go_wp2
    go_ret
    exact ⟨ret_val (by rw [HT.out]; rfl), rfl⟩
  · have ht : tq (op / 4) a b = bits .and .u32 a b := by unfold tq; rw [if_neg hb]
    have HT := Lib.hid ht
    have hb : (bits .and .i64 (op / 4) 1 == 0) = false := by simpa using hb
    clear ht
    go_enter Try.func70, Try.ntmps70
    go_wp2
    go_ret
    exact ⟨ret_val (by rw [HT.out]; rfl), rfl⟩
set_option maxHeartbeats 800000 in
set_option maxRecDepth 100000 in
theorem term_3 (p : Nat) (op a b : Int) (w : World) (ho : 0 ≤ op) (ho2 : op ≤ 15) (hc : w.cell? ⟨p, 0, none⟩ = some (.int .i64 op)) :
    Calls Try.prog 70 #[.int .i64 3, .int .u32 a, .int .u32 b, .pointer (some ⟨p, 0, none⟩)] w fun e w' => e = .returned (.int .u32 (tq (op / 8) a b)) ∧ w = w' := by
  by_cases hb : (bits .and .i64 (op / 8) 1 == 0) = true
  · have ht : tq (op / 8) a b = 0 := by unfold tq; rw [if_pos hb]
    have HT := Lib.hid ht
    clear ht
    go_enter Try.func70, Try.ntmps70
    go_wp2
    go_ret
    exact ⟨ret_val (by rw [HT.out]; rfl), rfl⟩
  · have ht : tq (op / 8) a b = bits .and .u32 a b := by unfold tq; rw [if_neg hb]
    have HT := Lib.hid ht
    have hb : (bits .and .i64 (op / 8) 1 == 0) = false := by simpa using hb
    clear ht
    go_enter Try.func70, Try.ntmps70
    go_wp2
    go_ret
    exact ⟨ret_val (by rw [HT.out]; rfl), rfl⟩

theorem ret_O {P : Program} {f : FuncId} {args : Array Value} {w : World} {e : TypeId} {k : IntKind} {p : List Int → Prop} {b b' : Nat} (h : Calls P f args w (Ret w (KO b e k p))) (hb : b' ≤ b) : Calls P f args w (Ret w (KO b' e k p)) :=
  h.mono fun _ _ ⟨v, e1, ⟨zs, g, c, e2, ho, hp⟩, hn⟩ => ⟨v, e1, ⟨zs, g, c, e2, row_base ho hb, hp⟩, hn⟩

theorem u32_bd (o : BinOp) (x y : Int) : 0 ≤ bits o .u32 x y ∧ bits o .u32 x y < 4294967296 := by
  have h := wf_bits o .u32 x y
  simp only [Lit.wf, Bool.and_eq_true, decide_eq_true_eq] at h
  have hm : IntKind.u32.max = 4294967295 := by simp [IntKind.max, IntKind.bits, IntKind.signed]
  have hn : IntKind.u32.min = 0 := by simp [IntKind.min, IntKind.signed]
  rw [hm, hn] at h
  omega
theorem bl_dg (op p q : Int) : 0 ≤ bl op p q ∧ bl op p q < b32 := u32_bd .or _ _
theorem Own.grew {w : World} {base : Nat} {e : TypeId} {k : IntKind} {g n cap : Nat} {zs : List Int} (h : Own w base e k (.slice (some ⟨g, 0, none⟩) n cap) zs) (hn : n = zs.length) (i : Nat) (x : Value) : w.grownBy (w.setCell ⟨g, i, none⟩ x) (some g) := by
  subst hn; exact (World.ownsRow.stored h i x).2
theorem untwos_l {A : Option Addr} {l c : Nat} {ts : List Int} {w : World} (e : l = ts.length) (rA : Rd w .u32 A ts) (hc : l ≤ c) (d : dg b32 ts) (hl : l ≤ 400000) (h0 : 0 < l) :
    Calls Try.prog 72 #[.slice A l c] w (Ret w (KI (sx l (lv b32 ts)))) := by
  subst e; exact untwos_c rA hc d hl h0
/-- What a round of Boole leaves. -/
structure BoAt (op : Int) (us vs : List Int) (N i : Nat) (zs : List Int) : Prop where
  le : i ≤ N
  len : zs.length = N
  done : ∀ j, j < i → at0 zs j = bl op (at0 us j) (at0 vs j)
  rest : ∀ j, i ≤ j → at0 zs j = at0 us j
theorem BoAt.step {op : Int} {us vs : List Int} {N i : Nat} {zs : List Int} (h : BoAt op us vs N i zs) (hi : i < N) : BoAt op us vs N (i + 1) (zs.set i (bl op (at0 us i) (at0 vs i))) := by
  obtain ⟨h1, h2, h3, h4⟩ := h
  refine ⟨by omega, by simp [h2], fun j hj => ?_, fun j hj => ?_⟩
  · rw [at0_set _ _ _ _ (by omega)]
    by_cases e : j = i
    · rw [if_pos e, e]
    · rw [if_neg e]; exact h3 j (by omega)
  · rw [at0_set _ _ _ _ (by omega), if_neg (by omega)]; exact h4 j (by omega)
set_option maxHeartbeats 6400000 in
set_option maxRecDepth 100000 in
theorem boole_w {x y : Int} {n m : Bool} {A B : Option Addr} {l l' c d : Nat} {w : World} {op : Int} (hx : RI w n A l c x) (hy : RI w m B l' d y) (hl : l ≤ 300000) (hl' : l' ≤ 300000) (ho : 0 ≤ op) (ho2 : op ≤ 15) :
    Calls Try.prog 17 #[.agg #[.bool n, .slice A l c], .int .i64 op, .agg #[.bool m, .slice B l' d]] w (Ret w (K2 (fun v W => ∃ us vs ts N, N = max l l' + 1 ∧ us.length = N ∧ vs.length = N ∧ ts.length = N ∧ dg b32 us ∧ dg b32 vs ∧ dg b32 ts ∧ lv b32 us = x % b32 ^ N ∧ lv b32 vs = y % b32 ^ N ∧ (∀ i, i < N → at0 ts i = bl op (at0 us i) (at0 vs i)) ∧ KI (sx N (lv b32 ts)) v W) (KV (.int .i64 0)))) := by
  have nw1 : Nw w ((((w.alloc (.cells #[.bool n, .slice A l c] 28)).alloc (.cells #[.int .i64 op] 3)).alloc (.cells #[.bool m, .slice B l' d] 28)).alloc (.cells #[.bool false, .slice none 0 0] 28)) := ((((Nw.refl w).alloc _).alloc _).alloc _).alloc _
  have hop15 : ¬ (15 < op) := by omega
  have HX := Lib.hid (hx.kept nw1.kept)
  have HY := Lib.hid (hy.kept nw1.kept)
  clear hx hy
  go_enter Try.func17, Try.ntmps17
  go_wp2
  obtain ⟨N, hN⟩ : ∃ N : Nat, N = max l l' + 1 := ⟨_, rfl⟩
  have eN : (max (l : Int) (l' : Int) + 1) = (N : Int) := by omega
  rw [eN]
  obtain ⟨M, hM⟩ : ∃ M : Int, M = max (l : Int) (l' : Int) := ⟨_, rfl⟩
  rw [← hM]
  obtain ⟨W1, hW1⟩ : ∃ W1, W1 = ((((w.alloc (.cells #[.bool n, .slice A l c] 28)).alloc (.cells #[.int .i64 op] 3)).alloc (.cells #[.bool m, .slice B l' d] 28)).alloc (.cells #[.bool false, .slice none 0 0] 28)) := ⟨_, rfl⟩
  have sg0 : Sg [(w.heap.size, 0, Value.bool n), (w.heap.size, 1, Value.slice A l c), (w.heap.size + 1, 0, Value.int .i64 op), (w.heap.size + 1 + 1, 0, Value.bool m), (w.heap.size + 1 + 1, 1, Value.slice B l' d)] (w.heap.size + 1 + 1 + 1) 2 W1 := by
    rw [hW1]
    refine ⟨⟨by go_simp, by go_simp, by go_simp, by go_simp, by go_simp, trivial⟩, ?_, by go_simp⟩
    have := box_two (((w.alloc (.cells #[.bool n, .slice A l c] 28)).alloc (.cells #[.int .i64 op] 3)).alloc (.cells #[.bool m, .slice B l' d] 28)) 28 false none 0 0
    simpa using this
  have hsz : W1.heap.size = w.heap.size + 1 + 1 + 1 + 1 := by rw [hW1]; go_simp
  rw [← hW1] at nw1 HX HY ⊢
  have hN1 : l ≤ N := by omega
  have hN2 : l' ≤ N := by omega
  have hN3 : 0 < N := by omega
  have hN4 : N ≤ 400000 := by omega
  have HN := Lib.hid hN
  have HS := Lib.hid hsz
  have SG := Lib.hid sg0
  obtain ⟨⟨q1, q2, q3, q4, q5, _⟩, _, _⟩ := sg0
  clear hN eN hM hW1 hsz
  have hd0 : Nw W1 W1.drew := (Nw.refl W1).drew
  have cX : ∀ W, Nw W1 W → Calls Try.prog 71 #[.agg #[.bool n, .slice A l c], .int .i64 N] W (Ret W (KO W.heap.size 92 .u32 fun ts => dg b32 ts ∧ ts.length = N ∧ lv b32 ts = x % b32 ^ N)) := fun W h => twos_c N (HX.out.kept h.kept) (by omega) hN3 (by omega) hN1
  have cY : ∀ W, Nw W1 W → Calls Try.prog 71 #[.agg #[.bool m, .slice B l' d], .int .i64 N] W (Ret W (KO W.heap.size 92 .u32 fun ts => dg b32 ts ∧ ts.length = N ∧ lv b32 ts = y % b32 ^ N)) := fun W h => twos_c N (HY.out.kept h.kept) (by omega) hN3 (by omega) hN2
  go_region_with
    (first
      | (go_at_call 71; (with_reducible show Calls _ _ #[.agg #[.bool n, .slice A l c], _] (World.drew W1) _); refine (cX _ hd0).mono ?_; rintro e wx ⟨_, rfl, ⟨us, gu, cu, rfl, ou, pu⟩, hbx⟩; have nx : Nw W1 wx := hd0.trans hbx; obtain ⟨a1, a2, a3, a4, a5, _⟩ := SG.out.1.nw nx)
      | (go_at_call 71; (with_reducible show Calls _ _ #[.agg #[.bool n, .slice A l c], _] wy _); refine (cX _ ny).mono ?_; rintro e wx ⟨_, rfl, ⟨us, gu, cu, rfl, ou, pu⟩, hbx⟩; have nx : Nw W1 wx := ny.trans hbx; obtain ⟨a1, a2, a3, a4, a5, _⟩ := SG.out.1.nw nx)
      | (go_at_call 71; (with_reducible show Calls _ _ #[.agg #[.bool m, .slice B l' d], _] (World.drew W1) _); refine (cY _ hd0).mono ?_; rintro e wy ⟨_, rfl, ⟨vs, gv, cv, rfl, ov, pv⟩, hby⟩; have ny : Nw W1 wy := hd0.trans hby; obtain ⟨a1, a2, a3, a4, a5, _⟩ := SG.out.1.nw ny)
      | (go_at_call 71; (with_reducible show Calls _ _ #[.agg #[.bool m, .slice B l' d], _] wx _); refine (cY _ nx).mono ?_; rintro e wy ⟨_, rfl, ⟨vs, gv, cv, rfl, ov, pv⟩, hby⟩; have ny : Nw W1 wy := nx.trans hby; obtain ⟨a1, a2, a3, a4, a5, _⟩ := SG.out.1.nw ny))
  all_goals (first
    | (have ou2 := ou.kept hby
       have hne : gu ≠ gv := by have := (World.ownsRow.lt ou gu rfl).2; have := row_ge ov; omega
       have ou3 : Own wy (w.heap.size + 1 + 1 + 1 + 1) 92 .u32 (.slice (some ⟨gu, 0, none⟩) us.length cu) us := row_base ou2 (by have := HS.out; have := hd0.size; omega)
       have ov3 : Own wy (w.heap.size + 1 + 1 + 1 + 1) 92 .u32 (.slice (some ⟨gv, 0, none⟩) vs.length cv) vs := row_base ov (by have := HS.out; have := nx.size; omega)
       have nz := ny
       clear ou ou2 ov hbx hby nx ny a1 a2 a3 a4 a5
       generalize wy = wz at *)
    | (have ov2 := ov.kept hbx
       have hne : gu ≠ gv := by have := (World.ownsRow.lt ov gv rfl).2; have := row_ge ou; omega
       have ov3 : Own wx (w.heap.size + 1 + 1 + 1 + 1) 92 .u32 (.slice (some ⟨gv, 0, none⟩) vs.length cv) vs := row_base ov2 (by have := HS.out; have := hd0.size; omega)
       have ou3 : Own wx (w.heap.size + 1 + 1 + 1 + 1) 92 .u32 (.slice (some ⟨gu, 0, none⟩) us.length cu) us := row_base ou (by have := HS.out; have := ny.size; omega)
       have nz := nx
       clear ou ov2 ov hbx hby nx ny a1 a2 a3 a4 a5
       generalize wx = wz at *))
  all_goals clear cX cY q1 q2 q3 q4 q5 hd0
  all_goals
    obtain ⟨du, lu, eu⟩ := pu
    obtain ⟨dv, lv9, ev⟩ := pv
    have n1 : Nw w wz := nw1.trans nz
    have SGW := Lib.hid (SG.out.nw nz)
    have OU : Own wz (w.heap.size + 1 + 1 + 1 + 1) 92 .u32 (.slice (some ⟨gu, 0, none⟩) N cu) us := by rw [← lu]; exact ou3
    have OV : Own wz (w.heap.size + 1 + 1 + 1 + 1) 92 .u32 (.slice (some ⟨gv, 0, none⟩) N cv) vs := by rw [← lv9]; exact ov3
    have hgu := OU.ge
    have hgv := OV.ge
    have OU := Lib.hid OU
    have OV := Lib.hid OV
    have LU := Lib.hid lu
    have LV9 := Lib.hid lv9
    have EU := Lib.hid eu
    have EV := Lib.hid ev
    clear ou3 ov3 lu lv9 eu ev
    go_wp2
  all_goals
    go_loopw [38] (fun ci wr => ∃ (i : Nat) (zs : List Int), ci = .int .i64 i ∧ Own wr (w.heap.size + 1 + 1 + 1 + 1) 92 .u32 (.slice (some ⟨gu, 0, none⟩) N cu) zs ∧ Own wr (w.heap.size + 1 + 1 + 1 + 1) 92 .u32 (.slice (some ⟨gv, 0, none⟩) N cv) vs ∧ BoAt op us vs N i zs ∧ Nw w wr ∧ Sg [(w.heap.size + 1, 0, Value.int .i64 op)] (w.heap.size + 1 + 1 + 1) 2 wr)
      (fun ci _ => N - (intOf ci).toNat)
    case atStart => exact ⟨0, us, rfl, OU.out, OV.out, ⟨by omega, LU.out, fun j hj => by omega, fun j _ => rfl⟩, n1, ⟨⟨SGW.out.1.2.2.1, trivial⟩, SGW.out.2⟩⟩
    case round =>
      obtain ⟨i, zs, rfl, hu, hv, hb, hn, hs⟩ := hrel
      have hile := hb.le
      by_cases hi : i < N
      · have ca := hu.cellAt (i := i) (by rw [hb.len]; exact hi) hb.len.symm
        rw [hb.rest i (Nat.le_refl _)] at ca
        have fa := hu.frozenAt hb.len.symm i
        have cb := hv.cellAt (i := i) (by rw [LV9.out]; exact hi) LV9.out.symm
        have c3 := hs.1.1
        have HU := Lib.hid hu
        have HV := Lib.hid hv
        have HB := Lib.hid hb
        have HSS := Lib.hid hs
        clear hu hv hb hs
        go_wp2
        go_quiet (fail)
        have c4 : (wr.drewN nq).cell? ⟨w.heap.size + 1, 0, none⟩ = some (.int .i64 op) := c3
        go_wp2_with fail
        refine (term_0 (w.heap.size + 1) op _ _ _ ho ho2 c4).mono ?_
        rintro e w9 ⟨rfl, rfl⟩
        go_wp2_with fail
        refine (term_1 (w.heap.size + 1) op _ _ _ ho ho2 c4).mono ?_
        rintro e w9 ⟨rfl, rfl⟩
        go_wp2_with fail
        refine (term_2 (w.heap.size + 1) op _ _ _ ho ho2 c4).mono ?_
        rintro e w9 ⟨rfl, rfl⟩
        go_wp2_with fail
        refine (term_3 (w.heap.size + 1) op _ _ _ ho ho2 c4).mono ?_
        rintro e w9 ⟨rfl, rfl⟩
        go_wp2
        have HU2 := HU.out.kept ((Nw.refl wr).drewN nq)
        have HV2 := HV.out.kept ((Nw.refl wr).drewN nq)
        have B2 := (HSS.out.2.1.below ((Nw.refl wr).drewN nq))
        exact ⟨⟨i + 1, _, by go_num, HU2.set HB.out.len.symm i _, World.ownsRow.kept HV2 (Own.grew HU2 HB.out.len.symm i _) (.inr (by simp only [Value.ownBlock, ne_eq, Option.some.injEq]; exact fun e => hne e.symm)), HB.out.step hi, (hn.drewN nq).set (by simp; omega) _, ⟨⟨by rw [World.cell?_setCell_other (h := by simp <;> omega)]; exact c4, trivial⟩, B2.cellset (by omega) _, by have := HSS.out.2.2; simp; omega⟩⟩, by simp [intOf]; omega⟩
      · have hie : i = N := by omega
        have hd := hb.done
        rw [hie] at hd
        have hzl := hb.len
        have dz : dg b32 zs := by
          intro z hz
          obtain ⟨j, hj, rfl⟩ := List.getElem_of_mem hz
          rw [← at0_of_lt hj, hd j (by omega)]
          exact bl_dg _ _ _
        have hr := hu.rdg.2.2
        have hcc := hu.rdg.2.1
        have HD := Lib.hid hd
        have HZ := Lib.hid hzl
        have HSS := Lib.hid hs
        clear hu hv hb hs hd hzl hie
        go_wp2_with (go_at_call 72; refine (untwos_l HZ.out.symm hr hcc dz hN4 hN3).mono ?_; rintro e w2 ⟨_, rfl, ⟨m2, D2, l2, c2, rfl, hi2⟩, hb2⟩; have b2 := (HSS.out.nw hb2).2.1; obtain ⟨⟨v0, hv0, hn0⟩, hf0⟩ := b2 0 (by omega); obtain ⟨⟨v1, hv1, hn1⟩, hf1⟩ := b2 1 (by omega))
        exact bodyPost_ret (v := .tuple #[.agg #[.bool m2, .slice D2 l2 c2], .int .i64 0]) (by simp [results, Try.results17, go_sem, hv0, hv1]) rfl ⟨_, rfl, ⟨_, _, rfl, ⟨us, vs, zs, N, HN.out, LU.out, LV9.out, HZ.out, du, dv, dz, EU.out, EV.out, HD.out, ⟨_, _, _, _, rfl, (hi2.kept (store_I b2 hi2).1.2.1)⟩⟩, rfl⟩, ((hn.trans hb2).rr (store_I b2 hi2).1 (by omega))⟩
end Go.Proofs.Ytcgkgcciogibkaa
