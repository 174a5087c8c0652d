/- The contract of the program's twos. -/
import Derived.Test.YtcgkgcciogibkaaB6
import Derived.Test.YtcgkgcciogibkaaMd
set_option linter.unusedVariables false
set_option linter.unusedSimpArgs false
namespace Go.Proofs.Ytcgkgcciogibkaa
open Go.RowKit Ma

/-- What a round of twos leaves: the first i cells are those of ys, flipped or not. -/
structure TwAt (ys : List Int) (m i : Nat) (f : Int → Int) (vs : List Value) : Prop where
  le : i ≤ m
  len : vs.length = m
  done : ∀ j, j < i → vs[j]? = some (.int .u32 (f (at0 ys j)))
  rest : ∀ j, i ≤ j → j < ys.length → vs[j]? = some (.int .u32 (at0 ys j))
theorem TwAt.start {ys : List Int} {m : Nat} {f : Int → Int} {vs : List Value} (hl : vs.length = m) (ht : vs.take ys.length = ys.map (Value.int .u32)) : TwAt ys m 0 f vs :=
  ⟨by omega, hl, fun j hj => by omega, fun j _ hj => by
    have : (vs.take ys.length)[j]? = vs[j]? := by rw [List.getElem?_take, if_pos hj]
    rw [← this, ht, List.getElem?_map, List.getElem?_eq_getElem hj, at0_of_lt hj]; rfl⟩
theorem TwAt.step {ys : List Int} {m i : Nat} {f : Int → Int} {vs : List Value} (h : TwAt ys m i f vs) (hi : i < m) : TwAt ys m (i + 1) f (vs.set i (.int .u32 (f (at0 ys i)))) := by
  obtain ⟨h1, h2, h3, h4⟩ := h
  refine ⟨by omega, by simp [h2], fun j hj => ?_, fun j hj hj2 => ?_⟩
  · by_cases e : j = i
    · subst e; rw [List.getElem?_set_self (by omega)]
    · rw [List.getElem?_set_ne (by omega)]; exact h3 j (by omega)
  · rw [List.getElem?_set_ne (by omega)]; exact h4 j (by omega) hj2
theorem TwAt.step2 {ys : List Int} {m i : Nat} {f : Int → Int} {vs : List Value} (h : TwAt ys m i f vs) (hi : i < m) (u : Value) : TwAt ys m (i + 1) f ((vs.set i u).set i (.int .u32 (f (at0 ys i)))) := by
  rw [List.set_set]; exact h.step hi
theorem TwAt.all {ys : List Int} {m : Nat} {f : Int → Int} {vs : List Value} (h : TwAt ys m m f vs) : vs = ((List.range m).map fun j => f (at0 ys j)).map (Value.int .u32) := by
  apply List.ext_getElem?
  intro j
  by_cases hj : j < m
  · rw [h.done j hj]; simp [hj]
  · rw [List.getElem?_eq_none (by rw [h.len]; omega), List.getElem?_eq_none (by simp; omega)]
theorem lv_range_id (b : Int) (m : Nat) : ∀ ys : List Int, ys.length ≤ m → lv b ((List.range m).map fun j => at0 ys j) = lv b ys := by
  intro ys hl
  have key : ∀ k, k ≤ m → lv b ((List.range k).map fun j => at0 ys j) = lv b (ys.take k) := by
    intro k hk
    induction k with
    | zero => simp [lv]
    | succ k ih =>
      rw [List.range_succ, List.map_append, List.map_singleton, lv_snoc, ih (by omega)]
      simp only [List.length_map, List.length_range]
      by_cases h : k < ys.length
      · rw [lv_take_succ _ _ _ h]
      · rw [at0_ge (by omega), List.take_of_length_le (by omega), List.take_of_length_le (by omega)]; omega
  rw [key m (Nat.le_refl _), List.take_of_length_le hl]
theorem lv_flip (b : Int) (m : Nat) (ys : List Int) : lv b ((List.range m).map fun j => (b - 1) - at0 ys j) = b ^ m - 1 - lv b ((List.range m).map fun j => at0 ys j) := by
  induction m with
  | zero => simp [lv]
  | succ m ih =>
    rw [List.range_succ, List.map_append, List.map_singleton, lv_snoc, List.map_append, List.map_singleton, lv_snoc, ih, Int.pow_succ]
    simp only [List.length_map, List.length_range]
    grind

theorem twos_id {m : Nat} {ys : List Int} (dy : Ma.dg b32 ys) (hl : ys.length ≤ m) :
    Ma.dg b32 ((List.range m).map fun j => bits .xor .u32 (at0 ys j) 0) ∧ ((List.range m).map fun j => bits .xor .u32 (at0 ys j) 0).length = m ∧ lv b32 ((List.range m).map fun j => bits .xor .u32 (at0 ys j) 0) = lv b32 ys % b32 ^ m := by
  have e : ((List.range m).map fun j => bits .xor .u32 (at0 ys j) 0) = (List.range m).map fun j => at0 ys j := by
    apply List.map_congr_left
    intro j _
    exact flip0 _ (by have := dg_at dy (by decide) j; rw [b32_eq] at this; exact this)
  rw [e]
  refine ⟨fun x hx => ?_, by simp, ?_⟩
  · obtain ⟨j, _, rfl⟩ := List.mem_map.1 hx
    exact dg_at dy (by decide) j
  · rw [lv_range_id _ _ _ hl, Int.emod_eq_of_lt (lv_nonneg (by decide) dy) (Int.lt_of_lt_of_le (lv_lt (by decide) dy) (pow_le (by decide) hl))]
theorem twos_flip {m : Nat} {ys : List Int} {x : Int} (dy : Ma.dg b32 ys) (hl : ys.length ≤ m) (hx : lv b32 ys = -1 - x) :
    Ma.dg b32 ((List.range m).map fun j => bits .xor .u32 (at0 ys j) 4294967295) ∧ ((List.range m).map fun j => bits .xor .u32 (at0 ys j) 4294967295).length = m ∧ lv b32 ((List.range m).map fun j => bits .xor .u32 (at0 ys j) 4294967295) = x % b32 ^ m := by
  have e : ((List.range m).map fun j => bits .xor .u32 (at0 ys j) 4294967295) = (List.range m).map fun j => (b32 - 1) - at0 ys j := by
    apply List.map_congr_left
    intro j _
    rw [flip1 _ (by have := dg_at dy (by decide) j; rw [b32_eq] at this; exact this), b32_eq]
    omega
  rw [e]
  refine ⟨fun x hx => ?_, by simp, ?_⟩
  · obtain ⟨j, _, rfl⟩ := List.mem_map.1 hx
    have := dg_at dy (by decide) j
    omega
  · rw [lv_flip, lv_range_id _ _ _ hl, hx]
    have h1 := lv_nonneg (show (0 : Int) < b32 by decide) dy
    have h2 := lv_lt (show (0 : Int) < b32 by decide) dy
    have h3 := pow_le (b := b32) (by decide) hl
    have e2 : x % b32 ^ m = (x + b32 ^ m) % b32 ^ m := by rw [Int.add_emod_right]
    rw [e2, Int.emod_eq_of_lt (by omega) (by omega)]
    omega
theorem row_base {w : World} {b b' : Nat} {e : TypeId} {z : Nat} {v : Value} {n : Nat} {vs : List Value} (h : w.ownsRow b e z v n vs) (hb : b' ≤ b) : w.ownsRow b' e z v n vs := by
  obtain ⟨h1, h2 | ⟨g, cap, cur, hv, hbg, hr⟩⟩ := h
  · exact ⟨h1, .inl h2⟩
  · exact ⟨h1, .inr ⟨g, cap, cur, hv, by omega, hr⟩⟩
theorem row_ge {w : World} {b : Nat} {e : TypeId} {z n cap g : Nat} {vs : List Value} (h : w.ownsRow b e z (.slice (some ⟨g, 0, none⟩) n cap) n vs) : b ≤ g := (World.ownsRow.lt h g rfl).1
set_option maxHeartbeats 1600000 in
set_option maxRecDepth 100000 in
theorem twos_pos {x : Int} {A : Option Addr} {l c : Nat} {w : World} (m : Nat) (hx : RI w false A l c x) (hl : l ≤ 400000) (h0 : 0 < m) (hm : m ≤ 1000000) (hlm : l ≤ m) :
    Calls Try.prog 71 #[.agg #[.bool false, .slice A l c], .int .i64 m] w (Ret w (KO w.heap.size 92 .u32 fun ts => dg b32 ts ∧ ts.length = m ∧ lv b32 ts = x % b32 ^ m)) := by
  obtain ⟨xs, rfl, hc, rA, dx, tx, nx, rfl⟩ := hx
  have nw1 : Nw w ((w.alloc (.cells #[.bool false, .slice A xs.length c] 28)).alloc (.cells #[.bool false, .slice A xs.length c] 28)) := ((Nw.refl w).alloc _).alloc _
  have q0 : Has [(w.heap.size + 1, 1, Value.slice A xs.length c)] ((w.alloc (.cells #[.bool false, .slice A xs.length c] 28)).alloc (.cells #[.bool false, .slice A xs.length c] 28)) := ⟨by go_simp, trivial⟩
  have Q0 := Lib.hid q0
  have RA := Lib.hid (rA.kept nw1.kept)
  clear rA q0
  go_enter Try.func71, Try.ntmps71
  go_wp2_with (first
    | (go_at_call 112; refine (clone_o A c xs _ RA.out (by omega)).mono ?_; rintro e w1 ⟨v1, rfl, o1, hb1⟩)
    | (go_at_call 113; refine (grow_c (n := m) o1 hb1.size h0 hm (by omega) hlm).mono ?_; rintro e w2 ⟨g, cap, vs, rfl, hmc, hc63, ho, ht, hb2⟩; obtain ⟨q1, _⟩ := (Q0.out.nw hb1).nw hb2))
  have ho' := row_base (b' := w.heap.size + 1 + 1) ho (by first | omega | (simp; done))
  have hg := row_ge ho'
  have hts : TwAt xs m 0 (fun a => bits .xor .u32 a 0) vs := TwAt.start (by have := ho.1; simpa using this) ht
  have hn0 : Nw w w2 := (nw1.trans hb1).trans hb2
  clear ho ht
  go_loopw [23] (fun ci wr => ∃ (i : Nat) (us : List Value), ci = .int .i64 i ∧ wr.ownsRow (w.heap.size + 1 + 1) 92 1 (.slice (some ⟨g, 0, none⟩) m cap) m us ∧ TwAt xs m i (fun a => bits .xor .u32 a 0) us ∧ Nw w wr ∧ wr.cell? ⟨w.heap.size + 1, 1, none⟩ = w2.cell? ⟨w.heap.size + 1, 1, none⟩)
    (fun ci _ => m - (intOf ci).toNat)
  case atStart => exact ⟨0, vs, rfl, ho', hts, hn0, rfl⟩
  case round =>
    obtain ⟨i, us, rfl, hu, ht, hn, hq⟩ := hrel
    have hi := ht.le
    have hul := ht.len
    rw [q1] at hq
    clear ho' hts hn0
    by_cases him : i < m
    · have fz := World.ownsRow.frozenAt hu i
      have ce := World.ownsRow.cellAt hu i (by omega)
      have hgne : w.heap.size + 1 ≠ g := by omega
      have HU := Lib.hid hu
      have HST := Lib.hid (ht.step him)
      have HST2 := Lib.hid (ht.step2 him (.int .u32 0))
      by_cases hy : i < xs.length
      · have hrest := ht.rest i (Nat.le_refl _) hy
        rw [hrest] at ce
        clear hrest ht hu
        go_wp2
        exact ⟨⟨i + 1, _, by go_num, (World.ownsRow.stored HU.out i _).1, HST.out, hn.set (by simp; omega) _, by rw [World.cell?_setCell_other (h := by simp <;> omega), hq, q1]⟩, by simp [intOf]; omega⟩
      · have hex : ∃ u0, us[i]? = some u0 := ⟨us[i]'(by omega), List.getElem?_eq_getElem _⟩
        obtain ⟨u0, hu0⟩ := hex
        rw [hu0] at ce
        have hy0 : at0 xs i = 0 := at0_ge (by omega)
        rw [hy0] at HST2
        clear hu0 ht hu hy0
        go_wp2
        exact ⟨⟨i + 1, _, by go_num, (World.ownsRow.stored (World.ownsRow.stored HU.out i _).1 i _).1, HST2.out, (hn.set (by simp; omega) _).set (by simp; omega) _, by rw [World.cell?_setCell_other (h := by simp <;> omega), World.cell?_setCell_other (h := by simp <;> omega), hq, q1]⟩, by simp [intOf]; omega⟩
    · have hie : i = m := by omega
      have hall := (hie ▸ ht : TwAt xs m m (fun a => bits .xor .u32 a 0) us).all
      have HA := Lib.hid hall
      have HU := Lib.hid hu
      clear hall ht hu hie
      go_wp2
      go_ret
      exact ⟨_, rfl, ⟨(List.range m).map fun j => (fun a => bits .xor .u32 a 0) (at0 xs j), g, cap, by simp, row_base (by have := HU.out; rw [HA.out] at this; simpa [Own] using this) (by omega), (by simpa [sg] using twos_id dx hlm)⟩, hn⟩
set_option maxHeartbeats 1600000 in
set_option maxRecDepth 100000 in
theorem twos_neg {x : Int} {A : Option Addr} {l c : Nat} {w : World} (m : Nat) (hx : RI w true A l c x) (hl : l ≤ 400000) (h0 : 0 < m) (hm : m ≤ 1000000) (hlm : l ≤ m) :
    Calls Try.prog 71 #[.agg #[.bool true, .slice A l c], .int .i64 m] w (Ret w (KO w.heap.size 92 .u32 fun ts => dg b32 ts ∧ ts.length = m ∧ lv b32 ts = x % b32 ^ m)) := by
  have hxa := hx.abs_lt
  have hx0 : x < 0 := by
    obtain ⟨xs, _, _, _, d, t, nz, rfl⟩ := hx
    have := top_le (show (0 : Int) < b32 by decide) d t (nz rfl)
    have := pos_pow (show (0 : Int) < b32 by decide) (xs.length - 1)
    simp [sg]; omega
  have nw1 : Nw w ((w.alloc (.cells #[.bool true, .slice A l c] 28)).alloc (.cells #[.bool true, .slice A l c] 28)) := ((Nw.refl w).alloc _).alloc _
  have sg0 : Sg [] (w.heap.size + 1) 2 ((w.alloc (.cells #[.bool true, .slice A l c] 28)).alloc (.cells #[.bool true, .slice A l c] 28)) := by
    refine ⟨trivial, ?_, by go_simp⟩
    have := box_two (w.alloc (.cells #[.bool true, .slice A l c] 28)) 28 true A l c
    simpa using this
  have SG := Lib.hid sg0
  have HX := Lib.hid (hx.kept nw1.kept)
  clear hx sg0
  go_enter Try.func71, Try.ntmps71
  go_wp2_with (go_at_call 110; refine (complement_c HX.out hl).mono ?_; rintro e w0 ⟨_, rfl, ⟨m1, D1, l1, c1, rfl, hi⟩, hb⟩; have b2 := (SG.out.nw hb).2.1; obtain ⟨⟨v0, hv0, hn0⟩, hf0⟩ := b2 0 (by omega); obtain ⟨⟨v1, hv1, hn1⟩, hf1⟩ := b2 1 (by omega))
  have hl1 : l1 ≤ l := hi.len_le l (by omega) (by omega)
  obtain ⟨ys, rfl, hyc, rY, dy, ty, ny, ey⟩ := hi
  have hyn := lv_nonneg (show (0 : Int) < b32 by decide) dy
  have hey : lv b32 ys = -1 - x := by
    cases m1
    · simpa [sg] using ey.symm
    · simp [sg] at ey; omega
  have HEY := Lib.hid hey
  clear hey ey hyn
  obtain ⟨W3, eW3, hR, k0, k1⟩ := store_two (m := m1) (D := D1) (l := ys.length) (c := c1) b2
  rw [eW3]
  have RY := Lib.hid (rY.kept hR.2.1)
  have Q0 := Lib.hid k1
  have nw3 : Nw w W3 := (nw1.trans hb).rr hR (by omega)
  have hsz3 := hR.2.2.1
  have hsz0 := hb.size
  have hszz : w.heap.size + 1 + 1 ≤ W3.heap.size := by simp at hsz0; omega
  clear hv0 hf0 hv1 hf1 hn0 hn1 b2 eW3 rY k0 k1
  go_wp2_with (first
    | (go_at_call 112; refine (clone_o D1 c1 ys _ RY.out (by omega)).mono ?_; rintro e w1 ⟨v1, rfl, o1, hb1⟩)
    | (go_at_call 113; refine (grow_c (n := m) o1 hb1.size h0 hm (by omega) (by omega)).mono ?_; rintro e w2 ⟨g, cap, vs, rfl, hmc, hc63, ho, ht, hb2⟩; have q1 := hb2.c (hb1.c Q0.out)))
  have hly : ys.length ≤ m := by omega
  have ho' := row_base (b' := w.heap.size + 1 + 1) ho (by first | omega | (simp; done))
  have hg := row_ge ho'
  have hts : TwAt ys m 0 (fun a => bits .xor .u32 a 4294967295) vs := TwAt.start (by have := ho.1; simpa using this) ht
  have hn0 : Nw w w2 := (nw3.trans hb1).trans hb2
  clear ho ht
  go_loopw [23] (fun ci wr => ∃ (i : Nat) (us : List Value), ci = .int .i64 i ∧ wr.ownsRow (w.heap.size + 1 + 1) 92 1 (.slice (some ⟨g, 0, none⟩) m cap) m us ∧ TwAt ys m i (fun a => bits .xor .u32 a 4294967295) us ∧ Nw w wr ∧ wr.cell? ⟨w.heap.size + 1, 1, none⟩ = w2.cell? ⟨w.heap.size + 1, 1, none⟩)
    (fun ci _ => m - (intOf ci).toNat)
  case atStart => exact ⟨0, vs, rfl, ho', hts, hn0, rfl⟩
  case round =>
    obtain ⟨i, us, rfl, hu, ht, hn, hq⟩ := hrel
    have hi := ht.le
    have hul := ht.len
    rw [q1] at hq
    clear ho' hts hn0
    by_cases him : i < m
    · have fz := World.ownsRow.frozenAt hu i
      have ce := World.ownsRow.cellAt hu i (by omega)
      have hgne : w.heap.size + 1 ≠ g := by omega
      have HU := Lib.hid hu
      have HST := Lib.hid (ht.step him)
      have HST2 := Lib.hid (ht.step2 him (.int .u32 0))
      by_cases hy : i < ys.length
      · have hrest := ht.rest i (Nat.le_refl _) hy
        rw [hrest] at ce
        clear hrest ht hu
        go_wp2
        exact ⟨⟨i + 1, _, by go_num, (World.ownsRow.stored HU.out i _).1, HST.out, hn.set (by simp; omega) _, by rw [World.cell?_setCell_other (h := by simp <;> omega), hq, q1]⟩, by simp [intOf]; omega⟩
      · have hex : ∃ u0, us[i]? = some u0 := ⟨us[i]'(by omega), List.getElem?_eq_getElem _⟩
        obtain ⟨u0, hu0⟩ := hex
        rw [hu0] at ce
        have hy0 : at0 ys i = 0 := at0_ge (by omega)
        rw [hy0] at HST2
        clear hu0 ht hu hy0
        go_wp2
        exact ⟨⟨i + 1, _, by go_num, (World.ownsRow.stored (World.ownsRow.stored HU.out i _).1 i _).1, HST2.out, (hn.set (by simp; omega) _).set (by simp; omega) _, by rw [World.cell?_setCell_other (h := by simp <;> omega), World.cell?_setCell_other (h := by simp <;> omega), hq, q1]⟩, by simp [intOf]; omega⟩
    · have hie : i = m := by omega
      have hall := (hie ▸ ht : TwAt ys m m (fun a => bits .xor .u32 a 4294967295) us).all
      have HA := Lib.hid hall
      have HU := Lib.hid hu
      clear hall ht hu hie
      go_wp2
      go_ret
      exact ⟨_, rfl, ⟨(List.range m).map fun j => (fun a => bits .xor .u32 a 4294967295) (at0 ys j), g, cap, by simp, row_base (by have := HU.out; rw [HA.out] at this; simpa [Own] using this) (by omega), (twos_flip dy hly HEY.out)⟩, hn⟩
theorem twos_c {x : Int} {n : Bool} {A : Option Addr} {l c : Nat} {w : World} (m : Nat) (hx : RI w n A l c x) (hl : l ≤ 400000) (h0 : 0 < m) (hm : m ≤ 1000000) (hlm : l ≤ m) :
    Calls Try.prog 71 #[.agg #[.bool n, .slice A l c], .int .i64 m] w (Ret w (KO w.heap.size 92 .u32 fun ts => dg b32 ts ∧ ts.length = m ∧ lv b32 ts = x % b32 ^ m)) := by
  cases n
  · exact twos_pos m hx hl h0 hm hlm
  · exact twos_neg m hx hl h0 hm hlm
end Go.Proofs.Ytcgkgcciogibkaa
