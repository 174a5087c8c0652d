/- The contract of the program's untwos. -/
import Derived.Test.YtcgkgcciogibkaaB7
set_option linter.unusedVariables false
set_option linter.unusedSimpArgs false
namespace Go.Proofs.Ytcgkgcciogibkaa
open Go.RowKit Ma

/-- The number of which the two's complement, to m limbs, has the value v. -/
def sx (m : Nat) (v : Int) : Int := if 2 * v < b32 ^ m then v else v - b32 ^ m
theorem half_top {ts : List Int} (d : Ma.dg b32 ts) (h : 0 < ts.length) : (2 * lv b32 ts < b32 ^ ts.length ↔ at0 ts (ts.length - 1) < 2147483648) := by
  have e := lv_take_succ b32 ts (ts.length - 1) (by omega)
  rw [Nat.sub_add_cancel h, List.take_length] at e
  have d2 := dg_take d (ts.length - 1)
  have h1 := lv_nonneg (show (0 : Int) < b32 by decide) d2
  have h2 := lv_lt (show (0 : Int) < b32 by decide) d2
  have hl : (ts.take (ts.length - 1)).length = ts.length - 1 := by simp
  rw [hl] at h2
  have e2 : b32 ^ ts.length = b32 ^ (ts.length - 1) * b32 := by rw [← Int.pow_succ]; congr 1; omega
  have hp := pos_pow (show (0 : Int) < b32 by decide) (ts.length - 1)
  rw [e, e2, b32_eq]
  generalize at0 ts (ts.length - 1) = t at *
  rw [b32_eq] at *
  generalize (4294967296 : Int) ^ (ts.length - 1) = p at *
  generalize lv 4294967296 (ts.take (ts.length - 1)) = u at *
  constructor
  · intro h3
    apply Classical.byContradiction
    intro h4
    have : p * 2147483648 ≤ p * t := Int.mul_le_mul_of_nonneg_left (by omega) (by omega)
    omega
  · intro h3
    have : p * t ≤ p * 2147483647 := Int.mul_le_mul_of_nonneg_left (by omega) (by omega)
    omega
theorem flip_all (m : Nat) {ts : List Int} (d : Ma.dg b32 ts) (hl : ts.length = m) : Ma.dg b32 ((List.range m).map fun j => bits .xor .u32 IntKind.u32.max (at0 ts j)) ∧ ((List.range m).map fun j => bits .xor .u32 IntKind.u32.max (at0 ts j)).length = m ∧ lv b32 ((List.range m).map fun j => bits .xor .u32 IntKind.u32.max (at0 ts j)) = b32 ^ m - 1 - lv b32 ts := by
  have e : ((List.range m).map fun j => bits .xor .u32 IntKind.u32.max (at0 ts j)) = (List.range m).map fun j => (b32 - 1) - at0 ts j := by
    apply List.map_congr_left
    intro j _
    rw [flip2 _ (by have := dg_at d (by decide) j; rw [b32_eq] at this; exact this), b32_eq]
    omega
  rw [e]
  refine ⟨fun x hx => ?_, by simp, ?_⟩
  · obtain ⟨j, _, rfl⟩ := List.mem_map.1 hx
    have := dg_at d (by decide) j
    omega
  · rw [lv_flip, lv_range_id _ _ _ (by omega)]

theorem Box.cellset {r n g i : Nat} {W : World} (hb : Box r n W) (h : r < g) (v : Value) : Box r n (W.setCell ⟨g, i, none⟩ v) := fun o ho => by
  obtain ⟨⟨x, hx, hn⟩, hf⟩ := hb o ho
  exact ⟨⟨x, by rw [World.cell?_setCell_other (h := by simp <;> omega)]; exact hx, hn⟩, by simp [World.frozen?_setCell]; exact hf⟩
set_option maxHeartbeats 1600000 in
set_option maxRecDepth 100000 in
theorem untwos_c {A : Option Addr} {c : Nat} {ts : List Int} {w : World} (rA : Rd w .u32 A ts) (hc : ts.length ≤ c) (d : dg b32 ts) (hl : ts.length ≤ 400000) (h0 : 0 < ts.length) :
    Calls Try.prog 72 #[.slice A ts.length c] w (Ret w (KI (sx ts.length (lv b32 ts)))) := by
  have hh := half_top d h0
  have nw1 : Nw w (w.alloc (.cells #[.bool false, .slice none 0 0] 28)) := (Nw.refl w).alloc _
  have sg0 : Sg [] w.heap.size 2 (w.alloc (.cells #[.bool false, .slice none 0 0] 28)) := ⟨trivial, box_two w 28 false none 0 0, by go_simp⟩
  obtain ⟨ad, hA, hcell⟩ := (rA.kept nw1.kept).2 (ts.length - 1) (by omega)
  subst hA
  obtain ⟨t0, t1⟩ := dg_at d (by decide) (ts.length - 1)
  have RA := Lib.hid (rA.kept nw1.kept)
  have SG := Lib.hid sg0
  clear rA sg0
  obtain ⟨t, ht⟩ : ∃ t, at0 ts (ts.length - 1) = t := ⟨_, rfl⟩
  rw [ht] at hh t0 t1 hcell
  rw [b32_eq] at t1
  have HH := Lib.hid hh
  clear ht hh
  have hzb : ((ts.length : Int) == 0) = false := by rw [beq_eq_false_iff_ne]; omega
  by_cases hs : t < 2147483648
  · have hv : sx ts.length (lv b32 ts) = lv b32 ts := by unfold sx; rw [if_pos (HH.out.2 hs)]
    have HV := Lib.hid hv
    have hq : t / 2147483648 = 0 := by omega
    clear hv HH
    go_enter Try.func72, Try.ntmps72
    go_wp2_with (go_at_call 68; refine (make_c (n := false) RA.out d (by omega)).mono ?_; rintro e w2 ⟨_, rfl, ⟨m, D, l2, c2, rfl, hi⟩, hb2⟩; have b2 := (SG.out.nw hb2).2.1; obtain ⟨⟨v0, hv0, hn0⟩, hf0⟩ := b2 0 (by omega); obtain ⟨⟨v1, hv1, hn1⟩, hf1⟩ := b2 1 (by omega))
    have hi' := hi.eq (z' := sx ts.length (lv b32 ts)) (by rw [HV.out]; rfl)
    exact bodyPost_ret (v := .agg #[.bool m, .slice D l2 c2]) (by simp [results, Try.results72, go_sem, hv0, hv1]) rfl (Ret.I (hi'.kept (store_I b2 hi').1.2.1) ((nw1.trans hb2).rr (store_I b2 hi').1 (by omega)))
  · have hv : sx ts.length (lv b32 ts) = lv b32 ts - b32 ^ ts.length := by unfold sx; rw [if_neg (fun h => hs (HH.out.1 h))]
    have HV := Lib.hid hv
    have hq : t / 2147483648 = 1 := by omega
    clear hv HH
    go_enter Try.func72, Try.ntmps72
    go_wp2_with (go_at_call 112; refine (clone_o (some ad) c ts _ RA.out (by omega)).mono ?_; rintro e w1 ⟨v1, rfl, o1, hb1⟩; obtain ⟨g, cap, rfl⟩ := o1.some' (by intro e; subst e; simp at h0))
    have ho' : w1.ownsRow (w.heap.size + 1) 92 1 (.slice (some ⟨g, 0, none⟩) ts.length cap) ts.length (ts.map (Value.int .u32)) := row_base (b' := w.heap.size + 1) o1 (by simp)
    have hg := row_ge ho'
    have hts : TwAt ts ts.length 0 (fun a => bits .xor .u32 IntKind.u32.max a) (ts.map (Value.int .u32)) := TwAt.start (by simp) (by rw [List.take_of_length_le (by simp)])
    have hn0 : Nw w w1 := nw1.trans hb1
    clear o1 hcell
    have SG1 := Lib.hid (SG.out.nw hb1)
    go_loopw [24] (fun ci wr => ∃ (i : Nat) (us : List Value), ci = .int .i64 i ∧ wr.ownsRow (w.heap.size + 1) 92 1 (.slice (some ⟨g, 0, none⟩) ts.length cap) ts.length us ∧ TwAt ts ts.length i (fun a => bits .xor .u32 IntKind.u32.max a) us ∧ Nw w wr ∧ Sg [] w.heap.size 2 wr)
      (fun ci _ => ts.length - (intOf ci).toNat)
    case atStart => exact ⟨0, _, rfl, ho', hts, hn0, SG1.out⟩
    case round =>
      obtain ⟨i, us, rfl, hu, ht, hn, hsg⟩ := hrel
      have hi := ht.le
      have hul := ht.len
      clear ho' hts hn0
      by_cases him : i < ts.length
      · have fz := World.ownsRow.frozenAt hu i
        have ce := World.ownsRow.cellAt hu i (by omega)
        have HU := Lib.hid hu
        have HST := Lib.hid (ht.step him)
        have HSG := Lib.hid hsg
        have hrest := ht.rest i (Nat.le_refl _) him
        rw [hrest] at ce
        clear hrest ht hu hsg
        go_wp2
        exact ⟨⟨i + 1, _, by go_num, (World.ownsRow.stored HU.out i _).1, HST.out, hn.set (by simp; omega) _, ⟨trivial, HSG.out.2.1.cellset (by omega) _, by have := HSG.out.2.2; simp; omega⟩⟩, by simp [intOf]; omega⟩
      · have hie : i = ts.length := by omega
        have hall := (hie ▸ ht : TwAt ts ts.length ts.length _ us).all
        have hw2 : Own wr (w.heap.size + 1) 92 .u32 (.slice (some ⟨g, 0, none⟩) ts.length cap) ((List.range ts.length).map fun j => bits .xor .u32 IntKind.u32.max (at0 ts j)) := by rw [hall] at hu; simpa [Own] using hu
        obtain ⟨hlen2, hc2, rd2⟩ := hw2.rdg
        obtain ⟨d2, l2', lv2⟩ := flip_all ts.length d rfl
        obtain ⟨Z, hZ⟩ : ∃ Z, Z = (List.range ts.length).map fun j => bits .xor .u32 IntKind.u32.max (at0 ts j) := ⟨_, rfl⟩
        rw [← hZ] at rd2 d2 lv2 hlen2
        have LV2 := Lib.hid lv2
        have HL2 := Lib.hid hlen2
        have HSG := Lib.hid hsg
        have hln := lv_nonneg (show (0 : Int) < b32 by decide) d2
        have hlt := lv_lt (show (0 : Int) < b32 by decide) d2
        have HLN := Lib.hid hln
        have HLT := Lib.hid hlt
        clear hall ht hu hie hsg hw2 hlen2 lv2 l2' hZ hln hlt
        go_wp2_with (first
          | (go_at_call 81; refine (made_l HL2.out false rd2 (by rw [← HL2.out]; exact hc2) d2).mono ?_; rintro e w5 ⟨_, rfl, ⟨m5, D5, l5, c5, rfl, hi5⟩, hb5⟩)
          | (go_at_call 110; refine (complement_c hi5 (Nat.le_trans (hi5.len_le ts.length (by have := HLN.out; have := pos_pow (show (0 : Int) < b32 by decide) ts.length; simp [sg]; omega) (by have := HLT.out; rw [← HL2.out] at this; simpa [sg] using this)) hl)).mono ?_; rintro e w6 ⟨_, rfl, ⟨m6, D6, l6, c6, rfl, hi6⟩, hb6⟩; have b2 := ((HSG.out.nw hb5).nw hb6).2.1; obtain ⟨⟨v0, hv0, hn0⟩, hf0⟩ := b2 0 (by omega); obtain ⟨⟨v1, hv1, hn1⟩, hf1⟩ := b2 1 (by omega)))
        have hi' := hi6.eq (z' := sx ts.length (lv b32 ts)) (by rw [HV.out, LV2.out]; simp [sg]; omega)
        exact bodyPost_ret (v := .agg #[.bool m6, .slice D6 l6 c6]) (by simp [results, Try.results72, go_sem, hv0, hv1]) rfl (Ret.I (hi'.kept (store_I b2 hi').1.2.1) (((hn.trans hb5).trans hb6).rr (store_I b2 hi').1 (by omega)))
end Go.Proofs.Ytcgkgcciogibkaa
