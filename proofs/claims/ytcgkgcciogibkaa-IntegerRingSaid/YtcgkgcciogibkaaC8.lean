/- The contract of the law's made: a new slice of the program's integers. -/
import Derived.Test.YtcgkgcciogibkaaC7
set_option linter.unusedVariables false
set_option linter.unusedSimpArgs false
namespace Go.Proofs.Ytcgkgcciogibkaa
open Go.RowKit Ma

theorem own_nw {w w' : World} {base : Nat} {e : TypeId} {s : Nat} {v : Value} {n : Nat} {xs : List Value} (h : w.ownsRow base e s v n xs) (hb : Nw w w') : w'.ownsRow base e s v n xs :=
  World.ownsRow.kept h (row := none) ⟨hb.os, hb.tape, hb.output, hb.size, fun i hi _ => hb.block i hi⟩ (by cases v.ownBlock <;> simp)
def Ros (w : World) (rs : List Nn) (zs : List Int) : Prop := rs.length = zs.length ∧ ∀ i n A l c, rs[i]? = some (n, A, l, c) → RO w 0 n A l c (at0 zs i)
theorem Ros.nw {w W : World} {ns : List Nn} {zs : List Int} (h : Ros w ns zs) (k : Nw w W) : Ros W ns zs := ⟨h.1, fun i n A l c e => (h.2 i n A l c e).nw k⟩
theorem Ros.ri {w : World} {ns : List Nn} {zs : List Int} (h : Ros w ns zs) : Rs w ns zs := ⟨h.1, fun i n A l c e => (h.2 i n A l c e).ri⟩
theorem Ros.snoc {w : World} {rs : List Nn} {zs : List Int} {k : Nat} {n : Bool} {A : Option Addr} {l c : Nat} (h : Ros w rs (zs.take k)) (hk : k < zs.length) (hi : RO w 0 n A l c (at0 zs k)) : Ros w (rs ++ [(n, A, l, c)]) (zs.take (k + 1)) := by
  have hl := h.1
  rw [List.length_take, Nat.min_eq_left (by omega)] at hl
  refine ⟨by simp [hl, List.length_take]; omega, fun i n' A' l' c' e => ?_⟩
  rcases Nat.lt_trichotomy i k with hi' | hi' | hi'
  · rw [List.getElem?_append_left (by omega)] at e
    have := h.2 i _ _ _ _ e
    simp only [at0, List.getD_eq_getElem?_getD, List.getElem?_take, hi', if_true] at this ⊢
    rwa [if_pos (by omega)]
  · subst hi'
    rw [List.getElem?_append_right (by omega), hl, Nat.sub_self] at e
    simp at e
    obtain ⟨rfl, rfl, rfl, rfl⟩ := e
    simp only [at0, List.getD_eq_getElem?_getD, List.getElem?_take] at hi ⊢
    rwa [if_pos (by omega)]
  · rw [List.getElem?_append_right (by omega), List.getElem?_eq_none (by simp; omega)] at e
    cases e
theorem Ros.grown {w w' : World} {rs : List Nn} {zs : List Int} {b s n : Nat} {e : TypeId} {v : Value} {xs : List Value} (h : Ros w rs zs) (hv : w.ownsRow b e s v n xs) (he : 92 ≠ e) (hg : w.grownBy w' v.ownBlock) : Ros w' rs zs :=
  ⟨h.1, fun i n A l c e1 => (h.2 i n A l c e1).grown hg ((h.2 i n A l c e1).ne hv he)⟩
set_option maxHeartbeats 1600000 in
set_option maxRecDepth 100000 in
theorem mades_c {b c : Nat} {ns : List Nn} {zs : List Int} {w : World} (hn : Ns w b ns) (hz : Ins w ns zs) (hl : ns.length ≤ 1000) (h0 : 0 < ns.length) :
    Calls Try.prog 22 #[.slice (some ⟨b, 0, none⟩) ns.length c] w (Ret w (KM zs)) := by
  obtain ⟨i0, hi, hz0, hz1, hz2⟩ := info_parts info_Int
  have HN := Lib.hid hn
  have HZ := Lib.hid hz
  clear hn hz
  go_enter Try.func22, Try.ntmps22
  go_wp2
  go_loopw [3, 8] (fun v ci wr => ∃ (k : Nat) (rs : List Nn), ci = .int .i64 k ∧ k ≤ ns.length ∧ rs.length = k ∧ wr.ownsRow w.heap.size 28 2 v k (flat rs) ∧ Ros wr rs (zs.take k) ∧ Nw w wr)
    (fun _ ci _ => ns.length - (intOf ci).toNat)
  case atStart => exact ⟨0, [], rfl, by omega, rfl, World.ownsRow_nil w _ _ _, ⟨rfl, fun i n A l c e => by simp at e⟩, Nw.refl w⟩
  case round =>
    obtain ⟨k, rs, rfl, hk, hrl, ho, hr, hn⟩ := hrel
    have HRL := Lib.hid hrl
    clear hrl
    by_cases hlt : k < ns.length
    · obtain ⟨⟨n, A, l, cc⟩, he⟩ : ∃ x, ns[k]? = some x := ⟨_, List.getElem?_eq_getElem hlt⟩
      obtain ⟨h1, h2⟩ := (HN.out.nw hn) k n A l cc he
      obtain ⟨xs, rfl, hlc, hxl, rx, dx, ez⟩ := (HZ.out.nw hn).2 k n A l cc he
      have hk0 : (0 : Int) ≤ (k : Int) := by omega
      have hki : (k : Int) < (ns.length : Int) := by omega
      have HE := Lib.hid ez
      clear he ez
      have hsz := hn.size
      go_wp2_with (first
        | (go_at_call 68; refine (make_o (rx.kept (IntK.alloc _ _)) dx hxl).mono ?_; rintro e w1 ⟨_, rfl, ⟨m, D, l2, c2, rfl, i2⟩, hb1⟩; have hn1 := ((Nw.refl wr).alloc _).trans hb1; have ho1 := own_nw ho hn1; have hr1 := hr.nw hn1; have hsz1 := hn1.size; clear ho hr)
        | (at_builtin; refine wpList_append_own _ rfl (.tmp 12) (.tmp 18) 43 rfl w.heap.size 28 i0 (.agg #[.bool false, .slice none 0 0]) 2 32 Try.underlying43 hi hz0 hz1 hz2 rfl (by decide) _ _ _ rfl (own_nw ho1 ((Nw.refl w1).alloc _)) ⟨w1.heap.size, 0, none⟩ 1 1 [.bool m, .slice D l2 c2] rfl rfl ?c1 ?c2 ?c3 ?c4 ?c5 ?_))
      case c1 => exact cell_two_new _ _ _ _
      case c2 => simp [Value.oneCell']
      case c3 => unfold maxLen; omega
      case c4 => omega
      case c5 => simp; omega
      intro v1 w4 hown1 hgrow1 _
      have n4 : Nw w w4 := Below.grown ((hn.trans hn1).alloc _) hgrow1 (by simp; omega) (fun g hg => (World.ownsRow.lt ho1 g hg).1)
      have hxa := (Nw.refl w1).alloc (.cells #[.bool m, .slice D l2 c2] 28)
      have hr4 := ((hr1.snoc (by have := HZ.out.1; omega) ((i2.eq HE.out.symm).lower (Nat.zero_le _))).nw hxa).grown (own_nw ho1 hxa) (by decide) hgrow1
      clear hr1
      go_wp2
      go_roundw
      case rel =>
        exact ⟨k + 1, rs ++ [(m, D, l2, c2)], by go_num, by omega, by simp [HRL.out], by rw [flat_snoc]; exact hown1, hr4, n4⟩
      case measure => simp [intOf]; omega
    · have hke : k = ns.length := by omega
      have hr9 := hr.ri
      have hz0' := HZ.out.1
      rw [hke, List.take_of_length_le (by omega)] at hr9
      have HK := Lib.hid hke
      obtain ⟨_, h1 | ⟨g, cap, cur, rfl, _, _, hcap, _⟩⟩ := id ho
      · exfalso; omega
      · have hns : Ns wr g rs := fun i n A l c e => by
          obtain ⟨f1, f2⟩ := flat_at rs i n A l c e
          have hi : i < rs.length := (List.getElem?_eq_some_iff.1 e).1
          have := HRL.out
          rw [World.ownsRow.cellAt ho (i * 2) (by omega), World.ownsRow.cellAt ho (i * 2 + 1) (by omega)]
          exact ⟨f1, f2⟩
        have e1 : k = zs.length := by omega
        have HZL := Lib.hid e1
        clear hke e1 hz0'
        go_wp2
        go_ret
        exact ⟨_, rfl, ⟨g, cap, rs, by rw [← HZL.out]; rfl, by have := HZL.out; omega, hns, hr9⟩, hn⟩
end Go.Proofs.Ytcgkgcciogibkaa
