/- The contract of the reference's New. -/
import Derived.Test.YtcgkgcciogibkaaC2
set_option linter.unusedVariables false
set_option linter.unusedSimpArgs false
namespace Go.Proofs.Ytcgkgcciogibkaa
open Go.RowKit Ma

theorem info_int : (Try.prog.info? 3).map (fun i => (i.zero, i.size, i.bytes)) = some (some (.int .i64 0), 1, 8) := by kernel_rfl
structure RnAt (V : Int) (k : Nat) (zs : List Int) (u : Int) : Prop where
  le : k ≤ 4
  len : zs.length = k
  dg : dg b16 zs
  u0 : 0 ≤ u
  u1 : u < 65536 ^ (4 - k)
  eq : lv b16 zs + b16 ^ k * u = V
theorem RnAt.lt {V : Int} {k : Nat} {zs : List Int} {u : Int} (h : RnAt V k zs u) (hu : 0 < u) : k < 4 := by
  have h5 := h.u1
  have := h.le
  apply Classical.byContradiction
  intro hk
  have h0 : 4 - k = 0 := by omega
  rw [h0, Int.pow_zero] at h5
  omega
theorem RnAt.step {V : Int} {k : Nat} {zs : List Int} {u : Int} (h : RnAt V k zs u) (hu : 0 < u) : RnAt V (k + 1) (zs ++ [u % 65536]) (u / 65536) := by
  have hk := h.lt hu
  obtain ⟨h1, h2, h3, h4, h5, h6⟩ := h
  refine ⟨by omega, by simp [h2], dg_append.2 ⟨h3, fun x hx => by rw [List.mem_singleton] at hx; rw [hx, b16_eq]; omega⟩, by omega, ?_, ?_⟩
  · apply Int.ediv_lt_of_lt_mul (by decide)
    rw [← Int.pow_succ, show (4 - (k + 1)).succ = 4 - k by omega]
    exact h5
  · rw [lv_snoc, h2, Int.pow_succ, ← h6, b16_eq]
    have e := Int.mul_ediv_add_emod u 65536
    generalize u / 65536 = q at *
    generalize u % 65536 = r at *
    generalize (65536 : Int) ^ k = p at *
    rw [← e]
    grind

set_option maxHeartbeats 1600000 in
set_option maxRecDepth 100000 in
theorem rnew_c {x : Int} {w : World} (hx : -9223372036854775808 ≤ x ∧ x < 9223372036854775808) :
    Calls Try.prog 42 #[.int .i64 x] w (Ret w (KJ x)) := by
  obtain ⟨hx0, hx1⟩ := hx
  obtain ⟨i0, hi, hz0, hz1, hz2⟩ := info_parts info_int
  have nw1 : Nw w (w.alloc (.cells #[.bool false, .slice none 0 0] 31)) := (Nw.refl w).alloc _
  have sg0 : Sg [] w.heap.size 2 (w.alloc (.cells #[.bool false, .slice none 0 0] 31)) := ⟨trivial, box_two w 31 false none 0 0, by go_simp⟩
  have SG := Lib.hid sg0
  clear sg0
  by_cases hneg : x < 0
  · have hwx : IntKind.u64.wrap (-IntKind.u64.wrap x) = -x := by simp only [IntKind.wrap_u64]; omega
    have r0 := Lib.hid (⟨by omega, rfl, dg_nil _, by omega, by rw [show (65536 : Int) ^ (4 - 0) = 18446744073709551616 by decide]; omega, by simp [lv]⟩ : RnAt (-x) 0 [] (-x))
    go_enter Try.func42, Try.ntmps42
    go_wp2
    go_loopw [3, 4] (fun uv ov wr => ∃ (k : Nat) (zs : List Int) (u : Int), uv = .int .u64 u ∧ Own wr (w.heap.size + 1) 3 .i64 ov zs ∧ RnAt (-x) k zs u ∧ Nw (w.alloc (.cells #[.bool false, .slice none 0 0] 31)) wr)
      (fun uv _ _ => (intOf uv).toNat)
    case atStart => exact ⟨0, [], _, rfl, Own.nil _ _ _ _, r0.out, Nw.refl _⟩
    case round =>
      obtain ⟨k, zs, u, rfl, ho, hr, hn⟩ := hrel
      have hu0 := hr.u0
      have hu1 : u < 18446744073709551616 := by
        have h1 := hr.u1
        have h2 := pow_le (b := 65536) (by decide) (show 4 - k ≤ 4 by omega)
        have : (65536 : Int) ^ 4 = 18446744073709551616 := by decide
        omega
      by_cases hu : 0 < u
      · have HST := Lib.hid (hr.step hu)
        have hk := hr.lt hu
        have hlen := hr.len
        clear hr
        go_wp2_with (at_builtin; refine wpList_append_own _ rfl (.tmp 13) (.tmp 17) 29 rfl (w.heap.size + 1) 3 i0 (.int .i64 0) 1 8 Try.underlying29 hi hz0 hz1 hz2 rfl (by decide) _ _ _ rfl (ho.alloc _) ⟨wr.heap.size, 0, none⟩ 1 1 [.int .i64 (u % 65536)] rfl rfl ?c1 ?c2 ?c3 ?c4 ?c5 ?_)
        case c1 => intro j u hu; exact cell_one_new _ _ _ j u hu
        case c2 => simp [Value.oneCell']
        case c3 => unfold maxLen; omega
        case c4 => omega
        case c5 => have := hn.size; simp at this ⊢; omega
        intro v1 w4 hown1 hgrow1 _
        have n4 := hn.grew ho hgrow1 (by simp)
        go_wp2
        go_roundw
        case rel => exact ⟨k + 1, _, _, rfl, Own.cast hown1 (by simp [hlen]) (by simp), HST.out, n4⟩
        case measure => simp [intOf]; omega
      · have hz : u = 0 := by omega
        subst hz
        have he := hr.eq
        have dz := hr.dg
        rw [Int.mul_zero, Int.add_zero] at he
        have HE := Lib.hid he
        obtain ⟨Az, cz, rfl, hcz, rz⟩ := ho.rd
        clear hr he ho
        go_wp2_with (go_at_call 88; refine (rmade_c rfl rz hcz dz).mono ?_; rintro e w2 ⟨_, rfl, ⟨m, D, l2, c2, rfl, hi⟩, hb2⟩; have b2 := ((SG.out.nw hn).nw hb2).2.1; obtain ⟨⟨v0, hv0, hn0⟩, hf0⟩ := b2 0 (by omega); obtain ⟨⟨v1, hv1, hn1⟩, hf1⟩ := b2 1 (by omega))
        have hi' := hi.eq (z' := x) (by rw [HE.out]; simp [sg] <;> omega)
        exact bodyPost_ret (v := .agg #[.bool m, .slice D l2 c2]) (by simp [results, Try.results42, go_sem, hv0, hv1]) rfl (Ret.J (hi'.kept (store_J b2 hi').1.2.1) (((nw1.trans hn).trans hb2).rr (store_J b2 hi').1 (Nat.le_refl _)))
  · have r0 := Lib.hid (⟨by omega, rfl, dg_nil _, by omega, by rw [show (65536 : Int) ^ (4 - 0) = 18446744073709551616 by decide]; omega, by simp [lv]⟩ : RnAt x 0 [] x)
    go_enter Try.func42, Try.ntmps42
    go_wp2
    go_loopw [3, 4] (fun uv ov wr => ∃ (k : Nat) (zs : List Int) (u : Int), uv = .int .u64 u ∧ Own wr (w.heap.size + 1) 3 .i64 ov zs ∧ RnAt x k zs u ∧ Nw (w.alloc (.cells #[.bool false, .slice none 0 0] 31)) wr)
      (fun uv _ _ => (intOf uv).toNat)
    case atStart => exact ⟨0, [], _, rfl, Own.nil _ _ _ _, r0.out, Nw.refl _⟩
    case round =>
      obtain ⟨k, zs, u, rfl, ho, hr, hn⟩ := hrel
      have hu0 := hr.u0
      have hu1 : u < 18446744073709551616 := by
        have h1 := hr.u1
        have h2 := pow_le (b := 65536) (by decide) (show 4 - k ≤ 4 by omega)
        have : (65536 : Int) ^ 4 = 18446744073709551616 := by decide
        omega
      by_cases hu : 0 < u
      · have HST := Lib.hid (hr.step hu)
        have hk := hr.lt hu
        have hlen := hr.len
        clear hr
        go_wp2_with (at_builtin; refine wpList_append_own _ rfl (.tmp 13) (.tmp 17) 29 rfl (w.heap.size + 1) 3 i0 (.int .i64 0) 1 8 Try.underlying29 hi hz0 hz1 hz2 rfl (by decide) _ _ _ rfl (ho.alloc _) ⟨wr.heap.size, 0, none⟩ 1 1 [.int .i64 (u % 65536)] rfl rfl ?c1 ?c2 ?c3 ?c4 ?c5 ?_)
        case c1 => intro j u hu; exact cell_one_new _ _ _ j u hu
        case c2 => simp [Value.oneCell']
        case c3 => unfold maxLen; omega
        case c4 => omega
        case c5 => have := hn.size; simp at this ⊢; omega
        intro v1 w4 hown1 hgrow1 _
        have n4 := hn.grew ho hgrow1 (by simp)
        go_wp2
        go_roundw
        case rel => exact ⟨k + 1, _, _, rfl, Own.cast hown1 (by simp [hlen]) (by simp), HST.out, n4⟩
        case measure => simp [intOf]; omega
      · have hz : u = 0 := by omega
        subst hz
        have he := hr.eq
        have dz := hr.dg
        rw [Int.mul_zero, Int.add_zero] at he
        have HE := Lib.hid he
        obtain ⟨Az, cz, rfl, hcz, rz⟩ := ho.rd
        clear hr he ho
        go_wp2_with (go_at_call 88; refine (rmade_c rfl rz hcz dz).mono ?_; rintro e w2 ⟨_, rfl, ⟨m, D, l2, c2, rfl, hi⟩, hb2⟩; have b2 := ((SG.out.nw hn).nw hb2).2.1; obtain ⟨⟨v0, hv0, hn0⟩, hf0⟩ := b2 0 (by omega); obtain ⟨⟨v1, hv1, hn1⟩, hf1⟩ := b2 1 (by omega))
        have hi' := hi.eq (z' := x) (by rw [HE.out]; simp [sg] <;> omega)
        exact bodyPost_ret (v := .agg #[.bool m, .slice D l2 c2]) (by simp [results, Try.results42, go_sem, hv0, hv1]) rfl (Ret.J (hi'.kept (store_J b2 hi').1.2.1) (((nw1.trans hn).trans hb2).rr (store_J b2 hi').1 (Nat.le_refl _)))
end Go.Proofs.Ytcgkgcciogibkaa
