/- The contracts of the reference's Limbs, of the law's Is. -/
import Derived.Test.YtcgkgcciogibkaaC3
set_option linter.unusedVariables false
set_option linter.unusedSimpArgs false
namespace Go.Proofs.Ytcgkgcciogibkaa
open Go.RowKit Ma

/-- What a round of the reference's Limbs leaves: limbs of the first 2 k digits. -/
structure LbAt (ds : List Int) (k : Nat) (zs : List Int) : Prop where
  len : zs.length = k
  le : 2 * k ≤ ds.length + 1
  dg : dg b32 zs
  eq : lv b32 zs = lv b16 (ds.take (2 * k))
theorem LbAt.start (ds : List Int) : LbAt ds 0 [] := ⟨rfl, by omega, dg_nil _, by simp [lv]⟩
theorem pow_b (k : Nat) : b32 ^ k = b16 ^ (2 * k) := by rw [Int.pow_mul]; rfl
theorem LbAt.two {ds : List Int} {k : Nat} {zs : List Int} (h : LbAt ds k zs) (d : Ma.dg b16 ds) (hk : 2 * k + 1 < ds.length) : LbAt ds (k + 1) (zs ++ [at0 ds (2 * k) + at0 ds (2 * k + 1) * 65536]) := by
  obtain ⟨h1, h2, h3, h4⟩ := h
  have a := dg_at d (by decide) (2 * k)
  have b := dg_at d (by decide) (2 * k + 1)
  rw [b16_eq] at a b
  refine ⟨by simp [h1], by omega, dg_append.2 ⟨h3, fun x hx => by rw [List.mem_singleton] at hx; rw [hx, b32_eq]; omega⟩, ?_⟩
  rw [lv_snoc, h4, h1, show 2 * (k + 1) = 2 * k + 1 + 1 by omega, lv_take_succ _ _ _ hk, lv_take_succ _ _ _ (by omega), pow_b, Int.pow_succ, b16_eq]
  grind
theorem LbAt.one {ds : List Int} {k : Nat} {zs : List Int} (h : LbAt ds k zs) (d : Ma.dg b16 ds) (hk : 2 * k + 1 = ds.length) : LbAt ds (k + 1) (zs ++ [at0 ds (2 * k)]) := by
  obtain ⟨h1, h2, h3, h4⟩ := h
  have a := dg_at d (by decide) (2 * k)
  rw [b16_eq] at a
  refine ⟨by simp [h1], by omega, dg_append.2 ⟨h3, fun x hx => by rw [List.mem_singleton] at hx; rw [hx, b32_eq]; omega⟩, ?_⟩
  rw [lv_snoc, h4, h1, List.take_of_length_le (show ds.length ≤ 2 * (k + 1) by omega), pow_b]
  have e := lv_take_succ b16 ds (2 * k) (by omega)
  rw [hk, List.take_length] at e
  rw [e]
theorem LbAt.done {ds : List Int} {k : Nat} {zs : List Int} (h : LbAt ds k zs) (d : Ma.dg b16 ds) (t : Ma.top ds) (hk : ds.length ≤ 2 * k) : Ma.dg b32 zs ∧ Ma.top zs ∧ lv b32 zs = lv b16 ds := by
  obtain ⟨h1, h2, h3, h4⟩ := h
  rw [List.take_of_length_le hk] at h4
  refine ⟨h3, ?_, h4⟩
  by_cases hne : zs = []
  · subst hne; exact top_nil
  · rw [top_at hne]
    intro hz
    have hl : 0 < zs.length := List.length_pos_iff.2 hne
    have hd : ds ≠ [] := by intro e; subst e; simp at h2; omega
    have e := lv_take_succ b32 zs (zs.length - 1) (by omega)
    rw [Nat.sub_add_cancel hl, List.take_length, hz, Int.mul_zero, Int.add_zero] at e
    have l1 := lv_lt (show (0 : Int) < b32 by decide) (dg_take h3 (zs.length - 1))
    rw [List.length_take, Nat.min_eq_left (by omega), pow_b] at l1
    have l2 := top_le (show (0 : Int) < b16 by decide) d t hd
    have l3 := pow_le (b := b16) (by decide) (show 2 * (zs.length - 1) ≤ ds.length - 1 by omega)
    omega

set_option maxHeartbeats 1600000 in
set_option maxRecDepth 100000 in
theorem rlimbs_c {n : Bool} {A : Option Addr} {l c : Nat} {z : Int} {w : World} (hx : RJ w n A l c z) (hl : l ≤ 2000000) :
    Calls Try.prog 78 #[.agg #[.bool n, .slice A l c]] w (Ret w (KL .u32 fun zs => Num b32 n zs z)) := by
  obtain ⟨ds, rfl, hc, rA, dd, td, nd, ez⟩ := hx
  obtain ⟨i0, hi, hz0, hz1, hz2⟩ := info_parts info_u32
  have nw1 : Nw w (w.alloc (.cells #[.bool n, .slice A ds.length c] 31)) := (Nw.refl w).alloc _
  have q0 : Has [(w.heap.size, 1, Value.slice A ds.length c)] (w.alloc (.cells #[.bool n, .slice A ds.length c] 31)) := ⟨by go_simp, trivial⟩
  have RA := Lib.hid (rA.kept nw1.kept)
  have Q0 := Lib.hid q0
  have EZ := Lib.hid ez
  clear rA q0 ez
  go_enter Try.func78, Try.ntmps78
  go_wp2
  go_loopw [3, 4] (fun ov iv wr => ∃ (k : Nat) (zs : List Int), iv = .int .i64 ((2 * k : Nat) : Int) ∧ Own wr (w.heap.size + 1) 92 .u32 ov zs ∧ LbAt ds k zs ∧ Nw (w.alloc (.cells #[.bool n, .slice A ds.length c] 31)) wr)
    (fun _ iv _ => ds.length + 2 - (intOf iv).toNat)
  case atStart => exact ⟨0, [], rfl, Own.nil _ _ _ _, LbAt.start ds, Nw.refl _⟩
  case round =>
    obtain ⟨k, zs, rfl, ho, hb, hn⟩ := hrel
    obtain ⟨q1, _⟩ := Q0.out.nw hn
    have hlen := hb.len
    have hle := hb.le
    obtain ⟨j, hj⟩ : ∃ j, j = 2 * k := ⟨_, rfl⟩
    rw [← hj]
    by_cases h0 : j < ds.length
    · obtain ⟨ad, hA, hcell⟩ := (RA.out.kept hn.kept).2 j h0
      subst hA
      have a0 := dg_at dd (by decide) j
      rw [b16_eq] at a0
      obtain ⟨a1, a2⟩ := a0
      have hb0 := Lib.hid hb
      have hjz : zs.length * 2 = j := by omega
      have HJ := Lib.hid hj
      have HLN := Lib.hid hlen
      have hsz := hn.size
      by_cases h1 : j + 1 < ds.length
      · obtain ⟨ad', hA', hcell'⟩ := (RA.out.kept hn.kept).2 (j + 1) h1
        injection hA' with hA'
        subst hA'
        rw [Addr.add_succ'] at hcell'
        have b0 := dg_at dd (by decide) (j + 1)
        rw [b16_eq] at b0
        obtain ⟨b1, b2⟩ := b0
        have h2 : (j : Int) + 1 < (ds.length : Int) := by omega
        have HT := Lib.hid (hb.two dd (by omega))
        rw [← hj] at HT
        clear hb hj hlen hle
        go_wp2_with (at_builtin; refine wpList_append_own _ rfl (.tmp 35) (.tmp 37) 22 rfl (w.heap.size + 1) 92 i0 (.int .u32 0) 1 4 Try.underlying22 hi hz0 hz1 hz2 rfl (by decide) _ _ _ rfl (ho.alloc _) ⟨wr.heap.size, 0, none⟩ 1 1 [.int .u32 (at0 ds j + at0 ds (j + 1) * 65536)] rfl rfl ?c1 ?c2 ?c3 ?c4 ?c5 ?_)
        case c1 => intro j u hu; exact cell_one_new _ _ _ j u hu
        case c2 => simp [Value.oneCell']
        case c3 => unfold maxLen; omega
        case c4 => omega
        case c5 => simp at hsz ⊢; omega
        intro v1 w4 hown1 hgrow1 _
        have n4 := hn.grew ho hgrow1 (by simp)
        go_wp2
        exact ⟨⟨k + 1, _, by apply congrArg (Value.int IntKind.i64); have := HJ.out; omega, Own.cast hown1 (by simp) (by simp), HT.out, n4⟩, by simp [intOf]; omega⟩
      · have h2 : ¬ (j : Int) + 1 < (ds.length : Int) := by omega
        have HT := Lib.hid (hb.one dd (by omega))
        rw [← hj] at HT
        clear hb hj hlen hle
        go_wp2_with (at_builtin; refine wpList_append_own _ rfl (.tmp 35) (.tmp 37) 22 rfl (w.heap.size + 1) 92 i0 (.int .u32 0) 1 4 Try.underlying22 hi hz0 hz1 hz2 rfl (by decide) _ _ _ rfl (ho.alloc _) ⟨wr.heap.size, 0, none⟩ 1 1 [.int .u32 (at0 ds j)] rfl rfl ?c1 ?c2 ?c3 ?c4 ?c5 ?_)
        case c2 => simp [Value.oneCell']
        case c3 => unfold maxLen; omega
        case c4 => omega
        case c5 => simp at hsz ⊢; omega
        intro v1 w4 hown1 hgrow1 _
        have n4 := hn.grew ho hgrow1 (by simp)
        go_wp2
        exact ⟨⟨k + 1, _, by apply congrArg (Value.int IntKind.i64); have := HJ.out; omega, Own.cast hown1 (by simp) (by simp), HT.out, n4⟩, by simp [intOf]; omega⟩
    · have hd := hb.done dd td (by omega)
      have HD := Lib.hid hd
      have hnn : n = true → zs ≠ [] := by
        intro e e2; subst e2
        have h3 := nd e
        have := top_le (show (0 : Int) < b16 by decide) dd td h3
        have := pos_pow (show (0 : Int) < b16 by decide) (ds.length - 1)
        have h4 := hd.2.2
        simp [lv] at h4
        omega
      clear hd hb hj hlen hle
      go_wp2
      go_ret
      exact Ret.own ho ⟨HD.out.1, HD.out.2.1, hnn, by rw [EZ.out, HD.out.2.2]⟩ (nw1.trans hn)
end Go.Proofs.Ytcgkgcciogibkaa
