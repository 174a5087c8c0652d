/- Parts C2, C3, C4, C5, C6, C7, C8, C9, Ca, Mg, Cb, Cd, Mh, Ce, B0, Mi, F1, F2, F0, F4, F5, F6, F3, Syd, Sye, Syf, Syg, Syr, in one file. -/
import Derived.WalkSmall
import Derived.IntWalk
import Derived.Deep.CutRange
import Derived.Deep.DeepCutAuto
import Derived.Lib.ItoaNum
import Derived.Lib.Tables
import Derived.Deep.AppendLies
import Derived.Deep.RegionLaw
import Derived.BigRegion
import Derived.Deep.LoopGhost
import Derived.OwnWalk
import Derived.Test.YtcgkgcciogibkaaLTexts2
import Derived.Test.YtcgkgcciogibkaaLTexts3
/- The contracts of the reference's trimmed and made. -/
set_option linter.unusedVariables false
set_option linter.unusedSimpArgs false
namespace Go.Proofs.Ytcgkgcciogibkaa
open Go.RowKit Ma

set_option maxHeartbeats 800000 in
theorem rtrimmed_c {A : Option Addr} {l c : Nat} {xs : List Int} {w : World} (e : l = xs.length) (h : Rd w .i64 A xs) (hc : l ≤ c) :
    Calls Try.prog 99 #[.slice A l c] w fun e w' => e = .returned (.slice A (trim xs).length c) ∧ w = w' := by
  subst e
  have hl := h.1
  have key : ∀ n, n ≤ xs.length → trim (xs.take n) = trim xs → trim (xs.take n) = xs.take n → n = (trim xs).length := by
    intro n hn h1 h2
    rw [← h1, h2, List.length_take, Nat.min_eq_left hn]
  go_enter Try.func99, Try.ntmps99
  go_wp2
  go_loop [3] (fun l => ∃ n : Nat, n ≤ xs.length ∧ trim (xs.take n) = trim xs ∧ l = .int .i64 n) (fun l => (intOf l).toNat)
  case atStart => exact ⟨_, Nat.le_refl _, by rw [List.take_length], rfl⟩
  case round =>
    obtain ⟨n, hn, ht, rfl⟩ := hrel
    have HT := Lib.hid ht
    have KEY := Lib.hid key
    clear ht key
    by_cases h0 : 0 < n
    · obtain ⟨ad, hA, hcell⟩ := h.2 (n - 1) (by omega)
      subst hA
      by_cases hz : at0 xs (n - 1) = 0
      · have hzb : (at0 xs (n - 1) == 0) = true := by simpa using hz
        have HZ := Lib.hid hz
        clear hz
        go_wp2
        refine ⟨⟨n - 1, by omega, ?_, by apply congrArg (Value.int IntKind.i64); omega⟩, by simp [intOf]; omega⟩
        rw [← HT.out, ← trim_take_succ (by omega) HZ.out, Nat.sub_add_cancel h0]
      · have hzb : (at0 xs (n - 1) == 0) = false := by simpa using hz
        have HZ := Lib.hid hz
        clear hz
        go_wp2
        go_ret
        have h1 := KEY.out n hn HT.out (by have := trim_stop (n := n - 1) (by omega) HZ.out; rwa [Nat.sub_add_cancel h0] at this)
        exact ⟨ret_val (by rw [← h1]; simp), rfl⟩
    · obtain rfl : n = 0 := by omega
      go_wp2
      go_ret
      have h1 := KEY.out 0 (by omega) HT.out (by simp [trim])
      exact ⟨ret_val (by rw [← h1]; simp), rfl⟩

set_option maxHeartbeats 400000 in
theorem rmade_c {n : Bool} {A : Option Addr} {l c : Nat} {xs : List Int} {w : World} (e : l = xs.length) (rA : Rd w .i64 A xs) (hc : l ≤ c) (hd : dg b16 xs) :
    Calls Try.prog 88 #[.bool n, .slice A l c] w (Ret w (KJ (sg n (lv b16 xs)))) := by
  subst e
  have hn := num_made (n := n) hd
  have hlen := trim_len xs
  have HN := Lib.hid hn
  clear hn
  cases n
  · go_enter Try.func88, Try.ntmps88
    go_wp2_with (go_at_call 99; refine (rtrimmed_c rfl (rA.kept (IntK.alloc _ _)) hc).mono ?_; rintro e w' ⟨rfl, rfl⟩)
    refine bodyPost_ret (v := .agg #[.bool false, .slice A (trim xs).length c]) (by simp [results, Try.results88, go_sem]) rfl (Ret.J ⟨trim xs, rfl, by omega, ?_, by simpa using HN.out⟩ ?_)
    · exact rA.trim.kept (IntK.alloc _ _)
    · exact (Below.refl _ _).alloc (Nat.le_refl _) _
  · go_enter Try.func88, Try.ntmps88
    go_wp2_with (go_at_call 99; refine (rtrimmed_c rfl (rA.kept (IntK.alloc _ _)) hc).mono ?_; rintro e w' ⟨rfl, rfl⟩)
    refine bodyPost_ret (v := .agg #[.bool (decide (0 < (trim xs).length)), .slice A (trim xs).length c]) (by simp [results, Try.results88, go_sem]) rfl (Ret.J ⟨trim xs, rfl, by omega, ?_, by simpa using HN.out⟩ ?_)
    · exact rA.trim.kept (IntK.alloc _ _)
    · exact (Below.refl _ _).alloc (Nat.le_refl _) _
end Go.Proofs.Ytcgkgcciogibkaa
/- The contract of the reference's New. -/
set_option linter.unusedVariables false
set_option linter.unusedSimpArgs false
namespace Go.Proofs.Ytcgkgcciogibkaa
open Go.RowKit Ma

theorem info_int : (Try.prog.info? 3).map (fun i => (i.zero, i.size, i.bytes)) = some (some (.int .i64 0), 1, 8) := by kernel_rfl
structure RnAt (V : Int) (k : Nat) (zs : List Int) (u : Int) : Prop where
  le : k ≤ 4
  len : zs.length = k
  dg : dg b16 zs
  u0 : 0 ≤ u
  u1 : u < 65536 ^ (4 - k)
  eq : lv b16 zs + b16 ^ k * u = V
theorem RnAt.lt {V : Int} {k : Nat} {zs : List Int} {u : Int} (h : RnAt V k zs u) (hu : 0 < u) : k < 4 := by
  have h5 := h.u1
  have := h.le
  apply Classical.byContradiction
  intro hk
  have h0 : 4 - k = 0 := by omega
  rw [h0, Int.pow_zero] at h5
  omega
theorem RnAt.step {V : Int} {k : Nat} {zs : List Int} {u : Int} (h : RnAt V k zs u) (hu : 0 < u) : RnAt V (k + 1) (zs ++ [u % 65536]) (u / 65536) := by
  have hk := h.lt hu
  obtain ⟨h1, h2, h3, h4, h5, h6⟩ := h
  refine ⟨by omega, by simp [h2], dg_append.2 ⟨h3, fun x hx => by rw [List.mem_singleton] at hx; rw [hx, b16_eq]; omega⟩, by omega, ?_, ?_⟩
  · apply Int.ediv_lt_of_lt_mul (by decide)
    rw [← Int.pow_succ, show (4 - (k + 1)).succ = 4 - k by omega]
    exact h5
  · rw [lv_snoc, h2, Int.pow_succ, ← h6, b16_eq]
    have e := Int.mul_ediv_add_emod u 65536
    generalize u / 65536 = q at *
    generalize u % 65536 = r at *
    generalize (65536 : Int) ^ k = p at *
    rw [← e]
    grind

set_option maxHeartbeats 1600000 in
set_option maxRecDepth 100000 in
theorem rnew_c {x : Int} {w : World} (hx : -9223372036854775808 ≤ x ∧ x < 9223372036854775808) :
    Calls Try.prog 42 #[.int .i64 x] w (Ret w (KJ x)) := by
  obtain ⟨hx0, hx1⟩ := hx
  obtain ⟨i0, hi, hz0, hz1, hz2⟩ := info_parts info_int
  have nw1 : Nw w (w.alloc (.cells #[.bool false, .slice none 0 0] 31)) := (Nw.refl w).alloc _
  have sg0 : Sg [] w.heap.size 2 (w.alloc (.cells #[.bool false, .slice none 0 0] 31)) := ⟨trivial, box_two w 31 false none 0 0, by go_simp⟩
  have SG := Lib.hid sg0
  clear sg0
  by_cases hneg : x < 0
  · have hwx : IntKind.u64.wrap (-IntKind.u64.wrap x) = -x := by simp only [IntKind.wrap_u64]; omega
    have r0 := Lib.hid (⟨by omega, rfl, dg_nil _, by omega, by rw [show (65536 : Int) ^ (4 - 0) = 18446744073709551616 by decide]; omega, by simp [lv]⟩ : RnAt (-x) 0 [] (-x))
    go_enter Try.func42, Try.ntmps42
    go_wp2
    go_loopw [3, 4] (fun uv ov wr => ∃ (k : Nat) (zs : List Int) (u : Int), uv = .int .u64 u ∧ Own wr (w.heap.size + 1) 3 .i64 ov zs ∧ RnAt (-x) k zs u ∧ Nw (w.alloc (.cells #[.bool false, .slice none 0 0] 31)) wr)
      (fun uv _ _ => (intOf uv).toNat)
    case atStart => exact ⟨0, [], _, rfl, Own.nil _ _ _ _, r0.out, Nw.refl _⟩
    case round =>
      obtain ⟨k, zs, u, rfl, ho, hr, hn⟩ := hrel
      have hu0 := hr.u0
      have hu1 : u < 18446744073709551616 := by
        have h1 := hr.u1
        have h2 := pow_le (b := 65536) (by decide) (show 4 - k ≤ 4 by omega)
        have : (65536 : Int) ^ 4 = 18446744073709551616 := by decide
        omega
      by_cases hu : 0 < u
      · have HST := Lib.hid (hr.step hu)
        have hk := hr.lt hu
        have hlen := hr.len
        clear hr
        go_wp2_with (at_builtin; refine wpList_append_own _ rfl (.tmp 13) (.tmp 17) 29 rfl (w.heap.size + 1) 3 i0 (.int .i64 0) 1 8 Try.underlying29 hi hz0 hz1 hz2 rfl (by decide) _ _ _ rfl (ho.alloc _) ⟨wr.heap.size, 0, none⟩ 1 1 [.int .i64 (u % 65536)] rfl rfl ?c1 ?c2 ?c3 ?c4 ?c5 ?_)
        case c1 => intro j u hu; exact cell_one_new _ _ _ j u hu
        case c2 => simp [Value.oneCell']
        case c3 => unfold maxLen; omega
        case c4 => omega
        case c5 => have := hn.size; simp at this ⊢; omega
        intro v1 w4 hown1 hgrow1 _
        have n4 := hn.grew ho hgrow1 (by simp)
        go_wp2
        go_roundw
        case rel => exact ⟨k + 1, _, _, rfl, Own.cast hown1 (by simp [hlen]) (by simp), HST.out, n4⟩
        case measure => simp [intOf]; omega
      · have hz : u = 0 := by omega
        subst hz
        have he := hr.eq
        have dz := hr.dg
        rw [Int.mul_zero, Int.add_zero] at he
        have HE := Lib.hid he
        obtain ⟨Az, cz, rfl, hcz, rz⟩ := ho.rd
        clear hr he ho
        go_wp2_with (go_at_call 88; refine (rmade_c rfl rz hcz dz).mono ?_; rintro e w2 ⟨_, rfl, ⟨m, D, l2, c2, rfl, hi⟩, hb2⟩; have b2 := ((SG.out.nw hn).nw hb2).2.1; obtain ⟨⟨v0, hv0, hn0⟩, hf0⟩ := b2 0 (by omega); obtain ⟨⟨v1, hv1, hn1⟩, hf1⟩ := b2 1 (by omega))
        have hi' := hi.eq (z' := x) (by rw [HE.out]; simp [sg] <;> omega)
        exact bodyPost_ret (v := .agg #[.bool m, .slice D l2 c2]) (by simp [results, Try.results42, go_sem, hv0, hv1]) rfl (Ret.J (hi'.kept (store_J b2 hi').1.2.1) (((nw1.trans hn).trans hb2).rr (store_J b2 hi').1 (Nat.le_refl _)))
  · have r0 := Lib.hid (⟨by omega, rfl, dg_nil _, by omega, by rw [show (65536 : Int) ^ (4 - 0) = 18446744073709551616 by decide]; omega, by simp [lv]⟩ : RnAt x 0 [] x)
    go_enter Try.func42, Try.ntmps42
    go_wp2
    go_loopw [3, 4] (fun uv ov wr => ∃ (k : Nat) (zs : List Int) (u : Int), uv = .int .u64 u ∧ Own wr (w.heap.size + 1) 3 .i64 ov zs ∧ RnAt x k zs u ∧ Nw (w.alloc (.cells #[.bool false, .slice none 0 0] 31)) wr)
      (fun uv _ _ => (intOf uv).toNat)
    case atStart => exact ⟨0, [], _, rfl, Own.nil _ _ _ _, r0.out, Nw.refl _⟩
    case round =>
      obtain ⟨k, zs, u, rfl, ho, hr, hn⟩ := hrel
      have hu0 := hr.u0
      have hu1 : u < 18446744073709551616 := by
        have h1 := hr.u1
        have h2 := pow_le (b := 65536) (by decide) (show 4 - k ≤ 4 by omega)
        have : (65536 : Int) ^ 4 = 18446744073709551616 := by decide
        omega
      by_cases hu : 0 < u
      · have HST := Lib.hid (hr.step hu)
        have hk := hr.lt hu
        have hlen := hr.len
        clear hr
        go_wp2_with (at_builtin; refine wpList_append_own _ rfl (.tmp 13) (.tmp 17) 29 rfl (w.heap.size + 1) 3 i0 (.int .i64 0) 1 8 Try.underlying29 hi hz0 hz1 hz2 rfl (by decide) _ _ _ rfl (ho.alloc _) ⟨wr.heap.size, 0, none⟩ 1 1 [.int .i64 (u % 65536)] rfl rfl ?c1 ?c2 ?c3 ?c4 ?c5 ?_)
        case c1 => intro j u hu; exact cell_one_new _ _ _ j u hu
        case c2 => simp [Value.oneCell']
        case c3 => unfold maxLen; omega
        case c4 => omega
        case c5 => have := hn.size; simp at this ⊢; omega
        intro v1 w4 hown1 hgrow1 _
        have n4 := hn.grew ho hgrow1 (by simp)
        go_wp2
        go_roundw
        case rel => exact ⟨k + 1, _, _, rfl, Own.cast hown1 (by simp [hlen]) (by simp), HST.out, n4⟩
        case measure => simp [intOf]; omega
      · have hz : u = 0 := by omega
        subst hz
        have he := hr.eq
        have dz := hr.dg
        rw [Int.mul_zero, Int.add_zero] at he
        have HE := Lib.hid he
        obtain ⟨Az, cz, rfl, hcz, rz⟩ := ho.rd
        clear hr he ho
        go_wp2_with (go_at_call 88; refine (rmade_c rfl rz hcz dz).mono ?_; rintro e w2 ⟨_, rfl, ⟨m, D, l2, c2, rfl, hi⟩, hb2⟩; have b2 := ((SG.out.nw hn).nw hb2).2.1; obtain ⟨⟨v0, hv0, hn0⟩, hf0⟩ := b2 0 (by omega); obtain ⟨⟨v1, hv1, hn1⟩, hf1⟩ := b2 1 (by omega))
        have hi' := hi.eq (z' := x) (by rw [HE.out]; simp [sg] <;> omega)
        exact bodyPost_ret (v := .agg #[.bool m, .slice D l2 c2]) (by simp [results, Try.results42, go_sem, hv0, hv1]) rfl (Ret.J (hi'.kept (store_J b2 hi').1.2.1) (((nw1.trans hn).trans hb2).rr (store_J b2 hi').1 (Nat.le_refl _)))
end Go.Proofs.Ytcgkgcciogibkaa
/- The contracts of the reference's Limbs, of the law's Is. -/
set_option linter.unusedVariables false
set_option linter.unusedSimpArgs false
namespace Go.Proofs.Ytcgkgcciogibkaa
open Go.RowKit Ma

/-- What a round of the reference's Limbs leaves: limbs of the first 2 k digits. -/
structure LbAt (ds : List Int) (k : Nat) (zs : List Int) : Prop where
  len : zs.length = k
  le : 2 * k ≤ ds.length + 1
  dg : dg b32 zs
  eq : lv b32 zs = lv b16 (ds.take (2 * k))
theorem LbAt.start (ds : List Int) : LbAt ds 0 [] := ⟨rfl, by omega, dg_nil _, by simp [lv]⟩
theorem pow_b (k : Nat) : b32 ^ k = b16 ^ (2 * k) := by rw [Int.pow_mul]; rfl
theorem LbAt.two {ds : List Int} {k : Nat} {zs : List Int} (h : LbAt ds k zs) (d : Ma.dg b16 ds) (hk : 2 * k + 1 < ds.length) : LbAt ds (k + 1) (zs ++ [at0 ds (2 * k) + at0 ds (2 * k + 1) * 65536]) := by
  obtain ⟨h1, h2, h3, h4⟩ := h
  have a := dg_at d (by decide) (2 * k)
  have b := dg_at d (by decide) (2 * k + 1)
  rw [b16_eq] at a b
  refine ⟨by simp [h1], by omega, dg_append.2 ⟨h3, fun x hx => by rw [List.mem_singleton] at hx; rw [hx, b32_eq]; omega⟩, ?_⟩
  rw [lv_snoc, h4, h1, show 2 * (k + 1) = 2 * k + 1 + 1 by omega, lv_take_succ _ _ _ hk, lv_take_succ _ _ _ (by omega), pow_b, Int.pow_succ, b16_eq]
  grind
theorem LbAt.one {ds : List Int} {k : Nat} {zs : List Int} (h : LbAt ds k zs) (d : Ma.dg b16 ds) (hk : 2 * k + 1 = ds.length) : LbAt ds (k + 1) (zs ++ [at0 ds (2 * k)]) := by
  obtain ⟨h1, h2, h3, h4⟩ := h
  have a := dg_at d (by decide) (2 * k)
  rw [b16_eq] at a
  refine ⟨by simp [h1], by omega, dg_append.2 ⟨h3, fun x hx => by rw [List.mem_singleton] at hx; rw [hx, b32_eq]; omega⟩, ?_⟩
  rw [lv_snoc, h4, h1, List.take_of_length_le (show ds.length ≤ 2 * (k + 1) by omega), pow_b]
  have e := lv_take_succ b16 ds (2 * k) (by omega)
  rw [hk, List.take_length] at e
  rw [e]
theorem LbAt.done {ds : List Int} {k : Nat} {zs : List Int} (h : LbAt ds k zs) (d : Ma.dg b16 ds) (t : Ma.top ds) (hk : ds.length ≤ 2 * k) : Ma.dg b32 zs ∧ Ma.top zs ∧ lv b32 zs = lv b16 ds := by
  obtain ⟨h1, h2, h3, h4⟩ := h
  rw [List.take_of_length_le hk] at h4
  refine ⟨h3, ?_, h4⟩
  by_cases hne : zs = []
  · subst hne; exact top_nil
  · rw [top_at hne]
    intro hz
    have hl : 0 < zs.length := List.length_pos_iff.2 hne
    have hd : ds ≠ [] := by intro e; subst e; simp at h2; omega
    have e := lv_take_succ b32 zs (zs.length - 1) (by omega)
    rw [Nat.sub_add_cancel hl, List.take_length, hz, Int.mul_zero, Int.add_zero] at e
    have l1 := lv_lt (show (0 : Int) < b32 by decide) (dg_take h3 (zs.length - 1))
    rw [List.length_take, Nat.min_eq_left (by omega), pow_b] at l1
    have l2 := top_le (show (0 : Int) < b16 by decide) d t hd
    have l3 := pow_le (b := b16) (by decide) (show 2 * (zs.length - 1) ≤ ds.length - 1 by omega)
    omega

set_option maxHeartbeats 1600000 in
set_option maxRecDepth 100000 in
theorem rlimbs_c {n : Bool} {A : Option Addr} {l c : Nat} {z : Int} {w : World} (hx : RJ w n A l c z) (hl : l ≤ 2000000) :
    Calls Try.prog 78 #[.agg #[.bool n, .slice A l c]] w (Ret w (KL .u32 fun zs => Num b32 n zs z)) := by
  obtain ⟨ds, rfl, hc, rA, dd, td, nd, ez⟩ := hx
  obtain ⟨i0, hi, hz0, hz1, hz2⟩ := info_parts info_u32
  have nw1 : Nw w (w.alloc (.cells #[.bool n, .slice A ds.length c] 31)) := (Nw.refl w).alloc _
  have q0 : Has [(w.heap.size, 1, Value.slice A ds.length c)] (w.alloc (.cells #[.bool n, .slice A ds.length c] 31)) := ⟨by go_simp, trivial⟩
  have RA := Lib.hid (rA.kept nw1.kept)
  have Q0 := Lib.hid q0
  have EZ := Lib.hid ez
  clear rA q0 ez
  go_enter Try.func78, Try.ntmps78
  go_wp2
  go_loopw [3, 4] (fun ov iv wr => ∃ (k : Nat) (zs : List Int), iv = .int .i64 ((2 * k : Nat) : Int) ∧ Own wr (w.heap.size + 1) 92 .u32 ov zs ∧ LbAt ds k zs ∧ Nw (w.alloc (.cells #[.bool n, .slice A ds.length c] 31)) wr)
    (fun _ iv _ => ds.length + 2 - (intOf iv).toNat)
  case atStart => exact ⟨0, [], rfl, Own.nil _ _ _ _, LbAt.start ds, Nw.refl _⟩
  case round =>
    obtain ⟨k, zs, rfl, ho, hb, hn⟩ := hrel
    obtain ⟨q1, _⟩ := Q0.out.nw hn
    have hlen := hb.len
    have hle := hb.le
    obtain ⟨j, hj⟩ : ∃ j, j = 2 * k := ⟨_, rfl⟩
    rw [← hj]
    by_cases h0 : j < ds.length
    · obtain ⟨ad, hA, hcell⟩ := (RA.out.kept hn.kept).2 j h0
      subst hA
      have a0 := dg_at dd (by decide) j
      rw [b16_eq] at a0
      obtain ⟨a1, a2⟩ := a0
      have hb0 := Lib.hid hb
      have hjz : zs.length * 2 = j := by omega
      have HJ := Lib.hid hj
      have HLN := Lib.hid hlen
      have hsz := hn.size
      by_cases h1 : j + 1 < ds.length
      · obtain ⟨ad', hA', hcell'⟩ := (RA.out.kept hn.kept).2 (j + 1) h1
        injection hA' with hA'
        subst hA'
        rw [Addr.add_succ'] at hcell'
        have b0 := dg_at dd (by decide) (j + 1)
        rw [b16_eq] at b0
        obtain ⟨b1, b2⟩ := b0
        have h2 : (j : Int) + 1 < (ds.length : Int) := by omega
        have HT := Lib.hid (hb.two dd (by omega))
        rw [← hj] at HT
        clear hb hj hlen hle
        go_wp2_with (at_builtin; refine wpList_append_own _ rfl (.tmp 35) (.tmp 37) 22 rfl (w.heap.size + 1) 92 i0 (.int .u32 0) 1 4 Try.underlying22 hi hz0 hz1 hz2 rfl (by decide) _ _ _ rfl (ho.alloc _) ⟨wr.heap.size, 0, none⟩ 1 1 [.int .u32 (at0 ds j + at0 ds (j + 1) * 65536)] rfl rfl ?c1 ?c2 ?c3 ?c4 ?c5 ?_)
        case c1 => intro j u hu; exact cell_one_new _ _ _ j u hu
        case c2 => simp [Value.oneCell']
        case c3 => unfold maxLen; omega
        case c4 => omega
        case c5 => simp at hsz ⊢; omega
        intro v1 w4 hown1 hgrow1 _
        have n4 := hn.grew ho hgrow1 (by simp)
        go_wp2
        exact ⟨⟨k + 1, _, by apply congrArg (Value.int IntKind.i64); have := HJ.out; omega, Own.cast hown1 (by simp) (by simp), HT.out, n4⟩, by simp [intOf]; omega⟩
      · have h2 : ¬ (j : Int) + 1 < (ds.length : Int) := by omega
        have HT := Lib.hid (hb.one dd (by omega))
        rw [← hj] at HT
        clear hb hj hlen hle
        go_wp2_with (at_builtin; refine wpList_append_own _ rfl (.tmp 35) (.tmp 37) 22 rfl (w.heap.size + 1) 92 i0 (.int .u32 0) 1 4 Try.underlying22 hi hz0 hz1 hz2 rfl (by decide) _ _ _ rfl (ho.alloc _) ⟨wr.heap.size, 0, none⟩ 1 1 [.int .u32 (at0 ds j)] rfl rfl ?c1 ?c2 ?c3 ?c4 ?c5 ?_)
        case c2 => simp [Value.oneCell']
        case c3 => unfold maxLen; omega
        case c4 => omega
        case c5 => simp at hsz ⊢; omega
        intro v1 w4 hown1 hgrow1 _
        have n4 := hn.grew ho hgrow1 (by simp)
        go_wp2
        exact ⟨⟨k + 1, _, by apply congrArg (Value.int IntKind.i64); have := HJ.out; omega, Own.cast hown1 (by simp) (by simp), HT.out, n4⟩, by simp [intOf]; omega⟩
    · have hd := hb.done dd td (by omega)
      have HD := Lib.hid hd
      have hnn : n = true → zs ≠ [] := by
        intro e e2; subst e2
        have h3 := nd e
        have := top_le (show (0 : Int) < b16 by decide) dd td h3
        have := pos_pow (show (0 : Int) < b16 by decide) (ds.length - 1)
        have h4 := hd.2.2
        simp [lv] at h4
        omega
      clear hd hb hj hlen hle
      go_wp2
      go_ret
      exact Ret.own ho ⟨HD.out.1, HD.out.2.1, hnn, by rw [EZ.out, HD.out.2.2]⟩ (nw1.trans hn)
end Go.Proofs.Ytcgkgcciogibkaa
/- The contracts of the law's Is (of equal numbers), of same. -/
set_option linter.unusedVariables false
set_option linter.unusedSimpArgs false
namespace Go.Proofs.Ytcgkgcciogibkaa
open Go.RowKit Ma

theorem num_inj {b : Int} (hb : 1 < b) {n m : Bool} {xs ys : List Int} {z : Int} (hx : Num b n xs z) (hy : Num b m ys z) : n = m ∧ xs = ys := by
  obtain ⟨dx, tx, nx, ex⟩ := hx
  obtain ⟨dy, ty, ny, ey⟩ := hy
  have px := lv_nonneg (b := b) (by omega) dx
  have py := lv_nonneg (b := b) (by omega) dy
  have qx : n = true → 0 < lv b xs := fun h => Int.lt_of_lt_of_le (pos_pow (by omega) _) (top_le (b := b) (by omega) dx tx (nx h))
  have qy : m = true → 0 < lv b ys := fun h => Int.lt_of_lt_of_le (pos_pow (by omega) _) (top_le (b := b) (by omega) dy ty (ny h))
  have e : sg n (lv b xs) = sg m (lv b ys) := ex.symm.trans ey
  cases n <;> cases m <;> simp only [sg, if_true, if_false, Bool.false_eq_true, forall_const, true_implies] at e qx qy
  · exact ⟨rfl, lv_inj hb dx dy tx ty e⟩
  · omega
  · omega
  · exact ⟨rfl, lv_inj hb dx dy tx ty (by omega)⟩

theorem equal_l {A B : Option Addr} {l l' c d : Nat} {xs ys : List Int} {w : World} (e1 : l = xs.length) (e2 : l' = ys.length) (rA : Rd w .u32 A xs) (rB : Rd w .u32 B ys) (e : xs = ys) :
    Calls Try.prog 77 #[.slice A l c, .slice B l' d] w (Ret w (KV (.bool true))) := by
  subst e1 e2
  have := equal_c A B c d xs ys w rA rB
  rwa [decide_eq_true e] at this

set_option maxHeartbeats 1600000 in
set_option maxRecDepth 100000 in
theorem is_c {x y : Int} {n m : Bool} {A B : Option Addr} {l l' c d : Nat} {w : World} (hx : RI w n A l c x) (hy : RJ w m B l' d y) (e : x = y) (hl : l ≤ 1000000) (hl' : l' ≤ 2000000) :
    Calls Try.prog 19 #[.agg #[.bool n, .slice A l c], .agg #[.bool m, .slice B l' d]] w (Ret w (KV (.bool true))) := by
  subst e
  have nw1 : Nw w ((w.alloc (.cells #[.bool n, .slice A l c] 28)).alloc (.cells #[.bool m, .slice B l' d] 31)) := ((Nw.refl w).alloc _).alloc _
  have hc0 : Has [(w.heap.size + 1, 0, Value.bool m), (w.heap.size + 1, 1, Value.slice B l' d)] ((w.alloc (.cells #[.bool n, .slice A l c] 28)).alloc (.cells #[.bool m, .slice B l' d] 31)) := ⟨by go_simp, by go_simp, trivial⟩
  have HC := Lib.hid hc0
  have HX := Lib.hid hx
  have HY := Lib.hid hy
  have hnm : n = m := by
    obtain ⟨xs, _, _, _, nx⟩ := hx
    obtain ⟨ys, _, _, _, ny⟩ := hy
    have px := nx
    cases n <;> cases m
    · rfl
    · exfalso
      have h1 := lv_nonneg (b := b32) (by decide) nx.1
      have h2 := Int.lt_of_lt_of_le (pos_pow (b := b16) (by decide) _) (top_le (b := b16) (by decide) ny.1 ny.2.1 (ny.2.2.1 rfl))
      have e1 := nx.2.2.2
      have e2 := ny.2.2.2
      simp only [sg, if_true, if_false, Bool.false_eq_true] at e1 e2
      omega
    · exfalso
      have h1 := lv_nonneg (b := b16) (by decide) ny.1
      have h2 := Int.lt_of_lt_of_le (pos_pow (b := b32) (by decide) _) (top_le (b := b32) (by decide) nx.1 nx.2.1 (nx.2.2.1 rfl))
      have e1 := nx.2.2.2
      have e2 := ny.2.2.2
      simp only [sg, if_true, if_false, Bool.false_eq_true] at e1 e2
      omega
    · rfl
  subst hnm
  clear hx hy hc0
  go_enter Try.func19, Try.ntmps19
  go_wp2_with (first
    | (go_at_call 76; refine (limbs_c (HX.out.kept nw1.kept) hl).mono ?_; rintro e w1 ⟨_, rfl, ⟨_, _, rfl, rfl, ⟨zs, C, cc, rfl, hcc, rC, nC⟩⟩, hb1⟩; obtain ⟨q1, q2, _⟩ := HC.out.nw hb1)
    | (go_at_call 78; refine (rlimbs_c ((HY.out.kept nw1.kept).kept hb1.kept) hl').mono ?_; rintro e w2 ⟨_, rfl, ⟨us, D, cd, rfl, hcd, rD, nD⟩, hb2⟩)
    | (go_at_call 77; refine (equal_l rfl rfl (rC.kept hb2.kept) rD (num_inj (by decide) nC nD).2).mono ?_; rintro e w3 ⟨_, rfl, rfl, hb3⟩))
  go_ret
  exact Ret.V (((nw1.trans hb1).trans hb2).trans hb3)

end Go.Proofs.Ytcgkgcciogibkaa
/- The contract of the law's Short: a closure handed to slices.ContainsFunc; made. -/
set_option linter.unusedVariables false
set_option linter.unusedSimpArgs false
namespace Go.Proofs.Ytcgkgcciogibkaa
open Go.RowKit Ma

/-- A sign and a slice, as they lie in memory. -/
abbrev Nn := Bool × Option Addr × Nat × Nat
/-- Such pairs lie in the block b. -/
def Ns (w : World) (b : Nat) (ns : List Nn) : Prop := ∀ i n A l c, ns[i]? = some (n, A, l, c) → w.cell? ⟨b, i * 2, none⟩ = some (.bool n) ∧ w.cell? ⟨b, i * 2 + 1, none⟩ = some (.slice A l c)
theorem Ns.nw {w W : World} {b : Nat} {ns : List Nn} (h : Ns w b ns) (k : Nw w W) : Ns W b ns := fun i n A l c e => ⟨k.c (h i n A l c e).1, k.c (h i n A l c e).2⟩
def shB (most : Nat) (ns : List Nn) : Bool := ns.all fun x => decide (x.2.2.1 ≤ most)
def KIx (b : Bool) : Rg.Know := fun v _ => ∃ r : Int, v = .int .i64 r ∧ (if b = true then r < 0 else 0 ≤ r)

set_option maxHeartbeats 1600000 in
set_option maxRecDepth 100000 in
theorem short1_c {n : Bool} {A : Option Addr} {l c p most : Nat} {w : World} (hc : w.cell? ⟨p, 0, none⟩ = some (.int .i64 most)) (hl : l ≤ 9223372036854775807) :
    Calls Try.prog 67 #[.agg #[.bool n, .slice A l c], .pointer (some ⟨p, 0, none⟩)] w (Ret w (KV (.bool (decide (most < l))))) := by
  have hc2 := (Nw.refl w).alloc (.cells #[.bool n, .slice A l c] 24) |>.c hc
  go_enter Try.func67, Try.ntmps67
  go_wp2
  go_ret
  exact Ret.Veq (by simp) ((Nw.refl w).alloc _)

set_option maxHeartbeats 1600000 in
set_option maxRecDepth 100000 in
theorem shortx_c {b c p most : Nat} {ns : List Nn} {w : World} (hc : w.cell? ⟨p, 0, none⟩ = some (.int .i64 most)) (hn : Ns w b ns) (hm : most ≤ 1000) (hl : ns.length ≤ 1000) (hL : ∀ x ∈ ns, x.2.2.1 ≤ 9223372036854775807) :
    Calls Try.prog 111 #[.slice (some ⟨b, 0, none⟩) ns.length c, .func (.func 67) #[] #[.pointer (some ⟨p, 0, none⟩)]] w (Ret w (KIx (shB most ns))) := by
  have HN := Lib.hid hn
  have HL := Lib.hid hL
  clear hn hL
  go_enter Try.func111, Try.ntmps111
  go_wp2
  go_loopw [5, 8] (fun _ ci wr => ∃ k : Nat, ci = .int .i64 k ∧ k ≤ ns.length ∧ shB most (ns.take k) = true ∧ Nw w wr)
    (fun _ ci _ => ns.length - (intOf ci).toNat)
  case atStart => exact ⟨0, rfl, by omega, rfl, Nw.refl w⟩
  case round =>
    obtain ⟨k, rfl, hk, hs, hn⟩ := hrel
    have HS := Lib.hid hs
    clear hs
    have hc2 := hn.c hc
    by_cases hlt : k < ns.length
    · obtain ⟨⟨n, A, l, cc⟩, he⟩ : ∃ x, ns[k]? = some x := ⟨_, List.getElem?_eq_getElem hlt⟩
      obtain ⟨h1, h2⟩ := (HN.out.nw hn) k n A l cc he
      have hll := HL.out _ (List.mem_of_getElem? he)
      simp only at hll
      have hk0 : (0 : Int) ≤ (k : Int) := by omega
      have hki : (k : Int) < (ns.length : Int) := by omega
      have ht : shB most (ns.take (k + 1)) = (shB most (ns.take k) && decide (l ≤ most)) := by
        unfold shB
        rw [List.take_add_one, he]
        simp
      have HE := Lib.hid he
      have HT := Lib.hid ht
      clear he ht
      by_cases hlm : most < l
      · have hb : decide (most < l) = true := by simpa using hlm
        go_wp2_with (go_at_call 67; refine (short1_c hc2 hll).mono ?_; rintro e w1 ⟨_, rfl, rfl, hb1⟩)
        go_ret
        have hf : shB most ns = false := by
          unfold shB
          rw [List.all_eq_false]
          exact ⟨_, List.mem_of_getElem? HE.out, by simpa using hlm⟩
        exact ⟨_, rfl, ⟨k, rfl, by rw [hf]; simp⟩, hn.trans hb1⟩
      · have hb : decide (most < l) = false := by simpa using hlm
        go_wp2_with (go_at_call 67; refine (short1_c hc2 hll).mono ?_; rintro e w1 ⟨_, rfl, rfl, hb1⟩)
        go_roundw
        case rel => exact ⟨k + 1, by go_num, by omega, by rw [HT.out, HS.out]; simp; omega, hn.trans hb1⟩
        case measure => simp [intOf]; omega
    · have hke : k = ns.length := by omega
      have hf : shB most ns = true := by
        have := HS.out
        rwa [hke, List.take_length] at this
      have HF := Lib.hid hf
      clear hke hf
      go_wp2
      go_ret
      exact ⟨_, rfl, ⟨-1, rfl, by rw [HF.out]; simp⟩, hn⟩

set_option maxHeartbeats 1600000 in
set_option maxRecDepth 100000 in
theorem shortc_c {b c p most : Nat} {ns : List Nn} {w : World} (hc : w.cell? ⟨p, 0, none⟩ = some (.int .i64 most)) (hn : Ns w b ns) (hm : most ≤ 1000) (hl : ns.length ≤ 1000) (hL : ∀ x ∈ ns, x.2.2.1 ≤ 9223372036854775807) :
    Calls Try.prog 66 #[.slice (some ⟨b, 0, none⟩) ns.length c, .func (.func 67) #[] #[.pointer (some ⟨p, 0, none⟩)]] w (Ret w (KV (.bool (!shB most ns)))) := by
  have HN := Lib.hid hn
  have HL := Lib.hid hL
  clear hn hL
  by_cases hs : shB most ns = true
  all_goals
    have HS := Lib.hid hs
    clear hs
    go_enter Try.func66, Try.ntmps66
    go_wp2_with (go_at_call 111; refine (shortx_c hc HN.out hm hl HL.out).mono ?_; rintro e w1 ⟨_, rfl, ⟨r, rfl, hr⟩, hb1⟩)
    go_ret
    have h1 := HS.out
    first
      | (rw [h1] at hr ⊢; exact Ret.Veq (by simp at hr ⊢; omega) hb1)
      | (have h1 : shB most ns = false := by simpa using h1
         rw [h1] at hr ⊢; exact Ret.Veq (by simp at hr ⊢; omega) hb1)

set_option maxHeartbeats 1600000 in
set_option maxRecDepth 100000 in
theorem short_c {b c most : Nat} {ns : List Nn} {w : World} (hn : Ns w b ns) (hm : most ≤ 1000) (hl : ns.length ≤ 1000) (hL : ∀ x ∈ ns, x.2.2.1 ≤ 9223372036854775807) :
    Calls Try.prog 14 #[.int .i64 most, .slice (some ⟨b, 0, none⟩) ns.length c] w (Ret w (KV (.bool (shB most ns)))) := by
  have nw1 : Nw w (w.alloc (.cells #[.int .i64 most] 3)) := (Nw.refl w).alloc _
  have hc : (w.alloc (.cells #[.int .i64 most] 3)).cell? ⟨w.heap.size, 0, none⟩ = some (.int .i64 most) := by go_simp
  have HN := Lib.hid (hn.nw nw1)
  have HL := Lib.hid hL
  clear hn hL
  go_enter Try.func14, Try.ntmps14
  go_wp2_with (go_at_call 66; refine (shortc_c hc HN.out hm hl HL.out).mono ?_; rintro e w1 ⟨_, rfl, rfl, hb1⟩)
  go_ret
  exact Ret.Veq (by simp) (nw1.trans hb1)
end Go.Proofs.Ytcgkgcciogibkaa
/- The contract of the law's made: a new slice of the program's integers. -/
set_option linter.unusedVariables false
set_option linter.unusedSimpArgs false
namespace Go.Proofs.Ytcgkgcciogibkaa
open Go.RowKit Ma

/-- What came in, and which numbers it tells. -/
def Ins (w : World) (ns : List Nn) (zs : List Int) : Prop := ns.length = zs.length ∧ ∀ i n A l c, ns[i]? = some (n, A, l, c) → ∃ xs, l = xs.length ∧ l ≤ c ∧ xs.length ≤ 1000000 ∧ Rd w .u32 A xs ∧ dg b32 xs ∧ at0 zs i = sg n (lv b32 xs)
theorem Ins.nw {w W : World} {ns : List Nn} {zs : List Int} (h : Ins w ns zs) (k : Nw w W) : Ins W ns zs := ⟨h.1, fun i n A l c e => let ⟨xs, h1, h2, h3, h4, h5, h6⟩ := h.2 i n A l c e; ⟨xs, h1, h2, h3, h4.kept k.kept, h5, h6⟩⟩
def Rs (w : World) (rs : List Nn) (zs : List Int) : Prop := rs.length = zs.length ∧ ∀ i n A l c, rs[i]? = some (n, A, l, c) → RI w n A l c (at0 zs i)
theorem Rs.nw {w W : World} {ns : List Nn} {zs : List Int} (h : Rs w ns zs) (k : Nw w W) : Rs W ns zs := ⟨h.1, fun i n A l c e => (h.2 i n A l c e).kept k.kept⟩
def KM (zs : List Int) : Rg.Know := fun v W => ∃ g c rs, v = .slice (some ⟨g, 0, none⟩) zs.length c ∧ zs.length ≤ c ∧ Ns W g rs ∧ Rs W rs zs
/-- An integer of the program's whose limbs nobody else has. -/
def RO (w : World) (base : Nat) (n : Bool) (A : Option Addr) (l c : Nat) (z : Int) : Prop := ∃ xs, l = xs.length ∧ Own w base 92 .u32 (.slice A l c) xs ∧ Num b32 n xs z
theorem RO.grown {w w' : World} {base : Nat} {n : Bool} {A : Option Addr} {l c : Nat} {z : Int} {row : Option Nat} (h : RO w base n A l c z) (hg : w.grownBy w' row) (hne : (Value.slice A l c).ownBlock = none ∨ (Value.slice A l c).ownBlock ≠ row) : RO w' base n A l c z := by
  obtain ⟨xs, hl, ho, hn⟩ := h
  exact ⟨xs, hl, World.ownsRow.kept ho hg hne, hn⟩
theorem RO.nw {w w' : World} {base : Nat} {n : Bool} {A : Option Addr} {l c : Nat} {z : Int} (h : RO w base n A l c z) (hg : Nw w w') : RO w' base n A l c z := by
  obtain ⟨xs, hl, ho, hn⟩ := h
  exact ⟨xs, hl, ho.kept hg, hn⟩
theorem RO.eq {w : World} {base : Nat} {n : Bool} {A : Option Addr} {l c : Nat} {z z' : Int} (h : RO w base n A l c z) (e : z = z') : RO w base n A l c z' := e ▸ h
/-- .. lies in no block of another type. -/
theorem RO.ne {w : World} {base b : Nat} {m : Bool} {A : Option Addr} {l c : Nat} {z : Int} {e : TypeId} {s n : Nat} {v : Value} {xs : List Value} (h : RO w base m A l c z) (hv : w.ownsRow b e s v n xs) (he : 92 ≠ e) : (Value.slice A l c).ownBlock = none ∨ (Value.slice A l c).ownBlock ≠ v.ownBlock := by
  obtain ⟨ys, hl, ho, hn⟩ := h
  obtain ⟨_, h1 | ⟨g, cap, cur, hv1, hb, hg, _⟩⟩ := ho
  · left; rw [h1.1]; rfl
  · right
    obtain ⟨_, h2 | ⟨g', cap', cur', hv', hb', hg', _⟩⟩ := hv
    · rw [hv1, h2.1]; simp [Value.ownBlock]
    · rw [hv1, hv']
      simp only [Value.ownBlock, ne_eq, Option.some.injEq]
      intro e1; subst e1
      rw [hg] at hg'
      simp only [Option.some.injEq, Obj.cells.injEq] at hg'
      exact he hg'.2.1
theorem Own.trims {w : World} {base : Nat} {e : TypeId} {k : IntKind} {A : Option Addr} {l c : Nat} {xs : List Int} (h : Own w base e k (.slice A l c) xs) : Own w base e k (.slice A (trim xs).length c) (trim xs) := by
  have hl := trim_len xs
  obtain ⟨_, h1 | ⟨g, cap, cur, hv, hb, hg, _⟩⟩ := id h
  · obtain ⟨e1, e2⟩ := h1
    have : xs = [] := List.eq_nil_of_length_eq_zero e2
    subst this
    simp only [Value.slice.injEq] at e1
    obtain ⟨rfl, rfl, rfl⟩ := e1
    exact h
  · simp only [Value.slice.injEq] at hv
    obtain ⟨rfl, rfl, rfl⟩ := hv
    have := h.take (by rfl) (trim xs).length hl
    rwa [← trim_take] at this
theorem RO.far {w : World} {base : Nat} {n : Bool} {A : Option Addr} {l c : Nat} {z : Int} (h : RO w base n A l c z) {r : Nat} (hr : r < base) : (Value.slice A l c).ownBlock = none ∨ (Value.slice A l c).ownBlock ≠ some r := by
  obtain ⟨xs, hl, ho, hn⟩ := h
  cases hv : (Value.slice A l c).ownBlock with
  | none => exact .inl rfl
  | some g =>
    right
    have := (World.ownsRow.lt ho g hv).1
    simp; omega
end Go.Proofs.Ytcgkgcciogibkaa
/- The contract of the law's made: a new slice of the program's integers. -/
set_option linter.unusedVariables false
set_option linter.unusedSimpArgs false
namespace Go.Proofs.Ytcgkgcciogibkaa
open Go.RowKit Ma

def Ros (w : World) (rs : List Nn) (zs : List Int) : Prop := rs.length = zs.length ∧ ∀ i n A l c, rs[i]? = some (n, A, l, c) → RO w 0 n A l c (at0 zs i)
theorem Ros.nw {w W : World} {ns : List Nn} {zs : List Int} (h : Ros w ns zs) (k : Nw w W) : Ros W ns zs := ⟨h.1, fun i n A l c e => (h.2 i n A l c e).nw k⟩
theorem Ros.grown {w w' : World} {rs : List Nn} {zs : List Int} {b s n : Nat} {e : TypeId} {v : Value} {xs : List Value} (h : Ros w rs zs) (hv : w.ownsRow b e s v n xs) (he : 92 ≠ e) (hg : w.grownBy w' v.ownBlock) : Ros w' rs zs :=
  ⟨h.1, fun i n A l c e1 => (h.2 i n A l c e1).grown hg ((h.2 i n A l c e1).ne hv he)⟩
end Go.Proofs.Ytcgkgcciogibkaa
/- The contract of the law's awake: it returns true. -/
set_option linter.unusedVariables false
set_option linter.unusedSimpArgs false
namespace Go.Proofs.Ytcgkgcciogibkaa
open Go.RowKit Ma

theorem txt_FF : Txt 16 255 ⟨#[70, 70]⟩ := ⟨[15, 15], by intro x hx; simp at hx; omega, by unfold top; simp, by decide, by decide⟩
theorem bo_8 : bo 8 (-4) 7 = 4 := by
  refine (bo_eq fun i => ?_).symm
  by_cases h : i < 3
  · have : i = 0 ∨ i = 1 ∨ i = 2 := by omega
    rcases this with rfl | rfl | rfl <;> decide
  · rw [tb_high (z := 4) (m := 3) (by decide) (by decide) (by omega), tb_high (z := 7) (m := 3) (by decide) (by decide) (by omega), tb_high (z := -4) (m := 3) (by decide) (by decide) (by omega)]
    decide

theorem RJ.len_le {w : World} {n : Bool} {A : Option Addr} {l c : Nat} {z : Int} (h : RJ w n A l c z) (k : Nat) (h1 : -(b16 ^ k) < z) (h2 : z < b16 ^ k) : l ≤ k := by
  obtain ⟨xs, rfl, hc, rA, dx, tx, nx, rfl⟩ := h
  have h3 := lv_nonneg (b := b16) (by decide) dx
  have h4 : lv b16 xs < b16 ^ k := by cases n <;> simp only [sg, if_true, if_false, Bool.false_eq_true] at h1 h2 <;> omega
  apply Classical.byContradiction
  intro hk
  have hne : xs ≠ [] := by intro e; subst e; simp at hk
  have h5 := top_le (b := b16) (by decide) dx tx hne
  have h6 := pow_le (b := b16) (by decide) (show k ≤ xs.length - 1 by omega)
  omega
set_option maxHeartbeats 3200000 in
set_option maxRecDepth 100000 in
theorem awake_c {w : World} : Calls Try.prog 15 #[] w (Ret w (KV (.bool true))) := by
  go_enter Try.func15, Try.ntmps15
  go_wp2_with fail
  refine (new_c (x := -7) (by omega)).mono ?_
  rintro e w1 ⟨_, rfl, ⟨m1, D1, l1, c1, rfl, i1⟩, hb1⟩
  go_wp2_with fail
  refine (new_c (x := 2) (by omega)).mono ?_
  rintro e w2 ⟨_, rfl, ⟨m2, D2, l2, c2, rfl, i2⟩, hb2⟩
  have s1 := i1.len_le 1 (by decide) (by decide)
  have s2 := i2.len_le 1 (by decide) (by decide)
  go_wp2_with fail
  refine (divide_1 (i1.kept hb2.kept) i2 (by omega) (by decide) (.inl s2)).mono ?_
  rintro e w3 ⟨_, rfl, ⟨_, _, _, rfl, ⟨m3, D3, l3, c3, rfl, i3⟩, ⟨m4, D4, l4, c4, rfl, i4⟩, rfl⟩, hb3⟩
  clear i1 i2 s1 s2
  go_wp2_with fail
  have nA : Nw w3 ((w3.alloc (.cells #[.bool m3, .slice D3 l3 c3] 28)).alloc (.cells #[.bool m4, .slice D4 l4 c4] 28)) := ((Nw.refl w3).alloc _).alloc _
  have cA : Has [(w3.heap.size, 0, Value.bool m3), (w3.heap.size, 1, Value.slice D3 l3 c3), (w3.heap.size + 1, 0, Value.bool m4), (w3.heap.size + 1, 1, Value.slice D4 l4 c4)] ((w3.alloc (.cells #[.bool m3, .slice D3 l3 c3] 28)).alloc (.cells #[.bool m4, .slice D4 l4 c4] 28)) := ⟨by go_simp, by go_simp, by go_simp, by go_simp, trivial⟩
  refine (new_c (x := 255) (by omega)).mono ?_
  rintro e w4 ⟨_, rfl, ⟨m5, D5, l5, c5, rfl, i5⟩, hb4⟩
  have s5 := i5.len_le 1 (by decide) (by decide)
  go_wp2_with fail
  refine (text_ok 16 (by decide) (by decide) i5 (by omega)).mono ?_
  rintro e w5 ⟨_, rfl, ⟨_, _, rfl, ⟨s, rfl, hs⟩, rfl⟩, hb5⟩
  obtain rfl := Txt.eq (by decide) hs txt_FF
  clear hs
  go_wp2_with fail
  refine (new_c (x := -4) (by omega)).mono ?_
  rintro e w6 ⟨_, rfl, ⟨m6, D6, l6, c6, rfl, i6⟩, hb6⟩
  go_wp2_with fail
  refine (new_c (x := 7) (by omega)).mono ?_
  rintro e w7 ⟨_, rfl, ⟨m7, D7, l7, c7, rfl, i7⟩, hb7⟩
  have s6 := i6.len_le 1 (by decide) (by decide)
  have s7 := i7.len_le 1 (by decide) (by decide)
  go_wp2_with fail
  refine (boole_c (op := 8) (i6.kept hb7.kept) i7 (by omega) (by omega) (by decide) (by decide)).mono ?_
  rintro e w8 ⟨_, rfl, ⟨_, _, rfl, ⟨m8, D8, l8, c8, rfl, i8⟩, rfl⟩, hb8⟩
  have nB := (((hb4.trans hb5).trans hb6).trans hb7).trans hb8
  have nC : Nw w8 (w8.alloc (.cells #[.bool m8, .slice D8 l8 c8] 28)) := (Nw.refl w8).alloc _
  have cC : Has [(w8.heap.size, 0, Value.bool m8), (w8.heap.size, 1, Value.slice D8 l8 c8)] (w8.alloc (.cells #[.bool m8, .slice D8 l8 c8] 28)) := ⟨by go_simp, by go_simp, trivial⟩
  obtain ⟨q1, q2, q3, q4, _⟩ := cA.nw (nB.trans nC)
  obtain ⟨q5, q6, _⟩ := cC
  have I3 := Lib.hid (i3.kept (nA.trans (nB.trans nC)).kept)
  have I4 := Lib.hid (i4.kept (nA.trans (nB.trans nC)).kept)
  have I8 := Lib.hid (i8.kept nC.kept)
  have nD := ((((hb1.trans hb2).trans hb3).trans nA).trans nB).trans nC
  have s3 := i3.len_le 1 (by decide) (by decide)
  have s4 := i4.len_le 1 (by decide) (by decide)
  rw [bo_8] at I8 i8
  have s8 := i8.len_le 1 (by decide) (by decide)
  clear i5 s5 i6 i7 s6 s7 i3 i4 i8 cA nA nB nC hb1 hb2 hb3 hb4 hb5 hb6 hb7 hb8
  go_wp2
  generalize w8.alloc (.cells #[.bool m8, .slice D8 l8 c8] 28) = wz at *
  have n1 : Nw w _ := nD
  refine region_nw [(12, KJ (-3)), (13, KV (.bool true)), (17, KJ (-1)), (18, KV (.bool true)), (26, KJ (4)), (27, KV (.bool true))] (by kernel_rfl) (by kernel_rfl) (by kernel_rfl) (by kernel_rfl) ⟨SN.st (KJ.st _), SN.st (KV.st _), SN.st (KJ.st _), SN.st (KV.st _), SN.st (KJ.st _), SN.st (KV.st _), trivial⟩ ?_
  repeat
    apply Rg.wpK_quiet rfl rfl
    case hq => intro W hS; have q0 := hS.c q1; have q1 := hS.c q2; have q2 := hS.c q3; have q3 := hS.c q4; have q4 := hS.c q5; have q5 := hS.c q6; go_simp; exact rfl
    case he => exact (by simp only [Act.put, List.setIfInBounds_toArray, List.set_cons_zero, List.set_cons_succ]; exact rfl)
  apply Rg.wpK_know rfl rfl
  case ha =>
    intro W hR hS hF
    have hn := n1.trans hS
    have q0 := hS.c q1
    have q1 := hS.c q2
    have q2 := hS.c q3
    have q3 := hS.c q4
    have q4 := hS.c q5
    have q5 := hS.c q6
    unfold Rg.gives
    go_simp
    exact Rg.gives_enter (call_nw (rnew_c (by decide)))
  intro u hu
  obtain ⟨W0, hw1, hw2, hf⟩ := hu
  obtain ⟨m12, D12, l12, c12, rfl, hx⟩ := Rg.upd_at rfl (hf 12)
  refine ⟨_, (by simp only [Act.put, List.setIfInBounds_toArray, List.set_cons_zero, List.set_cons_succ]; exact rfl), ?_⟩
  clear hf hw1 hw2 hx W0
  repeat
    apply Rg.wpK_quiet rfl rfl
    case hq => intro W hS; have q0 := hS.c q1; have q1 := hS.c q2; have q2 := hS.c q3; have q3 := hS.c q4; have q4 := hS.c q5; have q5 := hS.c q6; go_simp; exact rfl
    case he => exact (by simp only [Act.put, List.setIfInBounds_toArray, List.set_cons_zero, List.set_cons_succ]; exact rfl)
  apply Rg.wpK_know rfl rfl
  case ha =>
    intro W hR hS hF
    have hn := n1.trans hS
    have q0 := hS.c q1
    have q1 := hS.c q2
    have q2 := hS.c q3
    have q3 := hS.c q4
    have q4 := hS.c q5
    have q5 := hS.c q6
    have i12 := KJ.agg (Rg.upd_at rfl (hF 12 (by kernel_rfl)))
    unfold Rg.gives
    go_simp
    exact Rg.gives_enter (call_nw (is_c (I3.out.kept hS.kept) i12 (by decide) (by omega) (Nat.le_trans (i12.len_le 1 (by decide) (by decide)) (by decide))))
  intro u hu
  obtain ⟨W0, hw1, hw2, hf⟩ := hu
  obtain rfl := Rg.upd_at rfl (hf 13)
  have hx := trivial
  refine ⟨_, (by simp only [Act.put, List.setIfInBounds_toArray, List.set_cons_zero, List.set_cons_succ]; exact rfl), ?_⟩
  clear hf hw1 hw2 hx W0
  repeat
    apply Rg.wpK_quiet rfl rfl
    case hq => intro W hS; have q0 := hS.c q1; have q1 := hS.c q2; have q2 := hS.c q3; have q3 := hS.c q4; have q4 := hS.c q5; have q5 := hS.c q6; go_simp; exact rfl
    case he => exact (by simp only [Act.put, List.setIfInBounds_toArray, List.set_cons_zero, List.set_cons_succ]; exact rfl)
  apply Rg.wpK_know rfl rfl
  case ha =>
    intro W hR hS hF
    have hn := n1.trans hS
    have q0 := hS.c q1
    have q1 := hS.c q2
    have q2 := hS.c q3
    have q3 := hS.c q4
    have q4 := hS.c q5
    have q5 := hS.c q6
    unfold Rg.gives
    go_simp
    exact Rg.gives_enter (call_nw (rnew_c (by decide)))
  intro u hu
  obtain ⟨W0, hw1, hw2, hf⟩ := hu
  obtain ⟨m17, D17, l17, c17, rfl, hx⟩ := Rg.upd_at rfl (hf 17)
  refine ⟨_, (by simp only [Act.put, List.setIfInBounds_toArray, List.set_cons_zero, List.set_cons_succ]; exact rfl), ?_⟩
  clear hf hw1 hw2 hx W0
  repeat
    apply Rg.wpK_quiet rfl rfl
    case hq => intro W hS; have q0 := hS.c q1; have q1 := hS.c q2; have q2 := hS.c q3; have q3 := hS.c q4; have q4 := hS.c q5; have q5 := hS.c q6; go_simp; exact rfl
    case he => exact (by simp only [Act.put, List.setIfInBounds_toArray, List.set_cons_zero, List.set_cons_succ]; exact rfl)
  apply Rg.wpK_know rfl rfl
  case ha =>
    intro W hR hS hF
    have hn := n1.trans hS
    have q0 := hS.c q1
    have q1 := hS.c q2
    have q2 := hS.c q3
    have q3 := hS.c q4
    have q4 := hS.c q5
    have q5 := hS.c q6
    have i17 := KJ.agg (Rg.upd_at rfl (hF 17 (by kernel_rfl)))
    unfold Rg.gives
    go_simp
    exact Rg.gives_enter (call_nw (is_c (I4.out.kept hS.kept) i17 (by decide) (by omega) (Nat.le_trans (i17.len_le 1 (by decide) (by decide)) (by decide))))
  intro u hu
  obtain ⟨W0, hw1, hw2, hf⟩ := hu
  obtain rfl := Rg.upd_at rfl (hf 18)
  have hx := trivial
  refine ⟨_, (by simp only [Act.put, List.setIfInBounds_toArray, List.set_cons_zero, List.set_cons_succ]; exact rfl), ?_⟩
  clear hf hw1 hw2 hx W0
  repeat
    apply Rg.wpK_quiet rfl rfl
    case hq => intro W hS; have q0 := hS.c q1; have q1 := hS.c q2; have q2 := hS.c q3; have q3 := hS.c q4; have q4 := hS.c q5; have q5 := hS.c q6; go_simp; exact rfl
    case he => exact (by simp only [Act.put, List.setIfInBounds_toArray, List.set_cons_zero, List.set_cons_succ]; exact rfl)
  apply Rg.wpK_know rfl rfl
  case ha =>
    intro W hR hS hF
    have hn := n1.trans hS
    have q0 := hS.c q1
    have q1 := hS.c q2
    have q2 := hS.c q3
    have q3 := hS.c q4
    have q4 := hS.c q5
    have q5 := hS.c q6
    unfold Rg.gives
    go_simp
    exact Rg.gives_enter (call_nw (rnew_c (by decide)))
  intro u hu
  obtain ⟨W0, hw1, hw2, hf⟩ := hu
  obtain ⟨m26, D26, l26, c26, rfl, hx⟩ := Rg.upd_at rfl (hf 26)
  refine ⟨_, (by simp only [Act.put, List.setIfInBounds_toArray, List.set_cons_zero, List.set_cons_succ]; exact rfl), ?_⟩
  clear hf hw1 hw2 hx W0
  repeat
    apply Rg.wpK_quiet rfl rfl
    case hq => intro W hS; have q0 := hS.c q1; have q1 := hS.c q2; have q2 := hS.c q3; have q3 := hS.c q4; have q4 := hS.c q5; have q5 := hS.c q6; go_simp; exact rfl
    case he => exact (by simp only [Act.put, List.setIfInBounds_toArray, List.set_cons_zero, List.set_cons_succ]; exact rfl)
  apply Rg.wpK_know rfl rfl
  case ha =>
    intro W hR hS hF
    have hn := n1.trans hS
    have q0 := hS.c q1
    have q1 := hS.c q2
    have q2 := hS.c q3
    have q3 := hS.c q4
    have q4 := hS.c q5
    have q5 := hS.c q6
    have i26 := KJ.agg (Rg.upd_at rfl (hF 26 (by kernel_rfl)))
    unfold Rg.gives
    go_simp
    exact Rg.gives_enter (call_nw (is_c (I8.out.kept hS.kept) i26 (by decide) (by omega) (Nat.le_trans (i26.len_le 1 (by decide) (by decide)) (by decide))))
  intro u hu
  obtain ⟨W0, hw1, hw2, hf⟩ := hu
  obtain rfl := Rg.upd_at rfl (hf 27)
  have hx := trivial
  refine ⟨_, (by simp only [Act.put, List.setIfInBounds_toArray, List.set_cons_zero, List.set_cons_succ]; exact rfl), ?_⟩
  clear hf hw1 hw2 hx W0
  repeat
    apply Rg.wpK_quiet rfl rfl
    case hq => intro W hS; have q0 := hS.c q1; have q1 := hS.c q2; have q2 := hS.c q3; have q3 := hS.c q4; have q4 := hS.c q5; have q5 := hS.c q6; go_simp; exact rfl
    case he => exact (by simp only [Act.put, List.setIfInBounds_toArray, List.set_cons_zero, List.set_cons_succ]; exact rfl)
  refine Rg.wpK_end fun w9 hR hS hF => ?_
  have hn := n1.trans hS
  have i12 := KJ.agg (Rg.upd_at rfl (Rg.upd_off rfl (Rg.upd_off rfl (Rg.upd_off rfl (Rg.upd_off rfl (Rg.upd_off rfl (hF 12)))))))
  have i17 := KJ.agg (Rg.upd_at rfl (Rg.upd_off rfl (Rg.upd_off rfl (Rg.upd_off rfl (hF 17)))))
  have i26 := KJ.agg (Rg.upd_at rfl (Rg.upd_off rfl (hF 26)))
  clear hF hR
  go_wp2
  go_ret
  exact Ret.V hn
end Go.Proofs.Ytcgkgcciogibkaa
/- Words for the laws: bounds, what came in; a region by its number. -/
set_option linter.unusedVariables false
set_option linter.unusedSimpArgs false
namespace Go.Proofs.Ytcgkgcciogibkaa
open Go.RowKit Ma

/-- What came in: an integer as plain data. -/
def In (w : World) (A : Option Addr) (l c : Nat) (xs : List Int) : Prop := l = xs.length ∧ l ≤ c ∧ Rd w .u32 A xs ∧ dg b32 xs
theorem In.nw {w W : World} {A : Option Addr} {l c : Nat} {xs : List Int} (h : In w A l c xs) (k : Nw w W) : In W A l c xs := ⟨h.1, h.2.1, h.2.2.1.kept k.kept, h.2.2.2⟩

theorem short_l {b l c : Nat} {m : Int} (most : Nat) (ns : List Nn) {w : World} (e1 : m = most) (e2 : l = ns.length) (hn : Ns w b ns) (hm : most ≤ 1000) (hl : ns.length ≤ 1000) (hL : ∀ x ∈ ns, x.2.2.1 ≤ 9223372036854775807) :
    Calls Try.prog 14 #[.int .i64 m, .slice (some ⟨b, 0, none⟩) l c] w (Ret w (KV (.bool (shB most ns)))) := by
  subst e1 e2; exact short_c hn hm hl hL
/-- A bound for a number of so many limbs. -/
def bd (k : Nat) (z : Int) : Prop := -(b32 ^ k) < z ∧ z < b32 ^ k
theorem bd.neg {k : Nat} {x : Int} (h : bd k x) : bd k (-x) := by unfold bd at *; omega
theorem bd.mono {k j : Nat} {x : Int} (h : bd k x) (hj : k ≤ j) : bd j x := by
  have := pow_le (b := b32) (by decide) hj
  unfold bd at *; omega
theorem bd.add {a b : Nat} {x y : Int} (h : bd a x) (k : bd b y) : bd (max a b + 1) (x + y) := by
  have h1 := h.mono (Nat.le_max_left a b)
  have h2 := k.mono (Nat.le_max_right a b)
  unfold bd at *
  rw [Int.pow_succ]
  have := pos_pow (b := b32) (by decide) (max a b)
  have e : b32 ^ max a b * b32 = b32 ^ max a b * 4294967296 := rfl
  omega
theorem bd.sub {a b : Nat} {x y : Int} (h : bd a x) (k : bd b y) : bd (max a b + 1) (x - y) := by
  rw [Int.sub_eq_add_neg]; exact h.add k.neg
theorem bd.natAbs {a : Nat} {x : Int} (h : bd a x) : (x.natAbs : Int) < b32 ^ a := by unfold bd at h; omega
theorem bd.of {a : Nat} {x : Int} (h : (x.natAbs : Int) < b32 ^ a) : bd a x := by unfold bd; omega
theorem bd.mul {a b : Nat} {x y : Int} (h : bd a x) (k : bd b y) : bd (a + b) (x * y) := by
  apply bd.of
  rw [Int.natAbs_mul, Int.natCast_mul, Int.pow_add]
  have h1 := h.natAbs
  have h2 := k.natAbs
  have p := pos_pow (b := b32) (by decide) b
  exact Int.lt_of_le_of_lt (Int.mul_le_mul_of_nonneg_left (Int.le_of_lt h2) (by omega)) (Int.mul_lt_mul_of_pos_right h1 p)
theorem RI.le {w : World} {n : Bool} {A : Option Addr} {l c k : Nat} {z : Int} (h : RI w n A l c z) (hb : bd k z) (hk : k ≤ 300000) : l ≤ 300000 := Nat.le_trans (h.len_le k hb.1 hb.2) hk
theorem bd_sg {n : Bool} {xs : List Int} {k : Nat} (d : dg b32 xs) (hl : xs.length ≤ k) : bd k (sg n (lv b32 xs)) := by
  have h1 := lv_lt (b := b32) (by decide) d
  have h2 := lv_nonneg (b := b32) (by decide) d
  have h3 := pow_le (b := b32) (by decide) hl
  unfold bd
  cases n <;> simp only [sg, if_true, if_false, Bool.false_eq_true] <;> omega
theorem KM.three {v : Value} {W : World} {z1 z2 z3 : Int} (h : KM [z1, z2, z3] v W) : ∃ g c m1 D1 l1 c1 m2 D2 l2 c2 m3 D3 l3 c3, v = .slice (some ⟨g, 0, none⟩) 3 c ∧ 3 ≤ c ∧
    (W.cell? ⟨g, 0, none⟩ = some (.bool m1) ∧ W.cell? ⟨g, 1, none⟩ = some (.slice D1 l1 c1) ∧ W.cell? ⟨g, 2, none⟩ = some (.bool m2) ∧ W.cell? ⟨g, 3, none⟩ = some (.slice D2 l2 c2) ∧ W.cell? ⟨g, 4, none⟩ = some (.bool m3) ∧ W.cell? ⟨g, 5, none⟩ = some (.slice D3 l3 c3)) ∧
    RI W m1 D1 l1 c1 z1 ∧ RI W m2 D2 l2 c2 z2 ∧ RI W m3 D3 l3 c3 z3 := by
  obtain ⟨g, c, rs, rfl, hc, hn, hl, hr⟩ := h
  match rs, hl, hn, hr with
  | [(m1, D1, l1, c1), (m2, D2, l2, c2), (m3, D3, l3, c3)], _, hn, hr =>
    have a := hn 0 _ _ _ _ rfl
    have b := hn 1 _ _ _ _ rfl
    have d := hn 2 _ _ _ _ rfl
    exact ⟨g, c, m1, D1, l1, c1, m2, D2, l2, c2, m3, D3, l3, c3, rfl, hc, ⟨a.1, a.2, b.1, b.2, d.1, d.2⟩, hr 0 _ _ _ _ rfl, hr 1 _ _ _ _ rfl, hr 2 _ _ _ _ rfl⟩
end Go.Proofs.Ytcgkgcciogibkaa
/- The width of a number, the count of its bits. No program in sight. -/
set_option linter.unusedVariables false
set_option linter.unusedSimpArgs false
namespace Go.Proofs.Ytcgkgcciogibkaa.Ma
open Go

/-- A number without its sign: itself, or its complement. -/
def pat (x : Int) : Int := if x < 0 then -1 - x else x
theorem pat_nonneg (x : Int) : 0 ≤ pat x := by unfold pat; split <;> omega
/-- So many binary digits it has. -/
def wid (z : Int) : Nat := if z ≤ 0 then 0 else Nat.log2 z.toNat + 1
theorem wid_lt (z : Int) : z < 2 ^ wid z := by
  unfold wid
  by_cases h : z ≤ 0
  · rw [if_pos h]; simp; omega
  · rw [if_neg h]
    have := (Nat.log2_eq_iff (n := z.toNat) (k := Nat.log2 z.toNat) (by omega)).1 rfl
    have h2 := this.2
    have e : ((2 ^ (Nat.log2 z.toNat + 1) : Nat) : Int) = 2 ^ (Nat.log2 z.toNat + 1) := by push_cast; rfl
    omega
theorem wid_le {z : Int} (h : 0 < z) : 2 ^ (wid z - 1) ≤ z := by
  unfold wid
  rw [if_neg (by omega)]
  have := (Nat.log2_eq_iff (n := z.toNat) (k := Nat.log2 z.toNat) (by omega)).1 rfl
  have h2 := this.1
  have e : ((2 ^ Nat.log2 z.toNat : Nat) : Int) = 2 ^ Nat.log2 z.toNat := by push_cast; rfl
  rw [Nat.add_sub_cancel]
  omega
theorem wid_pos {z : Int} (h : 0 < z) : 0 < wid z := by unfold wid; rw [if_neg (by omega)]; omega
theorem wid_of {z : Int} {n : Nat} (h1 : z < 2 ^ n) (h2 : 0 < n) (h3 : 2 ^ (n - 1) ≤ z) : wid z = n := by
  have hp : (0 : Int) < 2 ^ (n - 1) := Int.pow_pos (by decide)
  have a := wid_lt z
  have b := wid_le (z := z) (by omega)
  have c := wid_pos (z := z) (by omega)
  rcases Nat.lt_trichotomy (wid z) n with h | h | h
  · have := pow_le (b := 2) (by decide) (show wid z ≤ n - 1 by omega); omega
  · exact h
  · have := pow_le (b := 2) (by decide) (show n ≤ wid z - 1 by omega); omega
theorem wid_zero : wid 0 = 0 := rfl
/-- So many of its binary digits are 1. -/
def pc (n : Nat) : Nat := if n = 0 then 0 else n % 2 + pc (n / 2)
theorem pc_zero : pc 0 = 0 := by unfold pc; rfl
theorem pc_half (n : Nat) : pc n = n % 2 + pc (n / 2) := by
  by_cases h : n = 0
  · subst h; simp [pc_zero]
  · conv => lhs; unfold pc
    rw [if_neg h]
end Go.Proofs.Ytcgkgcciogibkaa.Ma
/- The contracts of the program's pattern, length, Length, Count, Bit. -/
set_option linter.unusedVariables false
set_option linter.unusedSimpArgs false
namespace Go.Proofs.Ytcgkgcciogibkaa
open Go.RowKit Ma

theorem RI.sign {w : World} {n : Bool} {A : Option Addr} {l c : Nat} {x : Int} (h : RI w n A l c x) : n = decide (x < 0) := by
  obtain ⟨xs, _, _, _, d, t, nz, rfl⟩ := h
  have h1 := lv_nonneg (b := b32) (by decide) d
  cases n
  · simp [sg]; exact h1
  · have := top_le (b := b32) (by decide) d t (nz rfl)
    have := pos_pow (b := b32) (by decide) (xs.length - 1)
    simp [sg]; omega
end Go.Proofs.Ytcgkgcciogibkaa
/- The contracts of the program's raised, lowered, shift, Shift. -/
set_option linter.unusedVariables false
set_option linter.unusedSimpArgs false
namespace Go.Proofs.Ytcgkgcciogibkaa
open Go.RowKit Ma

end Go.Proofs.Ytcgkgcciogibkaa
/- Limbs divided by a power of two. No program in sight. -/
set_option linter.unusedVariables false
set_option linter.unusedSimpArgs false
namespace Go.Proofs.Ytcgkgcciogibkaa.Ma
open Go

theorem emod_pow_succ (V b : Int) (hb : 0 < b) (k : Nat) : V % b ^ (k + 1) = V % b ^ k + b ^ k * (V / b ^ k % b) := by
  have hp : 0 < b ^ k := Int.pow_pos hb
  have a := Int.mul_ediv_add_emod V (b ^ k)
  have c := Int.mul_ediv_add_emod (V / b ^ k) b
  have r0 := Int.emod_nonneg V (Int.ne_of_gt hp)
  have r1 := Int.emod_lt_of_pos V hp
  have s0 := Int.emod_nonneg (V / b ^ k) (Int.ne_of_gt hb)
  have s1 := Int.emod_lt_of_pos (V / b ^ k) hb
  have e : V = (V % b ^ k + b ^ k * (V / b ^ k % b)) + b ^ (k + 1) * (V / b ^ k / b) := by
    rw [Int.pow_succ]
    generalize V / b ^ k / b = q at *
    generalize V / b ^ k % b = r at *
    generalize V % b ^ k = t at *
    generalize V / b ^ k = z at *
    generalize b ^ k = p at *
    rw [← a, ← c]; grind
  have l0 : 0 ≤ b ^ k * (V / b ^ k % b) := Int.mul_nonneg (Int.le_of_lt hp) s0
  have l1 : b ^ k * (V / b ^ k % b) + b ^ k ≤ b ^ (k + 1) := by
    have : b ^ k * (V / b ^ k % b + 1) ≤ b ^ k * b := Int.mul_le_mul_of_nonneg_left (by omega) (Int.le_of_lt hp)
    rw [Int.mul_add] at this
    rw [Int.pow_succ]; omega
  conv => lhs; rw [e]
  rw [Int.add_mul_emod_self_left, Int.emod_eq_of_lt (by omega) (by omega)]
theorem lv_digits {b V : Int} (hb : 0 < b) {zs : List Int} : ∀ k, k ≤ zs.length → (∀ j, j < k → at0 zs j = V / b ^ j % b) → lv b (zs.take k) = V % b ^ k
  | 0, _, _ => by simp [lv]
  | k + 1, hk, h => by
    rw [lv_take_succ b zs k (by omega), lv_digits hb k (by omega) (fun j hj => h j (by omega)), emod_pow_succ V b hb k, h k (by omega)]
theorem lv_ediv {b : Int} (hb : 0 < b) {ys : List Int} (d : dg b ys) (j : Nat) (h : j ≤ ys.length) : lv b ys / b ^ j = lv b (ys.drop j) := by
  have e := lv_split b ys j h
  have h1 := lv_nonneg hb (dg_take d j)
  have h2 := lv_lt hb (dg_take d j)
  rw [List.length_take, Nat.min_eq_left h] at h2
  rw [e, Int.add_mul_ediv_left _ _ (Int.ne_of_gt (Int.pow_pos hb)), Int.ediv_eq_zero_of_lt h1 h2, Int.zero_add]
/-- A digit of what is divided by 2^r. -/
theorem low_digit {ys : List Int} (d : dg 4294967296 ys) {r j : Nat} (hr : r < 32) (hj : j < ys.length) :
    ((at0 ys (j + 1) * 4294967296 + at0 ys j) / 2 ^ r) % 4294967296 = lv 4294967296 ys / 2 ^ r / 4294967296 ^ j % 4294967296 := by
  have hp : (0 : Int) < 2 ^ r := Int.pow_pos (by decide)
  have e1 : lv 4294967296 ys / 2 ^ r / 4294967296 ^ j = lv 4294967296 (ys.drop j) / 2 ^ r := by
    rw [← lv_ediv (by decide) d j (by omega), Int.ediv_ediv_of_nonneg (Int.le_of_lt hp), Int.ediv_ediv_of_nonneg (Int.pow_nonneg (by decide)), Int.mul_comm]
  obtain ⟨c, hc⟩ : ∃ c : Int, (4294967296 : Int) = 2 ^ r * c := ⟨2 ^ (32 - r), by rw [← Int.pow_add, show r + (32 - r) = 32 by omega]; rfl⟩
  rw [e1, lv_drop 4294967296 ys j hj]
  have e2 : ∃ R, lv 4294967296 (ys.drop (j + 1)) = at0 ys (j + 1) + 4294967296 * R := by
    by_cases h : j + 1 < ys.length
    · exact ⟨_, lv_drop 4294967296 ys (j + 1) h⟩
    · exact ⟨0, by rw [List.drop_eq_nil_of_le (by omega), at0_ge (by omega)]; simp [lv]⟩
  obtain ⟨R, hR⟩ := e2
  rw [hR]
  have e3 : at0 ys j + 4294967296 * (at0 ys (j + 1) + 4294967296 * R) = (at0 ys (j + 1) * 4294967296 + at0 ys j) + 2 ^ r * (c * R * 4294967296) := by
    have : 4294967296 * (4294967296 * R) = 2 ^ r * (c * R * 4294967296) := by
      conv => lhs; lhs; rw [hc]
      grind
    rw [Int.mul_add, this]; grind
  rw [e3, Int.add_mul_ediv_left _ _ (Int.ne_of_gt hp), Int.add_mul_emod_self_right]
end Go.Proofs.Ytcgkgcciogibkaa.Ma
/- The contract of the program's lowered. -/
set_option linter.unusedVariables false
set_option linter.unusedSimpArgs false
namespace Go.Proofs.Ytcgkgcciogibkaa
open Go.RowKit Ma

/-- What a round of 'lowered' leaves. -/
structure LwAt (ys : List Int) (r m k : Nat) (zs : List Int) : Prop where
  le : k ≤ m
  len : zs.length = m + 1
  dg : dg b32 zs
  done : ∀ j, j < k → at0 zs j = ((at0 ys (j + 1) * 4294967296 + at0 ys j) / 2 ^ r) % 4294967296
  rest : ∀ j, k ≤ j → at0 zs j = at0 ys j
theorem LwAt.step {ys : List Int} {r m k : Nat} {zs : List Int} (h : LwAt ys r m k zs) (hk : k < m) : LwAt ys r m (k + 1) (zs.set k (((at0 ys (k + 1) * 4294967296 + at0 ys k) / 2 ^ r) % 4294967296)) := by
  obtain ⟨h1, h2, h3, h4, h5⟩ := h
  refine ⟨by omega, by simp [h2], dg_set h3 _ (Int.emod_nonneg _ (by decide)) (by rw [b32_eq]; exact Int.emod_lt_of_pos _ (by decide)), fun j hj => ?_, fun j hj => ?_⟩
  · rw [at0_set _ _ _ _ (by omega)]
    by_cases e : j = k
    · rw [if_pos e, e]
    · rw [if_neg e]; exact h4 j (by omega)
  · rw [at0_set _ _ _ _ (by omega), if_neg (by omega)]; exact h5 j (by omega)

end Go.Proofs.Ytcgkgcciogibkaa
/- The contract of the program's shift. -/
set_option linter.unusedVariables false
set_option linter.unusedSimpArgs false
namespace Go.Proofs.Ytcgkgcciogibkaa
open Go.RowKit Ma

/-- x times 2^n, rounded down. -/
def sh (x n : Int) : Int := if 0 ≤ n then x * 2 ^ n.toNat else x / 2 ^ (-n).toNat
theorem shr_neg (x : Int) (k : Nat) : -1 - ((-1 - x) / 2 ^ k) = x / 2 ^ k := by
  have hp : (0 : Int) < 2 ^ k := Int.pow_pos (by decide)
  have a := Int.mul_ediv_add_emod x (2 ^ k)
  have b := Int.emod_nonneg x (Int.ne_of_gt hp)
  have c := Int.emod_lt_of_pos x hp
  have d : -1 - x = (2 ^ k - 1 - x % 2 ^ k) + 2 ^ k * (-1 - x / 2 ^ k) := by rw [Int.mul_sub, Int.mul_neg]; omega
  rw [d, Int.add_mul_ediv_left _ _ (Int.ne_of_gt hp), Int.ediv_eq_zero_of_lt (by omega) (by omega)]
  omega
end Go.Proofs.Ytcgkgcciogibkaa
/- Bits of whole numbers: sums, fields and deposits (no program in sight). -/
set_option linter.unusedVariables false
set_option linter.unusedSimpArgs false
namespace Go.Proofs.Ytcgkgcciogibkaa
open Go.RowKit Ma

theorem tb_zero (i : Nat) : tb 0 i = false := by unfold tb; simp
theorem tb_compl (z : Int) (i : Nat) : tb (-1 - z) i = !tb z i := by
  unfold tb
  have h : (-1 - z) / 2 ^ i = -1 - z / 2 ^ i := by have := shr_neg (-1 - z) i; rw [show -1 - (-1 - z) = z by omega] at this; omega
  rw [h]
  by_cases e : z / 2 ^ i % 2 = 1
  · rw [decide_eq_true e, decide_eq_false (by omega)]; rfl
  · rw [decide_eq_false e, decide_eq_true (by omega)]; rfl
theorem tb_negone (i : Nat) : tb (-1) i = true := by have := tb_compl 0 i; rw [tb_zero] at this; simpa using this
theorem tb_bit0 (z : Int) (b : Bool) : tb (2 * z + (if b then 1 else 0)) 0 = b := by
  unfold tb
  cases b <;> simp <;> omega
theorem tb_bits (z : Int) (b : Bool) (i : Nat) : tb (2 * z + (if b then 1 else 0)) (i + 1) = tb z i := by
  rw [Nat.add_comm, tb_shift]
  congr 1
  cases b <;> simp <;> omega
/-- Bits that are all alike from somewhere on are those of a number. -/
theorem ex_bits : ∀ (m : Nat) (c : Nat → Bool), (∀ i, m ≤ i → c i = c m) → ∃ z : Int, ∀ i, tb z i = c i
  | 0, c, h => by
    cases hc : c 0
    · exact ⟨0, fun i => by rw [tb_zero, h i (Nat.zero_le _), hc]⟩
    · exact ⟨-1, fun i => by rw [tb_negone, h i (Nat.zero_le _), hc]⟩
  | m + 1, c, h => by
    obtain ⟨z, hz⟩ := ex_bits m (fun i => c (i + 1)) (fun i hi => h (i + 1) (by omega))
    refine ⟨2 * z + (if c 0 then 1 else 0), fun i => ?_⟩
    cases i with
    | zero => exact tb_bit0 z (c 0)
    | succ i => rw [tb_bits]; exact hz i
theorem tb_const (z : Int) : ∃ m : Nat, ∀ i, m ≤ i → tb z i = decide (z < 0) := by
  have h := nat_lt_pow2 z.natAbs
  exact ⟨z.natAbs, fun i hi => tb_high (by omega) (by omega) hi⟩
theorem bo_tb (op x y : Int) (i : Nat) : tb (bo op x y) i = ch op (tb x i) (tb y i) := by
  obtain ⟨m, hm⟩ := tb_const x
  obtain ⟨k, hk⟩ := tb_const y
  obtain ⟨z, hz⟩ := ex_bits (max m k) (fun i => ch op (tb x i) (tb y i)) (fun i hi => by
    show ch op _ _ = ch op _ _
    rw [hm i (by omega), hk i (by omega), hm (max m k) (by omega), hk (max m k) (by omega)])
  rw [← bo_eq hz]
  exact hz i
theorem ch6 (a b : Bool) : ch 6 a b = (a ^^ b) := by cases a <;> cases b <;> decide
theorem ch8 (a b : Bool) : ch 8 a b = (a && b) := by cases a <;> cases b <;> decide
theorem zero_of_mods {d : Int} (h : ∀ n : Nat, d % 2 ^ n = 0) : d = 0 := by
  have h1 := nat_lt_pow2 d.natAbs
  have h2 := Int.dvd_of_emod_eq_zero (h d.natAbs)
  by_cases h0 : d = 0
  · exact h0
  · obtain ⟨q, hq⟩ := h2
    have hq0 : q ≠ 0 := by intro e; rw [e, Int.mul_zero] at hq; exact h0 hq
    have h3 : d.natAbs = (2 ^ d.natAbs : Int).natAbs * q.natAbs := by
      have := congrArg Int.natAbs hq
      rw [Int.natAbs_mul] at this
      exact this
    have h4 : 1 ≤ q.natAbs := by omega
    have h5 : (2 ^ d.natAbs : Int).natAbs * 1 ≤ (2 ^ d.natAbs : Int).natAbs * q.natAbs := Nat.mul_le_mul_left _ h4
    omega
theorem bits_sum (x y : Int) : x + y = bo 6 x y + 2 * bo 8 x y := by
  have key : ∀ n : Nat, x % 2 ^ n + y % 2 ^ n = bo 6 x y % 2 ^ n + 2 * (bo 8 x y % 2 ^ n) := by
    intro n
    induction n with
    | zero => simp
    | succ n ih =>
      rw [mod_succ x, mod_succ y, mod_succ (bo 6 x y), mod_succ (bo 8 x y), bo_tb, bo_tb, ch6, ch8]
      cases tb x n <;> cases tb y n <;> simp <;> omega
  have : x + y - (bo 6 x y + 2 * bo 8 x y) = 0 := by
    apply zero_of_mods
    intro n
    have hp : (0 : Int) < 2 ^ n := Int.pow_pos (by decide)
    have k := key n
    have e1 := Int.mul_ediv_add_emod x (2 ^ n)
    have e2 := Int.mul_ediv_add_emod y (2 ^ n)
    have e3 := Int.mul_ediv_add_emod (bo 6 x y) (2 ^ n)
    have e4 := Int.mul_ediv_add_emod (bo 8 x y) (2 ^ n)
    have : x + y - (bo 6 x y + 2 * bo 8 x y) = 2 ^ n * (x / 2 ^ n + y / 2 ^ n - bo 6 x y / 2 ^ n - 2 * (bo 8 x y / 2 ^ n)) := by
      rw [Int.mul_sub, Int.mul_sub, Int.mul_add, ← Int.mul_assoc, Int.mul_comm _ 2, Int.mul_assoc]
      omega
    rw [this]
    exact Int.mul_emod_right _ _
  omega
/-- The sum of numbers that share no bit. -/
theorem tb_or {a b : Int} (h : ∀ i, (tb a i && tb b i) = false) (i : Nat) : tb (a + b) i = (tb a i || tb b i) := by
  have h0 : bo 8 a b = 0 := tb_ext fun i => by rw [bo_tb, ch8, h, tb_zero]
  rw [bits_sum, h0, Int.mul_zero, Int.add_zero, bo_tb, ch6]
  have := h i
  clear h h0
  revert this
  cases tb a i <;> cases tb b i <;> simp
theorem tb_mul_pow (z : Int) (p i : Nat) : tb (z * 2 ^ p) i = if i < p then false else tb z (i - p) := by
  by_cases h : i < p
  · rw [if_pos h, Int.mul_comm]
    have := tb_add_mul 0 z h
    rw [Int.zero_add, tb_zero] at this
    exact this
  · rw [if_neg h]
    have e : i = p + (i - p) := by omega
    have hp : (2 : Int) ^ p ≠ 0 := Int.ne_of_gt (Int.pow_pos (by decide))
    rw [e, tb_shift, Int.mul_ediv_cancel _ hp, show p + (i - p) - p = i - p by omega]
theorem tb_ones (k i : Nat) : tb (2 ^ k - 1) i = decide (i < k) := by
  by_cases h : i < k
  · have e : (2 : Int) ^ k - 1 = -1 + 2 ^ k * 1 := by omega
    rw [e, tb_add_mul _ _ h, tb_negone, decide_eq_true h]
  · have hp : (0 : Int) < 2 ^ k := Int.pow_pos (by decide)
    rw [tb_high (m := k) (by omega) (by omega) (by omega), decide_eq_false (by omega), decide_eq_false h]
theorem sh_up (x : Int) (p : Nat) : sh x (p : Int) = x * 2 ^ p := by unfold sh; rw [if_pos (by omega)]; rfl
theorem tb_sh_up (x : Int) (p i : Nat) : tb (sh x (p : Int)) i = if i < p then false else tb x (i - p) := by rw [sh_up, tb_mul_pow]
noncomputable def dep (x y : Int) (k p : Nat) : Int := bo 8 x (-1 - sh (2 ^ k - 1) (p : Int)) + sh (bo 8 y (2 ^ k - 1)) (p : Int)
theorem tb_dep (x y : Int) (k p i : Nat) : tb (dep x y k p) i = if p ≤ i ∧ i < p + k then tb y (i - p) else tb x i := by
  have hA : ∀ i, tb (bo 8 x (-1 - sh (2 ^ k - 1) (p : Int))) i = if p ≤ i ∧ i < p + k then false else tb x i := by
    intro i
    rw [bo_tb, ch8, tb_compl, tb_sh_up]
    by_cases h1 : i < p
    · rw [if_pos h1, if_neg (by omega)]; simp
    · rw [if_neg h1, tb_ones]
      by_cases h2 : i < p + k
      · rw [if_pos ⟨by omega, h2⟩, decide_eq_true (by omega)]; simp
      · rw [if_neg (by omega), decide_eq_false (by omega)]; simp
  have hB : ∀ i, tb (sh (bo 8 y (2 ^ k - 1)) (p : Int)) i = if p ≤ i ∧ i < p + k then tb y (i - p) else false := by
    intro i
    rw [tb_sh_up]
    by_cases h1 : i < p
    · rw [if_pos h1, if_neg (by omega)]
    · rw [if_neg h1, bo_tb, ch8, tb_ones]
      by_cases h2 : i < p + k
      · rw [if_pos ⟨by omega, h2⟩, decide_eq_true (by omega)]; simp
      · rw [if_neg (by omega), decide_eq_false (by omega)]; simp
  unfold dep
  rw [tb_or (fun i => by rw [hA, hB]; split <;> simp), hA, hB]
  split <;> simp
end Go.Proofs.Ytcgkgcciogibkaa
/- The contract of the program's shift, every way. -/
set_option linter.unusedVariables false
set_option linter.unusedSimpArgs false
namespace Go.Proofs.Ytcgkgcciogibkaa
open Go.RowKit Ma

end Go.Proofs.Ytcgkgcciogibkaa
/- The contracts of the program's sized, ones, and, Field, Shift. -/
set_option linter.unusedVariables false
set_option linter.unusedSimpArgs false
namespace Go.Proofs.Ytcgkgcciogibkaa
open Go.RowKit Ma

/-- Are a size and a position right. -/
def sz (a b : Int) : Bool := decide (0 ≤ a) && decide (a ≤ 65536) && decide (0 ≤ b) && decide (b ≤ 65536)
end Go.Proofs.Ytcgkgcciogibkaa
/- Boole's contract with a bound for its answer. -/
set_option linter.unusedVariables false
set_option linter.unusedSimpArgs false
namespace Go.Proofs.Ytcgkgcciogibkaa
open Go.RowKit Ma

end Go.Proofs.Ytcgkgcciogibkaa
/- The contracts of the program's and, Field, Shift. -/
set_option linter.unusedVariables false
set_option linter.unusedSimpArgs false
namespace Go.Proofs.Ytcgkgcciogibkaa
open Go.RowKit Ma

theorem sh_dn {x n : Int} (hn : n ≤ 0) : (0 ≤ x → 0 ≤ sh x n ∧ sh x n ≤ x) ∧ (x < 0 → x ≤ sh x n ∧ sh x n < 0) := by
  by_cases h0 : 0 ≤ n
  · have : n = 0 := by omega
    subst this
    have : sh x 0 = x := by unfold sh; simp
    rw [this]; omega
  · have e : sh x n = x / 2 ^ (-n).toNat := by unfold sh; rw [if_neg h0]
    rw [e]
    have hp : (0 : Int) < 2 ^ (-n).toNat := Int.pow_pos (by decide)
    refine ⟨fun h => ⟨Int.ediv_nonneg h (by omega), Int.ediv_le_self _ h⟩, fun h => ?_⟩
    have a := shr_neg x (-n).toNat
    have b : 0 ≤ (-1 - x) / 2 ^ (-n).toNat := Int.ediv_nonneg (by omega) (by omega)
    have c : (-1 - x) / 2 ^ (-n).toNat ≤ -1 - x := Int.ediv_le_self _ (by omega)
    omega
end Go.Proofs.Ytcgkgcciogibkaa
/- The contract of the program's Shift. -/
set_option linter.unusedVariables false
set_option linter.unusedSimpArgs false
namespace Go.Proofs.Ytcgkgcciogibkaa
open Go.RowKit Ma

end Go.Proofs.Ytcgkgcciogibkaa
/- The contract of the program's Deposit. -/
set_option linter.unusedVariables false
set_option linter.unusedSimpArgs false
namespace Go.Proofs.Ytcgkgcciogibkaa
open Go.RowKit Ma

end Go.Proofs.Ytcgkgcciogibkaa
/- The contracts of bits.OnesCount32 and of the program's Count. -/
set_option linter.unusedVariables false
set_option linter.unusedSimpArgs false
namespace Go.Proofs.Ytcgkgcciogibkaa
open Go.RowKit Ma

end Go.Proofs.Ytcgkgcciogibkaa
/- Contracts in the form that the rules want. -/
set_option linter.unusedVariables false
set_option linter.unusedSimpArgs false
namespace Go.Proofs.Ytcgkgcciogibkaa.Sy
open Go Go.RowKit Ma
theorem ce_is : CE 19 := fun args W => by go_simp
theorem ce_awake : CE 15 := fun args W => by go_simp
theorem all0 {us : List Value} {W : World} (h : All [] us W) : us = [] := by cases us with | nil => rfl | cons _ _ => exact h.elim
theorem all2 {k1 k2 : Know} {us : List Value} {W : World} (h : All [k1, k2] us W) : ∃ u v, us = [u, v] ∧ k1 u W ∧ k2 v W := by
  match us, h with
  | [u, v], h => exact ⟨u, v, rfl, h.1, h.2.1⟩
theorem call2 {f : FuncId} {k1 k2 r : Know} (ce : CE f) (h : ∀ W u v, k1 u W → k2 v W → Calls Try.prog f #[u, v] W (Ret W r)) : CallOk f [k1, k2] r := ⟨ce, fun W us hu => by obtain ⟨u, v, rfl, h1, h2⟩ := all2 hu; exact h W u v h1 h2⟩
variable {x y : Int} {a b : Nat}
theorem k_awake : CallOk 15 [] (KV (.bool true)) := ⟨ce_awake, fun W us hu => by rw [all0 hu]; exact awake_c⟩
end Go.Proofs.Ytcgkgcciogibkaa.Sy
/-! ### Bounds -/
namespace Go.Proofs.Ytcgkgcciogibkaa
open Go Go.RowKit Ma
variable {x y : Int} {a b : Nat}
theorem bd2 {n : Nat} {z : Int} : bd n z ↔ -(2 ^ (32 * n)) < z ∧ z < 2 ^ (32 * n) := by unfold bd; rw [pow32]
theorem range_of_tb {z : Int} {m : Nat} {t : Bool} (h : ∀ i, m ≤ i → tb z i = t) : -(2 ^ m) ≤ z ∧ z < 2 ^ m := by
  have hp : (0 : Int) < 2 ^ m := Int.pow_pos (by decide)
  have e := Int.mul_ediv_add_emod z (2 ^ m)
  have r0 := Int.emod_nonneg z (Int.ne_of_gt hp)
  have r1 := Int.emod_lt_of_pos z hp
  have q : z / 2 ^ m = if t then -1 else 0 := by
    apply tb_ext
    intro i
    rw [← tb_shift, h (m + i) (by omega)]
    cases t
    · simp [tb_zero]
    · simp [tb_negone]
  rw [q] at e
  cases t <;> simp at e <;> omega
theorem bd.bo {op : Int} (h : bd a x) (k : bd b y) : bd (max a b + 1) (bo op x y) := by
  have h1 := bd2.1 (h.mono (Nat.le_max_left a b))
  have k1 := bd2.1 (k.mono (Nat.le_max_right a b))
  have := range_of_tb (z := Go.Proofs.Ytcgkgcciogibkaa.bo op x y) (m := 32 * max a b) (t := ch op (decide (x < 0)) (decide (y < 0))) fun i hi => by rw [bo_tb, tb_high (by omega) h1.2 hi, tb_high (by omega) k1.2 hi]
  rw [bd2]
  have e : (2 : Int) ^ (32 * (max a b + 1)) = 2 ^ (32 * max a b) * 4294967296 := by rw [show 32 * (max a b + 1) = 32 * max a b + 32 by omega, Int.pow_add]; rfl
  rw [e]
  have hp : (0 : Int) < 2 ^ (32 * max a b) := Int.pow_pos (by decide)
  omega
theorem bd.up {k m : Nat} (h : bd a x) (hk : k ≤ 32 * m) : bd (a + m) (sh x k) := by
  rw [sh_up]
  have h1 := bd2.1 h
  rw [bd2]
  have e : (2 : Int) ^ (32 * (a + m)) = 2 ^ (32 * a) * 2 ^ (32 * m) := by rw [Nat.mul_add, Int.pow_add]
  have p1 : (0 : Int) < 2 ^ k := Int.pow_pos (by decide)
  have p2 := pow_le (b := 2) (by decide) hk
  have p3 : (0 : Int) < 2 ^ (32 * a) := Int.pow_pos (by decide)
  rw [e]
  have q1 : x * 2 ^ k < 2 ^ (32 * a) * 2 ^ k := Int.mul_lt_mul_of_pos_right h1.2 p1
  have q2 : -(2 ^ (32 * a)) * 2 ^ k < x * 2 ^ k := Int.mul_lt_mul_of_pos_right h1.1 p1
  have q3 : (2 : Int) ^ (32 * a) * 2 ^ k ≤ 2 ^ (32 * a) * 2 ^ (32 * m) := Int.mul_le_mul_of_nonneg_left p2 (Int.le_of_lt p3)
  rw [Int.neg_mul] at q2
  omega
theorem bd.down {k : Nat} (h : bd a x) : bd a (sh x (-(k : Int))) := by
  have := sh_dn (x := x) (n := -(k : Int)) (by omega)
  unfold bd at *
  omega
theorem bd.ones {k m : Nat} (hk : k ≤ 32 * m) : bd (m + 1) (2 ^ k - 1 : Int) := by
  rw [bd2]
  have p1 : (0 : Int) < 2 ^ k := Int.pow_pos (by decide)
  have p2 := pow_le (b := 2) (by decide) (show k ≤ 32 * (m + 1) by omega)
  omega
theorem bd.one : bd 1 1 := by unfold bd; decide
theorem bd.small {m : Nat} (h : bd a x) (hm : a ≤ m) : bd m x := h.mono hm
theorem bd.compl (h : bd a x) : bd (a + 1) (-1 - x) := by
  unfold bd at *
  rw [Int.pow_succ]
  have := pos_pow (b := b32) (by decide) a
  have e : b32 ^ a * b32 = b32 ^ a * 4294967296 := rfl
  omega
theorem bd.dep {k p m q : Nat} (h : bd a x) (h2 : bd b y) (hk : k ≤ 32 * m) (hp : p ≤ 32 * q) : bd (max (max a (m + 1 + q + 1) + 1) (max b (m + 1) + 1 + q) + 1) (dep x y k p) :=
  (h.bo ((bd.ones hk).up hp).compl).add ((h2.bo (bd.ones hk)).up hp)
end Go.Proofs.Ytcgkgcciogibkaa
/- Ends of a walk by rules; a function's text behind a statement. -/
set_option linter.unusedVariables false
set_option linter.unusedSimpArgs false
namespace Go.Proofs.Ytcgkgcciogibkaa.Sy
open Go Go.RowKit Ma
section
variable {B N : Nat} {w0 : World} {fr : List (Nat × AV)} {Q : Exit → Act → World → Prop} {fn : Func}
theorem run_res1 {s : Nat} (hr : fn.results = #[.tmp s]) (ts : Array Value) (W : World) : (results fn ts).run Try.prog W = .ok (ts.getD s undef) W := by
  simp [results, hr, go_sem]
theorem SX.done {s : Nat} {r : AV} (hr : fn.results = #[.tmp s]) (hs : opv fr (.tmp s) = some r) (hB : B = w0.heap.size) : SX B N w0 .ret fr (bodyPost Try.prog fn (Ret w0 r.of)) := fun a W hf =>
  bodyPost_ret (run_res1 hr _ _) hf.df ⟨_, rfl, ((opv_spec hf hs).1.of (opv_spec hf hs).2).1, by have := hf.be; rw [hB] at this; exact this⟩
theorem Fr.base {a : Act} {W : World} (h1 : a.defers = []) (h2 : a.tmps.size = N) (hb : Below B w0 W) (hB : B ≤ W.heap.size) : Fr B N w0 [] a W :=
  ⟨h1, h2, hb, hB, fun i v h => (by cases h), fun i j b b' p _ h => (by cases h)⟩
/-- A box of a sign and a slice, by its cells. -/
theorem Ho.two {T : TypeId} {z : Int} {m : Bool} {D : Option Addr} {l c p : Nat} {W : World} (ok : (BI T).Ok) (hp : B ≤ p) (h0 : W.cell? ⟨p, 0, none⟩ = some (.bool m)) (h1 : W.cell? ⟨p, 1, none⟩ = some (.slice D l c)) (f0 : W.frozen? ⟨p, 0, none⟩ = false) (f1 : W.frozen? ⟨p, 1, none⟩ = false) (hi : RI W m D l c z) : Ho B (.bx (BI T) (KI z)) (ptr p) W :=
  ⟨p, _, rfl, hp, ⟨_, ⟨m, D, l, c, rfl, rfl⟩, fun i x hx => by rcases two_at hx with ⟨rfl, rfl⟩ | ⟨rfl, rfl⟩ <;> exact ⟨by assumption, by assumption⟩⟩, ⟨m, D, l, c, rfl, hi⟩, KI.st z, ok⟩
/-- From a place in a walk on. -/
theorem SC.run {c : Code} {a : Act} {W : World} (h : SC B N w0 c fr Q) (hf : Fr B N w0 fr a W) : c.wp Try.prog Q a W := h a W hf
def OpsAre (fr : List (Nat × AV)) : List (Operand × Value) → Prop
  | [] => True
  | (x, v) :: l => opv fr x = some (.vl v) ∧ OpsAre fr l
def RhoAre (ρ : Operand → Value) : List (Operand × Value) → Prop
  | [] => True
  | (x, v) :: l => ρ x = v ∧ RhoAre ρ l
theorem rho_of {a : Act} {W : World} (hf : Fr B N w0 fr a W) : ∀ {l : List (Operand × Value)}, OpsAre fr l → RhoAre a.eval l
  | [], _ => trivial
  | (x, v) :: l, h => ⟨opv_vl hf h.1, rho_of hf h.2⟩
theorem PW.qn {ops : Array Oper} {o : Oper} {rest : List Oper} {d : Nat} (l : List (Operand × Value)) (v : Value) (hw : wantB ops fr o = some true) (hd : o.dst = some d) (hN : Nat.blt d N = true) (hx : OpsAre fr l) (h : ∀ (ρ : Operand → Value) (W : World), RhoAre ρ l → (execOp ρ o).run Try.prog W = .ok (.value v) W) (hk : PW B N w0 ops rest ((d, .vl v) :: fr) Q) : PW B N w0 ops (o :: rest) fr Q :=
  PW.val (r := .vl v) hw hd hN rfl (fun a W hf => ⟨v, h _ W (rho_of hf hx), rfl⟩) hk
end
/-! ### Rows -/
/-- Of all that is known nothing speaks of numbers in memory, but rows. -/
def AV.calm : AV → Bool
  | .vl _ => true
  | .nb _ => true
  | .ro _ _ _ _ => true
  | .rx _ _ _ => true
  | .bc _ _ _ => true
  | _ => false
def calmB : List (Nat × AV) → Bool
  | [] => true
  | (_, v) :: l => v.calm && calmB l
theorem calm_look : ∀ {fr : List (Nat × AV)}, calmB fr = true → ∀ s v, look fr s = some v → v.calm = true
  | [], _, s, v, h => by cases h
  | (j, u) :: l, hc, s, v, h => by
    unfold calmB at hc
    rw [Bool.and_eq_true] at hc
    rw [look_cons] at h
    by_cases e : j = s
    · rw [if_pos e] at h; injection h with h; subst h; exact hc.1
    · rw [if_neg e] at h; exact calm_look hc.2 s v h
section
variable {B N : Nat} {w0 : World} {fr : List (Nat × AV)}
theorem Ho.calm {v : AV} {u : Value} {W W' : World} {q : Nat} (hc : v.calm = true) (h : Ho B v u W) (k : W.grownBy W' (some q)) (hne : v.blk u ≠ some q) : Ho B v u W' := by
  cases v with
  | vl v => exact h
  | nb b =>
    obtain ⟨p, x, e, hp, hh, ok⟩ := h
    subst e
    have : p ≠ q := fun e2 => hne (by rw [e2]; rfl)
    exact ⟨p, x, rfl, hp, hh.same (k.block p (hh.lt ok) (fun e => this (by injection e))), ok⟩
  | ro v e f zs => exact OwF.off h k hne
  | rx e f p => obtain ⟨zs, h1, h2⟩ := h; exact ⟨zs, OwF.off h1 k hne, h2⟩
  | bc b p v =>
    obtain ⟨e, hh, ok⟩ := h
    have : p ≠ q := fun e2 => hne (by rw [e2]; rfl)
    exact ⟨e, hh.same (k.block p (hh.lt ok) (fun e => this (by injection e))), ok⟩
  | _ => cases hc
/-- A number of a row is written. -/
theorem Fr.rset {a : Act} {W : World} {K g n c i : Nat} {e : TypeId} {f : Int → Value} {zs : List Int} (h : Fr B N w0 fr a W) (hK : look fr K = some (.ro (.slice (some ⟨g, 0, none⟩) n c) e f zs)) (hc : calmB fr = true) (y : Int) : Fr B N w0 ((K, .ro (.slice (some ⟨g, 0, none⟩) n c) e f (zs.set i y)) :: fr) a (W.setCell ⟨g, i, none⟩ (f y)) := by
  have ho : OwF W B e f (.slice (some ⟨g, 0, none⟩) n c) zs := h.ho K _ hK
  have hgr : W.grownBy (W.setCell ⟨g, i, none⟩ (f y)) (some g) := OwF.grew ho i _
  have hB : B ≤ g := ho.ge
  refine ⟨h.df, h.sz, Below.grown h.be hgr h.bs (fun k e => by injection e with e; omega), by simpa [World.setCell] using h.bs, fun j v hj => ?_, fun j l v v' p hjl hj hl => ?_⟩
  · rw [look_cons] at hj
    by_cases e' : K = j
    · rw [if_pos e'] at hj
      injection hj with hj
      subst hj
      exact OwF.set ho i y
    · rw [if_neg e'] at hj
      exact Ho.calm (calm_look hc j v hj) (h.ho j v hj) hgr (h.di K j _ v g e' hK hj rfl)
  · rw [look_cons] at hj hl
    by_cases e1 : K = j
    · have e2 : K ≠ l := fun x => hjl (e1.symm.trans x)
      rw [if_pos e1] at hj
      rw [if_neg e2] at hl
      injection hj with hj
      subst hj
      intro x
      injection x with x
      subst x
      exact h.di K l _ v' g e2 hK hl rfl
    · rw [if_neg e1] at hj
      by_cases e2 : K = l
      · rw [if_pos e2] at hl
        injection hl with hl
        subst hl
        intro x y2
        injection y2 with y2
        subst y2
        exact h.di K j _ v g e1 hK hj rfl x
      · rw [if_neg e2] at hl; exact h.di j l v v' p hjl hj hl
end
end Go.Proofs.Ytcgkgcciogibkaa.Sy
/- A walk by rules: statements that draw their order, with whatever stores and new boxes: what is known behind some of the operations hangs on which of them were carried out, not on their order. -/
set_option linter.unusedVariables false
set_option linter.unusedSimpArgs false
namespace Go.Proofs.Ytcgkgcciogibkaa.Sy
open Go Go.RowKit Ma
/-- What an operation leaves. -/
inductive Eff
  | val (d : Nat) (r : AV)
  | new (d : Nat) (b : BT)
  | put (s : Nat) (b : BT) (r : AV)
  | rput (K g n c : Nat) (e : TypeId) (f : Int → Value) (zs : List Int) (i : Nat) (y : Int)
  | row (d : Nat) (e : TypeId) (f : Int → Value) (p : List Int → Prop)
def Eff.ent : Eff → Nat × AV
  | .val d r => (d, r)
  | .new d b => (d, .nb b)
  | .put s b r => (s, .bx b r.of)
  | .rput K g n c e f zs i y => (K, .ro (.slice (some ⟨g, 0, none⟩) n c) e f (zs.set i y))
  | .row d e f p => (d, .rx e f p)
def Eff.slot : Eff → Nat
  | .val d _ => d
  | .new d _ => d
  | .put s _ _ => s
  | .rput K _ _ _ _ _ _ _ _ => K
  | .row d _ _ _ => d
def Eff.isR : Eff → Bool
  | .rput _ _ _ _ _ _ _ _ _ => true
  | _ => false
theorem Eff.ent_slot (e : Eff) : e.ent.1 = e.slot := by cases e <;> rfl
/-- What is known behind the operations that L tells. -/
def cur : Nat → List Eff → (Nat → Bool) → List (Nat × AV) → List (Nat × AV)
  | _, [], _, fr => fr
  | i, e :: es, L, fr => cur (i + 1) es L (if L i then e.ent :: fr else fr)
/-- A slot that no further operation writes. -/
theorem look_cur_none {L : Nat → Bool} {s : Nat} : ∀ (es : List Eff) (i : Nat) (fr : List (Nat × AV)), (∀ k e, es[k]? = some e → e.slot = s → L (i + k) = false) → look (cur i es L fr) s = look fr s
  | [], _, _, _ => rfl
  | e :: es, i, fr, h => by
    unfold cur
    rw [look_cur_none es (i + 1) _ fun k e' he hs => by have := h (k + 1) e' (by simpa using he) hs; rwa [show i + 1 + k = i + (k + 1) by omega]]
    by_cases hL : L i = true
    · rw [if_pos hL]
      have : e.slot ≠ s := fun hs => by have := h 0 e rfl hs; rw [Nat.add_zero, hL] at this; cases this
      rw [show e.ent = (e.ent.1, e.ent.2) from rfl, look_cons, if_neg (by rw [Eff.ent_slot]; exact this)]
    · rw [if_neg hL]
/-- The slot of operation number j, if none that was carried out writes it behind. -/
theorem look_cur_at {L : Nat → Bool} {s : Nat} : ∀ (es : List Eff) (i j : Nat) (e : Eff) (fr : List (Nat × AV)), es[j]? = some e → e.slot = s → L (i + j) = true → (∀ k e', j < k → es[k]? = some e' → e'.slot = s → L (i + k) = false) → look (cur i es L fr) s = some e.ent.2
  | [], _, _, _, _, h, _, _, _ => by simp at h
  | e0 :: es, i, 0, e, fr, h, hs, hL, hn => by
    have : e0 = e := by simpa using h
    subst this
    unfold cur
    rw [Nat.add_zero] at hL
    rw [if_pos hL, look_cur_none es (i + 1) _ fun k e' he hs' => by have := hn (k + 1) e' (by omega) (by simpa using he) hs'; rwa [show i + 1 + k = i + (k + 1) by omega]]
    rw [show e0.ent = (e0.ent.1, e0.ent.2) from rfl, look_cons, if_pos (by rw [Eff.ent_slot]; exact hs)]
  | e0 :: es, i, j + 1, e, fr, h, hs, hL, hn => by
    unfold cur
    exact look_cur_at es (i + 1) j e _ (by simpa using h) hs (by rwa [show i + 1 + j = i + (j + 1) by omega]) fun k e' hk he hs' => by have := hn (k + 1) e' (by omega) (by simpa using he) hs'; rwa [show i + 1 + k = i + (k + 1) by omega]
def add (L : Nat → Bool) (i : Nat) : Nat → Bool := fun j => if j = i then true else L j
/-- One more. -/
theorem look_add {L : Nat → Bool} {es : List Eff} {i : Nat} {e : Eff} {fr : List (Nat × AV)} (he : es[i]? = some e) (hL : L i = false) (hn : ∀ k e', i < k → es[k]? = some e' → e'.slot = e.slot → L k = false) (s : Nat) : look (cur 0 es (add L i) fr) s = look (e.ent :: cur 0 es L fr) s := by
  rw [show e.ent = (e.ent.1, e.ent.2) from rfl, look_cons, Eff.ent_slot]
  by_cases hs : e.slot = s
  · rw [if_pos hs]
    refine look_cur_at es 0 i e fr he hs ?_ fun k e' hk he' hs' => ?_
    · show add L i (0 + i) = true; unfold add; rw [Nat.zero_add, if_pos rfl]
    · show add L i (0 + k) = false
      unfold add
      rw [Nat.zero_add, if_neg (by omega)]
      exact hn k e' hk he' (hs'.trans hs.symm)
  · rw [if_neg hs]
    -- the last that was carried out and writes s, or none
    by_cases hex : ∃ k e', es[k]? = some e' ∧ e'.slot = s ∧ L k = true ∧ ∀ k' e'', k < k' → es[k']? = some e'' → e''.slot = s → L k' = false
    · obtain ⟨k, e', h1, h2, h3, h4⟩ := hex
      have hki : k ≠ i := fun x => by subst x; rw [he] at h1; injection h1 with h1; exact hs (h1 ▸ h2)
      have a1 : look (cur 0 es L fr) s = some e'.ent.2 := look_cur_at es 0 k e' fr h1 h2 (by rw [Nat.zero_add]; exact h3) fun k' e'' hk hk' hs' => by rw [Nat.zero_add]; exact h4 k' e'' hk hk' hs'
      have a2 : look (cur 0 es (add L i) fr) s = some e'.ent.2 := look_cur_at es 0 k e' fr h1 h2 (by rw [Nat.zero_add]; unfold add; rw [if_neg hki]; exact h3) fun k' e'' hk hk' hs' => by
        rw [Nat.zero_add]
        unfold add
        have : k' ≠ i := fun x => by subst x; rw [he] at hk'; injection hk' with hk'; exact hs (hk' ▸ hs')
        rw [if_neg this]
        exact h4 k' e'' hk hk' hs'
      rw [a1, a2]
    · have none_ : ∀ k e', es[k]? = some e' → e'.slot = s → L k = false := by
        -- otherwise there is a last one
        intro k e' h1 h2
        apply Classical.byContradiction
        intro h3
        have h3 : L k = true := by simpa using h3
        apply hex
        have key : ∀ n k e', es.length - k = n → es[k]? = some e' → e'.slot = s → L k = true → ∃ k e', es[k]? = some e' ∧ e'.slot = s ∧ L k = true ∧ ∀ k' e'', k < k' → es[k']? = some e'' → e''.slot = s → L k' = false := by
          intro n
          induction n using Nat.strongRecOn with
          | _ n ih =>
            intro k e' hn h1 h2 h3
            by_cases hl : ∀ k' e'', k < k' → es[k']? = some e'' → e''.slot = s → L k' = false
            · exact ⟨k, e', h1, h2, h3, hl⟩
            · simp only [Classical.not_forall] at hl
              obtain ⟨k', e'', hk, hk', hs', hL'⟩ := hl
              have lt1 : k < es.length := (List.getElem?_eq_some_iff.1 h1).1
              have lt2 : k' < es.length := (List.getElem?_eq_some_iff.1 hk').1
              exact ih (es.length - k') (by omega) k' e'' rfl hk' hs' (by simpa using hL')
        exact key _ k e' rfl h1 h2 h3
      have a1 : look (cur 0 es L fr) s = look fr s := look_cur_none es 0 fr fun k e' h1 h2 => by rw [Nat.zero_add]; exact none_ k e' h1 h2
      have a2 : look (cur 0 es (add L i) fr) s = look fr s := look_cur_none es 0 fr fun k e' h1 h2 => by
        rw [Nat.zero_add]
        unfold add
        have : k ≠ i := fun x => by subst x; rw [he] at h1; injection h1 with h1; exact hs (h1 ▸ h2)
        rw [if_neg this]
        exact none_ k e' h1 h2
      rw [a1, a2]
theorem Fr.ext {B N : Nat} {w0 : World} {fr fr' : List (Nat × AV)} {a : Act} {W : World} (h : Fr B N w0 fr a W) (e : ∀ s, look fr' s = look fr s) : Fr B N w0 fr' a W :=
  ⟨h.df, h.sz, h.be, h.bs, fun i v hi => h.ho i v (by rw [← e]; exact hi), fun i j b b' p hij hi hj => h.di i j b b' p hij (by rw [← e]; exact hi) (by rw [← e]; exact hj)⟩
theorem Fr.sub {B N : Nat} {w0 : World} {fr fr' : List (Nat × AV)} {a : Act} {W : World} (h : Fr B N w0 fr a W) (e : ∀ s v, look fr' s = some v → look fr s = some v) : Fr B N w0 fr' a W :=
  ⟨h.df, h.sz, h.be, h.bs, fun i v hi => h.ho i v (e i v hi), fun i j b b' p hij hi hj => h.di i j b b' p hij (e i _ hi) (e j _ hj)⟩

/-! ### What an operation may look at -/
/-- Does operation i wait for operation j (by an edge of its own). -/
def wt (ops : Array Oper) (i j : Nat) : Bool := match ops[i]? with
  | none => false
  | some o => o.after.any fun e => Region.binds .any e && e.on == j
/-- The operations that write a slot, but for those that are told, wait for operation i. -/
def offB (ops : Array Oper) (es : List Eff) (i s : Nat) (but : Nat → Bool) : Bool := (List.range es.length).all fun j => match es[j]? with
  | none => true
  | some e => !(Nat.beq e.slot s) || but j || Nat.beq j i || wt ops j i
/-- What operation i sees: the slots of operations that it waits for; slots of before. -/
def seeF (fr : List (Nat × AV)) : List Nat → List (Nat × AV)
  | [] => []
  | s :: ss => match look fr s with
    | some v => (s, v) :: seeF fr ss
    | none => seeF fr ss
def see (es : List Eff) (fr : List (Nat × AV)) : List Nat → List Nat → List (Nat × AV)
  | [], ss => seeF fr ss
  | j :: js, ss => match es[j]? with
    | some e => e.ent :: see es fr js ss
    | none => see es fr js ss
/-- Of each slot seen just one operation (or none) was carried out so far. -/
def seeB (ops : Array Oper) (es : List Eff) (i : Nat) (js ss : List Nat) : Bool :=
  (js.all fun j => wt ops i j && match es[j]? with
    | none => true
    | some e => offB ops es i e.slot fun k => Nat.beq k j || (Nat.blt k j && wt ops j k)) &&
  ss.all fun s => offB ops es i s fun _ => false
theorem offB_spec {ops : Array Oper} {es : List Eff} {i s : Nat} {but : Nat → Bool} (h : offB ops es i s but = true) {k : Nat} {e : Eff} (he : es[k]? = some e) (hs : e.slot = s) : but k = true ∨ k = i ∨ wt ops k i = true := by
  unfold offB at h
  rw [List.all_eq_true] at h
  have := h k (List.mem_range.2 (List.getElem?_eq_some_iff.1 he).1)
  rw [he] at this
  simp only [Bool.or_eq_true, Bool.not_eq_true', hs] at this
  rcases this with ((h1 | h1) | h1) | h1
  · simp at h1
  · exact .inl h1
  · exact .inr (.inl (by simpa using h1))
  · exact .inr (.inr h1)
/-- What was carried out waits for nothing that was not. -/
def Dn (ops : Array Oper) (L : Nat → Bool) : Prop := ∀ i j, L i = true → wt ops i j = true → L j = true
theorem see_spec {ops : Array Oper} {es : List Eff} {fr : List (Nat × AV)} {L : Nat → Bool} {i : Nat} (hd : Dn ops L) (hi : L i = false) (hw : ∀ j, wt ops i j = true → L j = true) : ∀ (js ss : List Nat), seeB ops es i js ss = true →
    ∀ s v, look (see es fr js ss) s = some v → look (cur 0 es L fr) s = some v
  | [], [], _, s, v, h => by simp [see, seeF, look] at h
  | [], s' :: ss, hb, s, v, h => by
    simp only [seeB, List.all_nil, Bool.true_and, List.all_cons, Bool.and_eq_true] at hb
    have rest : ∀ s v, look (see es fr [] ss) s = some v → look (cur 0 es L fr) s = some v := see_spec hd hi hw [] ss (by simp only [seeB, List.all_nil, Bool.true_and]; exact hb.2)
    unfold see seeF at h
    split at h
    · rename_i v' hv'
      rw [look_cons] at h
      by_cases e : s' = s
      · rw [if_pos e] at h
        injection h with h
        subst h e
        rw [look_cur_none es 0 fr fun k e' h1 h2 => ?_]
        · exact hv'
        · rw [Nat.zero_add]
          rcases offB_spec hb.1 h1 h2 with h3 | h3 | h3
          · cases h3
          · rw [h3]; exact hi
          · cases hk : L k with
            | false => rfl
            | true => have := hd k i hk h3; rw [hi] at this; cases this
      · rw [if_neg e] at h; exact rest s v (by unfold see; exact h)
    · exact rest s v (by unfold see; exact h)
  | j :: js, ss, hb, s, v, h => by
    simp only [seeB, List.all_cons, Bool.and_eq_true] at hb
    obtain ⟨⟨⟨h1, h2⟩, h3⟩, h4⟩ := hb
    have rest : ∀ s v, look (see es fr js ss) s = some v → look (cur 0 es L fr) s = some v := see_spec hd hi hw js ss (by simp only [seeB, Bool.and_eq_true]; exact ⟨h3, h4⟩)
    unfold see at h
    split at h
    · rename_i e he
      rw [show e.ent = (e.ent.1, e.ent.2) from rfl, look_cons, Eff.ent_slot] at h
      by_cases es' : e.slot = s
      · rw [if_pos es'] at h
        injection h with h
        subst h
        rw [he] at h2
        refine look_cur_at es 0 j e fr he es' (by rw [Nat.zero_add]; exact hw j h1) fun k e' hk he' hs' => ?_
        rw [Nat.zero_add]
        rcases offB_spec h2 he' (hs'.trans es'.symm) with h5 | h5 | h5
        · rw [Bool.or_eq_true, Bool.and_eq_true] at h5
          rcases h5 with h5 | h5
          · have := Nat.eq_of_beq_eq_true h5; omega
          · have : k < j := by simpa [Nat.blt_eq] using h5.1
            omega
        · rw [h5]; exact hi
        · cases hk' : L k with
          | false => rfl
          | true => have := hd k i hk' h5; rw [hi] at this; cases this
      · rw [if_neg es'] at h; exact rest s v h
    · exact rest s v h

/-! ### What each operation does -/
section
variable {B N : Nat} {w0 : World} {ops : Array Oper} {o : Oper} {fr : List (Nat × AV)}
/-- An operation, under what it sees, leaves what is told. -/
def Eo (B N : Nat) (w0 : World) (ops : Array Oper) (o : Oper) (fr : List (Nat × AV)) : Eff → Prop
  | .val d r => o.dst = some d ∧ Nat.blt d N = true ∧ r.isBx = false ∧ ∀ a W, Fr B N w0 fr a W → (Region.wanted o (yielded ops a.tmps) = true ∧ Rh.gives Try.prog o a W fun u W' => Nw W W' ∧ Ho B r u W') ∨ (Region.wanted o (yielded ops a.tmps) = false ∧ Ho B r undef W)
  | .new d b => o.dst = some d ∧ Nat.blt d N = true ∧ o.op = .alloc b.T ∧ b.Ok ∧ o.guard = none
  | .put s b r => o.dst = none ∧ o.guard = none ∧ ∃ x, o.op = .store b.T (.tmp s) x ∧ (look fr s).bind bxT = some b ∧ opv fr x = some r ∧ ∀ v W, r.of v W → ∃ cs, b.sh v cs
  | .rput K g n c e f zs i y => o.dst = none ∧ o.guard = none ∧ ∃ T s x, o.op = .store T (.tmp s) x ∧ look fr s = some (.vl (.pointer (some ⟨g, i, none⟩))) ∧ look fr K = some (.ro (.slice (some ⟨g, 0, none⟩) n c) e f zs) ∧ i < zs.length ∧ opv fr x = some (.vl (f y)) ∧
    ∀ (W : World) (p : Addr) (x y : Int), W.cell? p = some (f x) → W.frozen? p = false → (Instr.storeAt T (.pointer (some p)) (f y)).run Try.prog W = .ok () (W.setCell p (f y))
  | .row d e f p => o.dst = some d ∧ Nat.blt d N = true ∧ o.guard = none ∧ ∀ a W, Fr B N w0 fr a W → Rh.gives Try.prog o a W fun u W' => Nw W W' ∧ ∃ zs, OwF W' W.heap.size e f u zs ∧ p zs
/-- The step. -/
theorem Eo.step {fr1 : List (Nat × AV)} {e : Eff} (h : Eo B N w0 ops o fr e) {i : Nat} (hi : ops[i]? = some o) {Q : Exit → Act → World → Prop} {K : Act → World → Prop} {a : Act} {W : World} (hf : Fr B N w0 fr1 a W) (hs : ∀ s v, look fr s = some v → look fr1 s = some v) (hcal : e.isR = true → calmB fr1 = true)
    (hK : ∀ a' W', Fr B N w0 (e.ent :: fr1) a' W' → K a' W') : wpOp Try.prog ops Q i K a W := by
  have hf' := hf.sub hs
  unfold wpOp
  rw [hi]
  simp only []
  cases e with
  | val d r =>
    obtain ⟨hd, hN, hr, hv⟩ := h
    rcases hv a W hf' with ⟨hw, hg⟩ | ⟨hw, hg⟩
    · rw [if_pos hw]
      refine .inl (Rh.gives_wp (fun u W' hu => ?_) hg)
      rw [hd]
      exact hK _ _ ((hf.nw hu.1).set hN hu.2 hr)
    · rw [if_neg (by rw [hw]; exact Bool.false_ne_true), hd]
      exact hK _ _ (hf.set hN hg hr)
  | new d b =>
    obtain ⟨hd, hN, ho, ok, hg⟩ := h
    rw [if_pos (by simp [Region.wanted, hg])]
    obtain ⟨ob, z, cs, hz, hal⟩ := ok.alloc
    obtain ⟨h1, h2⟩ := hal W
    have e : (execOp a.eval o).run Try.prog W = .ok (.value (ptr W.heap.size)) (W.alloc ob) := by
      unfold execOp
      rw [ho]
      exact run_val h1
    refine .inl ?_
    unfold Oper.wp
    rw [e, Oper.upon_value, hd]
    exact hK _ _ (hf.fresh ((Nw.refl W).alloc ob) hN (Nat.le_refl _) rfl ⟨_, z, rfl, hf.bs, ⟨cs, hz, h2⟩, ok⟩)
  | put s b r =>
    obtain ⟨hd, hg, x, ho, hlb, hx, hsh⟩ := h
    obtain ⟨y, hl, hy⟩ := bind_look hlb
    rw [if_pos (by simp [Region.wanted, hg])]
    obtain ⟨h1, h2⟩ := opv_spec hf' hx
    obtain ⟨h3, h4⟩ := h1.of h2
    obtain ⟨cs', hcs⟩ := hsh _ _ h3
    obtain ⟨p, v, e, hB, hh, ok, hbk⟩ := (hf'.ho s _ hl).bxT hy
    obtain ⟨W', h5, h6, h7⟩ := ok.store v _ cs' W p hh hcs
    have e2 : (execOp a.eval o).run Try.prog W = .ok .skip W' := by
      unfold execOp
      rw [ho]
      show (do (Instr.storeAt b.T (a.tmps.getD s undef) (a.eval x)); pure .skip : Sem Next).run Try.prog W = _
      rw [e]
      exact run_skip h5
    refine .inl ?_
    unfold Oper.wp
    rw [e2]
    show K (a.put o.dst undef) W'
    rw [hd]
    exact hK _ _ (hf.stored (hs s _ hl) e hB hbk ok h7 h6 (h4 _ _ _ h7.nu h3) h4)
  | rput K' g n c e f zs i' y =>
    obtain ⟨hd, hg, T, s, x, ho, h1, h2, hi', h3, hst⟩ := h
    rw [if_pos (by simp [Region.wanted, hg])]
    have a1 : a.tmps.getD s undef = .pointer (some ⟨g, i', none⟩) := hf'.ho s _ h1
    have a2 : OwF W B e f (.slice (some ⟨g, 0, none⟩) n c) zs := hf'.ho K' _ h2
    have a3 := opv_vl hf' h3
    have e2 : (execOp a.eval o).run Try.prog W = .ok .skip (W.setCell ⟨g, i', none⟩ (f y)) := by
      unfold execOp
      rw [ho]
      show (do (Instr.storeAt T (a.tmps.getD s undef) (a.eval x)); pure .skip : Sem Next).run Try.prog W = _
      rw [a1, a3]
      exact run_skip (hst W _ _ _ (a2.cellAt hi') (a2.frozenAt i'))
    refine .inl ?_
    unfold Oper.wp
    rw [e2]
    show K (a.put o.dst undef) _
    rw [hd]
    exact hK _ _ (hf.rset (hs K' _ h2) (hcal rfl) y)
  | row d e f p =>
    obtain ⟨hd, hN, hg, hv⟩ := h
    rw [if_pos (by simp [Region.wanted, hg])]
    refine .inl (Rh.gives_wp (fun u W' ⟨hn, zs, hu, hp⟩ => ?_) (hv a W hf'))
    rw [hd]
    refine hK _ _ ((hf.nw hn).put hN (v := .rx e f p) ⟨zs, OwF.weaken hu hf.bs, hp⟩ fun i v' q hi e1 e2 => ?_)
    have a1 := OwF.base hu q e1
    have a2 := (hf.ho i _ hi).blk e2
    omega
end
section
variable {B N : Nat} {w0 : World} {ops : Array Oper} {o : Oper} {fr : List (Nat × AV)} {d : Nat}
theorem gives_val {a : Act} {W : World} {u : Value} {K : Value → World → Prop} (h : (execOp a.eval o).run Try.prog W = .ok (.value u) W) (hk : K u W) : Rh.gives Try.prog o a W K := by
  unfold Rh.gives; rw [h]; exact hk
theorem DX.val {r : AV} (hw : wantB ops fr o = some true) (hd : o.dst = some d) (hN : Nat.blt d N = true) (hr : r.isBx = false) (h : ∀ a W, Fr B N w0 fr a W → ∃ u, (execOp a.eval o).run Try.prog W = .ok (.value u) W ∧ Ho B r u W) : Eo B N w0 ops o fr (.val d r) :=
  ⟨hd, hN, hr, fun a W hf => .inl ⟨wantB_spec hf hw, by obtain ⟨u, e, hu⟩ := h a W hf; exact gives_val e ⟨Nw.refl W, hu⟩⟩⟩
theorem DX.skip (hw : wantB ops fr o = some false) (hd : o.dst = some d) (hN : Nat.blt d N = true) : Eo B N w0 ops o fr (.val d (.vl undef)) :=
  ⟨hd, hN, rfl, fun a W hf => .inr ⟨wantB_spec hf hw, rfl⟩⟩
theorem DX.move {x : Operand} {r : AV} (hw : wantB ops fr o = some true) (hd : o.dst = some d) (hN : Nat.blt d N = true) (ho : o.op = .move x) (hx : opv fr x = some r) (hr : r.isBx = false) : Eo B N w0 ops o fr (.val d r) :=
  DX.val hw hd hN hr fun a W hf => ⟨a.eval x, by unfold execOp; rw [ho]; rfl, (opv_spec hf hx).1⟩
theorem DX.assign {x : Operand} {r : AV} (hw : wantB ops fr o = some true) (hd : o.dst = some d) (hN : Nat.blt d N = true) (ho : o.op = .assign x) (hx : opv fr x = some r) (hr : r.isBx = false) : Eo B N w0 ops o fr (.val d r) :=
  DX.val hw hd hN hr fun a W hf => ⟨a.eval x, by unfold execOp; rw [ho]; rfl, (opv_spec hf hx).1⟩
theorem DX.load {T : TypeId} {s : Nat} {b : BT} {k : Know} (hw : wantB ops fr o = some true) (hd : o.dst = some d) (hN : Nat.blt d N = true) (ho : o.op = .load T (.tmp s)) (hs : look fr s = some (.bx b k)) (hT : b.T = T) : Eo B N w0 ops o fr (.val d (.kw k)) :=
  DX.val hw hd hN rfl fun a W hf => by
    obtain ⟨p, v, e, _, ⟨cs, hs1, hc⟩, hv, st, ok⟩ := hf.ho s _ hs
    refine ⟨v, ?_, hv, st⟩
    have := run_val (ok.load v cs W p hs1 fun i x hx => (hc i x hx).1)
    unfold execOp
    rw [ho]
    show (do pure (.value (← Instr.loadAt T (a.tmps.getD s undef))) : Sem Next).run Try.prog W = _
    rw [e, ← hT]
    exact this
theorem DX.ext {s i : Nat} {k : Know} {r : AV} (hw : wantB ops fr o = some true) (hd : o.dst = some d) (hN : Nat.blt d N = true) (ho : o.op = .extract (.tmp s) i) (hs : look fr s = some (.kw k)) (hx : Ex k i r) (hst : St r.of) (hr : r.isBx = false) : Eo B N w0 ops o fr (.val d r) :=
  DX.val hw hd hN hr fun a W hf => by
    obtain ⟨hv, _⟩ := hf.ho s _ hs
    obtain ⟨vs, v, e, hi, hv'⟩ := hx _ W hv
    refine ⟨v, ?_, Ho.mk hr hv' hst⟩
    unfold execOp
    rw [ho]
    show (do pure (.value (← Instr.extract (a.tmps.getD s undef) i)) : Sem Next).run Try.prog W = _
    rw [e]
    exact run_val (run_ext hi W)
theorem DX.call {c : Call} {f : FuncId} {ks : List Know} {r : AV} (hw : wantB ops fr o = some true) (hd : o.dst = some d) (hN : Nat.blt d N = true) (ho : o.op = .call c) (hc : c.callee = .value (.func f)) (ha : opks fr c.args.toList = some ks) (hst : St r.of) (hr : r.isBx = false)
    (h : CallOk f ks r.of) : Eo B N w0 ops o fr (.val d r) := by
  refine ⟨hd, hN, hr, fun a W hf => .inl ⟨wantB_spec hf hw, ?_⟩⟩
  obtain ⟨dst, op, ty, pos, after, guard⟩ := o
  simp only at ho
  subst ho
  unfold Rh.gives
  rw [run_call h.1 hc a.eval rfl ty W]
  have e : (c.args.toList.map a.eval).toArray = c.args.map a.eval := by rw [← Array.toList_map]
  have := h.2 W _ (opks_spec hf ha)
  rw [e] at this
  exact Rh.gives_enter (this.mono fun e W' ⟨v, he, hv, hn⟩ => ⟨v, he, hn, Ho.mk hr hv hst⟩)
theorem DX.q1 {x : Operand} {u : Value} (v : Value) (hw : wantB ops fr o = some true) (hd : o.dst = some d) (hN : Nat.blt d N = true) (hx : opv fr x = some (.vl u)) (h : ∀ (ρ : Operand → Value) (W : World), ρ x = u → (execOp ρ o).run Try.prog W = .ok (.value v) W) : Eo B N w0 ops o fr (.val d (.vl v)) :=
  DX.val hw hd hN rfl fun a W hf => ⟨v, h _ W (opv_vl hf hx), rfl⟩
theorem DX.q2 {x y : Operand} {u u2 : Value} (v : Value) (hw : wantB ops fr o = some true) (hd : o.dst = some d) (hN : Nat.blt d N = true) (hx : opv fr x = some (.vl u)) (hy : opv fr y = some (.vl u2)) (h : ∀ (ρ : Operand → Value) (W : World), ρ x = u → ρ y = u2 → (execOp ρ o).run Try.prog W = .ok (.value v) W) : Eo B N w0 ops o fr (.val d (.vl v)) :=
  DX.val hw hd hN rfl fun a W hf => ⟨v, h _ W (opv_vl hf hx) (opv_vl hf hy), rfl⟩
theorem DX.qn (l : List (Operand × Value)) (v : Value) (hw : wantB ops fr o = some true) (hd : o.dst = some d) (hN : Nat.blt d N = true) (hx : OpsAre fr l) (h : ∀ (ρ : Operand → Value) (W : World), RhoAre ρ l → (execOp ρ o).run Try.prog W = .ok (.value v) W) : Eo B N w0 ops o fr (.val d (.vl v)) :=
  DX.val hw hd hN rfl fun a W hf => ⟨v, h _ W (rho_of hf hx), rfl⟩
theorem run_pk (t : Bool) (p q : Value) (W : World) : (do pure (.value (if ← asBool (.bool t) then p else q)) : Sem Next).run Try.prog W = .ok (.value (bif t then p else q)) W := by
  cases t <;> simp [asBool, go_sem]
theorem DX.pick {c x y : Operand} {t : Bool} {r : AV} (hw : wantB ops fr o = some true) (hd : o.dst = some d) (hN : Nat.blt d N = true) (ho : o.op = .pick c x y) (hc : opv fr c = some (.vl (.bool t))) (hx : opv fr (bif t then x else y) = some r) (hr : r.isBx = false) : Eo B N w0 ops o fr (.val d r) :=
  DX.val hw hd hN hr fun a W hf => ⟨a.eval (bif t then x else y), by
    have e1 := opv_vl hf hc
    unfold execOp
    rw [ho]
    simp only [e1]
    refine (run_pk t _ _ W).trans ?_
    cases t <;> rfl, (opv_spec hf hx).1⟩
theorem DX.alloc {T : TypeId} (b : BT) (hd : o.dst = some d) (hN : Nat.blt d N = true) (ho : o.op = .alloc T) (hT : b.T = T) (ok : b.Ok) (hg : o.guard = none) : Eo B N w0 ops o fr (.new d b) := ⟨hd, hN, by rw [ho, hT], ok, hg⟩
theorem DX.rstore {T : TypeId} {s K g n c i : Nat} {x : Operand} {e : TypeId} {f : Int → Value} {zs : List Int} {y : Int} (hd : o.dst = none) (hg : o.guard = none) (ho : o.op = .store T (.tmp s) x) (hs : look fr s = some (.vl (.pointer (some ⟨g, i, none⟩)))) (hK : look fr K = some (.ro (.slice (some ⟨g, 0, none⟩) n c) e f zs)) (hi : i < zs.length) (hx : opv fr x = some (.vl (f y)))
    (hst : ∀ (W : World) (p : Addr) (x y : Int), W.cell? p = some (f x) → W.frozen? p = false → (Instr.storeAt T (.pointer (some p)) (f y)).run Try.prog W = .ok () (W.setCell p (f y))) : Eo B N w0 ops o fr (.rput K g n c e f zs i y) := ⟨hd, hg, T, s, x, ho, hs, hK, hi, hx, hst⟩
theorem DX.store {T : TypeId} {s : Nat} {x : Operand} {r : AV} {b : BT} (hd : o.dst = none) (hg : o.guard = none) (ho : o.op = .store T (.tmp s) x) (hs : (look fr s).bind bxT = some b) (hT : b.T = T) (hx : opv fr x = some r) (hsh : ∀ v W, r.of v W → ∃ cs, b.sh v cs) : Eo B N w0 ops o fr (.put s b r) := ⟨hd, hg, x, by rw [ho, hT], hs, hx, hsh⟩
end
/-- Each operation's part. -/
def Eos (B N : Nat) (w0 : World) (ops : Array Oper) (es : List Eff) (fr : List (Nat × AV)) : List Oper → List Eff → List (List Nat × List Nat) → Prop
  | [], _, _ => True
  | o :: l, e :: l', (js, ss) :: l'' => Eo B N w0 ops o (see es fr js ss) e ∧ Eos B N w0 ops es fr l l' l''
  | _, _, _ => False
theorem Eos.at {B N : Nat} {w0 : World} {ops : Array Oper} {es : List Eff} {fr : List (Nat × AV)} : ∀ {l : List Oper} {l' : List Eff} {l'' : List (List Nat × List Nat)}, Eos B N w0 ops es fr l l' l'' → ∀ {i : Nat} {o : Oper}, l[i]? = some o → ∃ e js ss, l'[i]? = some e ∧ l''[i]? = some (js, ss) ∧ Eo B N w0 ops o (see es fr js ss) e
  | [], _, _, _, i, o, h => by simp at h
  | o' :: l, e :: l', (js, ss) :: l'', ⟨h1, h2⟩, 0, o, h => by
    have : o' = o := by simpa using h
    subst this
    exact ⟨e, js, ss, rfl, rfl, h1⟩
  | o' :: l, e :: l', (js, ss) :: l'', ⟨h1, h2⟩, i + 1, o, h => by
    obtain ⟨e', js', ss', a, b, c⟩ := Eos.at h2 (i := i) (by simpa using h)
    exact ⟨e', js', ss', by simpa using a, by simpa using b, c⟩
  | _ :: _, [], _, h, _, _, _ => h.elim
  | _ :: _, _ :: _, [], h, _, _, _ => h.elim
/-- All checks that look at the text alone: each operation waits for earlier ones alone; of two that write one slot the later waits for the other; what each sees. -/
def seesB (ops : Array Oper) (es : List Eff) : Nat → List (List Nat × List Nat) → Bool
  | _, [] => true
  | i, (js, ss) :: l => seeB ops es i js ss && seesB ops es (i + 1) l
def backB (ops : Array Oper) : Bool := (List.range ops.size).all fun i => match ops[i]? with
  | none => true
  | some o => o.after.all fun e => !(Region.binds .any e) || Nat.blt e.on i
def twiceB (ops : Array Oper) (es : List Eff) : Bool := (List.range es.length).all fun i => (List.range i).all fun j => match es[i]?, es[j]? with
  | some a, some b => !(Nat.beq a.slot b.slot) || wt ops i j
  | _, _ => true
theorem seesB_at {ops : Array Oper} {es : List Eff} : ∀ {l : List (List Nat × List Nat)} {i k : Nat} {js ss : List Nat}, seesB ops es i l = true → l[k]? = some (js, ss) → seeB ops es (i + k) js ss = true
  | [], _, _, _, _, _, h => by simp at h
  | (js', ss') :: l, i, 0, js, ss, hb, h => by
    unfold seesB at hb
    rw [Bool.and_eq_true] at hb
    have : (js', ss') = (js, ss) := by simpa using h
    injection this with a b
    subst a b
    exact hb.1
  | (js', ss') :: l, i, k + 1, js, ss, hb, h => by
    unfold seesB at hb
    rw [Bool.and_eq_true] at hb
    have := seesB_at hb.2 (k := k) (by simpa using h)
    rwa [show i + 1 + k = i + (k + 1) by omega] at this
theorem back_spec {ops : Array Oper} (h : backB ops = true) {i j : Nat} (hw : wt ops i j = true) : j < i := by
  unfold backB at h
  rw [List.all_eq_true] at h
  unfold wt at hw
  split at hw
  · cases hw
  · rename_i o ho
    have := h i (List.mem_range.2 (Array.getElem?_eq_some_iff.1 ho).1)
    rw [ho] at this
    simp only [Array.all_eq_true'] at this
    rw [Array.any_eq_true'] at hw
    obtain ⟨e, he, hb⟩ := hw
    rw [Bool.and_eq_true] at hb
    have h1 := this e he
    rw [hb.1] at h1
    have h2 : e.on = j := by simpa using hb.2
    rw [← h2]
    simpa [Nat.blt_eq] using h1
theorem twice_spec {ops : Array Oper} {es : List Eff} (h : twiceB ops es = true) {i j : Nat} {a b : Eff} (hij : j < i) (ha : es[i]? = some a) (hb : es[j]? = some b) (hs : a.slot = b.slot) : wt ops i j = true := by
  unfold twiceB at h
  rw [List.all_eq_true] at h
  have h1 := h i (List.mem_range.2 (List.getElem?_eq_some_iff.1 ha).1)
  rw [List.all_eq_true] at h1
  have h2 := h1 j (List.mem_range.2 hij)
  rw [ha, hb] at h2
  simp only [hs] at h2
  simpa using h2
/-- How many are left. -/
def lft : Nat → (Nat → Bool) → Nat
  | 0, _ => 0
  | n + 1, L => (if L n then 0 else 1) + lft n L
theorem lft_congr {L L' : Nat → Bool} : ∀ n, (∀ j, j < n → L j = L' j) → lft n L = lft n L'
  | 0, _ => rfl
  | n + 1, h => by unfold lft; rw [h n (by omega), lft_congr n fun j hj => h j (by omega)]
theorem lft_add {L : Nat → Bool} {i : Nat} (hL : L i = false) : ∀ n, i < n → lft n (add L i) + 1 = lft n L
  | 0, h => by omega
  | n + 1, h => by
    unfold lft
    by_cases e : n = i
    · subst e
      have : lft n (add L n) = lft n L := lft_congr n fun j hj => by unfold add; rw [if_neg (by omega)]
      rw [this, hL]
      unfold add
      simp
      omega
    · have := lft_add hL n (by omega)
      have e2 : add L i n = L n := by unfold add; rw [if_neg e]
      rw [e2]
      omega
theorem lft_zero {L : Nat → Bool} : ∀ n, lft n L = 0 → ∀ j, j < n → L j = true
  | 0, _, j, h => by omega
  | n + 1, h, j, hj => by
    unfold lft at h
    by_cases e : j = n
    · subst e
      cases hL : L j with
      | true => rfl
      | false => rw [hL] at h; simp at h
    · exact lft_zero n (by omega) j (by omega)
/-- The frame behind all. -/
def ents : List Eff → List (Nat × AV) → List (Nat × AV)
  | [], fr => fr
  | e :: es, fr => ents es (e.ent :: fr)
theorem cur_all {L : Nat → Bool} : ∀ (es : List Eff) (i : Nat) (fr : List (Nat × AV)), (∀ k, i ≤ k → k < i + es.length → L k = true) → cur i es L fr = ents es fr
  | [], _, _, _ => rfl
  | e :: es, i, fr, h => by
    unfold cur ents
    rw [if_pos (h i (Nat.le_refl _) (by simp))]
    exact cur_all es (i + 1) _ fun k h1 h2 => h k (by omega) (by simp; omega)
theorem cur_no {L : Nat → Bool} : ∀ (es : List Eff) (i : Nat) (fr : List (Nat × AV)), (∀ k, L k = false) → cur i es L fr = fr
  | [], _, _, _ => rfl
  | e :: es, i, fr, h => by
    unfold cur
    rw [h i, if_neg (by simp)]
    exact cur_no es (i + 1) _ h
def dxcalm (es : List Eff) (fr : List (Nat × AV)) : Bool := match es.any Eff.isR with
  | false => true
  | true => calmB fr && es.all fun e => e.ent.2.calm
theorem cur_calm {L : Nat → Bool} : ∀ (es : List Eff) (i : Nat) (fr : List (Nat × AV)), calmB fr = true → (es.all fun e => e.ent.2.calm) = true → calmB (cur i es L fr) = true
  | [], _, _, h, _ => h
  | e :: es, i, fr, h, hs => by
    rw [List.all_cons, Bool.and_eq_true] at hs
    unfold cur
    refine cur_calm es (i + 1) _ ?_ hs.2
    split
    · show (e.ent.2.calm && calmB fr) = true
      rw [hs.1, h]; rfl
    · exact h
theorem dxcalm_spec {es : List Eff} {fr : List (Nat × AV)} (h : dxcalm es fr = true) {i : Nat} {e : Eff} (he : es[i]? = some e) (hr : e.isR = true) (L : Nat → Bool) : calmB (cur 0 es L fr) = true := by
  have : es.any Eff.isR = true := List.any_eq_true.2 ⟨e, List.mem_of_getElem? he, hr⟩
  unfold dxcalm at h
  rw [this] at h
  simp only [Bool.and_eq_true] at h
  exact cur_calm es 0 fr h.1 h.2
/-- **A statement that draws its order.** -/
theorem SC.dx {B N : Nat} {w0 : World} {id : Nat} {l : List Oper} {fr : List (Nat × AV)} {Q : Exit → Act → World → Prop} (es : List Eff) (sees : List (List Nat × List Nat)) (hlen : es.length = l.length)
    (h1 : backB l.toArray = true) (h2 : twiceB l.toArray es = true) (h3 : seesB l.toArray es 0 sees = true) (h4 : dxcalm es fr = true) (ho : Eos B N w0 l.toArray es fr l es sees) (hk : SX B N w0 .normal (ents es fr) Q) : SC B N w0 (.region id l.toArray true) fr Q := fun a W hf => by
  have hd : Nw W W.drew := (Nw.refl W).drew
  refine wp_region_any (by kernel_rfl) ?_
  have key : ∀ (fuel : Nat) (listed : Array Bool) (a : Act) (W : World), listed.size = l.length → Dn l.toArray (fun j => listed.getD j false) → lft l.length (fun j => listed.getD j false) ≤ fuel → Fr B N w0 (cur 0 es (fun j => listed.getD j false) fr) a W → wpAny Try.prog .any l.toArray Q fuel listed a W := by
    intro fuel
    induction fuel with
    | zero =>
      intro listed a W hz hD hl hf
      have hall := lft_zero l.length (Nat.le_zero.1 hl)
      refine ⟨?_, ?_⟩
      · cases hr : Region.ready .any l.toArray listed with
        | nil => rfl
        | cons i t =>
          exfalso
          have hi : i ∈ Region.ready .any l.toArray listed := by rw [hr]; exact List.mem_cons_self
          obtain ⟨hun, o, hoo, _⟩ := mem_ready.1 hi
          have hlt : i < l.length := by simpa using (Array.getElem?_eq_some_iff.1 hoo).1
          have := hall i hlt
          rw [Rh.listed_not hun] at this
          cases this
      · rw [cur_all es 0 fr fun k _ hk2 => hall k (by omega)] at hf
        exact hk a W hf
    | succ fuel ih =>
      intro listed a W hz hD hl hf
      refine ⟨fun hr => ?_, fun i hi => ?_⟩
      · -- nothing is ready: nothing is left
        have hall : ∀ n j, j = n → j < l.length → listed.getD j false = true := by
          intro n
          induction n using Nat.strongRecOn with
          | _ n ihn =>
            intro j hj hjl
            subst hj
            cases hL : listed.getD j false with
            | true => rfl
            | false =>
              exfalso
              have : j ∈ Region.ready .any l.toArray listed := mem_ready.2 ⟨by
                have : j < listed.size := by omega
                simp [this] at hL ⊢; exact hL, l[j], by simp [hjl], fun e he hb => by
                have hw : wt l.toArray j e.on = true := by
                  unfold wt
                  rw [show l.toArray[j]? = some l[j] by simp [hjl]]
                  simp only []
                  rw [Array.any_eq_true']
                  exact ⟨e, he, by rw [hb]; simp⟩
                have hlt := back_spec h1 hw
                exact ihn e.on hlt e.on rfl (by omega)⟩
              rw [hr] at this
              cases this
        rw [cur_all es 0 fr fun k _ hk2 => hall k k rfl (by omega)] at hf
        exact hk a W hf
      · obtain ⟨hun, o, hoo, haft⟩ := mem_ready.1 hi
        have hlt : i < l.length := by simpa using (Array.getElem?_eq_some_iff.1 hoo).1
        have hLi : listed.getD i false = false := Rh.listed_not hun
        have hwi : ∀ j, wt l.toArray i j = true → listed.getD j false = true := by
          intro j hj
          unfold wt at hj
          rw [hoo] at hj
          simp only [] at hj
          rw [Array.any_eq_true'] at hj
          obtain ⟨e, he, hb⟩ := hj
          rw [Bool.and_eq_true] at hb
          have : e.on = j := by simpa using hb.2
          rw [← this]
          exact haft e he hb.1
        obtain ⟨e, js, ss, he, hs, hE⟩ := ho.at (i := i) (o := o) (by simpa using hoo)
        have hsb := seesB_at h3 (k := i) hs
        rw [Nat.zero_add] at hsb
        have hLadd : (fun j => (listed.setIfInBounds i true).getD j false) = add (fun j => listed.getD j false) i := by
          funext j
          unfold add
          by_cases hji : j = i
          · subst hji
            have : j < listed.size := by omega
            simp [this]
          · rw [if_neg hji]
            simp only [Array.getD_eq_getD_getElem?, Array.getElem?_setIfInBounds, if_neg (Ne.symm hji)]
        refine hE.step hoo hf (see_spec hD hLi hwi js ss hsb) (fun hr => dxcalm_spec h4 he hr _) fun a' W' hf' => ih _ a' W' (by simpa using hz) ?_ ?_ ?_
        · rw [hLadd]
          intro p q hp hpq
          unfold add at hp ⊢
          by_cases hpi : p = i
          · subst hpi
            by_cases hqi : q = p
            · rw [if_pos hqi]
            · rw [if_neg hqi]; exact hwi q hpq
          · rw [if_neg hpi] at hp
            by_cases hqi : q = i
            · rw [if_pos hqi]
            · rw [if_neg hqi]; exact hD p q hp hpq
        · rw [hLadd]
          have := lft_add (L := fun j => listed.getD j false) (i := i) hLi l.length hlt
          omega
        · rw [hLadd]
          refine hf'.ext fun s => look_add he hLi (fun k e' hik hk' hsl => ?_) s
          cases hk2 : listed.getD k false with
          | false => rfl
          | true => exact absurd ((hD k i hk2 (twice_spec h2 hik hk' he hsl)).symm.trans hLi) (by simp)
  refine key _ _ a W.drew (by simp) (fun i j hi => ?_) ?_ ?_
  · exfalso
    rcases Nat.lt_or_ge i l.length with h' | h'
    · simp [h'] at hi
    · simp [Array.getElem?_eq_none, h'] at hi
  · have : ∀ n, lft n (fun j => (Array.replicate l.toArray.size false).getD j false) ≤ n := by
      intro n
      induction n with
      | zero => exact Nat.le_refl _
      | succ n ih => unfold lft; split <;> omega
    simpa using this l.length
  · rw [cur_no es 0 fr fun k => by
      rcases Nat.lt_or_ge k l.length with h' | h'
      · simp [h']
      · simp [Array.getElem?_eq_none, h']]
    exact hf.nw hd
end Go.Proofs.Ytcgkgcciogibkaa.Sy
/- A walk by rules: loops; a field of a box; the beginning of a function. -/
set_option linter.unusedVariables false
set_option linter.unusedSimpArgs false
namespace Go.Proofs.Ytcgkgcciogibkaa.Sy
open Go Go.RowKit Ma
def Sub : List (Nat × AV) → List (Nat × AV) → Prop
  | [], _ => True
  | (i, v) :: l, fr => look fr i = some v ∧ Sub l fr
theorem Sub.spec {fr : List (Nat × AV)} : ∀ {l : List (Nat × AV)}, Sub l fr → ∀ s v, look l s = some v → look fr s = some v
  | [], _, s, v, h => by cases h
  | (i, u) :: l, hs, s, v, h => by
    rw [look_cons] at h
    by_cases e : i = s
    · rw [if_pos e] at h; injection h with h; subst h e; exact hs.1
    · rw [if_neg e] at h; exact hs.2.spec s v h
section
variable {B N : Nat} {w0 : World} {ops : Array Oper} {o o2 : Oper} {rest : List Oper} {fr : List (Nat × AV)} {Q : Exit → Act → World → Prop} {d : Nat}
theorem SC.keep {c : Code} (fr' : List (Nat × AV)) (hs : Sub fr' fr) (h : SC B N w0 c fr' Q) : SC B N w0 c fr Q := fun a W hf => h a W (hf.sub hs.spec)
/-- What a round hands on. -/
def Bk {S : Type} (B N : Nat) (w0 : World) (F : S → List (Nat × AV)) (P : S → Prop) (μ : S → Nat) (n : Nat) (a : Act) (W : World) : Prop := ∃ s', P s' ∧ μ s' < n ∧ Fr B N w0 (F s') a W
theorem SC.loop {c : Code} {S : Type} (F : S → List (Nat × AV)) (P : S → Prop) (μ : S → Nat) (s0 : S) (p0 : P s0) (h0 : Sub (F s0) fr)
    (round : ∀ s, P s → SC B N w0 c (F s) (Exit.then (Bk B N w0 F P μ (μ s)) Q)) : SC B N w0 (.loop c) fr Q := fun a W hf => by
  refine wp_loop_ghost (fun n a w => ∃ s, P s ∧ μ s = n ∧ Fr B N w0 (F s) a w) (μ s0) ⟨s0, p0, rfl, hf.sub h0.spec⟩ ?_
  rintro n a w ⟨s, hp, rfl, hf⟩
  refine wp_mono (round s hp a w hf) fun e a' w' hq => ?_
  cases e with
  | normal => obtain ⟨s', h1, h2, h3⟩ := hq; exact ⟨μ s', h2, s', h1, rfl, h3⟩
  | exit id => exact hq
  | goto l => exact hq
  | ret => exact hq
  | panic ch => exact hq
  | outgrown => exact hq
theorem SX.back {S : Type} {F : S → List (Nat × AV)} {P : S → Prop} {μ : S → Nat} {n : Nat} (s' : S) (hp : P s') (hm : μ s' < n) (hs : Sub (F s') fr) : SX B N w0 .normal fr (Exit.then (Bk B N w0 F P μ n) Q) :=
  fun a W hf => ⟨s', hp, hm, hf.sub hs.spec⟩
end
/-! ### The beginning of a function -/
def ini : Nat → List AV → List (Nat × AV)
  | _, [] => []
  | i, v :: l => (i, v) :: ini (i + 1) l
def AllA (B : Nat) : List AV → List Value → World → Prop
  | [], [], _ => True
  | v :: l, u :: us, W => Ho B v u W ∧ v.isBx = false ∧ AllA B l us W
  | _, _, _ => False
theorem look_ini : ∀ (l : List AV) (i s : Nat) (v : AV), look (ini i l) s = some v → ∃ k, s = i + k ∧ l[k]? = some v
  | [], _, _, _, h => by cases h
  | x :: l, i, s, v, h => by
    unfold ini at h
    rw [look_cons] at h
    by_cases e : i = s
    · rw [if_pos e] at h; exact ⟨0, by omega, by simpa using h⟩
    · rw [if_neg e] at h
      obtain ⟨k, h1, h2⟩ := look_ini l (i + 1) s v h
      exact ⟨k + 1, by omega, by simpa using h2⟩
theorem AllA.at {B : Nat} {W : World} : ∀ {l : List AV} {us : List Value}, AllA B l us W → ∀ {k : Nat} {v : AV}, l[k]? = some v → ∃ u, us[k]? = some u ∧ Ho B v u W ∧ v.isBx = false
  | [], [], _, k, v, h => by simp at h
  | x :: l, u :: us, hh, 0, v, h => by
    have : x = v := by simpa using h
    subst this
    exact ⟨u, rfl, hh.1, hh.2.1⟩
  | x :: l, u :: us, hh, k + 1, v, h => by
    obtain ⟨u', h1, h2⟩ := AllA.at hh.2.2 (k := k) (by simpa using h)
    exact ⟨u', by simpa using h1, h2⟩
  | [], _ :: _, hh, _, _, _ => hh.elim
  | _ :: _, [], hh, _, _, _ => hh.elim
theorem Fr.ini {B N : Nat} {w : World} {l : List AV} {us : List Value} (h : AllA B l us w) (hB : B = w.heap.size) (n : Nat) (hN : us.length + n = N) : Fr B N w (ini 0 l) ⟨us.toArray ++ Array.replicate n undef, []⟩ w := by
  refine ⟨rfl, by simp [hN], hB ▸ Below.refl _ _, by omega, fun i v hi => ?_, fun i j b b' p hij hi hj e => ?_⟩
  · obtain ⟨k, rfl, hk⟩ := look_ini l 0 i v hi
    rw [Nat.zero_add]
    obtain ⟨u, hu, hv, _⟩ := h.at hk
    have hlt := (List.getElem?_eq_some_iff.1 hu).1
    have : (us.toArray ++ Array.replicate n undef).getD k undef = u := by
      simp only [Array.getD_eq_getD_getElem?]
      rw [Array.getElem?_append_left (by simpa using hlt)]
      simp [hu]
    show Ho B v ((us.toArray ++ Array.replicate n undef).getD k undef) w
    rw [this]; exact hv
  · obtain ⟨k1, _, hk1⟩ := look_ini l 0 i _ hi
    obtain ⟨u, _, _, h3⟩ := h.at hk1
    rw [AV.blk_no h3] at e
    cases e
def StA : List AV → Prop
  | [] => True
  | v :: l => St v.of ∧ v.isBx = false ∧ StA l
theorem AllA.of {B : Nat} {W : World} : ∀ {l : List AV} {us : List Value}, StA l → All (l.map AV.of) us W → AllA B l us W
  | [], [], _, _ => trivial
  | v :: l, u :: us, hs, h => ⟨Ho.mk hs.2.1 h.1 hs.1, hs.2.1, AllA.of hs.2.2 h.2⟩
  | [], _ :: _, _, h => h.elim
  | _ :: _, [], _, h => h.elim
theorem All.len {W : World} : ∀ {ks : List Know} {us : List Value}, All ks us W → us.length = ks.length
  | [], [], _ => rfl
  | _ :: _, _ :: _, h => by simp [All.len h.2]
  | [], _ :: _, h => h.elim
  | _ :: _, [], h => h.elim
/-- A contract by rules. -/
theorem CallOk.enter {f : FuncId} {fn : Func} {c : Code} {l : List AV} {r : Know} (N : Nat) (ce : CE f) (hf : Try.prog.funcs[f]? = some fn) (hb : fn.body = some c) (hn : fn.ntmps = N) (hN : l.length ≤ N) (hs : StA l)
    (h : ∀ w : World, SC w.heap.size N w c (ini 0 l) (bodyPost Try.prog fn (Ret w r))) : CallOk f (l.map AV.of) r := ⟨ce, fun W us hu => by
  have hl := hu.len
  rw [List.length_map] at hl
  refine calls_of_wp hf hb ?_
  have := Fr.ini (AllA.of (B := W.heap.size) hs hu) rfl (N - us.length) (N := N) (by omega)
  simp only [List.size_toArray, hn]
  exact h W _ _ this⟩
/-! ### Results -/
section
variable {B N : Nat} {w0 : World} {fr : List (Nat × AV)} {fn : Func}
theorem run_cell {b : BT} {p : Nat} {v : Value} {W : World} (ok : b.Ok) (h : Holds b p v W) : (loadVar b.T ⟨p, 0, none⟩).run Try.prog W = .ok v W := by
  obtain ⟨cs, hs, hc⟩ := h
  have := ok.load v cs W p hs fun i x hx => (hc i x hx).1
  unfold Instr.loadAt at this
  generalize loadVar = G at this ⊢
  simpa [Instr.sureAddr, go_sem] using this
/-- A result in a box, one in a slot. -/
theorem SX.done2 {e : Exit} {s t : Nat} {b : BT} {k : Know} {r : AV} (he : e = .ret ∨ e = .normal) (hr : fn.results = #[.cell s b.T, .tmp t]) (hs : look fr s = some (.bx b k)) (ht : opv fr (.tmp t) = some r) (hB : B = w0.heap.size) : SX B N w0 e fr (bodyPost Try.prog fn (Ret w0 (K2 k r.of))) := fun a W hf => by
  obtain ⟨p, v, ep, _, hh, hv, st, ok⟩ := hf.ho s _ hs
  have h1 := opv_spec hf ht
  have hrun : (results fn a.tmps).run Try.prog W = .ok (.tuple #[v, a.tmps.getD t undef]) W := by
    have := run_cell ok hh
    have ep' : a.tmps[s]?.getD undef = ptr p := by simpa [Array.getD_eq_getD_getElem?] using ep
    unfold results
    generalize loadVar = G at this ⊢
    simp [hr, go_sem, ep', asAddr, this]
  have key : a.defers = [] ∧ ∃ v, (results fn a.tmps).run Try.prog W = .ok v W ∧ Ret w0 (K2 k r.of) (.returned v) W :=
    ⟨hf.df, _, hrun, ⟨_, rfl, ⟨v, _, rfl, hv, (h1.1.of h1.2).1⟩, by have := hf.be; rw [hB] at this; exact this⟩⟩
  rcases he with rfl | rfl <;> exact key
/-- A result in a box. -/
theorem SX.doneC {e : Exit} {s : Nat} {b : BT} {k : Know} (he : e = .ret ∨ e = .normal) (hr : fn.results = #[.cell s b.T]) (hs : look fr s = some (.bx b k)) (hB : B = w0.heap.size) : SX B N w0 e fr (bodyPost Try.prog fn (Ret w0 k)) := fun a W hf => by
  obtain ⟨p, v, ep, _, hh, hv, st, ok⟩ := hf.ho s _ hs
  have hrun : (results fn a.tmps).run Try.prog W = .ok v W := by
    have := run_cell ok hh
    have ep' : a.tmps[s]?.getD undef = ptr p := by simpa [Array.getD_eq_getD_getElem?] using ep
    unfold results
    generalize loadVar = G at this ⊢
    simp [hr, go_sem, ep', asAddr, this]
  have key : a.defers = [] ∧ ∃ v, (results fn a.tmps).run Try.prog W = .ok v W ∧ Ret w0 k (.returned v) W :=
    ⟨hf.df, _, hrun, ⟨_, rfl, hv, by have := hf.be; rw [hB] at this; exact this⟩⟩
  rcases he with rfl | rfl <;> exact key
end
/-! ### Fields of a box of a sign and a slice -/
theorem zeroI (B : Nat) (w0 : World) (W : World) : Ho B (.kw (KI 0)) (.agg #[.bool false, .slice none 0 0]) W := ⟨⟨_, _, _, _, rfl, RI.zero _⟩, KI.st 0⟩
end Go.Proofs.Ytcgkgcciogibkaa.Sy
/- A walk by rules: rows of numbers. -/
set_option linter.unusedVariables false
set_option linter.unusedSimpArgs false
namespace Go.Proofs.Ytcgkgcciogibkaa.Sy
open Go Go.RowKit Ma
section
variable {B N : Nat} {w0 : World} {ops : Array Oper} {o : Oper} {rest : List Oper} {fr : List (Nat × AV)} {Q : Exit → Act → World → Prop} {d : Nat}
/-- A new row. -/
theorem Fr.row {a : Act} {W W' : World} {K : Nat} {v : Value} {e : TypeId} {f : Int → Value} {zs : List Int} (h : Fr B N w0 fr a W) (hn : Nw W W') (hg : ∀ g, v.ownBlock = some g → W.heap.size ≤ g) (ho : OwF W' B e f v zs) : Fr B N w0 ((K, .ro v e f zs) :: fr) a W' :=
  (h.nw hn).more ho fun j v' p hj e1 e2 => by
    have := hg p e1
    have := (h.ho j v' hj).blk e2
    omega
theorem PW.rstore {T : TypeId} {s K g n c i : Nat} {x : Operand} {e : TypeId} {f : Int → Value} {zs : List Int} {y : Int} (hw : wantB ops fr o = some true) (hd : o.dst = none) (ho : o.op = .store T (.tmp s) x) (hs : look fr s = some (.vl (.pointer (some ⟨g, i, none⟩)))) (hK : look fr K = some (.ro (.slice (some ⟨g, 0, none⟩) n c) e f zs)) (hi : i < zs.length) (hx : opv fr x = some (.vl (f y))) (hc : calmB fr = true)
    (hst : ∀ (W : World) (p : Addr) (x y : Int), W.cell? p = some (f x) → W.frozen? p = false → (Instr.storeAt T (.pointer (some p)) (f y)).run Try.prog W = .ok () (W.setCell p (f y))) (hk : PW B N w0 ops rest ((K, .ro (.slice (some ⟨g, 0, none⟩) n c) e f (zs.set i y)) :: fr) Q) : PW B N w0 ops (o :: rest) fr Q :=
  PW.step hw fun a W hf K' hK' => by
    have h1 : a.tmps.getD s undef = .pointer (some ⟨g, i, none⟩) := hf.ho s _ hs
    have h2 : OwF W B e f (.slice (some ⟨g, 0, none⟩) n c) zs := hf.ho K _ hK
    have h3 := opv_vl hf hx
    have e2 : (execOp a.eval o).run Try.prog W = .ok .skip (W.setCell ⟨g, i, none⟩ (f y)) := by
      unfold execOp
      rw [ho]
      show (do (Instr.storeAt T (a.tmps.getD s undef) (a.eval x)); pure .skip : Sem Next).run Try.prog W = _
      rw [h1, h3]
      exact run_skip (hst W _ _ _ (h2.cellAt hi) (h2.frozenAt i))
    unfold Oper.wp
    rw [e2]
    show K' (a.put o.dst undef) _
    rw [hd]
    exact hK' _ _ (hk _ _ (hf.rset hK hc y))
/-- make. -/
theorem PW.make {T e : TypeId} {lo : Operand} {n : Nat} {k : IntKind} (K : Nat) (hw : wantB ops fr o = some true) (hd : o.dst = some d) (hN : Nat.blt d N = true) (ho : o.op = .makeSlice T lo lo) (hx : opv fr lo = some (.vl (.int .i64 (n : Int)))) (hu : Try.prog.underlying T = some (.slice e)) {by_ : Nat} (hi : (Try.prog.info? e).map (fun i => (i.zero, i.size, i.bytes)) = some (some (.int k 0), 1, by_)) (hb : by_ * n ≤ 281474976710656) (hn : n ≤ maxLen)
    (hk : ∀ g, PW B N w0 ops rest ((K, .ro (.slice (some ⟨g, 0, none⟩) n n) e (Value.int k) (List.replicate n 0)) :: (d, .vl (.slice (some ⟨g, 0, none⟩) n n)) :: fr) Q) : PW B N w0 ops (o :: rest) fr Q :=
  PW.step hw fun a W hf K' hK' => by
    obtain ⟨i0, h1, hz0, hz1, hz2⟩ := info_parts hi
    obtain ⟨w', hrun, r1, r2⟩ := run_make_full (P := Try.prog) W B T e i0 (.int k 0) 1 hu h1 hz0 hz1 .i64 .i64 n (by rw [hz2]; exact hb) hn hf.bs
    have h3 := opv_vl hf hx
    have e2 : (execOp a.eval o).run Try.prog W = .ok (.value (.slice (some ⟨W.heap.size, 0, none⟩) n n)) w' := by
      unfold execOp
      rw [ho]
      simp only [h3]
      exact run_val hrun
    unfold Oper.wp
    rw [e2, Oper.upon_value, hd]
    have hn' : Nw W w' := Below.grown (Nw.refl W) r2 (Nat.le_refl _) (fun k h => by cases h)
    have r1' : w'.ownsRow B e 1 (.slice (some ⟨W.heap.size, 0, none⟩) n n) n (madeCells #[.int k 0] n).toList := by simpa [Value.cells] using r1
    have own := Own.made r1'
    have hf2 := hf.set (v := .vl (.slice (some ⟨W.heap.size, 0, none⟩) n n)) hN (u := .slice (some ⟨W.heap.size, 0, none⟩) n n) rfl rfl
    exact hK' _ _ (hk W.heap.size _ _ (hf2.row hn' (fun g hg => by injection hg with hg; rw [← hg]; exact Nat.le_refl _) own))
/-- A call, by whatever is known at it. -/
theorem PW.callG {c : Call} {f : FuncId} {r : AV} (ce : CE f) (hw : wantB ops fr o = some true) (hd : o.dst = some d) (hN : Nat.blt d N = true) (ho : o.op = .call c) (hc : c.callee = .value (.func f)) (hst : St r.of) (hr : r.isBx = false)
    (h : ∀ a W, Fr B N w0 fr a W → Calls Try.prog f (c.args.toList.map a.eval).toArray W (Ret W r.of)) (hk : PW B N w0 ops rest ((d, r) :: fr) Q) : PW B N w0 ops (o :: rest) fr Q :=
  PW.step hw fun a W hf K hK => by
    obtain ⟨dst, op, ty, pos, after, guard⟩ := o
    simp only at ho hd
    subst ho
    subst hd
    unfold Oper.wp
    rw [run_call ce hc a.eval rfl ty W]
    simp only [Oper.upon]
    have e0 : (c.args.toList.map a.eval).toArray = c.args.map a.eval := by rw [← Array.toList_map]
    have h0 := h a W hf
    rw [e0] at h0
    refine h0.mono fun e W' ⟨v, he, hv, hn⟩ => ?_
    subst he
    exact hK _ _ (hk _ _ ((hf.nw hn).set hN (Ho.mk hr hv hst) hr))
end
end Go.Proofs.Ytcgkgcciogibkaa.Sy
