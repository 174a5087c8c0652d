/- Parts C2, C3, C4, C5, C6, C7, C8, C9, Ca, Mg, Cb, Cd, Mh, Ce, B0, Mi, F1, F2, F0, F4, F5, in one file. -/
import Derived.WalkSmall
import Derived.IntWalk
import Derived.Deep.CutRange
import Derived.Deep.DeepCutAuto
import Derived.Lib.ItoaNum
import Derived.Lib.Tables
import Derived.Deep.AppendLies
import Derived.Deep.RegionLaw
import Derived.BigRegion
import Derived.Test.YtcgkgcciogibkaaLFields2
import Derived.Test.YtcgkgcciogibkaaLFields3
/- The contracts of the reference's trimmed and made. -/
set_option linter.unusedVariables false
set_option linter.unusedSimpArgs false
namespace Go.Proofs.Ytcgkgcciogibkaa
open Go.RowKit Ma

set_option maxHeartbeats 800000 in
theorem rtrimmed_c {A : Option Addr} {l c : Nat} {xs : List Int} {w : World} (e : l = xs.length) (h : Rd w .i64 A xs) (hc : l ≤ c) :
    Calls Try.prog 99 #[.slice A l c] w fun e w' => e = .returned (.slice A (trim xs).length c) ∧ w = w' := by
  subst e
  have hl := h.1
  have key : ∀ n, n ≤ xs.length → trim (xs.take n) = trim xs → trim (xs.take n) = xs.take n → n = (trim xs).length := by
    intro n hn h1 h2
    rw [← h1, h2, List.length_take, Nat.min_eq_left hn]
  go_enter Try.func99, Try.ntmps99
  go_wp2
  go_loop [3] (fun l => ∃ n : Nat, n ≤ xs.length ∧ trim (xs.take n) = trim xs ∧ l = .int .i64 n) (fun l => (intOf l).toNat)
  case atStart => exact ⟨_, Nat.le_refl _, by rw [List.take_length], rfl⟩
  case round =>
    obtain ⟨n, hn, ht, rfl⟩ := hrel
    have HT := Lib.hid ht
    have KEY := Lib.hid key
    clear ht key
    by_cases h0 : 0 < n
    · obtain ⟨ad, hA, hcell⟩ := h.2 (n - 1) (by omega)
      subst hA
      by_cases hz : at0 xs (n - 1) = 0
      · have hzb : (at0 xs (n - 1) == 0) = true := by simpa using hz
        have HZ := Lib.hid hz
        clear hz
        go_wp2
        refine ⟨⟨n - 1, by omega, ?_, by apply congrArg (Value.int IntKind.i64); omega⟩, by simp [intOf]; omega⟩
        rw [← HT.out, ← trim_take_succ (by omega) HZ.out, Nat.sub_add_cancel h0]
      · have hzb : (at0 xs (n - 1) == 0) = false := by simpa using hz
        have HZ := Lib.hid hz
        clear hz
        go_wp2
        go_ret
        have h1 := KEY.out n hn HT.out (by have := trim_stop (n := n - 1) (by omega) HZ.out; rwa [Nat.sub_add_cancel h0] at this)
        exact ⟨ret_val (by rw [← h1]; simp), rfl⟩
    · obtain rfl : n = 0 := by omega
      go_wp2
      go_ret
      have h1 := KEY.out 0 (by omega) HT.out (by simp [trim])
      exact ⟨ret_val (by rw [← h1]; simp), rfl⟩

set_option maxHeartbeats 400000 in
theorem rmade_c {n : Bool} {A : Option Addr} {l c : Nat} {xs : List Int} {w : World} (e : l = xs.length) (rA : Rd w .i64 A xs) (hc : l ≤ c) (hd : dg b16 xs) :
    Calls Try.prog 88 #[.bool n, .slice A l c] w (Ret w (KJ (sg n (lv b16 xs)))) := by
  subst e
  have hn := num_made (n := n) hd
  have hlen := trim_len xs
  have HN := Lib.hid hn
  clear hn
  cases n
  · go_enter Try.func88, Try.ntmps88
    go_wp2_with (go_at_call 99; refine (rtrimmed_c rfl (rA.kept (IntK.alloc _ _)) hc).mono ?_; rintro e w' ⟨rfl, rfl⟩)
    refine bodyPost_ret (v := .agg #[.bool false, .slice A (trim xs).length c]) (by simp [results, Try.results88, go_sem]) rfl (Ret.J ⟨trim xs, rfl, by omega, ?_, by simpa using HN.out⟩ ?_)
    · exact rA.trim.kept (IntK.alloc _ _)
    · exact (Below.refl _ _).alloc (Nat.le_refl _) _
  · go_enter Try.func88, Try.ntmps88
    go_wp2_with (go_at_call 99; refine (rtrimmed_c rfl (rA.kept (IntK.alloc _ _)) hc).mono ?_; rintro e w' ⟨rfl, rfl⟩)
    refine bodyPost_ret (v := .agg #[.bool (decide (0 < (trim xs).length)), .slice A (trim xs).length c]) (by simp [results, Try.results88, go_sem]) rfl (Ret.J ⟨trim xs, rfl, by omega, ?_, by simpa using HN.out⟩ ?_)
    · exact rA.trim.kept (IntK.alloc _ _)
    · exact (Below.refl _ _).alloc (Nat.le_refl _) _
end Go.Proofs.Ytcgkgcciogibkaa
/- The contract of the reference's New. -/
set_option linter.unusedVariables false
set_option linter.unusedSimpArgs false
namespace Go.Proofs.Ytcgkgcciogibkaa
open Go.RowKit Ma

theorem info_int : (Try.prog.info? 3).map (fun i => (i.zero, i.size, i.bytes)) = some (some (.int .i64 0), 1, 8) := by kernel_rfl
structure RnAt (V : Int) (k : Nat) (zs : List Int) (u : Int) : Prop where
  le : k ≤ 4
  len : zs.length = k
  dg : dg b16 zs
  u0 : 0 ≤ u
  u1 : u < 65536 ^ (4 - k)
  eq : lv b16 zs + b16 ^ k * u = V
theorem RnAt.lt {V : Int} {k : Nat} {zs : List Int} {u : Int} (h : RnAt V k zs u) (hu : 0 < u) : k < 4 := by
  have h5 := h.u1
  have := h.le
  apply Classical.byContradiction
  intro hk
  have h0 : 4 - k = 0 := by omega
  rw [h0, Int.pow_zero] at h5
  omega
theorem RnAt.step {V : Int} {k : Nat} {zs : List Int} {u : Int} (h : RnAt V k zs u) (hu : 0 < u) : RnAt V (k + 1) (zs ++ [u % 65536]) (u / 65536) := by
  have hk := h.lt hu
  obtain ⟨h1, h2, h3, h4, h5, h6⟩ := h
  refine ⟨by omega, by simp [h2], dg_append.2 ⟨h3, fun x hx => by rw [List.mem_singleton] at hx; rw [hx, b16_eq]; omega⟩, by omega, ?_, ?_⟩
  · apply Int.ediv_lt_of_lt_mul (by decide)
    rw [← Int.pow_succ, show (4 - (k + 1)).succ = 4 - k by omega]
    exact h5
  · rw [lv_snoc, h2, Int.pow_succ, ← h6, b16_eq]
    have e := Int.mul_ediv_add_emod u 65536
    generalize u / 65536 = q at *
    generalize u % 65536 = r at *
    generalize (65536 : Int) ^ k = p at *
    rw [← e]
    grind

set_option maxHeartbeats 1600000 in
set_option maxRecDepth 100000 in
theorem rnew_c {x : Int} {w : World} (hx : -9223372036854775808 ≤ x ∧ x < 9223372036854775808) :
    Calls Try.prog 42 #[.int .i64 x] w (Ret w (KJ x)) := by
  obtain ⟨hx0, hx1⟩ := hx
  obtain ⟨i0, hi, hz0, hz1, hz2⟩ := info_parts info_int
  have nw1 : Nw w (w.alloc (.cells #[.bool false, .slice none 0 0] 31)) := (Nw.refl w).alloc _
  have sg0 : Sg [] w.heap.size 2 (w.alloc (.cells #[.bool false, .slice none 0 0] 31)) := ⟨trivial, box_two w 31 false none 0 0, by go_simp⟩
  have SG := Lib.hid sg0
  clear sg0
  by_cases hneg : x < 0
  · have hwx : IntKind.u64.wrap (-IntKind.u64.wrap x) = -x := by simp only [IntKind.wrap_u64]; omega
    have r0 := Lib.hid (⟨by omega, rfl, dg_nil _, by omega, by rw [show (65536 : Int) ^ (4 - 0) = 18446744073709551616 by decide]; omega, by simp [lv]⟩ : RnAt (-x) 0 [] (-x))
    go_enter Try.func42, Try.ntmps42
    go_wp2
    go_loopw [3, 4] (fun uv ov wr => ∃ (k : Nat) (zs : List Int) (u : Int), uv = .int .u64 u ∧ Own wr (w.heap.size + 1) 3 .i64 ov zs ∧ RnAt (-x) k zs u ∧ Nw (w.alloc (.cells #[.bool false, .slice none 0 0] 31)) wr)
      (fun uv _ _ => (intOf uv).toNat)
    case atStart => exact ⟨0, [], _, rfl, Own.nil _ _ _ _, r0.out, Nw.refl _⟩
    case round =>
      obtain ⟨k, zs, u, rfl, ho, hr, hn⟩ := hrel
      have hu0 := hr.u0
      have hu1 : u < 18446744073709551616 := by
        have h1 := hr.u1
        have h2 := pow_le (b := 65536) (by decide) (show 4 - k ≤ 4 by omega)
        have : (65536 : Int) ^ 4 = 18446744073709551616 := by decide
        omega
      by_cases hu : 0 < u
      · have HST := Lib.hid (hr.step hu)
        have hk := hr.lt hu
        have hlen := hr.len
        clear hr
        go_wp2_with (at_builtin; refine wpList_append_own _ rfl (.tmp 13) (.tmp 17) 29 rfl (w.heap.size + 1) 3 i0 (.int .i64 0) 1 8 Try.underlying29 hi hz0 hz1 hz2 rfl (by decide) _ _ _ rfl (ho.alloc _) ⟨wr.heap.size, 0, none⟩ 1 1 [.int .i64 (u % 65536)] rfl rfl ?c1 ?c2 ?c3 ?c4 ?c5 ?_)
        case c1 => intro j u hu; exact cell_one_new _ _ _ j u hu
        case c2 => simp [Value.oneCell']
        case c3 => unfold maxLen; omega
        case c4 => omega
        case c5 => have := hn.size; simp at this ⊢; omega
        intro v1 w4 hown1 hgrow1 _
        have n4 := hn.grew ho hgrow1 (by simp)
        go_wp2
        go_roundw
        case rel => exact ⟨k + 1, _, _, rfl, Own.cast hown1 (by simp [hlen]) (by simp), HST.out, n4⟩
        case measure => simp [intOf]; omega
      · have hz : u = 0 := by omega
        subst hz
        have he := hr.eq
        have dz := hr.dg
        rw [Int.mul_zero, Int.add_zero] at he
        have HE := Lib.hid he
        obtain ⟨Az, cz, rfl, hcz, rz⟩ := ho.rd
        clear hr he ho
        go_wp2_with (go_at_call 88; refine (rmade_c rfl rz hcz dz).mono ?_; rintro e w2 ⟨_, rfl, ⟨m, D, l2, c2, rfl, hi⟩, hb2⟩; have b2 := ((SG.out.nw hn).nw hb2).2.1; obtain ⟨⟨v0, hv0, hn0⟩, hf0⟩ := b2 0 (by omega); obtain ⟨⟨v1, hv1, hn1⟩, hf1⟩ := b2 1 (by omega))
        have hi' := hi.eq (z' := x) (by rw [HE.out]; simp [sg] <;> omega)
        exact bodyPost_ret (v := .agg #[.bool m, .slice D l2 c2]) (by simp [results, Try.results42, go_sem, hv0, hv1]) rfl (Ret.J (hi'.kept (store_J b2 hi').1.2.1) (((nw1.trans hn).trans hb2).rr (store_J b2 hi').1 (Nat.le_refl _)))
  · have r0 := Lib.hid (⟨by omega, rfl, dg_nil _, by omega, by rw [show (65536 : Int) ^ (4 - 0) = 18446744073709551616 by decide]; omega, by simp [lv]⟩ : RnAt x 0 [] x)
    go_enter Try.func42, Try.ntmps42
    go_wp2
    go_loopw [3, 4] (fun uv ov wr => ∃ (k : Nat) (zs : List Int) (u : Int), uv = .int .u64 u ∧ Own wr (w.heap.size + 1) 3 .i64 ov zs ∧ RnAt x k zs u ∧ Nw (w.alloc (.cells #[.bool false, .slice none 0 0] 31)) wr)
      (fun uv _ _ => (intOf uv).toNat)
    case atStart => exact ⟨0, [], _, rfl, Own.nil _ _ _ _, r0.out, Nw.refl _⟩
    case round =>
      obtain ⟨k, zs, u, rfl, ho, hr, hn⟩ := hrel
      have hu0 := hr.u0
      have hu1 : u < 18446744073709551616 := by
        have h1 := hr.u1
        have h2 := pow_le (b := 65536) (by decide) (show 4 - k ≤ 4 by omega)
        have : (65536 : Int) ^ 4 = 18446744073709551616 := by decide
        omega
      by_cases hu : 0 < u
      · have HST := Lib.hid (hr.step hu)
        have hk := hr.lt hu
        have hlen := hr.len
        clear hr
        go_wp2_with (at_builtin; refine wpList_append_own _ rfl (.tmp 13) (.tmp 17) 29 rfl (w.heap.size + 1) 3 i0 (.int .i64 0) 1 8 Try.underlying29 hi hz0 hz1 hz2 rfl (by decide) _ _ _ rfl (ho.alloc _) ⟨wr.heap.size, 0, none⟩ 1 1 [.int .i64 (u % 65536)] rfl rfl ?c1 ?c2 ?c3 ?c4 ?c5 ?_)
        case c1 => intro j u hu; exact cell_one_new _ _ _ j u hu
        case c2 => simp [Value.oneCell']
        case c3 => unfold maxLen; omega
        case c4 => omega
        case c5 => have := hn.size; simp at this ⊢; omega
        intro v1 w4 hown1 hgrow1 _
        have n4 := hn.grew ho hgrow1 (by simp)
        go_wp2
        go_roundw
        case rel => exact ⟨k + 1, _, _, rfl, Own.cast hown1 (by simp [hlen]) (by simp), HST.out, n4⟩
        case measure => simp [intOf]; omega
      · have hz : u = 0 := by omega
        subst hz
        have he := hr.eq
        have dz := hr.dg
        rw [Int.mul_zero, Int.add_zero] at he
        have HE := Lib.hid he
        obtain ⟨Az, cz, rfl, hcz, rz⟩ := ho.rd
        clear hr he ho
        go_wp2_with (go_at_call 88; refine (rmade_c rfl rz hcz dz).mono ?_; rintro e w2 ⟨_, rfl, ⟨m, D, l2, c2, rfl, hi⟩, hb2⟩; have b2 := ((SG.out.nw hn).nw hb2).2.1; obtain ⟨⟨v0, hv0, hn0⟩, hf0⟩ := b2 0 (by omega); obtain ⟨⟨v1, hv1, hn1⟩, hf1⟩ := b2 1 (by omega))
        have hi' := hi.eq (z' := x) (by rw [HE.out]; simp [sg] <;> omega)
        exact bodyPost_ret (v := .agg #[.bool m, .slice D l2 c2]) (by simp [results, Try.results42, go_sem, hv0, hv1]) rfl (Ret.J (hi'.kept (store_J b2 hi').1.2.1) (((nw1.trans hn).trans hb2).rr (store_J b2 hi').1 (Nat.le_refl _)))
end Go.Proofs.Ytcgkgcciogibkaa
/- The contracts of the reference's Limbs, of the law's Is. -/
set_option linter.unusedVariables false
set_option linter.unusedSimpArgs false
namespace Go.Proofs.Ytcgkgcciogibkaa
open Go.RowKit Ma

/-- What a round of the reference's Limbs leaves: limbs of the first 2 k digits. -/
structure LbAt (ds : List Int) (k : Nat) (zs : List Int) : Prop where
  len : zs.length = k
  le : 2 * k ≤ ds.length + 1
  dg : dg b32 zs
  eq : lv b32 zs = lv b16 (ds.take (2 * k))
theorem LbAt.start (ds : List Int) : LbAt ds 0 [] := ⟨rfl, by omega, dg_nil _, by simp [lv]⟩
theorem pow_b (k : Nat) : b32 ^ k = b16 ^ (2 * k) := by rw [Int.pow_mul]; rfl
theorem LbAt.two {ds : List Int} {k : Nat} {zs : List Int} (h : LbAt ds k zs) (d : Ma.dg b16 ds) (hk : 2 * k + 1 < ds.length) : LbAt ds (k + 1) (zs ++ [at0 ds (2 * k) + at0 ds (2 * k + 1) * 65536]) := by
  obtain ⟨h1, h2, h3, h4⟩ := h
  have a := dg_at d (by decide) (2 * k)
  have b := dg_at d (by decide) (2 * k + 1)
  rw [b16_eq] at a b
  refine ⟨by simp [h1], by omega, dg_append.2 ⟨h3, fun x hx => by rw [List.mem_singleton] at hx; rw [hx, b32_eq]; omega⟩, ?_⟩
  rw [lv_snoc, h4, h1, show 2 * (k + 1) = 2 * k + 1 + 1 by omega, lv_take_succ _ _ _ hk, lv_take_succ _ _ _ (by omega), pow_b, Int.pow_succ, b16_eq]
  grind
theorem LbAt.one {ds : List Int} {k : Nat} {zs : List Int} (h : LbAt ds k zs) (d : Ma.dg b16 ds) (hk : 2 * k + 1 = ds.length) : LbAt ds (k + 1) (zs ++ [at0 ds (2 * k)]) := by
  obtain ⟨h1, h2, h3, h4⟩ := h
  have a := dg_at d (by decide) (2 * k)
  rw [b16_eq] at a
  refine ⟨by simp [h1], by omega, dg_append.2 ⟨h3, fun x hx => by rw [List.mem_singleton] at hx; rw [hx, b32_eq]; omega⟩, ?_⟩
  rw [lv_snoc, h4, h1, List.take_of_length_le (show ds.length ≤ 2 * (k + 1) by omega), pow_b]
  have e := lv_take_succ b16 ds (2 * k) (by omega)
  rw [hk, List.take_length] at e
  rw [e]
theorem LbAt.done {ds : List Int} {k : Nat} {zs : List Int} (h : LbAt ds k zs) (d : Ma.dg b16 ds) (t : Ma.top ds) (hk : ds.length ≤ 2 * k) : Ma.dg b32 zs ∧ Ma.top zs ∧ lv b32 zs = lv b16 ds := by
  obtain ⟨h1, h2, h3, h4⟩ := h
  rw [List.take_of_length_le hk] at h4
  refine ⟨h3, ?_, h4⟩
  by_cases hne : zs = []
  · subst hne; exact top_nil
  · rw [top_at hne]
    intro hz
    have hl : 0 < zs.length := List.length_pos_iff.2 hne
    have hd : ds ≠ [] := by intro e; subst e; simp at h2; omega
    have e := lv_take_succ b32 zs (zs.length - 1) (by omega)
    rw [Nat.sub_add_cancel hl, List.take_length, hz, Int.mul_zero, Int.add_zero] at e
    have l1 := lv_lt (show (0 : Int) < b32 by decide) (dg_take h3 (zs.length - 1))
    rw [List.length_take, Nat.min_eq_left (by omega), pow_b] at l1
    have l2 := top_le (show (0 : Int) < b16 by decide) d t hd
    have l3 := pow_le (b := b16) (by decide) (show 2 * (zs.length - 1) ≤ ds.length - 1 by omega)
    omega

set_option maxHeartbeats 1600000 in
set_option maxRecDepth 100000 in
theorem rlimbs_c {n : Bool} {A : Option Addr} {l c : Nat} {z : Int} {w : World} (hx : RJ w n A l c z) (hl : l ≤ 2000000) :
    Calls Try.prog 78 #[.agg #[.bool n, .slice A l c]] w (Ret w (KL .u32 fun zs => Num b32 n zs z)) := by
  obtain ⟨ds, rfl, hc, rA, dd, td, nd, ez⟩ := hx
  obtain ⟨i0, hi, hz0, hz1, hz2⟩ := info_parts info_u32
  have nw1 : Nw w (w.alloc (.cells #[.bool n, .slice A ds.length c] 31)) := (Nw.refl w).alloc _
  have q0 : Has [(w.heap.size, 1, Value.slice A ds.length c)] (w.alloc (.cells #[.bool n, .slice A ds.length c] 31)) := ⟨by go_simp, trivial⟩
  have RA := Lib.hid (rA.kept nw1.kept)
  have Q0 := Lib.hid q0
  have EZ := Lib.hid ez
  clear rA q0 ez
  go_enter Try.func78, Try.ntmps78
  go_wp2
  go_loopw [3, 4] (fun ov iv wr => ∃ (k : Nat) (zs : List Int), iv = .int .i64 ((2 * k : Nat) : Int) ∧ Own wr (w.heap.size + 1) 92 .u32 ov zs ∧ LbAt ds k zs ∧ Nw (w.alloc (.cells #[.bool n, .slice A ds.length c] 31)) wr)
    (fun _ iv _ => ds.length + 2 - (intOf iv).toNat)
  case atStart => exact ⟨0, [], rfl, Own.nil _ _ _ _, LbAt.start ds, Nw.refl _⟩
  case round =>
    obtain ⟨k, zs, rfl, ho, hb, hn⟩ := hrel
    obtain ⟨q1, _⟩ := Q0.out.nw hn
    have hlen := hb.len
    have hle := hb.le
    obtain ⟨j, hj⟩ : ∃ j, j = 2 * k := ⟨_, rfl⟩
    rw [← hj]
    by_cases h0 : j < ds.length
    · obtain ⟨ad, hA, hcell⟩ := (RA.out.kept hn.kept).2 j h0
      subst hA
      have a0 := dg_at dd (by decide) j
      rw [b16_eq] at a0
      obtain ⟨a1, a2⟩ := a0
      have hb0 := Lib.hid hb
      have hjz : zs.length * 2 = j := by omega
      have HJ := Lib.hid hj
      have HLN := Lib.hid hlen
      have hsz := hn.size
      by_cases h1 : j + 1 < ds.length
      · obtain ⟨ad', hA', hcell'⟩ := (RA.out.kept hn.kept).2 (j + 1) h1
        injection hA' with hA'
        subst hA'
        rw [Addr.add_succ'] at hcell'
        have b0 := dg_at dd (by decide) (j + 1)
        rw [b16_eq] at b0
        obtain ⟨b1, b2⟩ := b0
        have h2 : (j : Int) + 1 < (ds.length : Int) := by omega
        have HT := Lib.hid (hb.two dd (by omega))
        rw [← hj] at HT
        clear hb hj hlen hle
        go_wp2_with (at_builtin; refine wpList_append_own _ rfl (.tmp 35) (.tmp 37) 22 rfl (w.heap.size + 1) 92 i0 (.int .u32 0) 1 4 Try.underlying22 hi hz0 hz1 hz2 rfl (by decide) _ _ _ rfl (ho.alloc _) ⟨wr.heap.size, 0, none⟩ 1 1 [.int .u32 (at0 ds j + at0 ds (j + 1) * 65536)] rfl rfl ?c1 ?c2 ?c3 ?c4 ?c5 ?_)
        case c1 => intro j u hu; exact cell_one_new _ _ _ j u hu
        case c2 => simp [Value.oneCell']
        case c3 => unfold maxLen; omega
        case c4 => omega
        case c5 => simp at hsz ⊢; omega
        intro v1 w4 hown1 hgrow1 _
        have n4 := hn.grew ho hgrow1 (by simp)
        go_wp2
        exact ⟨⟨k + 1, _, by apply congrArg (Value.int IntKind.i64); have := HJ.out; omega, Own.cast hown1 (by simp) (by simp), HT.out, n4⟩, by simp [intOf]; omega⟩
      · have h2 : ¬ (j : Int) + 1 < (ds.length : Int) := by omega
        have HT := Lib.hid (hb.one dd (by omega))
        rw [← hj] at HT
        clear hb hj hlen hle
        go_wp2_with (at_builtin; refine wpList_append_own _ rfl (.tmp 35) (.tmp 37) 22 rfl (w.heap.size + 1) 92 i0 (.int .u32 0) 1 4 Try.underlying22 hi hz0 hz1 hz2 rfl (by decide) _ _ _ rfl (ho.alloc _) ⟨wr.heap.size, 0, none⟩ 1 1 [.int .u32 (at0 ds j)] rfl rfl ?c1 ?c2 ?c3 ?c4 ?c5 ?_)
        case c2 => simp [Value.oneCell']
        case c3 => unfold maxLen; omega
        case c4 => omega
        case c5 => simp at hsz ⊢; omega
        intro v1 w4 hown1 hgrow1 _
        have n4 := hn.grew ho hgrow1 (by simp)
        go_wp2
        exact ⟨⟨k + 1, _, by apply congrArg (Value.int IntKind.i64); have := HJ.out; omega, Own.cast hown1 (by simp) (by simp), HT.out, n4⟩, by simp [intOf]; omega⟩
    · have hd := hb.done dd td (by omega)
      have HD := Lib.hid hd
      have hnn : n = true → zs ≠ [] := by
        intro e e2; subst e2
        have h3 := nd e
        have := top_le (show (0 : Int) < b16 by decide) dd td h3
        have := pos_pow (show (0 : Int) < b16 by decide) (ds.length - 1)
        have h4 := hd.2.2
        simp [lv] at h4
        omega
      clear hd hb hj hlen hle
      go_wp2
      go_ret
      exact Ret.own ho ⟨HD.out.1, HD.out.2.1, hnn, by rw [EZ.out, HD.out.2.2]⟩ (nw1.trans hn)
end Go.Proofs.Ytcgkgcciogibkaa
/- The contracts of the law's Is (of equal numbers), of same. -/
set_option linter.unusedVariables false
set_option linter.unusedSimpArgs false
namespace Go.Proofs.Ytcgkgcciogibkaa
open Go.RowKit Ma

theorem num_inj {b : Int} (hb : 1 < b) {n m : Bool} {xs ys : List Int} {z : Int} (hx : Num b n xs z) (hy : Num b m ys z) : n = m ∧ xs = ys := by
  obtain ⟨dx, tx, nx, ex⟩ := hx
  obtain ⟨dy, ty, ny, ey⟩ := hy
  have px := lv_nonneg (b := b) (by omega) dx
  have py := lv_nonneg (b := b) (by omega) dy
  have qx : n = true → 0 < lv b xs := fun h => Int.lt_of_lt_of_le (pos_pow (by omega) _) (top_le (b := b) (by omega) dx tx (nx h))
  have qy : m = true → 0 < lv b ys := fun h => Int.lt_of_lt_of_le (pos_pow (by omega) _) (top_le (b := b) (by omega) dy ty (ny h))
  have e : sg n (lv b xs) = sg m (lv b ys) := ex.symm.trans ey
  cases n <;> cases m <;> simp only [sg, if_true, if_false, Bool.false_eq_true, forall_const, true_implies] at e qx qy
  · exact ⟨rfl, lv_inj hb dx dy tx ty e⟩
  · omega
  · omega
  · exact ⟨rfl, lv_inj hb dx dy tx ty (by omega)⟩

theorem equal_l {A B : Option Addr} {l l' c d : Nat} {xs ys : List Int} {w : World} (e1 : l = xs.length) (e2 : l' = ys.length) (rA : Rd w .u32 A xs) (rB : Rd w .u32 B ys) (e : xs = ys) :
    Calls Try.prog 77 #[.slice A l c, .slice B l' d] w (Ret w (KV (.bool true))) := by
  subst e1 e2
  have := equal_c A B c d xs ys w rA rB
  rwa [decide_eq_true e] at this

set_option maxHeartbeats 1600000 in
set_option maxRecDepth 100000 in
theorem is_c {x y : Int} {n m : Bool} {A B : Option Addr} {l l' c d : Nat} {w : World} (hx : RI w n A l c x) (hy : RJ w m B l' d y) (e : x = y) (hl : l ≤ 1000000) (hl' : l' ≤ 2000000) :
    Calls Try.prog 19 #[.agg #[.bool n, .slice A l c], .agg #[.bool m, .slice B l' d]] w (Ret w (KV (.bool true))) := by
  subst e
  have nw1 : Nw w ((w.alloc (.cells #[.bool n, .slice A l c] 28)).alloc (.cells #[.bool m, .slice B l' d] 31)) := ((Nw.refl w).alloc _).alloc _
  have hc0 : Has [(w.heap.size + 1, 0, Value.bool m), (w.heap.size + 1, 1, Value.slice B l' d)] ((w.alloc (.cells #[.bool n, .slice A l c] 28)).alloc (.cells #[.bool m, .slice B l' d] 31)) := ⟨by go_simp, by go_simp, trivial⟩
  have HC := Lib.hid hc0
  have HX := Lib.hid hx
  have HY := Lib.hid hy
  have hnm : n = m := by
    obtain ⟨xs, _, _, _, nx⟩ := hx
    obtain ⟨ys, _, _, _, ny⟩ := hy
    have px := nx
    cases n <;> cases m
    · rfl
    · exfalso
      have h1 := lv_nonneg (b := b32) (by decide) nx.1
      have h2 := Int.lt_of_lt_of_le (pos_pow (b := b16) (by decide) _) (top_le (b := b16) (by decide) ny.1 ny.2.1 (ny.2.2.1 rfl))
      have e1 := nx.2.2.2
      have e2 := ny.2.2.2
      simp only [sg, if_true, if_false, Bool.false_eq_true] at e1 e2
      omega
    · exfalso
      have h1 := lv_nonneg (b := b16) (by decide) ny.1
      have h2 := Int.lt_of_lt_of_le (pos_pow (b := b32) (by decide) _) (top_le (b := b32) (by decide) nx.1 nx.2.1 (nx.2.2.1 rfl))
      have e1 := nx.2.2.2
      have e2 := ny.2.2.2
      simp only [sg, if_true, if_false, Bool.false_eq_true] at e1 e2
      omega
    · rfl
  subst hnm
  clear hx hy hc0
  go_enter Try.func19, Try.ntmps19
  go_wp2_with (first
    | (go_at_call 76; refine (limbs_c (HX.out.kept nw1.kept) hl).mono ?_; rintro e w1 ⟨_, rfl, ⟨_, _, rfl, rfl, ⟨zs, C, cc, rfl, hcc, rC, nC⟩⟩, hb1⟩; obtain ⟨q1, q2, _⟩ := HC.out.nw hb1)
    | (go_at_call 78; refine (rlimbs_c ((HY.out.kept nw1.kept).kept hb1.kept) hl').mono ?_; rintro e w2 ⟨_, rfl, ⟨us, D, cd, rfl, hcd, rD, nD⟩, hb2⟩)
    | (go_at_call 77; refine (equal_l rfl rfl (rC.kept hb2.kept) rD (num_inj (by decide) nC nD).2).mono ?_; rintro e w3 ⟨_, rfl, rfl, hb3⟩))
  go_ret
  exact Ret.V (((nw1.trans hb1).trans hb2).trans hb3)

end Go.Proofs.Ytcgkgcciogibkaa
/- The contract of the law's Short: a closure handed to slices.ContainsFunc; made. -/
set_option linter.unusedVariables false
set_option linter.unusedSimpArgs false
namespace Go.Proofs.Ytcgkgcciogibkaa
open Go.RowKit Ma

/-- A sign and a slice, as they lie in memory. -/
abbrev Nn := Bool × Option Addr × Nat × Nat
/-- Such pairs lie in the block b. -/
def Ns (w : World) (b : Nat) (ns : List Nn) : Prop := ∀ i n A l c, ns[i]? = some (n, A, l, c) → w.cell? ⟨b, i * 2, none⟩ = some (.bool n) ∧ w.cell? ⟨b, i * 2 + 1, none⟩ = some (.slice A l c)
theorem Ns.nw {w W : World} {b : Nat} {ns : List Nn} (h : Ns w b ns) (k : Nw w W) : Ns W b ns := fun i n A l c e => ⟨k.c (h i n A l c e).1, k.c (h i n A l c e).2⟩
def shB (most : Nat) (ns : List Nn) : Bool := ns.all fun x => decide (x.2.2.1 ≤ most)
def KIx (b : Bool) : Rg.Know := fun v _ => ∃ r : Int, v = .int .i64 r ∧ (if b = true then r < 0 else 0 ≤ r)

set_option maxHeartbeats 1600000 in
set_option maxRecDepth 100000 in
theorem short1_c {n : Bool} {A : Option Addr} {l c p most : Nat} {w : World} (hc : w.cell? ⟨p, 0, none⟩ = some (.int .i64 most)) (hl : l ≤ 9223372036854775807) :
    Calls Try.prog 67 #[.agg #[.bool n, .slice A l c], .pointer (some ⟨p, 0, none⟩)] w (Ret w (KV (.bool (decide (most < l))))) := by
  have hc2 := (Nw.refl w).alloc (.cells #[.bool n, .slice A l c] 24) |>.c hc
  go_enter Try.func67, Try.ntmps67
  go_wp2
  go_ret
  exact Ret.Veq (by simp) ((Nw.refl w).alloc _)

set_option maxHeartbeats 1600000 in
set_option maxRecDepth 100000 in
theorem shortx_c {b c p most : Nat} {ns : List Nn} {w : World} (hc : w.cell? ⟨p, 0, none⟩ = some (.int .i64 most)) (hn : Ns w b ns) (hm : most ≤ 1000) (hl : ns.length ≤ 1000) (hL : ∀ x ∈ ns, x.2.2.1 ≤ 9223372036854775807) :
    Calls Try.prog 111 #[.slice (some ⟨b, 0, none⟩) ns.length c, .func (.func 67) #[] #[.pointer (some ⟨p, 0, none⟩)]] w (Ret w (KIx (shB most ns))) := by
  have HN := Lib.hid hn
  have HL := Lib.hid hL
  clear hn hL
  go_enter Try.func111, Try.ntmps111
  go_wp2
  go_loopw [5, 8] (fun _ ci wr => ∃ k : Nat, ci = .int .i64 k ∧ k ≤ ns.length ∧ shB most (ns.take k) = true ∧ Nw w wr)
    (fun _ ci _ => ns.length - (intOf ci).toNat)
  case atStart => exact ⟨0, rfl, by omega, rfl, Nw.refl w⟩
  case round =>
    obtain ⟨k, rfl, hk, hs, hn⟩ := hrel
    have HS := Lib.hid hs
    clear hs
    have hc2 := hn.c hc
    by_cases hlt : k < ns.length
    · obtain ⟨⟨n, A, l, cc⟩, he⟩ : ∃ x, ns[k]? = some x := ⟨_, List.getElem?_eq_getElem hlt⟩
      obtain ⟨h1, h2⟩ := (HN.out.nw hn) k n A l cc he
      have hll := HL.out _ (List.mem_of_getElem? he)
      simp only at hll
      have hk0 : (0 : Int) ≤ (k : Int) := by omega
      have hki : (k : Int) < (ns.length : Int) := by omega
      have ht : shB most (ns.take (k + 1)) = (shB most (ns.take k) && decide (l ≤ most)) := by
        unfold shB
        rw [List.take_add_one, he]
        simp
      have HE := Lib.hid he
      have HT := Lib.hid ht
      clear he ht
      by_cases hlm : most < l
      · have hb : decide (most < l) = true := by simpa using hlm
        go_wp2_with (go_at_call 67; refine (short1_c hc2 hll).mono ?_; rintro e w1 ⟨_, rfl, rfl, hb1⟩)
        go_ret
        have hf : shB most ns = false := by
          unfold shB
          rw [List.all_eq_false]
          exact ⟨_, List.mem_of_getElem? HE.out, by simpa using hlm⟩
        exact ⟨_, rfl, ⟨k, rfl, by rw [hf]; simp⟩, hn.trans hb1⟩
      · have hb : decide (most < l) = false := by simpa using hlm
        go_wp2_with (go_at_call 67; refine (short1_c hc2 hll).mono ?_; rintro e w1 ⟨_, rfl, rfl, hb1⟩)
        go_roundw
        case rel => exact ⟨k + 1, by go_num, by omega, by rw [HT.out, HS.out]; simp; omega, hn.trans hb1⟩
        case measure => simp [intOf]; omega
    · have hke : k = ns.length := by omega
      have hf : shB most ns = true := by
        have := HS.out
        rwa [hke, List.take_length] at this
      have HF := Lib.hid hf
      clear hke hf
      go_wp2
      go_ret
      exact ⟨_, rfl, ⟨-1, rfl, by rw [HF.out]; simp⟩, hn⟩

set_option maxHeartbeats 1600000 in
set_option maxRecDepth 100000 in
theorem shortc_c {b c p most : Nat} {ns : List Nn} {w : World} (hc : w.cell? ⟨p, 0, none⟩ = some (.int .i64 most)) (hn : Ns w b ns) (hm : most ≤ 1000) (hl : ns.length ≤ 1000) (hL : ∀ x ∈ ns, x.2.2.1 ≤ 9223372036854775807) :
    Calls Try.prog 66 #[.slice (some ⟨b, 0, none⟩) ns.length c, .func (.func 67) #[] #[.pointer (some ⟨p, 0, none⟩)]] w (Ret w (KV (.bool (!shB most ns)))) := by
  have HN := Lib.hid hn
  have HL := Lib.hid hL
  clear hn hL
  by_cases hs : shB most ns = true
  all_goals
    have HS := Lib.hid hs
    clear hs
    go_enter Try.func66, Try.ntmps66
    go_wp2_with (go_at_call 111; refine (shortx_c hc HN.out hm hl HL.out).mono ?_; rintro e w1 ⟨_, rfl, ⟨r, rfl, hr⟩, hb1⟩)
    go_ret
    have h1 := HS.out
    first
      | (rw [h1] at hr ⊢; exact Ret.Veq (by simp at hr ⊢; omega) hb1)
      | (have h1 : shB most ns = false := by simpa using h1
         rw [h1] at hr ⊢; exact Ret.Veq (by simp at hr ⊢; omega) hb1)

set_option maxHeartbeats 1600000 in
set_option maxRecDepth 100000 in
theorem short_c {b c most : Nat} {ns : List Nn} {w : World} (hn : Ns w b ns) (hm : most ≤ 1000) (hl : ns.length ≤ 1000) (hL : ∀ x ∈ ns, x.2.2.1 ≤ 9223372036854775807) :
    Calls Try.prog 14 #[.int .i64 most, .slice (some ⟨b, 0, none⟩) ns.length c] w (Ret w (KV (.bool (shB most ns)))) := by
  have nw1 : Nw w (w.alloc (.cells #[.int .i64 most] 3)) := (Nw.refl w).alloc _
  have hc : (w.alloc (.cells #[.int .i64 most] 3)).cell? ⟨w.heap.size, 0, none⟩ = some (.int .i64 most) := by go_simp
  have HN := Lib.hid (hn.nw nw1)
  have HL := Lib.hid hL
  clear hn hL
  go_enter Try.func14, Try.ntmps14
  go_wp2_with (go_at_call 66; refine (shortc_c hc HN.out hm hl HL.out).mono ?_; rintro e w1 ⟨_, rfl, rfl, hb1⟩)
  go_ret
  exact Ret.Veq (by simp) (nw1.trans hb1)
end Go.Proofs.Ytcgkgcciogibkaa
/- The contract of the law's made: a new slice of the program's integers. -/
set_option linter.unusedVariables false
set_option linter.unusedSimpArgs false
namespace Go.Proofs.Ytcgkgcciogibkaa
open Go.RowKit Ma

/-- What came in, and which numbers it tells. -/
def Ins (w : World) (ns : List Nn) (zs : List Int) : Prop := ns.length = zs.length ∧ ∀ i n A l c, ns[i]? = some (n, A, l, c) → ∃ xs, l = xs.length ∧ l ≤ c ∧ xs.length ≤ 1000000 ∧ Rd w .u32 A xs ∧ dg b32 xs ∧ at0 zs i = sg n (lv b32 xs)
theorem Ins.nw {w W : World} {ns : List Nn} {zs : List Int} (h : Ins w ns zs) (k : Nw w W) : Ins W ns zs := ⟨h.1, fun i n A l c e => let ⟨xs, h1, h2, h3, h4, h5, h6⟩ := h.2 i n A l c e; ⟨xs, h1, h2, h3, h4.kept k.kept, h5, h6⟩⟩
def Rs (w : World) (rs : List Nn) (zs : List Int) : Prop := rs.length = zs.length ∧ ∀ i n A l c, rs[i]? = some (n, A, l, c) → RI w n A l c (at0 zs i)
theorem Rs.nw {w W : World} {ns : List Nn} {zs : List Int} (h : Rs w ns zs) (k : Nw w W) : Rs W ns zs := ⟨h.1, fun i n A l c e => (h.2 i n A l c e).kept k.kept⟩
def KM (zs : List Int) : Rg.Know := fun v W => ∃ g c rs, v = .slice (some ⟨g, 0, none⟩) zs.length c ∧ zs.length ≤ c ∧ Ns W g rs ∧ Rs W rs zs
/-- An integer of the program's whose limbs nobody else has. -/
def RO (w : World) (base : Nat) (n : Bool) (A : Option Addr) (l c : Nat) (z : Int) : Prop := ∃ xs, l = xs.length ∧ Own w base 92 .u32 (.slice A l c) xs ∧ Num b32 n xs z
theorem RO.grown {w w' : World} {base : Nat} {n : Bool} {A : Option Addr} {l c : Nat} {z : Int} {row : Option Nat} (h : RO w base n A l c z) (hg : w.grownBy w' row) (hne : (Value.slice A l c).ownBlock = none ∨ (Value.slice A l c).ownBlock ≠ row) : RO w' base n A l c z := by
  obtain ⟨xs, hl, ho, hn⟩ := h
  exact ⟨xs, hl, World.ownsRow.kept ho hg hne, hn⟩
theorem RO.nw {w w' : World} {base : Nat} {n : Bool} {A : Option Addr} {l c : Nat} {z : Int} (h : RO w base n A l c z) (hg : Nw w w') : RO w' base n A l c z := by
  obtain ⟨xs, hl, ho, hn⟩ := h
  exact ⟨xs, hl, ho.kept hg, hn⟩
theorem RO.eq {w : World} {base : Nat} {n : Bool} {A : Option Addr} {l c : Nat} {z z' : Int} (h : RO w base n A l c z) (e : z = z') : RO w base n A l c z' := e ▸ h
/-- .. lies in no block of another type. -/
theorem RO.ne {w : World} {base b : Nat} {m : Bool} {A : Option Addr} {l c : Nat} {z : Int} {e : TypeId} {s n : Nat} {v : Value} {xs : List Value} (h : RO w base m A l c z) (hv : w.ownsRow b e s v n xs) (he : 92 ≠ e) : (Value.slice A l c).ownBlock = none ∨ (Value.slice A l c).ownBlock ≠ v.ownBlock := by
  obtain ⟨ys, hl, ho, hn⟩ := h
  obtain ⟨_, h1 | ⟨g, cap, cur, hv1, hb, hg, _⟩⟩ := ho
  · left; rw [h1.1]; rfl
  · right
    obtain ⟨_, h2 | ⟨g', cap', cur', hv', hb', hg', _⟩⟩ := hv
    · rw [hv1, h2.1]; simp [Value.ownBlock]
    · rw [hv1, hv']
      simp only [Value.ownBlock, ne_eq, Option.some.injEq]
      intro e1; subst e1
      rw [hg] at hg'
      simp only [Option.some.injEq, Obj.cells.injEq] at hg'
      exact he hg'.2.1
theorem Own.trims {w : World} {base : Nat} {e : TypeId} {k : IntKind} {A : Option Addr} {l c : Nat} {xs : List Int} (h : Own w base e k (.slice A l c) xs) : Own w base e k (.slice A (trim xs).length c) (trim xs) := by
  have hl := trim_len xs
  obtain ⟨_, h1 | ⟨g, cap, cur, hv, hb, hg, _⟩⟩ := id h
  · obtain ⟨e1, e2⟩ := h1
    have : xs = [] := List.eq_nil_of_length_eq_zero e2
    subst this
    simp only [Value.slice.injEq] at e1
    obtain ⟨rfl, rfl, rfl⟩ := e1
    exact h
  · simp only [Value.slice.injEq] at hv
    obtain ⟨rfl, rfl, rfl⟩ := hv
    have := h.take (by rfl) (trim xs).length hl
    rwa [← trim_take] at this
theorem RO.far {w : World} {base : Nat} {n : Bool} {A : Option Addr} {l c : Nat} {z : Int} (h : RO w base n A l c z) {r : Nat} (hr : r < base) : (Value.slice A l c).ownBlock = none ∨ (Value.slice A l c).ownBlock ≠ some r := by
  obtain ⟨xs, hl, ho, hn⟩ := h
  cases hv : (Value.slice A l c).ownBlock with
  | none => exact .inl rfl
  | some g =>
    right
    have := (World.ownsRow.lt ho g hv).1
    simp; omega
end Go.Proofs.Ytcgkgcciogibkaa
/- The contract of the law's made: a new slice of the program's integers. -/
set_option linter.unusedVariables false
set_option linter.unusedSimpArgs false
namespace Go.Proofs.Ytcgkgcciogibkaa
open Go.RowKit Ma

def Ros (w : World) (rs : List Nn) (zs : List Int) : Prop := rs.length = zs.length ∧ ∀ i n A l c, rs[i]? = some (n, A, l, c) → RO w 0 n A l c (at0 zs i)
theorem Ros.nw {w W : World} {ns : List Nn} {zs : List Int} (h : Ros w ns zs) (k : Nw w W) : Ros W ns zs := ⟨h.1, fun i n A l c e => (h.2 i n A l c e).nw k⟩
theorem Ros.grown {w w' : World} {rs : List Nn} {zs : List Int} {b s n : Nat} {e : TypeId} {v : Value} {xs : List Value} (h : Ros w rs zs) (hv : w.ownsRow b e s v n xs) (he : 92 ≠ e) (hg : w.grownBy w' v.ownBlock) : Ros w' rs zs :=
  ⟨h.1, fun i n A l c e1 => (h.2 i n A l c e1).grown hg ((h.2 i n A l c e1).ne hv he)⟩
end Go.Proofs.Ytcgkgcciogibkaa
/- The contract of the law's awake: it returns true. -/
set_option linter.unusedVariables false
set_option linter.unusedSimpArgs false
namespace Go.Proofs.Ytcgkgcciogibkaa
open Go.RowKit Ma

theorem txt_FF : Txt 16 255 ⟨#[70, 70]⟩ := ⟨[15, 15], by intro x hx; simp at hx; omega, by unfold top; simp, by decide, by decide⟩
theorem bo_8 : bo 8 (-4) 7 = 4 := by
  refine (bo_eq fun i => ?_).symm
  by_cases h : i < 3
  · have : i = 0 ∨ i = 1 ∨ i = 2 := by omega
    rcases this with rfl | rfl | rfl <;> decide
  · rw [tb_high (z := 4) (m := 3) (by decide) (by decide) (by omega), tb_high (z := 7) (m := 3) (by decide) (by decide) (by omega), tb_high (z := -4) (m := 3) (by decide) (by decide) (by omega)]
    decide

theorem RJ.len_le {w : World} {n : Bool} {A : Option Addr} {l c : Nat} {z : Int} (h : RJ w n A l c z) (k : Nat) (h1 : -(b16 ^ k) < z) (h2 : z < b16 ^ k) : l ≤ k := by
  obtain ⟨xs, rfl, hc, rA, dx, tx, nx, rfl⟩ := h
  have h3 := lv_nonneg (b := b16) (by decide) dx
  have h4 : lv b16 xs < b16 ^ k := by cases n <;> simp only [sg, if_true, if_false, Bool.false_eq_true] at h1 h2 <;> omega
  apply Classical.byContradiction
  intro hk
  have hne : xs ≠ [] := by intro e; subst e; simp at hk
  have h5 := top_le (b := b16) (by decide) dx tx hne
  have h6 := pow_le (b := b16) (by decide) (show k ≤ xs.length - 1 by omega)
  omega
set_option maxHeartbeats 3200000 in
set_option maxRecDepth 100000 in
theorem awake_c {w : World} : Calls Try.prog 15 #[] w (Ret w (KV (.bool true))) := by
  go_enter Try.func15, Try.ntmps15
  go_wp2_with fail
  refine (new_c (x := -7) (by omega)).mono ?_
  rintro e w1 ⟨_, rfl, ⟨m1, D1, l1, c1, rfl, i1⟩, hb1⟩
  go_wp2_with fail
  refine (new_c (x := 2) (by omega)).mono ?_
  rintro e w2 ⟨_, rfl, ⟨m2, D2, l2, c2, rfl, i2⟩, hb2⟩
  have s1 := i1.len_le 1 (by decide) (by decide)
  have s2 := i2.len_le 1 (by decide) (by decide)
  go_wp2_with fail
  refine (divide_1 (i1.kept hb2.kept) i2 (by omega) (by decide) (.inl s2)).mono ?_
  rintro e w3 ⟨_, rfl, ⟨_, _, _, rfl, ⟨m3, D3, l3, c3, rfl, i3⟩, ⟨m4, D4, l4, c4, rfl, i4⟩, rfl⟩, hb3⟩
  clear i1 i2 s1 s2
  go_wp2_with fail
  have nA : Nw w3 ((w3.alloc (.cells #[.bool m3, .slice D3 l3 c3] 28)).alloc (.cells #[.bool m4, .slice D4 l4 c4] 28)) := ((Nw.refl w3).alloc _).alloc _
  have cA : Has [(w3.heap.size, 0, Value.bool m3), (w3.heap.size, 1, Value.slice D3 l3 c3), (w3.heap.size + 1, 0, Value.bool m4), (w3.heap.size + 1, 1, Value.slice D4 l4 c4)] ((w3.alloc (.cells #[.bool m3, .slice D3 l3 c3] 28)).alloc (.cells #[.bool m4, .slice D4 l4 c4] 28)) := ⟨by go_simp, by go_simp, by go_simp, by go_simp, trivial⟩
  refine (new_c (x := 255) (by omega)).mono ?_
  rintro e w4 ⟨_, rfl, ⟨m5, D5, l5, c5, rfl, i5⟩, hb4⟩
  have s5 := i5.len_le 1 (by decide) (by decide)
  go_wp2_with fail
  refine (text_ok 16 (by decide) (by decide) i5 (by omega)).mono ?_
  rintro e w5 ⟨_, rfl, ⟨_, _, rfl, ⟨s, rfl, hs⟩, rfl⟩, hb5⟩
  obtain rfl := Txt.eq (by decide) hs txt_FF
  clear hs
  go_wp2_with fail
  refine (new_c (x := -4) (by omega)).mono ?_
  rintro e w6 ⟨_, rfl, ⟨m6, D6, l6, c6, rfl, i6⟩, hb6⟩
  go_wp2_with fail
  refine (new_c (x := 7) (by omega)).mono ?_
  rintro e w7 ⟨_, rfl, ⟨m7, D7, l7, c7, rfl, i7⟩, hb7⟩
  have s6 := i6.len_le 1 (by decide) (by decide)
  have s7 := i7.len_le 1 (by decide) (by decide)
  go_wp2_with fail
  refine (boole_c (op := 8) (i6.kept hb7.kept) i7 (by omega) (by omega) (by decide) (by decide)).mono ?_
  rintro e w8 ⟨_, rfl, ⟨_, _, rfl, ⟨m8, D8, l8, c8, rfl, i8⟩, rfl⟩, hb8⟩
  have nB := (((hb4.trans hb5).trans hb6).trans hb7).trans hb8
  have nC : Nw w8 (w8.alloc (.cells #[.bool m8, .slice D8 l8 c8] 28)) := (Nw.refl w8).alloc _
  have cC : Has [(w8.heap.size, 0, Value.bool m8), (w8.heap.size, 1, Value.slice D8 l8 c8)] (w8.alloc (.cells #[.bool m8, .slice D8 l8 c8] 28)) := ⟨by go_simp, by go_simp, trivial⟩
  obtain ⟨q1, q2, q3, q4, _⟩ := cA.nw (nB.trans nC)
  obtain ⟨q5, q6, _⟩ := cC
  have I3 := Lib.hid (i3.kept (nA.trans (nB.trans nC)).kept)
  have I4 := Lib.hid (i4.kept (nA.trans (nB.trans nC)).kept)
  have I8 := Lib.hid (i8.kept nC.kept)
  have nD := ((((hb1.trans hb2).trans hb3).trans nA).trans nB).trans nC
  have s3 := i3.len_le 1 (by decide) (by decide)
  have s4 := i4.len_le 1 (by decide) (by decide)
  rw [bo_8] at I8 i8
  have s8 := i8.len_le 1 (by decide) (by decide)
  clear i5 s5 i6 i7 s6 s7 i3 i4 i8 cA nA nB nC hb1 hb2 hb3 hb4 hb5 hb6 hb7 hb8
  go_wp2
  generalize w8.alloc (.cells #[.bool m8, .slice D8 l8 c8] 28) = wz at *
  have n1 : Nw w _ := nD
  refine region_nw [(12, KJ (-3)), (13, KV (.bool true)), (17, KJ (-1)), (18, KV (.bool true)), (26, KJ (4)), (27, KV (.bool true))] (by kernel_rfl) (by kernel_rfl) (by kernel_rfl) (by kernel_rfl) ⟨SN.st (KJ.st _), SN.st (KV.st _), SN.st (KJ.st _), SN.st (KV.st _), SN.st (KJ.st _), SN.st (KV.st _), trivial⟩ ?_
  repeat
    apply Rg.wpK_quiet rfl rfl
    case hq => intro W hS; have q0 := hS.c q1; have q1 := hS.c q2; have q2 := hS.c q3; have q3 := hS.c q4; have q4 := hS.c q5; have q5 := hS.c q6; go_simp; exact rfl
    case he => exact (by simp only [Act.put, List.setIfInBounds_toArray, List.set_cons_zero, List.set_cons_succ]; exact rfl)
  apply Rg.wpK_know rfl rfl
  case ha =>
    intro W hR hS hF
    have hn := n1.trans hS
    have q0 := hS.c q1
    have q1 := hS.c q2
    have q2 := hS.c q3
    have q3 := hS.c q4
    have q4 := hS.c q5
    have q5 := hS.c q6
    unfold Rg.gives
    go_simp
    exact Rg.gives_enter (call_nw (rnew_c (by decide)))
  intro u hu
  obtain ⟨W0, hw1, hw2, hf⟩ := hu
  obtain ⟨m12, D12, l12, c12, rfl, hx⟩ := Rg.upd_at rfl (hf 12)
  refine ⟨_, (by simp only [Act.put, List.setIfInBounds_toArray, List.set_cons_zero, List.set_cons_succ]; exact rfl), ?_⟩
  clear hf hw1 hw2 hx W0
  repeat
    apply Rg.wpK_quiet rfl rfl
    case hq => intro W hS; have q0 := hS.c q1; have q1 := hS.c q2; have q2 := hS.c q3; have q3 := hS.c q4; have q4 := hS.c q5; have q5 := hS.c q6; go_simp; exact rfl
    case he => exact (by simp only [Act.put, List.setIfInBounds_toArray, List.set_cons_zero, List.set_cons_succ]; exact rfl)
  apply Rg.wpK_know rfl rfl
  case ha =>
    intro W hR hS hF
    have hn := n1.trans hS
    have q0 := hS.c q1
    have q1 := hS.c q2
    have q2 := hS.c q3
    have q3 := hS.c q4
    have q4 := hS.c q5
    have q5 := hS.c q6
    have i12 := KJ.agg (Rg.upd_at rfl (hF 12 (by kernel_rfl)))
    unfold Rg.gives
    go_simp
    exact Rg.gives_enter (call_nw (is_c (I3.out.kept hS.kept) i12 (by decide) (by omega) (Nat.le_trans (i12.len_le 1 (by decide) (by decide)) (by decide))))
  intro u hu
  obtain ⟨W0, hw1, hw2, hf⟩ := hu
  obtain rfl := Rg.upd_at rfl (hf 13)
  have hx := trivial
  refine ⟨_, (by simp only [Act.put, List.setIfInBounds_toArray, List.set_cons_zero, List.set_cons_succ]; exact rfl), ?_⟩
  clear hf hw1 hw2 hx W0
  repeat
    apply Rg.wpK_quiet rfl rfl
    case hq => intro W hS; have q0 := hS.c q1; have q1 := hS.c q2; have q2 := hS.c q3; have q3 := hS.c q4; have q4 := hS.c q5; have q5 := hS.c q6; go_simp; exact rfl
    case he => exact (by simp only [Act.put, List.setIfInBounds_toArray, List.set_cons_zero, List.set_cons_succ]; exact rfl)
  apply Rg.wpK_know rfl rfl
  case ha =>
    intro W hR hS hF
    have hn := n1.trans hS
    have q0 := hS.c q1
    have q1 := hS.c q2
    have q2 := hS.c q3
    have q3 := hS.c q4
    have q4 := hS.c q5
    have q5 := hS.c q6
    unfold Rg.gives
    go_simp
    exact Rg.gives_enter (call_nw (rnew_c (by decide)))
  intro u hu
  obtain ⟨W0, hw1, hw2, hf⟩ := hu
  obtain ⟨m17, D17, l17, c17, rfl, hx⟩ := Rg.upd_at rfl (hf 17)
  refine ⟨_, (by simp only [Act.put, List.setIfInBounds_toArray, List.set_cons_zero, List.set_cons_succ]; exact rfl), ?_⟩
  clear hf hw1 hw2 hx W0
  repeat
    apply Rg.wpK_quiet rfl rfl
    case hq => intro W hS; have q0 := hS.c q1; have q1 := hS.c q2; have q2 := hS.c q3; have q3 := hS.c q4; have q4 := hS.c q5; have q5 := hS.c q6; go_simp; exact rfl
    case he => exact (by simp only [Act.put, List.setIfInBounds_toArray, List.set_cons_zero, List.set_cons_succ]; exact rfl)
  apply Rg.wpK_know rfl rfl
  case ha =>
    intro W hR hS hF
    have hn := n1.trans hS
    have q0 := hS.c q1
    have q1 := hS.c q2
    have q2 := hS.c q3
    have q3 := hS.c q4
    have q4 := hS.c q5
    have q5 := hS.c q6
    have i17 := KJ.agg (Rg.upd_at rfl (hF 17 (by kernel_rfl)))
    unfold Rg.gives
    go_simp
    exact Rg.gives_enter (call_nw (is_c (I4.out.kept hS.kept) i17 (by decide) (by omega) (Nat.le_trans (i17.len_le 1 (by decide) (by decide)) (by decide))))
  intro u hu
  obtain ⟨W0, hw1, hw2, hf⟩ := hu
  obtain rfl := Rg.upd_at rfl (hf 18)
  have hx := trivial
  refine ⟨_, (by simp only [Act.put, List.setIfInBounds_toArray, List.set_cons_zero, List.set_cons_succ]; exact rfl), ?_⟩
  clear hf hw1 hw2 hx W0
  repeat
    apply Rg.wpK_quiet rfl rfl
    case hq => intro W hS; have q0 := hS.c q1; have q1 := hS.c q2; have q2 := hS.c q3; have q3 := hS.c q4; have q4 := hS.c q5; have q5 := hS.c q6; go_simp; exact rfl
    case he => exact (by simp only [Act.put, List.setIfInBounds_toArray, List.set_cons_zero, List.set_cons_succ]; exact rfl)
  apply Rg.wpK_know rfl rfl
  case ha =>
    intro W hR hS hF
    have hn := n1.trans hS
    have q0 := hS.c q1
    have q1 := hS.c q2
    have q2 := hS.c q3
    have q3 := hS.c q4
    have q4 := hS.c q5
    have q5 := hS.c q6
    unfold Rg.gives
    go_simp
    exact Rg.gives_enter (call_nw (rnew_c (by decide)))
  intro u hu
  obtain ⟨W0, hw1, hw2, hf⟩ := hu
  obtain ⟨m26, D26, l26, c26, rfl, hx⟩ := Rg.upd_at rfl (hf 26)
  refine ⟨_, (by simp only [Act.put, List.setIfInBounds_toArray, List.set_cons_zero, List.set_cons_succ]; exact rfl), ?_⟩
  clear hf hw1 hw2 hx W0
  repeat
    apply Rg.wpK_quiet rfl rfl
    case hq => intro W hS; have q0 := hS.c q1; have q1 := hS.c q2; have q2 := hS.c q3; have q3 := hS.c q4; have q4 := hS.c q5; have q5 := hS.c q6; go_simp; exact rfl
    case he => exact (by simp only [Act.put, List.setIfInBounds_toArray, List.set_cons_zero, List.set_cons_succ]; exact rfl)
  apply Rg.wpK_know rfl rfl
  case ha =>
    intro W hR hS hF
    have hn := n1.trans hS
    have q0 := hS.c q1
    have q1 := hS.c q2
    have q2 := hS.c q3
    have q3 := hS.c q4
    have q4 := hS.c q5
    have q5 := hS.c q6
    have i26 := KJ.agg (Rg.upd_at rfl (hF 26 (by kernel_rfl)))
    unfold Rg.gives
    go_simp
    exact Rg.gives_enter (call_nw (is_c (I8.out.kept hS.kept) i26 (by decide) (by omega) (Nat.le_trans (i26.len_le 1 (by decide) (by decide)) (by decide))))
  intro u hu
  obtain ⟨W0, hw1, hw2, hf⟩ := hu
  obtain rfl := Rg.upd_at rfl (hf 27)
  have hx := trivial
  refine ⟨_, (by simp only [Act.put, List.setIfInBounds_toArray, List.set_cons_zero, List.set_cons_succ]; exact rfl), ?_⟩
  clear hf hw1 hw2 hx W0
  repeat
    apply Rg.wpK_quiet rfl rfl
    case hq => intro W hS; have q0 := hS.c q1; have q1 := hS.c q2; have q2 := hS.c q3; have q3 := hS.c q4; have q4 := hS.c q5; have q5 := hS.c q6; go_simp; exact rfl
    case he => exact (by simp only [Act.put, List.setIfInBounds_toArray, List.set_cons_zero, List.set_cons_succ]; exact rfl)
  refine Rg.wpK_end fun w9 hR hS hF => ?_
  have hn := n1.trans hS
  have i12 := KJ.agg (Rg.upd_at rfl (Rg.upd_off rfl (Rg.upd_off rfl (Rg.upd_off rfl (Rg.upd_off rfl (Rg.upd_off rfl (hF 12)))))))
  have i17 := KJ.agg (Rg.upd_at rfl (Rg.upd_off rfl (Rg.upd_off rfl (Rg.upd_off rfl (hF 17)))))
  have i26 := KJ.agg (Rg.upd_at rfl (Rg.upd_off rfl (hF 26)))
  clear hF hR
  go_wp2
  go_ret
  exact Ret.V hn
end Go.Proofs.Ytcgkgcciogibkaa
/- Words for the laws: bounds, what came in; a region by its number. -/
set_option linter.unusedVariables false
set_option linter.unusedSimpArgs false
namespace Go.Proofs.Ytcgkgcciogibkaa
open Go.RowKit Ma

/-- What came in: an integer as plain data. -/
def In (w : World) (A : Option Addr) (l c : Nat) (xs : List Int) : Prop := l = xs.length ∧ l ≤ c ∧ Rd w .u32 A xs ∧ dg b32 xs
theorem In.nw {w W : World} {A : Option Addr} {l c : Nat} {xs : List Int} (h : In w A l c xs) (k : Nw w W) : In W A l c xs := ⟨h.1, h.2.1, h.2.2.1.kept k.kept, h.2.2.2⟩

theorem short_l {b l c : Nat} {m : Int} (most : Nat) (ns : List Nn) {w : World} (e1 : m = most) (e2 : l = ns.length) (hn : Ns w b ns) (hm : most ≤ 1000) (hl : ns.length ≤ 1000) (hL : ∀ x ∈ ns, x.2.2.1 ≤ 9223372036854775807) :
    Calls Try.prog 14 #[.int .i64 m, .slice (some ⟨b, 0, none⟩) l c] w (Ret w (KV (.bool (shB most ns)))) := by
  subst e1 e2; exact short_c hn hm hl hL
/-- A bound for a number of so many limbs. -/
def bd (k : Nat) (z : Int) : Prop := -(b32 ^ k) < z ∧ z < b32 ^ k
theorem bd.neg {k : Nat} {x : Int} (h : bd k x) : bd k (-x) := by unfold bd at *; omega
theorem bd.mono {k j : Nat} {x : Int} (h : bd k x) (hj : k ≤ j) : bd j x := by
  have := pow_le (b := b32) (by decide) hj
  unfold bd at *; omega
theorem bd.add {a b : Nat} {x y : Int} (h : bd a x) (k : bd b y) : bd (max a b + 1) (x + y) := by
  have h1 := h.mono (Nat.le_max_left a b)
  have h2 := k.mono (Nat.le_max_right a b)
  unfold bd at *
  rw [Int.pow_succ]
  have := pos_pow (b := b32) (by decide) (max a b)
  have e : b32 ^ max a b * b32 = b32 ^ max a b * 4294967296 := rfl
  omega
theorem bd.sub {a b : Nat} {x y : Int} (h : bd a x) (k : bd b y) : bd (max a b + 1) (x - y) := by
  rw [Int.sub_eq_add_neg]; exact h.add k.neg
theorem bd.natAbs {a : Nat} {x : Int} (h : bd a x) : (x.natAbs : Int) < b32 ^ a := by unfold bd at h; omega
theorem bd.of {a : Nat} {x : Int} (h : (x.natAbs : Int) < b32 ^ a) : bd a x := by unfold bd; omega
theorem bd.mul {a b : Nat} {x y : Int} (h : bd a x) (k : bd b y) : bd (a + b) (x * y) := by
  apply bd.of
  rw [Int.natAbs_mul, Int.natCast_mul, Int.pow_add]
  have h1 := h.natAbs
  have h2 := k.natAbs
  have p := pos_pow (b := b32) (by decide) b
  exact Int.lt_of_le_of_lt (Int.mul_le_mul_of_nonneg_left (Int.le_of_lt h2) (by omega)) (Int.mul_lt_mul_of_pos_right h1 p)
theorem RI.le {w : World} {n : Bool} {A : Option Addr} {l c k : Nat} {z : Int} (h : RI w n A l c z) (hb : bd k z) (hk : k ≤ 300000) : l ≤ 300000 := Nat.le_trans (h.len_le k hb.1 hb.2) hk
theorem bd_sg {n : Bool} {xs : List Int} {k : Nat} (d : dg b32 xs) (hl : xs.length ≤ k) : bd k (sg n (lv b32 xs)) := by
  have h1 := lv_lt (b := b32) (by decide) d
  have h2 := lv_nonneg (b := b32) (by decide) d
  have h3 := pow_le (b := b32) (by decide) hl
  unfold bd
  cases n <;> simp only [sg, if_true, if_false, Bool.false_eq_true] <;> omega
theorem KM.three {v : Value} {W : World} {z1 z2 z3 : Int} (h : KM [z1, z2, z3] v W) : ∃ g c m1 D1 l1 c1 m2 D2 l2 c2 m3 D3 l3 c3, v = .slice (some ⟨g, 0, none⟩) 3 c ∧ 3 ≤ c ∧
    (W.cell? ⟨g, 0, none⟩ = some (.bool m1) ∧ W.cell? ⟨g, 1, none⟩ = some (.slice D1 l1 c1) ∧ W.cell? ⟨g, 2, none⟩ = some (.bool m2) ∧ W.cell? ⟨g, 3, none⟩ = some (.slice D2 l2 c2) ∧ W.cell? ⟨g, 4, none⟩ = some (.bool m3) ∧ W.cell? ⟨g, 5, none⟩ = some (.slice D3 l3 c3)) ∧
    RI W m1 D1 l1 c1 z1 ∧ RI W m2 D2 l2 c2 z2 ∧ RI W m3 D3 l3 c3 z3 := by
  obtain ⟨g, c, rs, rfl, hc, hn, hl, hr⟩ := h
  match rs, hl, hn, hr with
  | [(m1, D1, l1, c1), (m2, D2, l2, c2), (m3, D3, l3, c3)], _, hn, hr =>
    have a := hn 0 _ _ _ _ rfl
    have b := hn 1 _ _ _ _ rfl
    have d := hn 2 _ _ _ _ rfl
    exact ⟨g, c, m1, D1, l1, c1, m2, D2, l2, c2, m3, D3, l3, c3, rfl, hc, ⟨a.1, a.2, b.1, b.2, d.1, d.2⟩, hr 0 _ _ _ _ rfl, hr 1 _ _ _ _ rfl, hr 2 _ _ _ _ rfl⟩
end Go.Proofs.Ytcgkgcciogibkaa
/- The width of a number, the count of its bits. No program in sight. -/
set_option linter.unusedVariables false
set_option linter.unusedSimpArgs false
namespace Go.Proofs.Ytcgkgcciogibkaa.Ma
open Go

/-- A number without its sign: itself, or its complement. -/
def pat (x : Int) : Int := if x < 0 then -1 - x else x
theorem pat_nonneg (x : Int) : 0 ≤ pat x := by unfold pat; split <;> omega
/-- So many binary digits it has. -/
def wid (z : Int) : Nat := if z ≤ 0 then 0 else Nat.log2 z.toNat + 1
theorem wid_lt (z : Int) : z < 2 ^ wid z := by
  unfold wid
  by_cases h : z ≤ 0
  · rw [if_pos h]; simp; omega
  · rw [if_neg h]
    have := (Nat.log2_eq_iff (n := z.toNat) (k := Nat.log2 z.toNat) (by omega)).1 rfl
    have h2 := this.2
    have e : ((2 ^ (Nat.log2 z.toNat + 1) : Nat) : Int) = 2 ^ (Nat.log2 z.toNat + 1) := by push_cast; rfl
    omega
theorem wid_le {z : Int} (h : 0 < z) : 2 ^ (wid z - 1) ≤ z := by
  unfold wid
  rw [if_neg (by omega)]
  have := (Nat.log2_eq_iff (n := z.toNat) (k := Nat.log2 z.toNat) (by omega)).1 rfl
  have h2 := this.1
  have e : ((2 ^ Nat.log2 z.toNat : Nat) : Int) = 2 ^ Nat.log2 z.toNat := by push_cast; rfl
  rw [Nat.add_sub_cancel]
  omega
theorem wid_pos {z : Int} (h : 0 < z) : 0 < wid z := by unfold wid; rw [if_neg (by omega)]; omega
theorem wid_of {z : Int} {n : Nat} (h1 : z < 2 ^ n) (h2 : 0 < n) (h3 : 2 ^ (n - 1) ≤ z) : wid z = n := by
  have hp : (0 : Int) < 2 ^ (n - 1) := Int.pow_pos (by decide)
  have a := wid_lt z
  have b := wid_le (z := z) (by omega)
  have c := wid_pos (z := z) (by omega)
  rcases Nat.lt_trichotomy (wid z) n with h | h | h
  · have := pow_le (b := 2) (by decide) (show wid z ≤ n - 1 by omega); omega
  · exact h
  · have := pow_le (b := 2) (by decide) (show n ≤ wid z - 1 by omega); omega
theorem wid_le_of {z : Int} {n : Nat} (h : z < 2 ^ n) : wid z ≤ n := by
  by_cases h0 : 0 < z
  · have b := wid_le h0
    have c := wid_pos h0
    apply Classical.byContradiction
    intro h2
    have := pow_le (b := 2) (by decide) (show n ≤ wid z - 1 by omega)
    omega
  · unfold wid; rw [if_pos (by omega)]; omega
theorem wid_zero : wid 0 = 0 := rfl
theorem bitLen_wid (z : Int) (h0 : 0 ≤ z) (h1 : z < 4294967296) : Lib.bitLen z.toNat = wid z := by
  by_cases hz : z = 0
  · subst hz; rfl
  · obtain ⟨a, b, c⟩ := Lib.bitLenAux_bounds 64 z.toNat (by omega) (by omega)
    have e1 : ((2 ^ (Lib.bitLen z.toNat - 1) : Nat) : Int) = 2 ^ (Lib.bitLen z.toNat - 1) := by push_cast; rfl
    have e2 : ((2 ^ Lib.bitLen z.toNat : Nat) : Int) = 2 ^ Lib.bitLen z.toNat := by push_cast; rfl
    unfold Lib.bitLen at *
    exact (wid_of (by omega) (by omega) (by omega)).symm
theorem wid_lv {zs : List Int} (d : dg 4294967296 zs) (t : top zs) (hne : zs ≠ []) : wid (lv 4294967296 zs) = 32 * (zs.length - 1) + wid (at0 zs (zs.length - 1)) := by
  have hl : 0 < zs.length := List.length_pos_iff.2 hne
  have e := lv_take_succ 4294967296 zs (zs.length - 1) (by omega)
  rw [Nat.sub_add_cancel hl, List.take_length] at e
  have a0 := lv_nonneg (b := 4294967296) (by decide) (dg_take d (zs.length - 1))
  have a1 := lv_lt (b := 4294967296) (by decide) (dg_take d (zs.length - 1))
  rw [List.length_take, Nat.min_eq_left (by omega)] at a1
  have b0 := dg_at d (by decide) (zs.length - 1)
  have b1 := (top_at hne).1 t
  have hp : (4294967296 : Int) ^ (zs.length - 1) = 2 ^ (32 * (zs.length - 1)) := by rw [Int.pow_mul]; rfl
  rw [hp] at e a1
  have c0 := wid_lt (at0 zs (zs.length - 1))
  have c1 := wid_le (z := at0 zs (zs.length - 1)) (by omega)
  have c2 := wid_pos (z := at0 zs (zs.length - 1)) (by omega)
  have hq : (0 : Int) < 2 ^ (32 * (zs.length - 1)) := Int.pow_pos (by decide)
  apply wid_of
  · rw [e, Int.pow_add]
    have : 2 ^ (32 * (zs.length - 1)) * (at0 zs (zs.length - 1) + 1) ≤ 2 ^ (32 * (zs.length - 1)) * (2 : Int) ^ wid (at0 zs (zs.length - 1)) := Int.mul_le_mul_of_nonneg_left (by omega) (by omega)
    rw [Int.mul_add] at this
    omega
  · omega
  · rw [e, show 32 * (zs.length - 1) + wid (at0 zs (zs.length - 1)) - 1 = 32 * (zs.length - 1) + (wid (at0 zs (zs.length - 1)) - 1) by omega, Int.pow_add]
    have : 2 ^ (32 * (zs.length - 1)) * (2 : Int) ^ (wid (at0 zs (zs.length - 1)) - 1) ≤ 2 ^ (32 * (zs.length - 1)) * at0 zs (zs.length - 1) := Int.mul_le_mul_of_nonneg_left c1 (by omega)
    omega

/-- So many of its binary digits are 1. -/
def pc (n : Nat) : Nat := if n = 0 then 0 else n % 2 + pc (n / 2)
theorem pc_zero : pc 0 = 0 := by unfold pc; rfl
theorem pc_half (n : Nat) : pc n = n % 2 + pc (n / 2) := by
  by_cases h : n = 0
  · subst h; simp [pc_zero]
  · conv => lhs; unfold pc
    rw [if_neg h]
end Go.Proofs.Ytcgkgcciogibkaa.Ma
/- The contracts of the program's pattern, length, Length, Count, Bit. -/
set_option linter.unusedVariables false
set_option linter.unusedSimpArgs false
namespace Go.Proofs.Ytcgkgcciogibkaa
open Go.RowKit Ma

theorem RI.sign {w : World} {n : Bool} {A : Option Addr} {l c : Nat} {x : Int} (h : RI w n A l c x) : n = decide (x < 0) := by
  obtain ⟨xs, _, _, _, d, t, nz, rfl⟩ := h
  have h1 := lv_nonneg (b := b32) (by decide) d
  cases n
  · simp [sg]; exact h1
  · have := top_le (b := b32) (by decide) d t (nz rfl)
    have := pos_pow (b := b32) (by decide) (xs.length - 1)
    simp [sg]; omega
set_option maxHeartbeats 1600000 in
set_option maxRecDepth 100000 in
theorem pattern_c {x : Int} {n : Bool} {A : Option Addr} {l c : Nat} {w : World} (hx : RI w n A l c x) (hl : l ≤ 400000) :
    Calls Try.prog 79 #[.agg #[.bool n, .slice A l c]] w (Ret w (KL .u32 fun zs => dg b32 zs ∧ top zs ∧ lv b32 zs = pat x)) := by
  have nw1 : Nw w (w.alloc (.cells #[.bool n, .slice A l c] 28)) := (Nw.refl w).alloc _
  have hs := hx.sign
  have HX := Lib.hid (hx.kept nw1.kept)
  cases n
  · have hx0 : ¬ x < 0 := by simpa using hs.symm
    have hp : pat x = x := by unfold pat; rw [if_neg hx0]
    have HP := Lib.hid hp
    obtain ⟨xs, rfl, hc, rA, d, t, nz, ex⟩ := hx
    have D := Lib.hid (⟨d, t, ex⟩ : _ ∧ _ ∧ _)
    have RA := Lib.hid (rA.kept nw1.kept)
    clear hs hp d t nz ex rA HX
    go_enter Try.func79, Try.ntmps79
    go_wp2
    go_ret
    obtain ⟨d, t, ex⟩ := D.out
    exact Ret.L (zs := xs) RA.out hc ⟨d, t, by rw [HP.out, ex]; simp [sg]⟩ nw1
  · have hx0 : x < 0 := by simpa using hs.symm
    have hp : pat x = -1 - x := by unfold pat; rw [if_pos hx0]
    have HP := Lib.hid hp
    have hf : ∀ (W : World) (b : Bool) (D : Option Addr) (l c : Nat), (Instr.field 28 (.agg #[.bool b, .slice D l c]) 1).run Try.prog W = .ok (.slice D l c) W := fun _ _ _ _ _ => by kernel_rfl
    clear hs hp
    go_enter Try.func79, Try.ntmps79
    go_wp2_with (go_at_call 110; refine (complement_c HX.out hl).mono ?_; rintro e w1 ⟨_, rfl, ⟨m, D, l2, c2, rfl, i2⟩, hb1⟩)
    have hs2 := i2.sign
    obtain ⟨zs, rfl, hc2, rD, d, t, nz, ez⟩ := i2
    have hm : m = false := by rw [hs2]; simp; omega
    subst hm
    go_ret
    exact Ret.L rD hc2 ⟨d, t, by rw [HP.out, ez]; simp [sg]⟩ (nw1.trans hb1)

set_option maxHeartbeats 1600000 in
set_option maxRecDepth 100000 in
theorem length_c {A : Option Addr} {l c : Nat} {xs : List Int} {w : World} (e : l = xs.length) (rA : Rd w .u32 A xs) (d : dg b32 xs) (t : top xs) (hl : l ≤ 500000) :
    Calls Try.prog 94 #[.slice A l c] w fun e w' => e = .returned (.int .i64 (wid (lv b32 xs))) ∧ w = w' := by
  by_cases h0 : xs = []
  · subst h0
    obtain rfl : l = 0 := e
    go_enter Try.func94, Try.ntmps94
    go_wp2
    go_ret
    exact ⟨ret_val (by simp [lv, wid_zero]), rfl⟩
  · have hpos : 0 < xs.length := List.length_pos_iff.2 h0
    obtain ⟨k, hk⟩ : ∃ k, l = k + 1 := ⟨l - 1, by omega⟩
    have hw := wid_lv d t h0
    rw [← e, hk, Nat.add_sub_cancel] at hw
    obtain ⟨a0, a1⟩ := dg_at d (by decide) k
    have hbl := bitLen_wid (at0 xs k) a0 a1
    rw [b32_eq] at a1
    obtain ⟨ad, hA, hcell⟩ := rA.2 k (by omega)
    subst hA
    subst hk
    have HW := Lib.hid hw
    have HB := Lib.hid hbl
    have hwb : wid (at0 xs k) ≤ 32 := wid_le_of a1
    have hz : ((k : Int) + 1 == 0) = false := by rw [beq_eq_false_iff_ne]; omega
    clear hw hbl h0 e rA d t
    go_enter Try.func94, Try.ntmps94
    go_wp2_with (go_at_call 118; refine (Try.bits_LeadingZeros32 (at0 xs k) _ a0 (by omega)).mono ?_; rintro e w' ⟨rfl, rfl⟩; rw [HB.out])
    go_ret
    refine ⟨ret_val ?_, rfl⟩
    have := HW.out
    rw [b32_eq, this]
    apply congrArg (Value.int IntKind.i64)
    push_cast
    omega

set_option maxHeartbeats 1600000 in
set_option maxRecDepth 100000 in
theorem len_c {x : Int} {n : Bool} {A : Option Addr} {l c : Nat} {w : World} (hx : RI w n A l c x) (hl : l ≤ 400000) :
    Calls Try.prog 48 #[.agg #[.bool n, .slice A l c]] w (Ret w (KV (.int .i64 (wid (pat x))))) := by
  have nw1 : Nw w (w.alloc (.cells #[.bool n, .slice A l c] 28)) := (Nw.refl w).alloc _
  have HX := Lib.hid (hx.kept nw1.kept)
  have hb := hx.abs_lt
  have hp : pat x < b32 ^ l := by unfold pat; split <;> omega
  have HP := Lib.hid hp
  clear hx hb hp
  go_enter Try.func48, Try.ntmps48
  go_wp2_with (first
    | (go_at_call 79; refine (pattern_c HX.out hl).mono ?_; rintro e w1 ⟨_, rfl, ⟨zs, C, cc, rfl, hcc, rC, dz, tz, ez⟩, hb1⟩; have EZ := Lib.hid ez; clear ez)
    | (go_at_call 94; refine (length_c rfl rC dz tz ?hl).mono ?_; rotate_left; rintro e w2 ⟨rfl, rfl⟩; rw [EZ.out]))
  case hl =>
    have := HP.out
    rw [← EZ.out] at this
    by_cases h0 : zs = []
    · subst h0; simp
    · have h1 := top_le (b := b32) (by decide) dz tz h0
      by_cases h2 : zs.length ≤ l
      · omega
      · have := pow_le (b := b32) (by decide) (show l ≤ zs.length - 1 by omega)
        omega
  go_ret
  exact Ret.V (nw1.trans hb1)

end Go.Proofs.Ytcgkgcciogibkaa
/- The contracts of the program's raised, lowered, shift, Shift. -/
set_option linter.unusedVariables false
set_option linter.unusedSimpArgs false
namespace Go.Proofs.Ytcgkgcciogibkaa
open Go.RowKit Ma

theorem own_up {w w' : World} {base : Nat} {e : TypeId} {s : Nat} {v : Value} {n : Nat} {xs : List Value} (h : w.ownsRow base e s v n xs) (hb : Nw w w') : w'.ownsRow base e s v n xs :=
  World.ownsRow.kept h (row := none) ⟨hb.os, hb.tape, hb.output, hb.size, fun i hi _ => hb.block i hi⟩ (by cases v.ownBlock <;> simp)
theorem news_of {W : World} {ad : Addr} {zs : List Int} (h : ∀ i, i < zs.length → W.cell? (ad.add i) = some (.int .u32 (at0 zs i))) : ∀ j u, (zs.map (Value.int .u32))[j]? = some u → W.cell? (ad.add j) = some u := by
  intro j u hu
  have hj : j < zs.length := by have := (List.getElem?_eq_some_iff.1 hu).1; simpa using this
  rw [List.getElem?_map, List.getElem?_eq_getElem hj] at hu
  injection hu with hu
  rw [h j hj, ← hu, at0_of_lt hj]
theorem made_list (q : Nat) : (madeCells #[Value.int .u32 0] q).toList = (List.replicate q (0 : Int)).map (Value.int .u32) := by
  apply List.ext_getElem
  · simp [madeCells]
  · intro i h1 h2
    simp [madeCells, Nat.mod_one]
theorem lv_up (q : Nat) (zs : List Int) : lv b32 (List.replicate q 0 ++ zs) = 2 ^ (32 * q) * lv b32 zs := by
  rw [lv_append, lv_zeros, List.length_replicate, Int.zero_add]
  congr 1
  rw [Int.pow_mul]; rfl

set_option maxHeartbeats 3200000 in
set_option maxRecDepth 100000 in
theorem raised_c {A : Option Addr} {l c n : Nat} {xs : List Int} {w : World} (e : l = xs.length) (rA : Rd w .u32 A xs) (dx : dg b32 xs) (hl : l ≤ 500000) (hn : n ≤ 1000000) :
    Calls Try.prog 122 #[.slice A l c, .int .i64 n] w (Ret w (KL .u32 fun zs => dg b32 zs ∧ lv b32 zs = lv b32 xs * 2 ^ n ∧ zs.length ≤ l + n / 32 + 1)) := by
  subst e
  obtain ⟨i0, hi, hz0, hz1, hz2⟩ := info_parts info_u32
  obtain ⟨q, hq⟩ : ∃ q : Nat, q = n / 32 := ⟨_, rfl⟩
  obtain ⟨r, hr⟩ : ∃ r : Nat, r = n % 32 := ⟨_, rfl⟩
  have eq' : ((n : Int) / 32) = (q : Int) := by omega
  have er' : ((n : Int) % 32) = (r : Int) := by omega
  have hr32 : r < 32 := by omega
  have hnq : n = 32 * q + r := by omega
  have hmk : ∀ W : World, (Instr.makeSlice 22 (.int .i64 (q : Int)) (.int .i64 (q : Int))).run Try.prog W = .ok (.slice (some ⟨W.heap.size, 0, none⟩) q q) (W.alloc (.cells (madeCells #[.int .u32 0] q) 92)) := by
    intro W
    have := run_make W 22 92 i0 (.int .u32 0) Try.underlying22 hi hz0 .i64 .i64 q q (by omega) (by omega) (by rw [hz2]; omega) (by omega)
    rw [hz1] at this
    simp only [Int.toNat_natCast, Nat.mul_one] at this
    exact this
  have hown : ∀ W : World, (W.alloc (.cells (madeCells #[.int .u32 0] q) 92)).ownsRow 0 92 1 (.slice (some ⟨W.heap.size, 0, none⟩) q q) q (madeCells #[.int .u32 0] q).toList := fun W => World.ownsRow_lit W _ q (Nat.zero_le _) (by unfold maxLen; omega) (by rw [size_madeCells]; omega)
  have hw1 : IntKind.i64.wrap (q : Int) = (q : Int) := IntWalk.i64_in _ (by omega)
  have hw2 : IntKind.u64.wrap (r : Int) = (r : Int) := by simp only [IntKind.wrap_u64]; omega
  have hw3 : (n : Int).tmod 32 = (r : Int) := by rw [Int.tmod_eq_emod_of_nonneg (by omega)]; omega
  have RA := Lib.hid rA
  have HQ := Lib.hid hq
  have HR := Lib.hid hr
  have HNQ := Lib.hid hnq
  have HOWN := Lib.hid hown
  have HI := Lib.hid (And.intro hi (And.intro hz0 (And.intro hz1 hz2)))
  have nd : Nw w w.drew := (Nw.refl w).drew
  have cS : ∀ W, Nw w W → Calls Try.prog 119 #[.slice A xs.length c, .int .u64 r] W (Ret W (KL .u32 fun zs => dg b32 zs ∧ lv b32 zs = lv b32 xs * (2 : Int) ^ r ∧ zs.length = xs.length + 1)) := fun W h => shifted_c A c xs r W (RA.out.kept h.kept) dx (by omega) hr32
  have CS := Lib.hid cS
  clear cS rA hq hr hnq hown hi hz0 hz1 hz2
  go_enter Try.func122, Try.ntmps122
  go_wp2
  have htt : True := trivial
  go_region_held3 (fun w' => True) (trivial)
    (first
      | (go_at_call 119; refine (CS.out _ (by repeat (first | exact Nw.refl _ | apply Nw.drew | apply Nw.alloc))).mono ?_; rintro e w1 ⟨_, rfl, ⟨zs, C, cc, rfl, hcc, rC, dz, lz, ez⟩, hb1⟩; obtain ⟨ad, rfl, hcell⟩ := rC.addr (by omega); have LZ := Lib.hid lz; have EZ := Lib.hid ez; have hzl : zs.length ≤ 500001 := (by omega); have hzp : 0 < zs.length := (by omega); clear lz ez; first | have hoA := own_up (own_up (HOWN.out w) ((Nw.refl _).drew)) hb1 | skip)
      | (refine step_append_lies _ (by rfl) (.tmp 7) (.tmp 12) 22 (by rfl) 0 92 i0 (.int .u32 0) 1 4 Try.underlying22 HI.out.1 HI.out.2.1 HI.out.2.2.1 HI.out.2.2.2 rfl (by decide) _ q _ (by rfl) hoA ad zs.length cc (zs.map (Value.int .u32)) (by rfl) (by simp) (news_of hcell) (by simp [Value.oneCell']) (by omega) (by unfold maxLen; omega) (by omega) (Nat.zero_le _) _ rfl ?_; intro g cap w9 hown9 hgrow9 _ _)
      | (refine step_append_lies _ (by rfl) (.tmp 7) (.tmp 12) 22 (by rfl) 0 92 i0 (.int .u32 0) 1 4 Try.underlying22 HI.out.1 HI.out.2.1 HI.out.2.2.1 HI.out.2.2.2 rfl (by decide) _ q _ (by rfl) (HOWN.out w1) ad zs.length cc (zs.map (Value.int .u32)) (by rfl) (by simp) (news_of (fun i hi => Nw.c ((Nw.refl w1).alloc _) (hcell i hi))) (by simp [Value.oneCell']) (by omega) (by unfold maxLen; omega) (by omega) (Nat.zero_le _) _ rfl ?_; intro g cap w9 hown9 hgrow9 _ _))
  all_goals
    have fin : dg b32 (List.replicate q 0 ++ zs) ∧ lv b32 (List.replicate q 0 ++ zs) = lv b32 xs * 2 ^ n ∧ (List.replicate q 0 ++ zs).length ≤ xs.length + n / 32 + 1 := by
      refine ⟨dg_append.2 ⟨dg_replicate _ (by decide) (by decide), dz⟩, ?_, ?_⟩
      · rw [lv_up, LZ.out, HNQ.out, Int.pow_add]
        generalize (2 : Int) ^ (32 * q) = a
        generalize (2 : Int) ^ r = b
        rw [Int.mul_comm a b, ← Int.mul_assoc, ← Int.mul_assoc, Int.mul_assoc (lv b32 xs) b a] <;> grind
      · rw [List.length_append, List.length_replicate, EZ.out, HQ.out]; omega
    have FIN := Lib.hid fin
    have own9 : Own w9 0 92 .u32 (.slice (some ⟨g, 0, none⟩) (q + zs.length) cap) (List.replicate q 0 ++ zs) := Own.cast hown9 (by simp) (by rw [made_list, List.map_append])
    have OWN9 := Lib.hid own9
    have n9 : Nw w w9 := (by
      first
        | exact Below.grown (Nw.trans (((Nw.refl w).alloc _).drew) hb1) hgrow9 (Nw.trans (((Nw.refl w).alloc _).drew) hb1).size (fun g hg => by simp [Value.ownBlock] at hg; omega)
        | exact Below.grown ((Nw.trans nd hb1).alloc _) hgrow9 ((Nw.trans nd hb1).alloc _).size (fun g hg => by simp [Value.ownBlock] at hg; have := (Nw.trans nd hb1).size; omega))
    clear fin own9 hown9 hgrow9 hmk hw1 hw2 hw3
    go_wp2
    go_ret
    exact Ret.own OWN9.out FIN.out n9
end Go.Proofs.Ytcgkgcciogibkaa
/- Limbs divided by a power of two. No program in sight. -/
set_option linter.unusedVariables false
set_option linter.unusedSimpArgs false
namespace Go.Proofs.Ytcgkgcciogibkaa.Ma
open Go

theorem emod_pow_succ (V b : Int) (hb : 0 < b) (k : Nat) : V % b ^ (k + 1) = V % b ^ k + b ^ k * (V / b ^ k % b) := by
  have hp : 0 < b ^ k := Int.pow_pos hb
  have a := Int.mul_ediv_add_emod V (b ^ k)
  have c := Int.mul_ediv_add_emod (V / b ^ k) b
  have r0 := Int.emod_nonneg V (Int.ne_of_gt hp)
  have r1 := Int.emod_lt_of_pos V hp
  have s0 := Int.emod_nonneg (V / b ^ k) (Int.ne_of_gt hb)
  have s1 := Int.emod_lt_of_pos (V / b ^ k) hb
  have e : V = (V % b ^ k + b ^ k * (V / b ^ k % b)) + b ^ (k + 1) * (V / b ^ k / b) := by
    rw [Int.pow_succ]
    generalize V / b ^ k / b = q at *
    generalize V / b ^ k % b = r at *
    generalize V % b ^ k = t at *
    generalize V / b ^ k = z at *
    generalize b ^ k = p at *
    rw [← a, ← c]; grind
  have l0 : 0 ≤ b ^ k * (V / b ^ k % b) := Int.mul_nonneg (Int.le_of_lt hp) s0
  have l1 : b ^ k * (V / b ^ k % b) + b ^ k ≤ b ^ (k + 1) := by
    have : b ^ k * (V / b ^ k % b + 1) ≤ b ^ k * b := Int.mul_le_mul_of_nonneg_left (by omega) (Int.le_of_lt hp)
    rw [Int.mul_add] at this
    rw [Int.pow_succ]; omega
  conv => lhs; rw [e]
  rw [Int.add_mul_emod_self_left, Int.emod_eq_of_lt (by omega) (by omega)]
theorem lv_digits {b V : Int} (hb : 0 < b) {zs : List Int} : ∀ k, k ≤ zs.length → (∀ j, j < k → at0 zs j = V / b ^ j % b) → lv b (zs.take k) = V % b ^ k
  | 0, _, _ => by simp [lv]
  | k + 1, hk, h => by
    rw [lv_take_succ b zs k (by omega), lv_digits hb k (by omega) (fun j hj => h j (by omega)), emod_pow_succ V b hb k, h k (by omega)]
theorem lv_ediv {b : Int} (hb : 0 < b) {ys : List Int} (d : dg b ys) (j : Nat) (h : j ≤ ys.length) : lv b ys / b ^ j = lv b (ys.drop j) := by
  have e := lv_split b ys j h
  have h1 := lv_nonneg hb (dg_take d j)
  have h2 := lv_lt hb (dg_take d j)
  rw [List.length_take, Nat.min_eq_left h] at h2
  rw [e, Int.add_mul_ediv_left _ _ (Int.ne_of_gt (Int.pow_pos hb)), Int.ediv_eq_zero_of_lt h1 h2, Int.zero_add]
/-- A digit of what is divided by 2^r. -/
theorem low_digit {ys : List Int} (d : dg 4294967296 ys) {r j : Nat} (hr : r < 32) (hj : j < ys.length) :
    ((at0 ys (j + 1) * 4294967296 + at0 ys j) / 2 ^ r) % 4294967296 = lv 4294967296 ys / 2 ^ r / 4294967296 ^ j % 4294967296 := by
  have hp : (0 : Int) < 2 ^ r := Int.pow_pos (by decide)
  have e1 : lv 4294967296 ys / 2 ^ r / 4294967296 ^ j = lv 4294967296 (ys.drop j) / 2 ^ r := by
    rw [← lv_ediv (by decide) d j (by omega), Int.ediv_ediv_of_nonneg (Int.le_of_lt hp), Int.ediv_ediv_of_nonneg (Int.pow_nonneg (by decide)), Int.mul_comm]
  obtain ⟨c, hc⟩ : ∃ c : Int, (4294967296 : Int) = 2 ^ r * c := ⟨2 ^ (32 - r), by rw [← Int.pow_add, show r + (32 - r) = 32 by omega]; rfl⟩
  rw [e1, lv_drop 4294967296 ys j hj]
  have e2 : ∃ R, lv 4294967296 (ys.drop (j + 1)) = at0 ys (j + 1) + 4294967296 * R := by
    by_cases h : j + 1 < ys.length
    · exact ⟨_, lv_drop 4294967296 ys (j + 1) h⟩
    · exact ⟨0, by rw [List.drop_eq_nil_of_le (by omega), at0_ge (by omega)]; simp [lv]⟩
  obtain ⟨R, hR⟩ := e2
  rw [hR]
  have e3 : at0 ys j + 4294967296 * (at0 ys (j + 1) + 4294967296 * R) = (at0 ys (j + 1) * 4294967296 + at0 ys j) + 2 ^ r * (c * R * 4294967296) := by
    have : 4294967296 * (4294967296 * R) = 2 ^ r * (c * R * 4294967296) := by
      conv => lhs; lhs; rw [hc]
      grind
    rw [Int.mul_add, this]; grind
  rw [e3, Int.add_mul_ediv_left _ _ (Int.ne_of_gt hp), Int.add_mul_emod_self_right]
theorem low_zero {V : Int} {k n : Nat} (h0 : 0 ≤ V) (h : V < 4294967296 ^ k) (hn : k ≤ n / 32) : V / 2 ^ n = 0 := by
  apply Int.ediv_eq_zero_of_lt h0
  have h1 : (4294967296 : Int) ^ k = 2 ^ (32 * k) := by rw [Int.pow_mul]; rfl
  have := pow_le (b := 2) (by decide) (show 32 * k ≤ n by omega)
  omega
theorem low_split {xs : List Int} (d : dg 4294967296 xs) {n : Nat} (hq : n / 32 ≤ xs.length) : lv 4294967296 xs / 2 ^ n = lv 4294967296 (xs.drop (n / 32)) / 2 ^ (n % 32) := by
  rw [← lv_ediv (by decide) d (n / 32) hq, Int.ediv_ediv_of_nonneg (Int.pow_nonneg (by decide))]
  congr 1
  have : (4294967296 : Int) ^ (n / 32) = 2 ^ (32 * (n / 32)) := by rw [Int.pow_mul]; rfl
  rw [this, ← Int.pow_add]
  congr 1; omega
end Go.Proofs.Ytcgkgcciogibkaa.Ma
/- The contract of the program's lowered. -/
set_option linter.unusedVariables false
set_option linter.unusedSimpArgs false
namespace Go.Proofs.Ytcgkgcciogibkaa
open Go.RowKit Ma

/-- What a round of 'lowered' leaves. -/
structure LwAt (ys : List Int) (r m k : Nat) (zs : List Int) : Prop where
  le : k ≤ m
  len : zs.length = m + 1
  dg : dg b32 zs
  done : ∀ j, j < k → at0 zs j = ((at0 ys (j + 1) * 4294967296 + at0 ys j) / 2 ^ r) % 4294967296
  rest : ∀ j, k ≤ j → at0 zs j = at0 ys j
theorem LwAt.step {ys : List Int} {r m k : Nat} {zs : List Int} (h : LwAt ys r m k zs) (hk : k < m) : LwAt ys r m (k + 1) (zs.set k (((at0 ys (k + 1) * 4294967296 + at0 ys k) / 2 ^ r) % 4294967296)) := by
  obtain ⟨h1, h2, h3, h4, h5⟩ := h
  refine ⟨by omega, by simp [h2], dg_set h3 _ (Int.emod_nonneg _ (by decide)) (by rw [b32_eq]; exact Int.emod_lt_of_pos _ (by decide)), fun j hj => ?_, fun j hj => ?_⟩
  · rw [at0_set _ _ _ _ (by omega)]
    by_cases e : j = k
    · rw [if_pos e, e]
    · rw [if_neg e]; exact h4 j (by omega)
  · rw [at0_set _ _ _ _ (by omega), if_neg (by omega)]; exact h5 j (by omega)

theorem clone_lo {A : Option Addr} {l c : Nat} {xs : List Int} {w : World} (e : l = xs.length) (rA : Rd w .u32 A xs) (hl : xs.length ≤ 1000000) :
    Calls Try.prog 112 #[.slice A l c] w (Ret w (fun v W => Own W w.heap.size 92 .u32 v xs)) := by
  subst e; exact clone_o A c xs w rA hl
set_option maxHeartbeats 3200000 in
set_option maxRecDepth 100000 in
theorem lowered_c {A : Option Addr} {l c n : Nat} {xs : List Int} {w : World} (e : l = xs.length) (rA : Rd w .u32 A xs) (hc : l ≤ c) (dx : dg b32 xs) (hl : l ≤ 500000) (hn : n ≤ 1000000000) :
    Calls Try.prog 123 #[.slice A l c, .int .i64 n] w (Ret w (KL .u32 fun zs => dg b32 zs ∧ lv b32 zs = lv b32 xs / 2 ^ n ∧ zs.length ≤ l)) := by
  subst e
  obtain ⟨i0, hi, hz0, hz1, hz2⟩ := info_parts info_u32
  obtain ⟨q, hq⟩ : ∃ q : Nat, q = n / 32 := ⟨_, rfl⟩
  obtain ⟨r, hr⟩ : ∃ r : Nat, r = n % 32 := ⟨_, rfl⟩
  have eq' : ((n : Int) / 32) = (q : Int) := by omega
  have er' : ((n : Int) % 32) = (r : Int) := by omega
  have hr32 : r < 32 := by omega
  have HQ := Lib.hid hq
  have HR := Lib.hid hr
  by_cases hlt : q < xs.length
  · obtain ⟨ad, hA, hcell⟩ := rA.addr (by omega)
    subst hA
    have hqc : q < c := by omega
    have hd : Rd w .u32 (some (ad.add q)) (xs.drop q) := by
      refine ⟨by have := rA.1; simp; omega, fun i hi => ⟨_, rfl, ?_⟩⟩
      rw [Addr.add_add, hcell (q + i) (by simp at hi; omega)]
      simp only [at0, List.getD_eq_getElem?_getD, List.getElem?_drop]
    have HD := Lib.hid hd
    have HI := Lib.hid (And.intro hi (And.intro hz0 (And.intro hz1 hz2)))
    clear hq hr hd hi hz0 hz1 hz2
    go_enter Try.func123, Try.ntmps123
    obtain ⟨m, hm⟩ : ∃ m : Nat, m = xs.length - q := ⟨_, rfl⟩
    have hml : (xs.drop q).length = m := by simp; omega
    have hmp : 0 < m := by omega
    have hm5 : m ≤ 500000 := by omega
    obtain ⟨ys, hys⟩ : ∃ ys, ys = xs.drop q ++ [(0 : Int)] := ⟨_, rfl⟩
    have dy : dg b32 ys := by rw [hys]; exact dg_append.2 ⟨dg_drop dx q, fun x hx => by rw [List.mem_singleton] at hx; rw [hx]; decide⟩
    have hyl : ys.length = m + 1 := by rw [hys]; simp; omega
    have HYS := Lib.hid hys
    have HYL := Lib.hid hyl
    have HML := Lib.hid hml
    have HM := Lib.hid hm
    clear hys hyl hml hm
    go_wp2_with fail
    refine (clone_lo (by simp) HD.out (by have := HML.out; omega)).mono ?_
    rintro e w1 ⟨_, rfl, ho, hb1⟩
    rw [← HM.out]
    have HO1 := Lib.hid ho
    clear ho
    go_wp2_with (at_builtin; refine wpList_append_own _ rfl (.tmp 15) (.tmp 16) 22 rfl w.heap.size 92 i0 (.int .u32 0) 1 4 Try.underlying22 HI.out.1 HI.out.2.1 HI.out.2.2.1 HI.out.2.2.2 rfl (by decide) _ _ _ rfl (HO1.out.alloc _) ⟨w1.heap.size, 0, none⟩ 1 1 [.int .u32 0] rfl rfl ?c1 ?c2 ?c3 ?c4 ?c5 ?_)
    case c1 => intro j u hu; exact cell_one_new _ _ _ j u hu
    case c2 => simp [Value.oneCell']
    case c3 => unfold maxLen; have := HML.out; omega
    case c4 => have := HML.out; omega
    case c5 => have := Nw.size hb1; simp; omega
    intro v1 w2 hown2 hgrow2 _
    have n2 : Nw w w2 := Below.grown (Nw.alloc hb1 _) hgrow2 (Nw.alloc hb1 _).size (fun g hg => (World.ownsRow.lt HO1.out g hg).1)
    have own2 : Own w2 w.heap.size 92 .u32 v1 ys := Own.cast hown2 (by rw [HYS.out]; simp) (by rw [HYS.out]; simp)
    obtain ⟨g, cap, rfl⟩ := own2.some' (by intro e; have := HYL.out; rw [e] at this; simp at this)
    rw [HYL.out] at own2 ⊢
    have OWN2 := Lib.hid own2
    clear hown2 hgrow2 own2
    go_wp2
    clear hcell
    go_loopw [5, 21] (fun _ ci wr => ∃ (k : Nat) (zs : List Int), ci = .int .i64 k ∧ Own wr w.heap.size 92 .u32 (.slice (some ⟨g, 0, none⟩) (m + 1) cap) zs ∧ LwAt ys r m k zs ∧ Nw w wr)
      (fun _ ci _ => m - (intOf ci).toNat)
    case atStart => exact ⟨0, ys, rfl, OWN2.out, ⟨by omega, HYL.out, dy, fun j hj => by omega, fun j _ => rfl⟩, n2⟩
    case round =>
      obtain ⟨k, zs, rfl, ho, hs, hn⟩ := hrel
      have hkle := hs.le
      by_cases hk : k < m
      · have ca := ho.cellAt (i := k) (by rw [hs.len]; omega) hs.len.symm
        have cb := ho.cellAt (i := k + 1) (by rw [hs.len]; omega) hs.len.symm
        have fa := ho.frozenAt hs.len.symm k
        rw [hs.rest k (Nat.le_refl _)] at ca
        rw [hs.rest (k + 1) (by omega)] at cb
        have hst := hs.step hk
        have HLEN := Lib.hid hs.len
        have HO := Lib.hid ho
        have HST := Lib.hid hst
        have a0 := dg_at dy (by decide) k
        have a1 := dg_at dy (by decide) (k + 1)
        rw [b32_eq] at a0 a1
        obtain ⟨a0, a0'⟩ := a0
        obtain ⟨a1, a1'⟩ := a1
        have hjo := join32 (at0 ys (k + 1)) (at0 ys k) ⟨a1, a1'⟩ ⟨a0, a0'⟩
        have hk0 : (0 : Int) ≤ (k : Int) := by omega
        have hk1 : (k : Int) < (m : Int) + 1 := by omega
        have hw1 : IntKind.i64.wrap ((k : Int) + 1) = (k : Int) + 1 := IntWalk.i64_in _ (by omega)
        clear hs hst ho
        go_wp2
        go_region
        go_wp2
        exact ⟨⟨k + 1, _, by go_num, World.ownsRow.drew (HO.out.set HLEN.out.symm k _), HST.out, (hn.set (by have := HO.out.ge; simpa using this) _).drew⟩, by simp [intOf]; omega⟩
      · have hke : k = m := by omega
        have hlz := lv_digits (b := b32) (V := lv b32 ys / 2 ^ r) (by decide) (zs := zs) m (by rw [hs.len]; omega) (fun j hj => by
          rw [hs.done j (by omega)]
          exact low_digit dy hr32 (by rw [HYL.out]; omega))
        have hys0 : lv b32 ys = lv b32 (xs.drop q) := by rw [HYS.out, lv_snoc]; simp
        have hp : (0 : Int) < 2 ^ r := Int.pow_pos (by decide)
        have h0 := lv_nonneg (b := b32) (by decide) (dg_drop dx q)
        have h1 := lv_lt (b := b32) (by decide) (dg_drop dx q)
        rw [HML.out] at h1
        have h2 : lv b32 (xs.drop q) / 2 ^ r ≤ lv b32 (xs.drop q) := Int.ediv_le_self _ h0
        have h3 : 0 ≤ lv b32 (xs.drop q) / 2 ^ r := Int.ediv_nonneg h0 (by omega)
        rw [hys0, Int.emod_eq_of_lt h3 (by omega)] at hlz
        have hfin : lv b32 (zs.take m) = lv b32 xs / 2 ^ n := by
          rw [hlz]
          have := low_split dx (n := n) (by have := HQ.out; omega)
          rw [HQ.out, HR.out]
          exact this.symm
        have hown := ho.take hs.len.symm m (by omega)
        have HF := Lib.hid (⟨dg_take hs.dg m, hfin, Nat.le_trans (List.length_take_le m zs) (by have := HM.out; omega)⟩ : dg b32 (zs.take m) ∧ lv b32 (zs.take m) = lv b32 xs / 2 ^ n ∧ (zs.take m).length ≤ xs.length)
        have HOWN := Lib.hid hown
        have hmc : m ≤ cap := by have := ho.rdg; omega
        clear hke hlz hys0 h0 h1 h2 h3 hfin hown hs ho
        go_wp2
        go_ret
        exact Ret.own HOWN.out HF.out hn
  · have hz : lv b32 xs / 2 ^ n = 0 := low_zero (lv_nonneg (b := b32) (by decide) dx) (lv_lt (b := b32) (by decide) dx) (by omega)
    have HZ := Lib.hid hz
    clear hq hr hz
    go_enter Try.func123, Try.ntmps123
    go_wp2
    go_ret
    exact Ret.L (zs := []) (Rd.nil _ _ _) (Nat.le_refl _) ⟨dg_nil _, by rw [HZ.out]; rfl, Nat.zero_le _⟩ (Nw.refl w)
end Go.Proofs.Ytcgkgcciogibkaa
/- The contract of the program's shift. -/
set_option linter.unusedVariables false
set_option linter.unusedSimpArgs false
namespace Go.Proofs.Ytcgkgcciogibkaa
open Go.RowKit Ma

/-- x times 2^n, rounded down. -/
def sh (x n : Int) : Int := if 0 ≤ n then x * 2 ^ n.toNat else x / 2 ^ (-n).toNat
theorem shr_neg (x : Int) (k : Nat) : -1 - ((-1 - x) / 2 ^ k) = x / 2 ^ k := by
  have hp : (0 : Int) < 2 ^ k := Int.pow_pos (by decide)
  have a := Int.mul_ediv_add_emod x (2 ^ k)
  have b := Int.emod_nonneg x (Int.ne_of_gt hp)
  have c := Int.emod_lt_of_pos x hp
  have d : -1 - x = (2 ^ k - 1 - x % 2 ^ k) + 2 ^ k * (-1 - x / 2 ^ k) := by rw [Int.mul_sub, Int.mul_neg]; omega
  rw [d, Int.add_mul_ediv_left _ _ (Int.ne_of_gt hp), Int.ediv_eq_zero_of_lt (by omega) (by omega)]
  omega
theorem sg_mul (n : Bool) (a p : Int) : sg n (a * p) = sg n a * p := by cases n <;> simp [sg, Int.neg_mul]

set_option maxHeartbeats 3200000 in
set_option maxRecDepth 100000 in
theorem shl_c {x : Int} {n : Bool} {A : Option Addr} {l c k : Nat} {w : World} (hx : RI w n A l c x) (hl : l ≤ 400000) (hk : k ≤ 1000000) :
    Calls Try.prog 103 #[.agg #[.bool n, .slice A l c], .int .i64 k] w (Ret w (KI (x * 2 ^ k))) := by
  have nw1 : Nw w ((w.alloc (.cells #[.bool n, .slice A l c] 28)).alloc (.cells #[.bool false, .slice none 0 0] 28)) := ((Nw.refl w).alloc _).alloc _
  have sg0 : Sg [(w.heap.size, 0, Value.bool n), (w.heap.size, 1, Value.slice A l c)] (w.heap.size + 1) 2 ((w.alloc (.cells #[.bool n, .slice A l c] 28)).alloc (.cells #[.bool false, .slice none 0 0] 28)) := by
    refine ⟨⟨by go_simp, by go_simp, trivial⟩, ?_, by go_simp⟩
    have := box_two (w.alloc (.cells #[.bool n, .slice A l c] 28)) 28 false none 0 0
    simpa using this
  obtain ⟨xs, rfl, hc, rA, dx, tx, nx, rfl⟩ := hx
  have RA := Lib.hid (rA.kept nw1.kept)
  have SG := Lib.hid sg0
  clear rA
  go_enter Try.func103, Try.ntmps103
  go_wp2
  have n1 : Nw w _ := (nw1).drew
  have hw : w.heap.size ≤ w.heap.size + 1 := by omega
  refine region_std [(w.heap.size, 0, Value.bool n), (w.heap.size, 1, Value.slice A xs.length c)] (w.heap.size + 1) 2 7 [(5, KL .u32 (fun zs => dg b32 zs ∧ lv b32 zs = lv b32 xs * 2 ^ k ∧ zs.length ≤ xs.length + k / 32 + 1)), (6, KI (sg n (lv b32 xs * 2 ^ k))), (7, KB (w.heap.size + 1) (sg n (lv b32 xs * 2 ^ k)))] (by kernel_rfl) (by kernel_rfl) (by kernel_rfl) (by kernel_rfl) ?_ ⟨.inr (KL.st _ _), .inr (KI.st _), .inl rfl, trivial⟩ (SG.out.nw (Nw.refl _).drew) ?_
  · first | trivial | (simp only [Low, and_true]; omega)
  repeat
    apply Rg.wpK_quiet rfl rfl
    case hq => intro W hS; obtain ⟨⟨q1, q2, _⟩, _⟩ := hS; go_simp; exact rfl
    case he => exact (by simp only [Act.put, List.setIfInBounds_toArray, List.set_cons_zero, List.set_cons_succ]; exact rfl)
  apply Rg.wpK_know rfl rfl
  case ha =>
    intro W hR hS hF
    have hn := n1.rr hR hw
    obtain ⟨⟨q1, q2, _⟩, hB, hr⟩ := hS
    unfold Rg.gives
    go_simp
    exact Rg.gives_enter (call_inr (raised_c rfl ((RA.out.kept (Nw.refl _).drew.kept).kept hR.2.1) dx (by omega) hk) hr)
  intro u hu
  obtain ⟨W0, hw1, hw2, hf⟩ := hu
  obtain ⟨zs, C5, c5, e0, hx⟩ := Rg.upd_at rfl (hf 5)
  obtain ⟨l5, e1⟩ : ∃ n, n = zs.length := ⟨_, rfl⟩
  rw [← e1] at e0
  subst e0
  clear hx e1
  have hx := trivial
  refine ⟨_, (by simp only [Act.put, List.setIfInBounds_toArray, List.set_cons_zero, List.set_cons_succ]; exact rfl), ?_⟩
  clear hf hw1 hw2 hx W0
  repeat
    apply Rg.wpK_quiet rfl rfl
    case hq => intro W hS; obtain ⟨⟨q1, q2, _⟩, _⟩ := hS; go_simp; exact rfl
    case he => exact (by simp only [Act.put, List.setIfInBounds_toArray, List.set_cons_zero, List.set_cons_succ]; exact rfl)
  apply Rg.wpK_know rfl rfl
  case ha =>
    intro W hR hS hF
    have hn := n1.rr hR hw
    obtain ⟨⟨q1, q2, _⟩, hB, hr⟩ := hS
    have h5 := KL.slice (Rg.upd_at rfl (hF 5 (by kernel_rfl)))
    obtain ⟨z5, e5, hc5, r5, p5⟩ := h5
    subst e5
    unfold Rg.gives
    go_simp
    exact Rg.gives_enter (call_inr (ret_eq (made_l rfl n r5 hc5 p5.1) (by rw [p5.2.1])) hr)
  intro u hu
  obtain ⟨W0, hw1, hw2, hf⟩ := hu
  obtain ⟨m6, D6, l6, c6, rfl, hx⟩ := Rg.upd_at rfl (hf 6)
  refine ⟨_, (by simp only [Act.put, List.setIfInBounds_toArray, List.set_cons_zero, List.set_cons_succ]; exact rfl), ?_⟩
  clear hf hw1 hw2 hx W0
  repeat
    apply Rg.wpK_quiet rfl rfl
    case hq => intro W hS; obtain ⟨⟨q1, q2, _⟩, _⟩ := hS; go_simp; exact rfl
    case he => exact (by simp only [Act.put, List.setIfInBounds_toArray, List.set_cons_zero, List.set_cons_succ]; exact rfl)
  apply Rg.wpK_know rfl rfl
  case ha =>
    intro W hR hS hF
    have hn := n1.rr hR hw
    obtain ⟨⟨q1, q2, _⟩, hB, hr⟩ := hS
    have i6 := KI.agg (Rg.upd_at rfl (hF 6 (by kernel_rfl)))
    obtain ⟨⟨v0, hv0, hn0⟩, hf0⟩ := hB 0 (by omega)
    obtain ⟨⟨v1, hv1, hn1⟩, hf1⟩ := hB 1 (by omega)
    unfold Rg.gives
    go_simp
    exact Rg.gives_skip (store_I hB i6)
  intro u hu
  obtain ⟨W0, hw1, hw2, hf⟩ := hu
  have hx := trivial
  refine ⟨_, (by simp only [Act.put, List.setIfInBounds_toArray, List.set_cons_zero, List.set_cons_succ]; exact rfl), ?_⟩
  clear hf hw1 hw2 hx W0
  repeat
    apply Rg.wpK_quiet rfl rfl
    case hq => intro W hS; obtain ⟨⟨q1, q2, _⟩, _⟩ := hS; go_simp; exact rfl
    case he => exact (by simp only [Act.put, List.setIfInBounds_toArray, List.set_cons_zero, List.set_cons_succ]; exact rfl)
  refine Rg.wpK_end fun w9 hR hS hF => ?_
  have hn := n1.rr hR hw
  obtain ⟨m', D', l', c', hc0, hc1, hi⟩ := Rg.upd_at rfl (hF 7)
  go_wp2
  exact bodyPost_ret (v := .agg #[.bool m', .slice D' l' c']) (by simp [results, Try.results103, go_sem, hc0, hc1]) rfl (Ret.I (RI.eq hi (sg_mul _ _ _)) hn)
end Go.Proofs.Ytcgkgcciogibkaa
/- Bits of whole numbers: sums, fields and deposits (no program in sight). -/
set_option linter.unusedVariables false
set_option linter.unusedSimpArgs false
namespace Go.Proofs.Ytcgkgcciogibkaa
open Go.RowKit Ma

theorem tb_zero (i : Nat) : tb 0 i = false := by unfold tb; simp
theorem tb_compl (z : Int) (i : Nat) : tb (-1 - z) i = !tb z i := by
  unfold tb
  have h : (-1 - z) / 2 ^ i = -1 - z / 2 ^ i := by have := shr_neg (-1 - z) i; rw [show -1 - (-1 - z) = z by omega] at this; omega
  rw [h]
  by_cases e : z / 2 ^ i % 2 = 1
  · rw [decide_eq_true e, decide_eq_false (by omega)]; rfl
  · rw [decide_eq_false e, decide_eq_true (by omega)]; rfl
theorem tb_negone (i : Nat) : tb (-1) i = true := by have := tb_compl 0 i; rw [tb_zero] at this; simpa using this
theorem tb_bit0 (z : Int) (b : Bool) : tb (2 * z + (if b then 1 else 0)) 0 = b := by
  unfold tb
  cases b <;> simp <;> omega
theorem tb_bits (z : Int) (b : Bool) (i : Nat) : tb (2 * z + (if b then 1 else 0)) (i + 1) = tb z i := by
  rw [Nat.add_comm, tb_shift]
  congr 1
  cases b <;> simp <;> omega
/-- Bits that are all alike from somewhere on are those of a number. -/
theorem ex_bits : ∀ (m : Nat) (c : Nat → Bool), (∀ i, m ≤ i → c i = c m) → ∃ z : Int, ∀ i, tb z i = c i
  | 0, c, h => by
    cases hc : c 0
    · exact ⟨0, fun i => by rw [tb_zero, h i (Nat.zero_le _), hc]⟩
    · exact ⟨-1, fun i => by rw [tb_negone, h i (Nat.zero_le _), hc]⟩
  | m + 1, c, h => by
    obtain ⟨z, hz⟩ := ex_bits m (fun i => c (i + 1)) (fun i hi => h (i + 1) (by omega))
    refine ⟨2 * z + (if c 0 then 1 else 0), fun i => ?_⟩
    cases i with
    | zero => exact tb_bit0 z (c 0)
    | succ i => rw [tb_bits]; exact hz i
theorem tb_const (z : Int) : ∃ m : Nat, ∀ i, m ≤ i → tb z i = decide (z < 0) := by
  have h := nat_lt_pow2 z.natAbs
  exact ⟨z.natAbs, fun i hi => tb_high (by omega) (by omega) hi⟩
theorem bo_tb (op x y : Int) (i : Nat) : tb (bo op x y) i = ch op (tb x i) (tb y i) := by
  obtain ⟨m, hm⟩ := tb_const x
  obtain ⟨k, hk⟩ := tb_const y
  obtain ⟨z, hz⟩ := ex_bits (max m k) (fun i => ch op (tb x i) (tb y i)) (fun i hi => by
    show ch op _ _ = ch op _ _
    rw [hm i (by omega), hk i (by omega), hm (max m k) (by omega), hk (max m k) (by omega)])
  rw [← bo_eq hz]
  exact hz i
theorem ch6 (a b : Bool) : ch 6 a b = (a ^^ b) := by cases a <;> cases b <;> decide
theorem ch8 (a b : Bool) : ch 8 a b = (a && b) := by cases a <;> cases b <;> decide
theorem zero_of_mods {d : Int} (h : ∀ n : Nat, d % 2 ^ n = 0) : d = 0 := by
  have h1 := nat_lt_pow2 d.natAbs
  have h2 := Int.dvd_of_emod_eq_zero (h d.natAbs)
  by_cases h0 : d = 0
  · exact h0
  · obtain ⟨q, hq⟩ := h2
    have hq0 : q ≠ 0 := by intro e; rw [e, Int.mul_zero] at hq; exact h0 hq
    have h3 : d.natAbs = (2 ^ d.natAbs : Int).natAbs * q.natAbs := by
      have := congrArg Int.natAbs hq
      rw [Int.natAbs_mul] at this
      exact this
    have h4 : 1 ≤ q.natAbs := by omega
    have h5 : (2 ^ d.natAbs : Int).natAbs * 1 ≤ (2 ^ d.natAbs : Int).natAbs * q.natAbs := Nat.mul_le_mul_left _ h4
    omega
theorem bits_sum (x y : Int) : x + y = bo 6 x y + 2 * bo 8 x y := by
  have key : ∀ n : Nat, x % 2 ^ n + y % 2 ^ n = bo 6 x y % 2 ^ n + 2 * (bo 8 x y % 2 ^ n) := by
    intro n
    induction n with
    | zero => simp
    | succ n ih =>
      rw [mod_succ x, mod_succ y, mod_succ (bo 6 x y), mod_succ (bo 8 x y), bo_tb, bo_tb, ch6, ch8]
      cases tb x n <;> cases tb y n <;> simp <;> omega
  have : x + y - (bo 6 x y + 2 * bo 8 x y) = 0 := by
    apply zero_of_mods
    intro n
    have hp : (0 : Int) < 2 ^ n := Int.pow_pos (by decide)
    have k := key n
    have e1 := Int.mul_ediv_add_emod x (2 ^ n)
    have e2 := Int.mul_ediv_add_emod y (2 ^ n)
    have e3 := Int.mul_ediv_add_emod (bo 6 x y) (2 ^ n)
    have e4 := Int.mul_ediv_add_emod (bo 8 x y) (2 ^ n)
    have : x + y - (bo 6 x y + 2 * bo 8 x y) = 2 ^ n * (x / 2 ^ n + y / 2 ^ n - bo 6 x y / 2 ^ n - 2 * (bo 8 x y / 2 ^ n)) := by
      rw [Int.mul_sub, Int.mul_sub, Int.mul_add, ← Int.mul_assoc, Int.mul_comm _ 2, Int.mul_assoc]
      omega
    rw [this]
    exact Int.mul_emod_right _ _
  omega
/-- The sum of numbers that share no bit. -/
theorem tb_or {a b : Int} (h : ∀ i, (tb a i && tb b i) = false) (i : Nat) : tb (a + b) i = (tb a i || tb b i) := by
  have h0 : bo 8 a b = 0 := tb_ext fun i => by rw [bo_tb, ch8, h, tb_zero]
  rw [bits_sum, h0, Int.mul_zero, Int.add_zero, bo_tb, ch6]
  have := h i
  clear h h0
  revert this
  cases tb a i <;> cases tb b i <;> simp
theorem tb_mul_pow (z : Int) (p i : Nat) : tb (z * 2 ^ p) i = if i < p then false else tb z (i - p) := by
  by_cases h : i < p
  · rw [if_pos h, Int.mul_comm]
    have := tb_add_mul 0 z h
    rw [Int.zero_add, tb_zero] at this
    exact this
  · rw [if_neg h]
    have e : i = p + (i - p) := by omega
    have hp : (2 : Int) ^ p ≠ 0 := Int.ne_of_gt (Int.pow_pos (by decide))
    rw [e, tb_shift, Int.mul_ediv_cancel _ hp, show p + (i - p) - p = i - p by omega]
theorem tb_ones (k i : Nat) : tb (2 ^ k - 1) i = decide (i < k) := by
  by_cases h : i < k
  · have e : (2 : Int) ^ k - 1 = -1 + 2 ^ k * 1 := by omega
    rw [e, tb_add_mul _ _ h, tb_negone, decide_eq_true h]
  · have hp : (0 : Int) < 2 ^ k := Int.pow_pos (by decide)
    rw [tb_high (m := k) (by omega) (by omega) (by omega), decide_eq_false (by omega), decide_eq_false h]
theorem sh_up (x : Int) (p : Nat) : sh x (p : Int) = x * 2 ^ p := by unfold sh; rw [if_pos (by omega)]; rfl
theorem sh_down (x : Int) (p : Nat) : sh x (-(p : Int)) = x / 2 ^ p := by
  unfold sh
  by_cases h : p = 0
  · subst h; simp
  · rw [if_neg (by omega)]; simp
theorem tb_sh_up (x : Int) (p i : Nat) : tb (sh x (p : Int)) i = if i < p then false else tb x (i - p) := by rw [sh_up, tb_mul_pow]
theorem tb_sh_down (x : Int) (p i : Nat) : tb (sh x (-(p : Int))) i = tb x (p + i) := by rw [sh_down, ← tb_shift]

/-- Field and Deposit. -/
noncomputable def fld (x : Int) (k p : Nat) : Int := bo 8 (sh x (-(p : Int))) (2 ^ k - 1)
noncomputable def dep (x y : Int) (k p : Nat) : Int := bo 8 x (-1 - sh (2 ^ k - 1) (p : Int)) + sh (bo 8 y (2 ^ k - 1)) (p : Int)
theorem tb_fld (x : Int) (k p i : Nat) : tb (fld x k p) i = (decide (i < k) && tb x (p + i)) := by
  unfold fld; rw [bo_tb, ch8, tb_sh_down, tb_ones, Bool.and_comm]
theorem tb_dep (x y : Int) (k p i : Nat) : tb (dep x y k p) i = if p ≤ i ∧ i < p + k then tb y (i - p) else tb x i := by
  have hA : ∀ i, tb (bo 8 x (-1 - sh (2 ^ k - 1) (p : Int))) i = if p ≤ i ∧ i < p + k then false else tb x i := by
    intro i
    rw [bo_tb, ch8, tb_compl, tb_sh_up]
    by_cases h1 : i < p
    · rw [if_pos h1, if_neg (by omega)]; simp
    · rw [if_neg h1, tb_ones]
      by_cases h2 : i < p + k
      · rw [if_pos ⟨by omega, h2⟩, decide_eq_true (by omega)]; simp
      · rw [if_neg (by omega), decide_eq_false (by omega)]; simp
  have hB : ∀ i, tb (sh (bo 8 y (2 ^ k - 1)) (p : Int)) i = if p ≤ i ∧ i < p + k then tb y (i - p) else false := by
    intro i
    rw [tb_sh_up]
    by_cases h1 : i < p
    · rw [if_pos h1, if_neg (by omega)]
    · rw [if_neg h1, bo_tb, ch8, tb_ones]
      by_cases h2 : i < p + k
      · rw [if_pos ⟨by omega, h2⟩, decide_eq_true (by omega)]; simp
      · rw [if_neg (by omega), decide_eq_false (by omega)]; simp
  unfold dep
  rw [tb_or (fun i => by rw [hA, hB]; split <;> simp), hA, hB]
  split <;> simp
end Go.Proofs.Ytcgkgcciogibkaa
/- The contract of the program's shift, every way. -/
set_option linter.unusedVariables false
set_option linter.unusedSimpArgs false
namespace Go.Proofs.Ytcgkgcciogibkaa
open Go.RowKit Ma

set_option maxHeartbeats 1600000 in
set_option maxRecDepth 100000 in
theorem shr0_c {x i : Int} {A : Option Addr} {l c : Nat} {w : World} (hx : RI w false A l c x) (hl : l ≤ 400000) (h0 : i < 0) (h1 : -9223372036854775808 ≤ i) :
    Calls Try.prog 103 #[.agg #[.bool false, .slice A l c], .int .i64 i] w (Ret w (KI (x / 2 ^ (-i).toNat))) := by
  have nw1 : Nw w ((w.alloc (.cells #[.bool false, .slice A l c] 28)).alloc (.cells #[.bool false, .slice none 0 0] 28)) := ((Nw.refl w).alloc _).alloc _
  have sg0 : Sg [(w.heap.size, 0, Value.bool false), (w.heap.size, 1, Value.slice A l c)] (w.heap.size + 1) 2 ((w.alloc (.cells #[.bool false, .slice A l c] 28)).alloc (.cells #[.bool false, .slice none 0 0] 28)) := by
    refine ⟨⟨by go_simp, by go_simp, trivial⟩, ?_, by go_simp⟩
    have := box_two (w.alloc (.cells #[.bool false, .slice A l c] 28)) 28 false none 0 0
    simpa using this
  have SG := Lib.hid sg0
  obtain ⟨xs, rfl, hc, rA, dx, tx, nx, rfl⟩ := hx
  have hn := lv_nonneg (b := b32) (by decide) dx
  have hlt := lv_lt (b := b32) (by decide) dx
  have hw3 : IntKind.i64.wrap (-32 * (xs.length : Int)) = -32 * (xs.length : Int) := IntWalk.i64_in _ (by omega)
  have RA := Lib.hid (rA.kept nw1.kept)
  have HD := Lib.hid (⟨dx, hc⟩ : _ ∧ _)
  by_cases hbig : i < -32 * (xs.length : Int)
  · have hz : (0 : Int) = sg false (lv b32 xs) / 2 ^ (-i).toNat := (low_zero hn hlt (by omega)).symm
    have HZ := Lib.hid hz
    clear rA hn hlt hz dx tx nx hc
    go_enter Try.func103, Try.ntmps103
    go_wp2
    exact bodyPost_ret (v := .agg #[.bool false, .slice none 0 0]) (by simp [results, Try.results103, go_sem]) rfl ⟨_, rfl, ⟨_, _, _, _, rfl, (RI.zero _).eq HZ.out⟩, nw1⟩
  · obtain ⟨k, hk⟩ : ∃ k : Nat, (k : Int) = -i := ⟨(-i).toNat, by omega⟩
    have hw : IntKind.i64.wrap (-i) = k := by rw [IntWalk.i64_in _ (by omega)]; exact hk.symm
    have ek : (-i).toNat = k := by omega
    have hkb : k ≤ 1000000000 := by omega
    rw [ek]
    clear rA hn hlt dx tx nx hc hk ek
    go_enter Try.func103, Try.ntmps103
    go_wp2_with (first
      | (go_at_call 123; refine (lowered_c rfl RA.out HD.out.2 HD.out.1 (by omega) hkb).mono ?_; rintro e w1 ⟨_, rfl, ⟨zs, C, cc, rfl, hcc, rC, dz, ez, lz⟩, hb⟩; have EZ := Lib.hid ez; clear ez)
      | (go_at_call 81; refine (made_c false C cc zs _ rC hcc dz).mono ?_; rintro e w2 ⟨_, rfl, ⟨m, D, l2, c2, rfl, hi⟩, hb2⟩; have b2 := ((SG.out.nw hb).nw hb2).2.1; obtain ⟨⟨v0, hv0, hn0⟩, hf0⟩ := b2 0 (by omega); obtain ⟨⟨v1, hv1, hn1⟩, hf1⟩ := b2 1 (by omega)))
    have hi' := hi.eq (z' := sg false (lv b32 xs) / 2 ^ k) EZ.out
    exact bodyPost_ret (v := .agg #[.bool m, .slice D l2 c2]) (by simp [results, Try.results103, go_sem, hv0, hv1]) rfl (Ret.I (hi'.kept (store_I b2 hi').1.2.1) (((nw1.trans hb).trans hb2).rr (store_I b2 hi').1 (by omega)))

set_option maxHeartbeats 1600000 in
set_option maxRecDepth 100000 in
theorem shr1_c {x i : Int} {A : Option Addr} {l c : Nat} {w : World} (hx : RI w true A l c x) (hl : l ≤ 400000) (h0 : i < 0) (h1 : -9223372036854775808 ≤ i) :
    Calls Try.prog 103 #[.agg #[.bool true, .slice A l c], .int .i64 i] w (Ret w (KI (x / 2 ^ (-i).toNat))) := by
  have nw1 : Nw w ((w.alloc (.cells #[.bool true, .slice A l c] 28)).alloc (.cells #[.bool false, .slice none 0 0] 28)) := ((Nw.refl w).alloc _).alloc _
  have sg0 : Sg [(w.heap.size, 0, Value.bool true), (w.heap.size, 1, Value.slice A l c)] (w.heap.size + 1) 2 ((w.alloc (.cells #[.bool true, .slice A l c] 28)).alloc (.cells #[.bool false, .slice none 0 0] 28)) := by
    refine ⟨⟨by go_simp, by go_simp, trivial⟩, ?_, by go_simp⟩
    have := box_two (w.alloc (.cells #[.bool true, .slice A l c] 28)) 28 false none 0 0
    simpa using this
  have SG := Lib.hid sg0
  have hx2 := hx.abs_lt
  have hs := hx.sign
  have hxn : x < 0 := by simpa using hs.symm
  have HX := Lib.hid (hx.kept nw1.kept)
  have hp : (0 : Int) < 2 ^ (-i).toNat := Int.pow_pos (by decide)
  have hb0 : 0 ≤ (-1 - x) / 2 ^ (-i).toNat := Int.ediv_nonneg (by omega) (by omega)
  have hb1 : (-1 - x) / 2 ^ (-i).toNat ≤ -1 - x := Int.ediv_le_self _ (by omega)
  have HB := Lib.hid (⟨hx2, hb0, hb1⟩ : _ ∧ _ ∧ _)
  have HE := Lib.hid (shr_neg x (-i).toNat)
  clear hx hx2 hs hp hb0 hb1
  go_enter Try.func103, Try.ntmps103
  go_wp2_with fail
  refine (complement_c HX.out hl).mono ?_
  rintro e w1 ⟨_, rfl, ⟨m1, D1, l1, c1, rfl, i1⟩, hb1⟩
  have hm1 : m1 = false := by rw [i1.sign]; simp; omega
  subst hm1
  have hl1 := i1.len_le l (by have := HB.out; omega) (by have := HB.out; omega)
  go_wp2_with fail
  refine (shr0_c i1 (by omega) h0 h1).mono ?_
  rintro e w2 ⟨_, rfl, ⟨m2, D2, l2, c2, rfl, i2⟩, hb2⟩
  have hl2 := i2.len_le l (by have := HB.out; omega) (by have := HB.out; omega)
  go_wp2_with fail
  refine (complement_c i2 (by omega)).mono ?_
  rintro e w3 ⟨_, rfl, ⟨m3, D3, l3, c3, rfl, i3⟩, hb3⟩
  have b2 := (((SG.out.nw hb1).nw hb2).nw hb3).2.1
  obtain ⟨⟨v0, hv0, hn0⟩, hf0⟩ := b2 0 (by omega)
  obtain ⟨⟨v1, hv1, hn1⟩, hf1⟩ := b2 1 (by omega)
  go_wp2
  have hi' := i3.eq HE.out
  exact bodyPost_ret (v := .agg #[.bool m3, .slice D3 l3 c3]) (by simp [results, Try.results103, go_sem, hv0, hv1]) rfl (Ret.I (hi'.kept (store_I b2 hi').1.2.1) ((((nw1.trans hb1).trans hb2).trans hb3).rr (store_I b2 hi').1 (by omega)))

/-- shift. -/
theorem shift_c {x i : Int} {n : Bool} {A : Option Addr} {l c : Nat} {w : World} (hx : RI w n A l c x) (hl : l ≤ 400000) (h1 : -9223372036854775808 ≤ i) (h2 : i ≤ 1000000) :
    Calls Try.prog 103 #[.agg #[.bool n, .slice A l c], .int .i64 i] w (Ret w (KI (sh x i))) := by
  by_cases h0 : 0 ≤ i
  · obtain ⟨k, rfl⟩ : ∃ k : Nat, i = k := ⟨i.toNat, by omega⟩
    have e : sh x (k : Int) = x * 2 ^ k := by unfold sh; rw [if_pos h0]; rfl
    rw [e]
    exact shl_c hx hl (by omega)
  · have e : sh x i = x / 2 ^ (-i).toNat := by unfold sh; rw [if_neg h0]
    rw [e]
    cases n
    · exact shr0_c hx hl (by omega) h1
    · exact shr1_c hx hl (by omega) h1
end Go.Proofs.Ytcgkgcciogibkaa
/- The contracts of the program's sized, ones, and, Field, Shift. -/
set_option linter.unusedVariables false
set_option linter.unusedSimpArgs false
namespace Go.Proofs.Ytcgkgcciogibkaa
open Go.RowKit Ma

/-- A number of so many bits has so many limbs. -/
theorem RI.bits_le {w : World} {n : Bool} {A : Option Addr} {l c : Nat} {z : Int} (h : RI w n A l c z) (m : Nat) (h1 : -(2 ^ m) ≤ z) (h2 : z ≤ 2 ^ m) : l ≤ m / 32 + 1 := by
  have e : (b32 : Int) ^ (m / 32 + 1) = 2 ^ (32 * (m / 32 + 1)) := by rw [b32_eq, Int.pow_mul]; rfl
  have p : (0 : Int) < 2 ^ m := Int.pow_pos (by decide)
  have q := pow_le (b := 2) (by decide) (show m + 1 ≤ 32 * (m / 32 + 1) by omega)
  rw [Int.pow_succ] at q
  exact h.len_le _ (by rw [e]; omega) (by rw [e]; omega)
/-- Are a size and a position right. -/
def sz (a b : Int) : Bool := decide (0 ≤ a) && decide (a ≤ 65536) && decide (0 ≤ b) && decide (b ≤ 65536)
set_option maxHeartbeats 800000 in
theorem sized_c {a b : Int} {w : World} : Calls Try.prog 106 #[.int .i64 a, .int .i64 b] w fun e w' => e = .returned (.bool (sz a b)) ∧ w = w' := by
  by_cases h1 : 0 ≤ a
  · by_cases h2 : a ≤ 65536
    · by_cases h3 : 0 ≤ b
      · by_cases h4 : b ≤ 65536
        · have HZ := Lib.hid (show sz a b = true by simp [sz, h1, h2, h3, h4])
          go_enter Try.func106, Try.ntmps106
          go_wp2
          go_ret
          exact ⟨ret_val (by rw [HZ.out]; rfl), rfl⟩
        · have HZ := Lib.hid (show sz a b = false by simp [sz, h1, h2, h3, h4])
          go_enter Try.func106, Try.ntmps106
          go_wp2
          go_ret
          exact ⟨ret_val (by rw [HZ.out]; rfl), rfl⟩
      · have HZ := Lib.hid (show sz a b = false by simp [sz, h1, h2, h3])
        go_enter Try.func106, Try.ntmps106
        go_wp2
        go_ret
        exact ⟨ret_val (by rw [HZ.out]; rfl), rfl⟩
    · have HZ := Lib.hid (show sz a b = false by simp [sz, h1, h2])
      go_enter Try.func106, Try.ntmps106
      go_wp2
      go_ret
      exact ⟨ret_val (by rw [HZ.out]; rfl), rfl⟩
  · have HZ := Lib.hid (show sz a b = false by simp [sz, h1])
    go_enter Try.func106, Try.ntmps106
    go_wp2
    go_ret
    exact ⟨ret_val (by rw [HZ.out]; rfl), rfl⟩

set_option maxHeartbeats 1600000 in
set_option maxRecDepth 100000 in
theorem ones_c {k : Nat} {w : World} (hk : k ≤ 65536) :
    Calls Try.prog 108 #[.int .i64 k] w (Ret w (KI (2 ^ k - 1))) := by
  have nw1 : Nw w (w.alloc (.cells #[.bool false, .slice none 0 0] 28)) := (Nw.refl w).alloc _
  have sg0 : Sg [] w.heap.size 2 (w.alloc (.cells #[.bool false, .slice none 0 0] 28)) := ⟨trivial, box_two w 28 false none 0 0, by go_simp⟩
  have hsh : sh 1 (k : Int) = 2 ^ k := by unfold sh; rw [if_pos (by omega), Int.one_mul]; rfl
  have hp : (0 : Int) < 2 ^ k := Int.pow_pos (by decide)
  have HP := Lib.hid (⟨hsh, hp⟩ : _ ∧ _)
  clear hsh hp
  go_enter Try.func108, Try.ntmps108
  go_wp2_with fail
  refine (new_c (x := 1) (by omega)).mono ?_
  rintro e w1 ⟨_, rfl, ⟨m1, D1, l1, c1, rfl, i1⟩, hb1⟩
  have hl1 := i1.len_le 1 (by decide) (by decide)
  go_wp2_with fail
  refine (shift_c i1 (by omega) (by omega) (by omega)).mono ?_
  rintro e w2 ⟨_, rfl, ⟨m2, D2, l2, c2, rfl, i2⟩, hb2⟩
  have hl2 := (i2.eq HP.out.1).bits_le k (by have := HP.out.2; omega) (Int.le_refl _)
  go_wp2_with fail
  refine (new_c (x := 1) (by omega)).mono ?_
  rintro e w3 ⟨_, rfl, ⟨m3, D3, l3, c3, rfl, i3⟩, hb3⟩
  have hl3 := i3.len_le 1 (by decide) (by decide)
  go_wp2_with fail
  refine (sub_c (i2.kept hb3.kept) i3 (by omega) (by omega)).mono ?_
  rintro e w4 ⟨_, rfl, ⟨m4, D4, l4, c4, rfl, i4⟩, hb4⟩
  have b2 := ((((sg0.nw hb1).nw hb2).nw hb3).nw hb4).2.1
  obtain ⟨⟨v0, hv0, hn0⟩, hf0⟩ := b2 0 (by omega)
  obtain ⟨⟨v1, hv1, hn1⟩, hf1⟩ := b2 1 (by omega)
  go_wp2
  have hi' := i4.eq (z' := 2 ^ k - 1) (by rw [HP.out.1])
  exact bodyPost_ret (v := .agg #[.bool m4, .slice D4 l4 c4]) (by simp [results, Try.results108, go_sem, hv0, hv1]) rfl (Ret.I (hi'.kept (store_I b2 hi').1.2.1) (((((nw1.trans hb1).trans hb2).trans hb3).trans hb4).rr (store_I b2 hi').1 (by omega)))
end Go.Proofs.Ytcgkgcciogibkaa
/- Boole's contract with a bound for its answer. -/
set_option linter.unusedVariables false
set_option linter.unusedSimpArgs false
namespace Go.Proofs.Ytcgkgcciogibkaa
open Go.RowKit Ma

theorem sx_bd (m : Nat) (v : Int) (h0 : 0 ≤ v) (h1 : v < b32 ^ m) : -(b32 ^ m) < sx m v ∧ sx m v < b32 ^ m := by
  have p := pos_pow (b := b32) (by decide) m
  unfold sx
  split <;> omega
theorem boole_b {x y : Int} {n m : Bool} {A B : Option Addr} {l l' c d : Nat} {w : World} {op : Int} (hx : RI w n A l c x) (hy : RI w m B l' d y) (hl : l ≤ 300000) (hl' : l' ≤ 300000) (ho : 0 ≤ op) (ho2 : op ≤ 15) :
    Calls Try.prog 17 #[.agg #[.bool n, .slice A l c], .int .i64 op, .agg #[.bool m, .slice B l' d]] w (Ret w (K2 (fun v W => KI (bo op x y) v W ∧ -(b32 ^ (max l l' + 1)) < bo op x y ∧ bo op x y < b32 ^ (max l l' + 1)) (KV (.int .i64 0)))) := by
  have bx := hx.abs_lt
  have by' := hy.abs_lt
  refine (boole_w hx hy hl hl' ho ho2).mono fun e w' ⟨v, e1, ⟨v1, v2, e2, ⟨us, vs, ts, N, hN, lu, lv', lt, du, dv, dt, eu, ev, ht, hk⟩, h2⟩, hb⟩ => ⟨v, e1, ⟨v1, v2, e2, ?_, h2⟩, hb⟩
  have p1 := pow_le (b := b32) (by decide) (show l ≤ N - 1 by omega)
  have p2 := pow_le (b := b32) (by decide) (show l' ≤ N - 1 by omega)
  have t0 := lv_nonneg (show (0 : Int) < b32 by decide) dt
  have t1 := lv_lt (show (0 : Int) < b32 by decide) dt
  rw [lt] at t1
  rw [← bo_eq (boole_law ho ho2 (by omega) lu lv' lt du dv dt eu ev ht (by omega) (by omega) (by omega) (by omega)), ← hN]
  exact ⟨hk, sx_bd N _ t0 t1⟩
end Go.Proofs.Ytcgkgcciogibkaa
/- The contracts of the program's and, Field, Shift. -/
set_option linter.unusedVariables false
set_option linter.unusedSimpArgs false
namespace Go.Proofs.Ytcgkgcciogibkaa
open Go.RowKit Ma

theorem sh_dn {x n : Int} (hn : n ≤ 0) : (0 ≤ x → 0 ≤ sh x n ∧ sh x n ≤ x) ∧ (x < 0 → x ≤ sh x n ∧ sh x n < 0) := by
  by_cases h0 : 0 ≤ n
  · have : n = 0 := by omega
    subst this
    have : sh x 0 = x := by unfold sh; simp
    rw [this]; omega
  · have e : sh x n = x / 2 ^ (-n).toNat := by unfold sh; rw [if_neg h0]
    rw [e]
    have hp : (0 : Int) < 2 ^ (-n).toNat := Int.pow_pos (by decide)
    refine ⟨fun h => ⟨Int.ediv_nonneg h (by omega), Int.ediv_le_self _ h⟩, fun h => ?_⟩
    have a := shr_neg x (-n).toNat
    have b : 0 ≤ (-1 - x) / 2 ^ (-n).toNat := Int.ediv_nonneg (by omega) (by omega)
    have c : (-1 - x) / 2 ^ (-n).toNat ≤ -1 - x := Int.ediv_le_self _ (by omega)
    omega
theorem sh_dn_len {w w' : World} {x n : Int} {a b : Bool} {A B : Option Addr} {l l' c d : Nat} (hx : RI w a A l c x) (hy : RI w' b B l' d (sh x n)) (hn : n ≤ 0) : l' ≤ l := by
  have h := hx.abs_lt
  obtain ⟨p, q⟩ := sh_dn (x := x) hn
  by_cases h0 : 0 ≤ x
  · have := p h0
    exact hy.len_le l (by omega) (by omega)
  · have := q (by omega)
    exact hy.len_le l (by omega) (by omega)
set_option maxHeartbeats 1600000 in
set_option maxRecDepth 100000 in
theorem and_b {x y : Int} {n m : Bool} {A B : Option Addr} {l l' c d : Nat} {w : World} (hx : RI w n A l c x) (hy : RI w m B l' d y) (hl : l ≤ 300000) (hl' : l' ≤ 300000) :
    Calls Try.prog 107 #[.agg #[.bool n, .slice A l c], .agg #[.bool m, .slice B l' d]] w (Ret w (fun v W => KI (bo 8 x y) v W ∧ -(b32 ^ (max l l' + 1)) < bo 8 x y ∧ bo 8 x y < b32 ^ (max l l' + 1))) := by
  have nw1 : Nw w (((w.alloc (.cells #[.bool n, .slice A l c] 28)).alloc (.cells #[.bool m, .slice B l' d] 28)).alloc (.cells #[.bool false, .slice none 0 0] 28)) := (((Nw.refl w).alloc _).alloc _).alloc _
  have bx0 : Box (w.heap.size + 1 + 1) 2 (((w.alloc (.cells #[.bool n, .slice A l c] 28)).alloc (.cells #[.bool m, .slice B l' d] 28)).alloc (.cells #[.bool false, .slice none 0 0] 28)) := by
    have := box_two ((w.alloc (.cells #[.bool n, .slice A l c] 28)).alloc (.cells #[.bool m, .slice B l' d] 28)) 28 false none 0 0
    simpa using this
  have HX := Lib.hid (hx.kept nw1.kept)
  have HY := Lib.hid (hy.kept nw1.kept)
  go_enter Try.func107, Try.ntmps107
  go_wp2_with fail
  refine (boole_b HX.out HY.out hl hl' (by decide) (by decide)).mono ?_
  rintro e w1 ⟨_, rfl, ⟨v1, v2, rfl, ⟨⟨m1, D1, l1, c1, rfl, i1⟩, hbd⟩, rfl⟩, hb1⟩
  have HBD := Lib.hid hbd
  clear hbd
  have na : Nw w1 (w1.alloc (.cells #[.bool m1, .slice D1 l1 c1] 28)) := (Nw.refl w1).alloc _
  have b2 := (bx0.below hb1).below na
  have I1 := Lib.hid (i1.kept na.kept)
  have NW := Lib.hid ((nw1.trans hb1).trans na)
  obtain ⟨⟨v0, hv0, hn0⟩, hf0⟩ := b2 0 (by omega)
  obtain ⟨⟨v1, hv1, hn1⟩, hf1⟩ := b2 1 (by omega)
  go_wp2
  exact bodyPost_ret (v := .agg #[.bool m1, .slice D1 l1 c1]) (by simp [results, Try.results107, go_sem, hv0, hv1]) rfl ⟨_, rfl, ⟨⟨_, _, _, _, rfl, I1.out.kept (store_I b2 I1.out).1.2.1⟩, HBD.out⟩, NW.out.rr (store_I b2 I1.out).1 (by omega)⟩

theorem and_c {x y : Int} {n m : Bool} {A B : Option Addr} {l l' c d : Nat} {w : World} (hx : RI w n A l c x) (hy : RI w m B l' d y) (hl : l ≤ 300000) (hl' : l' ≤ 300000) :
    Calls Try.prog 107 #[.agg #[.bool n, .slice A l c], .agg #[.bool m, .slice B l' d]] w (Ret w (KI (bo 8 x y))) :=
  (and_b hx hy hl hl').mono fun e w' ⟨v, e1, h, hb⟩ => ⟨v, e1, h.1, hb⟩

set_option maxHeartbeats 1600000 in
set_option maxRecDepth 100000 in
theorem field_1 {x a b : Int} {n : Bool} {A : Option Addr} {l c : Nat} {w : World} (hx : RI w n A l c x) (hs : sz a b = false) :
    Calls Try.prog 58 #[.agg #[.bool n, .slice A l c], .int .i64 a, .int .i64 b] w (Ret w (K2 (KI 0) (KV (.int .i64 1)))) := by
  have nw1 : Nw w ((w.alloc (.cells #[.bool n, .slice A l c] 28)).alloc (.cells #[.bool false, .slice none 0 0] 28)) := ((Nw.refl w).alloc _).alloc _
  have sg0 : Sg [(w.heap.size, 0, Value.bool n), (w.heap.size, 1, Value.slice A l c)] (w.heap.size + 1) 2 ((w.alloc (.cells #[.bool n, .slice A l c] 28)).alloc (.cells #[.bool false, .slice none 0 0] 28)) := by
    refine ⟨⟨by go_simp, by go_simp, trivial⟩, ?_, by go_simp⟩
    have := box_two (w.alloc (.cells #[.bool n, .slice A l c] 28)) 28 false none 0 0
    simpa using this
  have HS := Lib.hid hs
  clear hs
  go_enter Try.func58, Try.ntmps58
  go_wp2_with (go_at_call 106; refine (sized_c).mono ?_; rintro e w' ⟨rfl, rfl⟩; rw [HS.out])
  exact bodyPost_ret (v := .tuple #[.agg #[.bool false, .slice none 0 0], .int .i64 1]) (by simp [results, Try.results58, go_sem]) rfl ⟨_, rfl, ⟨_, _, rfl, ⟨_, _, _, _, rfl, RI.zero _⟩, rfl⟩, nw1⟩

theorem sz_bd {a b : Int} (h : sz a b = true) : 0 ≤ a ∧ a ≤ 65536 ∧ 0 ≤ b ∧ b ≤ 65536 := by
  simp [sz] at h; omega
set_option maxHeartbeats 1600000 in
set_option maxRecDepth 100000 in
theorem field_0 {x a b : Int} {n : Bool} {A : Option Addr} {l c : Nat} {w : World} (hx : RI w n A l c x) (hl : l ≤ 300000) (hs : sz a b = true) :
    Calls Try.prog 58 #[.agg #[.bool n, .slice A l c], .int .i64 a, .int .i64 b] w (Ret w (K2 (KI (bo 8 (sh x (-b)) (2 ^ a.toNat - 1))) (KV (.int .i64 0)))) := by
  have nw1 : Nw w ((w.alloc (.cells #[.bool n, .slice A l c] 28)).alloc (.cells #[.bool false, .slice none 0 0] 28)) := ((Nw.refl w).alloc _).alloc _
  have sg0 : Sg [(w.heap.size, 0, Value.bool n), (w.heap.size, 1, Value.slice A l c)] (w.heap.size + 1) 2 ((w.alloc (.cells #[.bool n, .slice A l c] 28)).alloc (.cells #[.bool false, .slice none 0 0] 28)) := by
    refine ⟨⟨by go_simp, by go_simp, trivial⟩, ?_, by go_simp⟩
    have := box_two (w.alloc (.cells #[.bool n, .slice A l c] 28)) 28 false none 0 0
    simpa using this
  have SG := Lib.hid sg0
  have HS := Lib.hid hs
  have HX := Lib.hid (hx.kept nw1.kept)
  have hbd := sz_bd hs
  have hw : IntKind.i64.wrap (-b) = -b := IntWalk.i64_in _ (by omega)
  obtain ⟨k, rfl⟩ : ∃ k : Nat, a = k := ⟨a.toNat, by omega⟩
  have hk : k ≤ 65536 := by omega
  have hb9 : -9223372036854775808 ≤ -b ∧ -b ≤ 0 := by omega
  have HB9 := Lib.hid hb9
  clear hs hx hbd hb9
  rw [Int.toNat_natCast]
  go_enter Try.func58, Try.ntmps58
  go_wp2_with (go_at_call 106; refine (sized_c).mono ?_; rintro e w' ⟨rfl, rfl⟩; rw [HS.out])
  refine (shift_c HX.out (by omega) HB9.out.1 (by have := HB9.out; omega)).mono ?_
  rintro e w1 ⟨_, rfl, ⟨m1, D1, l1, c1, rfl, i1⟩, hb1⟩
  have hl1 := sh_dn_len HX.out i1 HB9.out.2
  have I1 := Lib.hid i1
  clear i1
  go_wp2_with fail
  refine (ones_c hk).mono ?_
  rintro e w2 ⟨_, rfl, ⟨m2, D2, l2, c2, rfl, i2⟩, hb2⟩
  have hp : (0 : Int) < 2 ^ k := Int.pow_pos (by decide)
  have hl2 := i2.bits_le k (by omega) (by omega)
  clear hp
  have I2 := Lib.hid i2
  clear i2
  go_wp2_with fail
  refine (and_c (I1.out.kept hb2.kept) I2.out (by omega) (by omega)).mono ?_
  rintro e w3 ⟨_, rfl, ⟨m3, D3, l3, c3, rfl, i3⟩, hb3⟩
  have b2 := (((SG.out.nw hb1).nw hb2).nw hb3).2.1
  have I3 := Lib.hid i3
  have NW := Lib.hid (((nw1.trans hb1).trans hb2).trans hb3)
  clear i3
  obtain ⟨⟨v0, hv0, hn0⟩, hf0⟩ := b2 0 (by omega)
  obtain ⟨⟨v1, hv1, hn1⟩, hf1⟩ := b2 1 (by omega)
  go_wp2
  exact bodyPost_ret (v := .tuple #[.agg #[.bool m3, .slice D3 l3 c3], .int .i64 0]) (by simp [results, Try.results58, go_sem, hv0, hv1]) rfl ⟨_, rfl, ⟨_, _, rfl, ⟨_, _, _, _, rfl, I3.out.kept (store_I b2 I3.out).1.2.1⟩, rfl⟩, NW.out.rr (store_I b2 I3.out).1 (by omega)⟩
end Go.Proofs.Ytcgkgcciogibkaa
/- The contract of the program's Shift. -/
set_option linter.unusedVariables false
set_option linter.unusedSimpArgs false
namespace Go.Proofs.Ytcgkgcciogibkaa
open Go.RowKit Ma

theorem wid_len {w : World} {x : Int} {n : Bool} {A : Option Addr} {l c : Nat} (hx : RI w n A l c x) : wid (pat x) ≤ 32 * l := by
  have hb := hx.abs_lt
  apply wid_le_of
  rw [show (b32 : Int) ^ l = 2 ^ (32 * l) by rw [b32_eq, Int.pow_mul]; rfl] at hb
  unfold pat
  split <;> omega
/-- May x be shifted so far. -/
def shOk (x i : Int) : Prop := i ≤ 0 ∨ x = 0 ∨ (wid (pat x) : Int) + i ≤ 65536
set_option maxHeartbeats 1600000 in
set_option maxRecDepth 100000 in
theorem Shift_0 {x i : Int} {n : Bool} {A : Option Addr} {l c : Nat} {w : World} (hx : RI w n A l c x) (hl : l ≤ 300000) (h1 : -9223372036854775808 ≤ i) (h2 : i ≤ 9223372036854775807) (hs : shOk x i) :
    Calls Try.prog 56 #[.agg #[.bool n, .slice A l c], .int .i64 i] w (Ret w (K2 (KI (sh x i)) (KV (.int .i64 0)))) := by
  have nw1 : Nw w ((w.alloc (.cells #[.bool n, .slice A l c] 28)).alloc (.cells #[.bool false, .slice none 0 0] 28)) := ((Nw.refl w).alloc _).alloc _
  have sg0 : Sg [(w.heap.size, 0, Value.bool n), (w.heap.size, 1, Value.slice A l c)] (w.heap.size + 1) 2 ((w.alloc (.cells #[.bool n, .slice A l c] 28)).alloc (.cells #[.bool false, .slice none 0 0] 28)) := by
    refine ⟨⟨by go_simp, by go_simp, trivial⟩, ?_, by go_simp⟩
    have := box_two (w.alloc (.cells #[.bool n, .slice A l c] 28)) 28 false none 0 0
    simpa using this
  have SG := Lib.hid sg0
  have HX := Lib.hid (hx.kept nw1.kept)
  by_cases hi : i ≤ 0
  · have hm : min i 0 = i := by omega
    clear hs hx
    go_enter Try.func56, Try.ntmps56
    go_wp2_with fail
    refine (shift_c HX.out (by omega) (by omega) (by omega)).mono ?_
    rintro e w1 ⟨_, rfl, ⟨m1, D1, l1, c1, rfl, i1⟩, hb1⟩
    have hi := i1.eq (z' := sh x i) rfl
    have b2 := (SG.out.nw hb1).2.1
    have I1 := Lib.hid hi
    have NW := Lib.hid (nw1.trans hb1)
    clear i1 hi
    obtain ⟨⟨v0, hv0, hn0⟩, hf0⟩ := b2 0 (by omega)
    obtain ⟨⟨v1, hv1, hn1⟩, hf1⟩ := b2 1 (by omega)
    go_wp2
    exact bodyPost_ret (v := .tuple #[.agg #[.bool m1, .slice D1 l1 c1], .int .i64 0]) (by simp [results, Try.results56, go_sem, hv0, hv1]) rfl ⟨_, rfl, ⟨_, _, rfl, ⟨_, _, _, _, rfl, I1.out.kept (store_I b2 I1.out).1.2.1⟩, rfl⟩, NW.out.rr (store_I b2 I1.out).1 (by omega)⟩
  · have hi' : 0 < i := by omega
    by_cases h0 : x = 0
    · have hsg : sgn x = 0 := by rw [h0]; rfl
      have HSG := Lib.hid hsg
      have hm : min i 0 = 0 := by omega
      have hz : sh x 0 = sh x i := by rw [h0]; unfold sh; simp
      have HZ := Lib.hid hz
      clear hs hx h0 hsg hi hz
      go_enter Try.func56, Try.ntmps56
      go_wp2_with fail
      refine (sign_c HX.out).mono ?_
      rintro e w2 ⟨_, rfl, rfl, hb2⟩
      rw [HSG.out]
      obtain ⟨q1, q2, _⟩ := (SG.out.nw hb2).1
      go_wp2_with fail
      refine (shift_c (HX.out.kept hb2.kept) (by omega) (by omega) (by omega)).mono ?_
      rintro e w1 ⟨_, rfl, ⟨m1, D1, l1, c1, rfl, i1⟩, hb1⟩
      have hi := i1.eq (z' := sh x i) HZ.out
      have b2 := ((SG.out.nw hb2).nw hb1).2.1
      have I1 := Lib.hid hi
      have NW := Lib.hid ((nw1.trans hb2).trans hb1)
      clear i1 hi
      obtain ⟨⟨v0, hv0, hn0⟩, hf0⟩ := b2 0 (by omega)
      obtain ⟨⟨v1, hv1, hn1⟩, hf1⟩ := b2 1 (by omega)
      go_wp2
      exact bodyPost_ret (v := .tuple #[.agg #[.bool m1, .slice D1 l1 c1], .int .i64 0]) (by simp [results, Try.results56, go_sem, hv0, hv1]) rfl ⟨_, rfl, ⟨_, _, rfl, ⟨_, _, _, _, rfl, I1.out.kept (store_I b2 I1.out).1.2.1⟩, rfl⟩, NW.out.rr (store_I b2 I1.out).1 (by omega)⟩
    · have hsg : sgn x ≠ 0 := by unfold sgn; split <;> (try split) <;> omega
      have hsz : (sgn x == 0) = false := by rw [beq_eq_false_iff_ne]; exact hsg
      have hw := wid_len hx
      have hsum : (wid (pat x) : Int) + i ≤ 65536 := by unfold shOk at hs; omega
      have hi6 : i ≤ 65536 := by omega
      have hwr : IntKind.i64.wrap ((wid (pat x) : Int) + i) = (wid (pat x) : Int) + i := IntWalk.i64_in _ (by omega)
      clear hs hx h0 hsg hi hw
      go_enter Try.func56, Try.ntmps56
      go_wp2_with fail
      refine (sign_c HX.out).mono ?_
      rintro e w2 ⟨_, rfl, rfl, hb2⟩
      obtain ⟨q1, q2, _⟩ := (SG.out.nw hb2).1
      go_wp2_with fail
      refine (len_c (HX.out.kept hb2.kept) (by omega)).mono ?_
      rintro e w3 ⟨_, rfl, rfl, hb3⟩
      obtain ⟨q1, q2, _⟩ := ((SG.out.nw hb2).nw hb3).1
      go_wp2_with fail
      refine (shift_c ((HX.out.kept hb2.kept).kept hb3.kept) (by omega) (by omega) (by omega)).mono ?_
      rintro e w1 ⟨_, rfl, ⟨m1, D1, l1, c1, rfl, i1⟩, hb1⟩
      have hi := i1.eq (z' := sh x i) rfl
      have b2 := (((SG.out.nw hb2).nw hb3).nw hb1).2.1
      have I1 := Lib.hid hi
      have NW := Lib.hid (((nw1.trans hb2).trans hb3).trans hb1)
      clear i1 hi
      obtain ⟨⟨v0, hv0, hn0⟩, hf0⟩ := b2 0 (by omega)
      obtain ⟨⟨v1, hv1, hn1⟩, hf1⟩ := b2 1 (by omega)
      go_wp2
      exact bodyPost_ret (v := .tuple #[.agg #[.bool m1, .slice D1 l1 c1], .int .i64 0]) (by simp [results, Try.results56, go_sem, hv0, hv1]) rfl ⟨_, rfl, ⟨_, _, rfl, ⟨_, _, _, _, rfl, I1.out.kept (store_I b2 I1.out).1.2.1⟩, rfl⟩, NW.out.rr (store_I b2 I1.out).1 (by omega)⟩
set_option maxHeartbeats 1600000 in
set_option maxRecDepth 100000 in
theorem Shift_1 {x i : Int} {n : Bool} {A : Option Addr} {l c : Nat} {w : World} (hx : RI w n A l c x) (hl : l ≤ 300000) (h1 : -9223372036854775808 ≤ i) (h2 : i ≤ 9223372036854775807) (hs : ¬ shOk x i) :
    Calls Try.prog 56 #[.agg #[.bool n, .slice A l c], .int .i64 i] w (Ret w (K2 (KI 0) (KV (.int .i64 14)))) := by
  have nw1 : Nw w ((w.alloc (.cells #[.bool n, .slice A l c] 28)).alloc (.cells #[.bool false, .slice none 0 0] 28)) := ((Nw.refl w).alloc _).alloc _
  have sg0 : Sg [(w.heap.size, 0, Value.bool n), (w.heap.size, 1, Value.slice A l c)] (w.heap.size + 1) 2 ((w.alloc (.cells #[.bool n, .slice A l c] 28)).alloc (.cells #[.bool false, .slice none 0 0] 28)) := by
    refine ⟨⟨by go_simp, by go_simp, trivial⟩, ?_, by go_simp⟩
    have := box_two (w.alloc (.cells #[.bool n, .slice A l c] 28)) 28 false none 0 0
    simpa using this
  have SG := Lib.hid sg0
  have HX := Lib.hid (hx.kept nw1.kept)
  have hw := wid_len hx
  have hi' : 0 < i := by unfold shOk at hs; omega
  have h0 : x ≠ 0 := by intro e; exact hs (.inr (.inl e))
  have hsg : sgn x ≠ 0 := by unfold sgn; split <;> (try split) <;> omega
  have hsz : (sgn x == 0) = false := by rw [beq_eq_false_iff_ne]; exact hsg
  have hsum : 65536 < (wid (pat x) : Int) + i := by unfold shOk at hs; omega
  clear hs hx h0 hsg
  by_cases hi6 : i ≤ 65536
  · have hwr : IntKind.i64.wrap ((wid (pat x) : Int) + i) = (wid (pat x) : Int) + i := IntWalk.i64_in _ (by omega)
    clear hw
    go_enter Try.func56, Try.ntmps56
    go_wp2_with fail
    refine (sign_c HX.out).mono ?_
    rintro e w2 ⟨_, rfl, rfl, hb2⟩
    obtain ⟨q1, q2, _⟩ := (SG.out.nw hb2).1
    go_wp2_with fail
    refine (len_c (HX.out.kept hb2.kept) (by omega)).mono ?_
    rintro e w3 ⟨_, rfl, rfl, hb3⟩
    have b2 := ((SG.out.nw hb2).nw hb3).2.1
    have NW := Lib.hid ((nw1.trans hb2).trans hb3)
    obtain ⟨⟨v0, hv0, hn0⟩, hf0⟩ := b2 0 (by omega)
    obtain ⟨⟨v1, hv1, hn1⟩, hf1⟩ := b2 1 (by omega)
    go_wp2
    exact bodyPost_ret (v := .tuple #[.agg #[.bool false, .slice none 0 0], .int .i64 14]) (by simp [results, Try.results56, go_sem, hv0, hv1]) rfl ⟨_, rfl, ⟨_, _, rfl, ⟨_, _, _, _, rfl, RI.zero _⟩, rfl⟩, NW.out.rr (store_I b2 (RI.zero _)).1 (by omega)⟩
  · clear hw hsum
    go_enter Try.func56, Try.ntmps56
    go_wp2_with fail
    refine (sign_c HX.out).mono ?_
    rintro e w2 ⟨_, rfl, rfl, hb2⟩
    have b2 := (SG.out.nw hb2).2.1
    have NW := Lib.hid (nw1.trans hb2)
    obtain ⟨⟨v0, hv0, hn0⟩, hf0⟩ := b2 0 (by omega)
    obtain ⟨⟨v1, hv1, hn1⟩, hf1⟩ := b2 1 (by omega)
    go_wp2
    exact bodyPost_ret (v := .tuple #[.agg #[.bool false, .slice none 0 0], .int .i64 14]) (by simp [results, Try.results56, go_sem, hv0, hv1]) rfl ⟨_, rfl, ⟨_, _, rfl, ⟨_, _, _, _, rfl, RI.zero _⟩, rfl⟩, NW.out.rr (store_I b2 (RI.zero _)).1 (by omega)⟩
end Go.Proofs.Ytcgkgcciogibkaa
