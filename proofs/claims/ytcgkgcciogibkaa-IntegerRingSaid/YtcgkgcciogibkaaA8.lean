/- The contracts of the program's divided and shifted. -/
import Derived.Test.YtcgkgcciogibkaaW3
set_option linter.unusedVariables false
set_option linter.unusedSimpArgs false
namespace Go.Proofs.Ytcgkgcciogibkaa
open Go.RowKit Ma

/-- What a round of 'divided' leaves: the limbs from k on are done. -/
structure DivAt (xs : List Int) (y : Int) (k : Nat) (zs : List Int) (r : Int) : Prop where
  le : k ≤ xs.length
  len : zs.length = xs.length
  dg : dg b32 zs
  r0 : 0 ≤ r
  r1 : r < y
  low : ∀ i, i < k → at0 zs i = 0
  eq : y * lv b32 zs + b32 ^ k * r = b32 ^ k * lv b32 (xs.drop k)
theorem DivAt.start (xs : List Int) {y : Int} (hy : 0 < y) : DivAt xs y xs.length (List.replicate xs.length 0) 0 :=
  ⟨Nat.le_refl _, by simp, dg_replicate _ (by decide) (by decide), by omega, hy, fun i hi => by simp [at0, List.getD_eq_getElem?_getD, hi], by rw [lv_zeros, List.drop_length]; simp [lv]⟩
theorem DivAt.step {xs : List Int} {y : Int} {k : Nat} {zs : List Int} {r : Int} (h : DivAt xs y (k + 1) zs r) (dx : Ma.dg b32 xs) (hy : y < 4294967296) :
    DivAt xs y k (zs.set k ((r * 4294967296 + at0 xs k) / y)) ((r * 4294967296 + at0 xs k) % y) := by
  obtain ⟨h1, h2, h3, h4, h5, h6, h7⟩ := h
  obtain ⟨x0, x1⟩ := dg_at dx (by decide) k
  rw [b32_eq] at x1
  have q0 : 0 ≤ (r * 4294967296 + at0 xs k) / y := Int.ediv_nonneg (by omega) (by omega)
  have q1 : (r * 4294967296 + at0 xs k) / y < 4294967296 := by
    apply Int.ediv_lt_of_lt_mul (by omega)
    have : r * 4294967296 + 4294967296 ≤ 4294967296 * y := by omega
    omega
  refine ⟨by omega, by simp [h2], dg_set h3 _ q0 (by rw [b32_eq]; exact q1), Int.emod_nonneg _ (by omega), Int.emod_lt_of_pos _ (by omega), fun i hi => ?_, ?_⟩
  · have := h6 i (by omega)
    simp only [at0, List.getD_eq_getElem?_getD] at this ⊢
    rw [List.getElem?_set_ne (by omega)]; exact this
  · rw [lv_set _ _ _ _ (by omega), h6 k (by omega), lv_drop _ _ _ (by omega)]
    have e := Int.mul_ediv_add_emod (r * 4294967296 + at0 xs k) y
    rw [Int.pow_succ] at h7
    generalize (r * 4294967296 + at0 xs k) / y = q at *
    generalize (r * 4294967296 + at0 xs k) % y = r' at *
    rw [b32_eq] at *
    generalize at0 xs k = a at *
    generalize (4294967296 : Int) ^ k = p at *
    grind
theorem DivAt.done {xs : List Int} {y : Int} {zs : List Int} {r : Int} (h : DivAt xs y 0 zs r) : lv b32 zs = lv b32 xs / y ∧ r = lv b32 xs % y := by
  obtain ⟨h1, h2, h3, h4, h5, h6, h7⟩ := h
  simp at h7
  have e : lv b32 xs = r + y * lv b32 zs := by omega
  rw [e, Int.add_mul_ediv_left _ _ (by omega), Int.add_mul_emod_self_left, Int.ediv_eq_zero_of_lt h4 h5, Int.emod_eq_of_lt h4 h5]
  omega

theorem trimmed_l {A : Option Addr} {l c : Nat} {xs : List Int} {w : World} (e : l = xs.length) (rA : Rd w .u32 A xs) (hc : xs.length ≤ c) :
    Calls Try.prog 114 #[.slice A l c] w fun e w' => e = .returned (.slice A (trim xs).length c) ∧ w = w' := by subst e; exact trimmed_c A c xs w rA hc

set_option maxHeartbeats 800000 in
set_option maxRecDepth 100000 in
theorem divided_c (A : Option Addr) (c : Nat) (xs : List Int) (y : Int) (w : World) (rA : Rd w .u32 A xs) (dx : dg b32 xs) (hl : xs.length ≤ 1000000) (hy0 : 0 < y) (hy1 : y < 4294967296) :
    Calls Try.prog 85 #[.slice A xs.length c, .int .u32 y] w (Ret w (K2 (KO w.heap.size 92 .u32 fun zs => dg b32 zs ∧ lv b32 zs = lv b32 xs / y ∧ top zs) (KV (.int .u32 (lv b32 xs % y))))) := by
  obtain ⟨i0, hi, hz0, hz1, hz2⟩ := info_parts info_u32
  have hlx := rA.1
  go_enter Try.func85, Try.ntmps85
  go_wp2_with (at_make; refine wpList_make_full _ rfl _ _ 22 rfl w.heap.size 92 i0 (.int .u32 0) 1 Try.underlying22 hi hz0 hz1 _ _ _ _ xs.length rfl rfl rfl rfl ?b2 ?b3 (Nat.le_refl _) ?_)
  case b2 => rw [hz2]; omega
  case b3 => unfold maxLen; omega
  intro w0 hown0 hgrow0
  have n0 : Nw w w0 := Below.grown (Nw.refl w) hgrow0 (Nat.le_refl _) (fun k h => by cases h)
  have o0 := Own.made hown0
  clear hown0
  obtain ⟨g, hg⟩ : ∃ g, g = w.heap.size := ⟨_, rfl⟩
  rw [← hg] at o0
  have HG := Lib.hid hg
  go_wp2
  go_loopw [7, 8] (fun rr ci wr => ∃ (k : Nat) (zs : List Int) (r : Int), ci = .int .i64 ((k : Int) - 1) ∧ rr = .int .u32 r ∧ Own wr w.heap.size 92 .u32 (.slice (some ⟨w.heap.size, 0, none⟩) xs.length xs.length) zs ∧ DivAt xs y k zs r ∧ Nw w wr)
    (fun _ ci _ => (intOf ci + 1).toNat)
  case atStart => exact ⟨xs.length, _, 0, rfl, rfl, HG.out ▸ o0, DivAt.start xs hy0, n0⟩
  case round =>
    obtain ⟨k, zs, r, rfl, rfl, ho, hs, hn⟩ := hrel
    have hkle := hs.le
    have hr0 := hs.r0
    have hr1 := hs.r1
    clear hg o0
    cases k with
    | zero =>
      obtain ⟨hl1, hl2⟩ := hs.done
      have HL1 := Lib.hid hl1
      have HL2 := Lib.hid hl2
      have HZ := Lib.hid hs.len
      have dz := hs.dg
      clear hl1 hl2 hs
      have rZ : Rd wr .u32 (some ⟨w.heap.size, 0, none⟩) zs := by
        obtain ⟨A', c', e, hc', rr⟩ := ho.rd
        simp only [Value.slice.injEq] at e
        rw [e.1]; exact rr
      go_wp2_with (go_at_call 114; refine (trimmed_l HZ.out.symm rZ (by rw [HZ.out]; omega)).mono ?_; rintro e w' ⟨rfl, rfl⟩)
      go_ret2
      have ht := trim_len zs
      exact ⟨_, rfl, ⟨_, _, rfl, ⟨trim zs, _, _, rfl, by have := ho.take HZ.out.symm (trim zs).length (by rw [HZ.out] at ht; exact ht); rwa [← trim_take] at this, trim_dg dz, by rw [trim_lv]; exact HL1.out, trim_top zs⟩, by rw [KV]; rw [← HL2.out]; rfl⟩, hn⟩
    | succ k =>
      obtain ⟨ad, hA, hcell⟩ := rA.2 k (by omega)
      subst hA
      have hcell := hn.kept _ _ _ hcell
      obtain ⟨x0, x1⟩ := dg_at dx (by decide) k
      rw [b32_eq] at x1
      have HS := Lib.hid (hs.step dx hy1)
      have hc := ho.cellAt (i := k) (by rw [hs.len]; omega) hs.len.symm
      have hf := ho.frozenAt hs.len.symm k
      have HZ := Lib.hid hs.len
      clear hs
      go_wp2_with (go_at_call 117; refine (div32_c r (at0 xs k) y _ ⟨hr0, hr1⟩ ⟨x0, x1⟩ hy1).mono ?_; rintro e w1 ⟨rfl, hb⟩; have hc1 := (ho.kept hb).cellAt (i := k) (by rw [HZ.out]; omega) HZ.out.symm; have hf1 := (ho.kept hb).frozenAt HZ.out.symm k; clear hc hf)
      exact ⟨⟨k, _, _, rfl, rfl, (ho.kept hb).set HZ.out.symm k _, HS.out, (hn.trans hb).set (Nat.le_refl _) _⟩, by simp [intOf]⟩
/-- What a round of 'shifted' leaves. -/
structure ShAt (xs : List Int) (s : Nat) (k : Nat) (zs : List Int) : Prop where
  le : k ≤ xs.length
  len : zs.length = xs.length + 1
  dg : dg b32 zs
  top : at0 zs k < (2 : Int) ^ s
  high : ∀ i, k < i → at0 zs i = 0
  eq : lv b32 zs = lv b32 (xs.take k) * (2 : Int) ^ s
theorem ShAt.start (xs : List Int) (s : Nat) : ShAt xs s 0 (List.replicate (xs.length + 1) 0) :=
  ⟨by omega, by simp, dg_replicate _ (by decide) (by decide), by simp only [at0, List.getD_eq_getElem?_getD]; simp; exact Int.pow_pos (by decide), fun i hi => by simp only [at0, List.getD_eq_getElem?_getD, List.getElem?_replicate]; split <;> rfl, by rw [lv_zeros]; simp [lv]⟩
theorem at0_set_ne {xs : List Int} {i j : Nat} {x : Int} (h : i ≠ j) : at0 (xs.set i x) j = at0 xs j := by
  simp only [at0, List.getD_eq_getElem?_getD]; rw [List.getElem?_set_ne h]
theorem at0_set_self {xs : List Int} {i : Nat} {x : Int} (h : i < xs.length) : at0 (xs.set i x) i = x := by
  simp only [at0, List.getD_eq_getElem?_getD]; rw [List.getElem?_set_self h]; rfl
theorem ShAt.step {xs : List Int} {s k : Nat} {zs : List Int} (h : ShAt xs s k zs) (dx : Ma.dg b32 xs) (hs : s < 32) (hk : k < xs.length) :
    ShAt xs s (k + 1) ((zs.set k (at0 zs k + at0 xs k * (2 : Int) ^ s % 4294967296)).set (k + 1) (at0 xs k * (2 : Int) ^ s / 4294967296)) ∧ 0 ≤ at0 zs k ∧ at0 xs k * (2 : Int) ^ s % 4294967296 % (2 : Int) ^ s = 0 ∧ 0 ≤ at0 xs k * (2 : Int) ^ s ∧ at0 xs k * (2 : Int) ^ s < 18446744073709551616 ∧ at0 xs k * (2 : Int) ^ s / 4294967296 < (2 : Int) ^ s ∧ at0 zs k + at0 xs k * (2 : Int) ^ s % 4294967296 < 4294967296 := by
  obtain ⟨h1, h2, h3, h4, h5, h6⟩ := h
  obtain ⟨x0, x1⟩ := dg_at dx (by decide) k
  obtain ⟨z0, z1⟩ := dg_at h3 (by decide) k
  rw [b32_eq] at x1
  obtain ⟨d, hd, hp⟩ : ∃ d : Int, 4294967296 = d * (2 : Int) ^ s ∧ 0 < d := by
    refine ⟨(2 : Int) ^ (32 - s), ?_, Int.pow_pos (by decide)⟩
    rw [← Int.pow_add, Nat.sub_add_cancel (by omega)]; decide
  have p0 : 0 < (2 : Int) ^ s := Int.pow_pos (by decide)
  have p1 : (2 : Int) ^ s < 4294967296 := by
    have : (2 : Int) ^ s < (2 : Int) ^ 32 := by
      have h := pow_le (b := 2) (by decide) (show s + 1 ≤ 32 by omega)
      rw [Int.pow_succ] at h
      omega
    have e : (2 : Int) ^ 32 = 4294967296 := by decide
    omega
  generalize hpp : (2 : Int) ^ s = p at *
  obtain ⟨a, ha⟩ : ∃ a, at0 xs k = a := ⟨_, rfl⟩
  rw [ha] at x0 x1 ⊢
  have m0 : 0 ≤ a * p := Int.mul_nonneg x0 (by omega)
  have m1 : a * p < 18446744073709551616 := by
    have h1 : a * p ≤ 4294967295 * p := Int.mul_le_mul_of_nonneg_right (by omega) (by omega)
    omega
  have m2 : a * p / 4294967296 < p := by
    apply Int.ediv_lt_of_lt_mul (by omega)
    have h1 : a * p ≤ 4294967295 * p := Int.mul_le_mul_of_nonneg_right (by omega) (by omega)
    omega
  have m3 : a * p % 4294967296 = p * (a % d) := by
    rw [hd, Int.mul_comm a p, Int.mul_comm d p, Int.mul_emod_mul_of_pos _ _ p0]
  have m4 : 0 ≤ a % d := Int.emod_nonneg _ (by omega)
  have m5 : a % d < d := Int.emod_lt_of_pos _ hp
  have m6 : p * (a % d) + p ≤ 4294967296 := by
    have h1 : p * (a % d + 1) ≤ p * d := Int.mul_le_mul_of_nonneg_left (by omega) (by omega)
    rw [Int.mul_add, Int.mul_comm p d, ← hd] at h1
    omega
  have e := Int.mul_ediv_add_emod (a * p) 4294967296
  have q0 : 0 ≤ a * p / 4294967296 := Int.ediv_nonneg m0 (by decide)
  refine ⟨⟨by omega, by simp [h2], dg_set (dg_set h3 _ ?_ ?_) _ q0 ?_, ?_, fun i hi => ?_, ?_⟩, z0, ?_, m0, m1, m2, ?_⟩
  · rw [m3]; have := Int.mul_nonneg (Int.le_of_lt p0) m4; omega
  · rw [m3, b32_eq]; omega
  · rw [b32_eq]; omega
  · rw [at0_set_self (by simp; omega), hpp]; exact m2
  · rw [at0_set_ne (by omega), at0_set_ne (by omega)]; exact h5 i (by omega)
  · rw [lv_set _ _ _ _ (by simp; omega), lv_set _ _ _ _ (by omega), at0_set_ne (by omega), h5 (k + 1) (by omega), lv_take_succ _ _ _ hk, h6, Int.pow_succ, hpp, ha]
    generalize a * p / 4294967296 = q at *
    generalize a * p % 4294967296 = r at *
    rw [b32_eq] at *
    generalize (4294967296 : Int) ^ k = pk at *
    grind
  · rw [m3]; exact Int.mul_emod_right _ _
  · rw [m3]; omega
theorem or_add (z m : Int) (s : Nat) (hz : 0 ≤ z ∧ z < (2 : Int) ^ s) (hm : 0 ≤ m ∧ m < 4294967296) (hd : m % (2 : Int) ^ s = 0) (hzm : z < 4294967296) : bits .or .u32 z m = z + m := by
  obtain ⟨Z, rfl⟩ := Int.eq_ofNat_of_zero_le hz.1
  obtain ⟨M, rfl⟩ := Int.eq_ofNat_of_zero_le hm.1
  have e2 : ((2 : Int) ^ s) = ((2 ^ s : Nat) : Int) := by rw [Int.natCast_pow]; rfl
  rw [e2] at hz hd
  have hz1 : Z < 2 ^ s := by omega
  have hd1 : M % 2 ^ s = 0 := by
    have := hd
    rw [← Int.natCast_emod] at this
    omega
  rw [u32_or_nat _ _ (by omega) (by omega)]
  have e3 := Nat.mod_add_div M (2 ^ s)
  rw [hd1, Nat.zero_add] at e3
  have := Nat.two_pow_add_eq_or_of_lt (i := s) (b := Z) hz1 (M / 2 ^ s)
  rw [e3] at this
  rw [Nat.or_comm, ← this]
  omega

set_option maxHeartbeats 800000 in
set_option maxRecDepth 100000 in
theorem shifted_c (A : Option Addr) (c : Nat) (xs : List Int) (s : Nat) (w : World) (rA : Rd w .u32 A xs) (dx : dg b32 xs) (hl : xs.length ≤ 1000000) (hs : s < 32) :
    Calls Try.prog 119 #[.slice A xs.length c, .int .u64 s] w (Ret w (KL .u32 fun zs => dg b32 zs ∧ lv b32 zs = lv b32 xs * (2 : Int) ^ s ∧ zs.length = xs.length + 1)) := by
  obtain ⟨i0, hi, hz0, hz1, hz2⟩ := info_parts info_u32
  have hlx := rA.1
  go_enter Try.func119, Try.ntmps119
  go_wp2_with (at_make; refine wpList_make_full _ rfl _ _ 22 rfl w.heap.size 92 i0 (.int .u32 0) 1 Try.underlying22 hi hz0 hz1 _ _ _ _ (xs.length + 1) rfl rfl (by omega) (by omega) ?b2 ?b3 (Nat.le_refl _) ?_)
  case b2 => rw [hz2]; omega
  case b3 => unfold maxLen; omega
  intro w0 hown0 hgrow0
  have n0 : Nw w w0 := Below.grown (Nw.refl w) hgrow0 (Nat.le_refl _) (fun k h => by cases h)
  have o0 := Own.made hown0
  clear hown0
  obtain ⟨g, hg⟩ : ∃ g, g = w.heap.size := ⟨_, rfl⟩
  rw [← hg] at o0
  have HG := Lib.hid hg
  go_wp2
  go_loopw [15] (fun ci wr => ∃ (k : Nat) (zs : List Int), ci = .int .i64 k ∧ Own wr w.heap.size 92 .u32 (.slice (some ⟨w.heap.size, 0, none⟩) (xs.length + 1) (xs.length + 1)) zs ∧ ShAt xs s k zs ∧ Nw w wr)
    (fun ci _ => xs.length - (intOf ci).toNat)
  case atStart => exact ⟨0, _, rfl, HG.out ▸ o0, ShAt.start xs s, n0⟩
  case round =>
    obtain ⟨k, zs, rfl, ho, hs1, hn⟩ := hrel
    have hkle := hs1.le
    clear hg o0
    by_cases hk : k < xs.length
    · obtain ⟨ad, hA, hcell⟩ := rA.2 k (by omega)
      subst hA
      have hcell := hn.kept _ _ _ hcell
      obtain ⟨x0, x1⟩ := dg_at dx (by decide) k
      rw [b32_eq] at x1
      have HS := Lib.hid (hs1.step dx hs hk)
      have hc := ho.cellAt (i := k) (by rw [hs1.len]; omega) hs1.len.symm
      have hf := ho.frozenAt hs1.len.symm k
      have HZ := Lib.hid hs1.len
      have hc2 := ho.cellAt (i := k + 1) (by rw [hs1.len]; omega) hs1.len.symm
      have hf2 := ho.frozenAt hs1.len.symm (k + 1)
      obtain ⟨hst, hz0', hmod, hv0, hv1, hq, hsum⟩ := HS.out
      have hor := or_add (at0 zs k) (at0 xs k * (2 : Int) ^ s % 4294967296) s ⟨hz0', hs1.top⟩ ⟨Int.emod_nonneg _ (by decide), Int.emod_lt_of_pos _ (by decide)⟩ hmod (by have := dg_at hs1.dg (by decide) k; rw [b32_eq] at this; exact this.2)
      have HST := Lib.hid hst
      have HO := Lib.hid ho
      clear hst hz0' hmod hq hsum hs1 ho HS
      go_wp2
      refine ⟨⟨k + 1, _, by go_num, ((HO.out.set HZ.out.symm k _).set (by simp [HZ.out]) (k + 1) _), HST.out, (hn.set (Nat.le_refl _) _).set (Nat.le_refl _) _⟩, by simp [intOf]; omega⟩
    · have hke : k = xs.length := by omega
      have hd := hs1.eq
      rw [hke, List.take_length] at hd
      have HD := Lib.hid hd
      have HZ := Lib.hid hs1.len
      have dz := hs1.dg
      clear hd hke hs1
      go_wp2
      go_ret
      have hlz : xs.length + 1 = zs.length := HZ.out.symm
      obtain ⟨A', c', e, hc', rr⟩ := ho.rd
      simp only [Value.slice.injEq] at e
      refine ⟨_, rfl, ⟨zs, some ⟨w.heap.size, 0, none⟩, xs.length + 1, ?_, by omega, by rw [e.1]; exact rr, dz, HD.out, HZ.out⟩, hn⟩
      rw [← hlz]; rfl
end Go.Proofs.Ytcgkgcciogibkaa
