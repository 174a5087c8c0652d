/- The contract of the program's Mul. -/
import Derived.Test.YtcgkgcciogibkaaA8
set_option linter.unusedVariables false
set_option linter.unusedSimpArgs false
namespace Go.Proofs.Ytcgkgcciogibkaa
open Go.RowKit Ma

/-- What a round of the outer loop of 'Mul' leaves. -/
structure MulAt (xs ys : List Int) (k : Nat) (zs : List Int) : Prop where
  le : k ≤ xs.length
  len : zs.length = xs.length + ys.length
  dg : dg b32 zs
  high : ∀ i, k + ys.length ≤ i → at0 zs i = 0
  eq : lv b32 zs = lv b32 (xs.take k) * lv b32 ys
/-- .. and one of the inner loop. -/
structure MulIn (xs ys : List Int) (k j : Nat) (zs : List Int) (c : Int) : Prop where
  le : j ≤ ys.length
  len : zs.length = xs.length + ys.length
  dg : dg b32 zs
  high : ∀ i, k + ys.length ≤ i → at0 zs i = 0
  c0 : 0 ≤ c
  c1 : c < 4294967296
  eq : lv b32 zs + b32 ^ (k + j) * c = lv b32 (xs.take k) * lv b32 ys + b32 ^ k * (at0 xs k * lv b32 (ys.take j))
theorem at0_replicate (n i : Nat) : at0 (List.replicate n 0) i = 0 := by
  simp only [at0, List.getD_eq_getElem?_getD, List.getElem?_replicate]; split <;> rfl
theorem MulAt.start (xs ys : List Int) : MulAt xs ys 0 (List.replicate (xs.length + ys.length) 0) :=
  ⟨by omega, by simp, dg_replicate _ (by decide) (by decide), fun i _ => at0_replicate _ _, by rw [lv_zeros]; simp [lv]⟩
theorem MulAt.inner {xs ys : List Int} {k : Nat} {zs : List Int} (h : MulAt xs ys k zs) : MulIn xs ys k 0 zs 0 :=
  ⟨by omega, h.len, h.dg, h.high, by omega, by omega, by rw [h.eq]; simp [lv]⟩
theorem MulIn.step {xs ys : List Int} {k j : Nat} {zs : List Int} {c : Int} (h : MulIn xs ys k j zs c) (dx : Ma.dg b32 xs) (dy : Ma.dg b32 ys) (hk : k < xs.length) (hj : j < ys.length) :
    MulIn xs ys k (j + 1) (zs.set (k + j) ((at0 xs k * at0 ys j + at0 zs (k + j) + c) % 4294967296)) ((at0 xs k * at0 ys j + at0 zs (k + j) + c) / 4294967296) ∧
      0 ≤ at0 xs k * at0 ys j ∧ at0 xs k * at0 ys j ≤ 18446744065119617025 ∧ 0 ≤ at0 zs (k + j) ∧ at0 zs (k + j) ≤ 4294967295 := by
  obtain ⟨h1, h2, h3, h4, h5, h6, h7⟩ := h
  obtain ⟨x0, x1⟩ := dg_at dx (by decide) k
  obtain ⟨y0, y1⟩ := dg_at dy (by decide) j
  obtain ⟨z0, z1⟩ := dg_at h3 (by decide) (k + j)
  rw [b32_eq] at x1 y1 z1
  have p0 : 0 ≤ at0 xs k * at0 ys j := Int.mul_nonneg x0 y0
  have p1 : at0 xs k * at0 ys j ≤ 18446744065119617025 := by
    have e1 : at0 xs k * at0 ys j ≤ 4294967295 * at0 ys j := Int.mul_le_mul_of_nonneg_right (by omega) y0
    omega
  refine ⟨⟨by omega, by simp [h2], dg_set h3 _ (by omega) (by rw [b32_eq]; omega), fun i hi => ?_, by omega, by omega, ?_⟩, p0, p1, z0, by omega⟩
  · rw [at0_set_ne (by omega)]; exact h4 i hi
  · rw [lv_set _ _ _ _ (by omega), lv_take_succ _ _ _ hj, ← Nat.add_assoc, Int.pow_succ]
    have e := Int.mul_ediv_add_emod (at0 xs k * at0 ys j + at0 zs (k + j) + c) 4294967296
    generalize (at0 xs k * at0 ys j + at0 zs (k + j) + c) / 4294967296 = q at *
    generalize (at0 xs k * at0 ys j + at0 zs (k + j) + c) % 4294967296 = r at *
    rw [Int.pow_add] at *
    rw [b32_eq] at *
    generalize (4294967296 : Int) ^ k = pk at *
    generalize (4294967296 : Int) ^ j = pj at *
    grind
theorem MulIn.done {xs ys : List Int} {k : Nat} {zs : List Int} {c : Int} (h : MulIn xs ys k ys.length zs c) (hk : k < xs.length) : MulAt xs ys (k + 1) (zs.set (k + ys.length) c) := by
  obtain ⟨h1, h2, h3, h4, h5, h6, h7⟩ := h
  refine ⟨by omega, by simp [h2], dg_set h3 _ h5 (by rw [b32_eq]; exact h6), fun i hi => ?_, ?_⟩
  · rw [at0_set_ne (by omega)]; exact h4 i (by omega)
  · rw [lv_set _ _ _ _ (by omega), h4 _ (Nat.le_refl _), lv_take_succ _ _ _ hk]
    rw [List.take_length] at h7
    grind

theorem made_l {A : Option Addr} {l c : Nat} {xs : List Int} {w : World} (e : l = xs.length) (n : Bool) (rA : Rd w .u32 A xs) (hc : xs.length ≤ c) (hd : dg b32 xs) :
    Calls Try.prog 81 #[.bool n, .slice A l c] w (Ret w (KI (sg n (lv b32 xs)))) := by subst e; exact made_c n A c xs w rA hc hd

set_option maxHeartbeats 1600000 in
set_option maxRecDepth 100000 in
theorem mul_c {x y : Int} {n m : Bool} {A B : Option Addr} {l l' c d : Nat} {w : World} (hx : RI w n A l c x) (hy : RI w m B l' d y) (hl : l ≤ 500000) (hl' : l' ≤ 500000) :
    Calls Try.prog 25 #[.agg #[.bool n, .slice A l c], .agg #[.bool m, .slice B l' d]] w (Ret w (KI (x * y))) := by
  obtain ⟨xs, rfl, hc, rA, dx, tx, nx, rfl⟩ := hx
  obtain ⟨ys, rfl, hd, rB, dy, ty, ny, rfl⟩ := hy
  obtain ⟨i0, hi, hz0, hz1, hz2⟩ := info_parts info_u32
  have nw1 : Nw w (((w.alloc (.cells #[.bool n, .slice A xs.length c] 28)).alloc (.cells #[.bool m, .slice B ys.length d] 28)).alloc (.cells #[.bool false, .slice none 0 0] 28)) := (((Nw.refl w).alloc _).alloc _).alloc _
  have sg0 : Sg [(w.heap.size, 0, Value.bool n), (w.heap.size, 1, Value.slice A xs.length c), (w.heap.size + 1, 0, Value.bool m), (w.heap.size + 1, 1, Value.slice B ys.length d)] (w.heap.size + 1 + 1) 2 (((w.alloc (.cells #[.bool n, .slice A xs.length c] 28)).alloc (.cells #[.bool m, .slice B ys.length d] 28)).alloc (.cells #[.bool false, .slice none 0 0] 28)) := by
    refine ⟨⟨by go_simp, by go_simp, by go_simp, by go_simp, trivial⟩, ?_, by go_simp⟩
    have := box_two ((w.alloc (.cells #[.bool n, .slice A xs.length c] 28)).alloc (.cells #[.bool m, .slice B ys.length d] 28)) 28 false none 0 0
    simpa using this
  obtain ⟨W1, hW1⟩ : ∃ W1, W1 = (((w.alloc (.cells #[.bool n, .slice A xs.length c] 28)).alloc (.cells #[.bool m, .slice B ys.length d] 28)).alloc (.cells #[.bool false, .slice none 0 0] 28)) := ⟨_, rfl⟩
  have hsz : W1.heap.size = w.heap.size + 1 + 1 + 1 := by rw [hW1]; go_simp
  rw [← hW1] at nw1 sg0
  have HW1 := Lib.hid hW1
  have HSZ := Lib.hid hsz
  have hszle : w.heap.size + 1 + 1 + 1 ≤ W1.heap.size := by omega
  clear hW1 hsz
  have RA := Lib.hid (rA.kept nw1.kept)
  have RB := Lib.hid (rB.kept nw1.kept)
  clear rA rB
  go_enter Try.func25, Try.ntmps25
  go_wp2_with (at_make; refine wpList_make_full _ rfl _ _ 22 rfl (w.heap.size + 1 + 1 + 1) 92 i0 (.int .u32 0) 1 Try.underlying22 hi hz0 hz1 _ _ _ _ (xs.length + ys.length) rfl rfl (by omega) (by omega) ?b2 ?b3 ?b4 ?_)
  case b2 => rw [hz2]; omega
  case b3 => unfold maxLen; omega
  case b4 => simp
  intro w0 hown0 hgrow0
  rw [← HW1.out] at hgrow0
  have n0 : Nw W1 w0 := Below.grown (Nw.refl W1) hgrow0 (Nat.le_refl _) (fun k h => by cases h)
  have o0 := Own.made hown0
  clear hown0 hgrow0
  have S0 := sg0.nw n0
  obtain ⟨⟨q1, q2, q3, q4, _⟩, _, _⟩ := S0
  go_wp2
  clear q1 q2 q3 q4
  go_loopw [23] (fun ci wr => ∃ (k : Nat) (zs : List Int), ci = .int .i64 k ∧ Own wr (w.heap.size + 1 + 1 + 1) 92 .u32 (.slice (some ⟨w.heap.size + 1 + 1 + 1, 0, none⟩) (xs.length + ys.length) (xs.length + ys.length)) zs ∧ MulAt xs ys k zs ∧ Nw W1 wr)
    (fun ci _ => xs.length - (intOf ci).toNat)
  case atStart => exact ⟨0, _, rfl, o0, MulAt.start xs ys, n0⟩
  case round =>
    obtain ⟨k, zs, rfl, ho, hs, hn⟩ := hrel
    clear o0 n0
    have hkle := hs.le
    obtain ⟨⟨q1, q2, q3, q4, _⟩, hbx, _⟩ := sg0.nw hn
    by_cases hk : k < xs.length
    · obtain ⟨ad, hA, hcell⟩ := RA.out.2 k hk
      subst hA
      have hcell := hn.kept _ _ _ hcell
      obtain ⟨wo, hwo⟩ : ∃ wo : World, wo = wr := ⟨_, rfl⟩
      obtain ⟨x0, x1⟩ := dg_at dx (by decide) k
      rw [b32_eq] at x1
      have HSI := Lib.hid hs.inner
      clear hs hwo
      go_wp2
      go_loopw [8, 31] (fun cy cj wq => ∃ (j : Nat) (us : List Int) (cc : Int), cj = .int .i64 j ∧ cy = .int .u64 cc ∧ Own wq (w.heap.size + 1 + 1 + 1) 92 .u32 (.slice (some ⟨w.heap.size + 1 + 1 + 1, 0, none⟩) (xs.length + ys.length) (xs.length + ys.length)) us ∧ MulIn xs ys k j us cc ∧ Nw W1 wq)
        (fun _ cj _ => ys.length - (intOf cj).toNat)
      case atStart => exact ⟨0, zs, 0, rfl, rfl, ho, HSI.out, hn⟩
      case round =>
        obtain ⟨j, us, cc, rfl, rfl, ho2, hi2, hn2⟩ := hrel
        have hjle := hi2.le
        have hc0 := hi2.c0
        have hc1 := hi2.c1
        clear q1 q2 q3 q4 hcell ho hn hbx
        obtain ⟨⟨q1, q2, q3, q4, _⟩, hbx, _⟩ := sg0.nw hn2
        by_cases hj : j < ys.length
        · obtain ⟨bd, hB, hcellb⟩ := RB.out.2 j hj
          subst hB
          have hcellb := hn2.kept _ _ _ hcellb
          obtain ⟨hst, p0, p1, z0, z1⟩ := hi2.step dx dy hk hj
          obtain ⟨y0, y1⟩ := dg_at dy (by decide) j
          rw [b32_eq] at y1
          have hcz := ho2.cellAt (i := k + j) (by rw [hi2.len]; omega) hi2.len.symm
          have hfz := ho2.frozenAt hi2.len.symm (k + j)
          have HST := Lib.hid hst
          have HO := Lib.hid ho2
          have HZ := Lib.hid hi2.len
          clear hst ho2 hi2
          go_wp2
          exact ⟨⟨j + 1, _, _, by go_num, rfl, HO.out.set HZ.out.symm (k + j) _, HST.out, hn2.set (by have := HSZ.out; simp; omega) _⟩, by simp [intOf]; omega⟩
        · have hje : j = ys.length := by omega
          have HDO := Lib.hid ((hje ▸ hi2).done hk)
          have hcz := ho2.cellAt (i := k + ys.length) (by rw [hi2.len]; omega) hi2.len.symm
          have hfz := ho2.frozenAt hi2.len.symm (k + ys.length)
          have HO := Lib.hid ho2
          have HZ := Lib.hid hi2.len
          clear ho2 hi2 hje
          go_wp2
          exact ⟨⟨k + 1, _, by go_num, HO.out.set HZ.out.symm (k + ys.length) _, HDO.out, hn2.set (by have := HSZ.out; simp; omega) _⟩, by simp [intOf]; omega⟩
    · have hke : k = xs.length := by omega
      have hd0 := hs.eq
      rw [hke, List.take_length] at hd0
      have HD := Lib.hid hd0
      have HZ := Lib.hid hs.len
      have dz := hs.dg
      obtain ⟨A', c', e, hc', rr⟩ := ho.rd
      simp only [Value.slice.injEq] at e
      have hres : sg (n != m) (lv b32 zs) = sg n (lv b32 xs) * sg m (lv b32 ys) := by
        rw [HD.out]; cases n <;> cases m <;> simp [sg, Int.neg_mul, Int.mul_neg]
      have HRES := Lib.hid hres
      have rZ : Rd wr .u32 (some ⟨w.heap.size + 1 + 1 + 1, 0, none⟩) zs := by rw [e.1]; exact rr
      clear hd0 hke hs e rr hres
      go_wp2_with (go_at_call 81; refine (made_l HZ.out.symm (n != m) rZ (by rw [HZ.out]; omega) dz).mono ?_; rintro e w2 ⟨_, rfl, ⟨m2, D, l2, c2, rfl, hi2⟩, hb2⟩; have b2 := ((sg0.nw hn).nw hb2).2.1; obtain ⟨⟨v0, hv0, hn0⟩, hf0⟩ := b2 0 (by omega); obtain ⟨⟨v1, hv1, hn1⟩, hf1⟩ := b2 1 (by omega))
      have hi' := hi2.eq (z' := sg n (lv b32 xs) * sg m (lv b32 ys)) HRES.out
      exact bodyPost_ret (v := .agg #[.bool m2, .slice D l2 c2]) (by simp [results, Try.results25, go_sem, hv0, hv1]) rfl (Ret.I (hi'.kept (store_I b2 hi').1.2.1) (((nw1.trans hn).trans hb2).rr (store_I b2 hi').1 (by omega)))
end Go.Proofs.Ytcgkgcciogibkaa
