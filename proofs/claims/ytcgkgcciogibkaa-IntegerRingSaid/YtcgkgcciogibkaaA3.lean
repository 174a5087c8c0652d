/- The contracts of the program's loops on limbs: sum. -/
import Derived.Test.YtcgkgcciogibkaaA2
set_option linter.unusedVariables false
set_option linter.unusedSimpArgs false
namespace Go.Proofs.Ytcgkgcciogibkaa
open Go.RowKit Ma

theorem info_u32 : (Try.prog.info? 92).map (fun i => (i.zero, i.size, i.bytes)) = some (some (.int .u32 0), 1, 4) := by kernel_rfl

/-- What a round of 'sum' leaves. -/
structure SumAt (xs ys : List Int) (k : Nat) (zs : List Int) (c : Int) : Prop where
  le : k ≤ xs.length
  len : zs.length = k
  dg : dg b32 zs
  c0 : 0 ≤ c
  c1 : c ≤ 1
  eq : lv b32 zs + b32 ^ k * c = lv b32 (xs.take k) + lv b32 (ys.take k)
theorem SumAt.start (xs ys : List Int) : SumAt xs ys 0 [] 0 := ⟨by omega, rfl, dg_nil _, by omega, by omega, by simp [lv]⟩
theorem at0_zero {ys : List Int} {k : Nat} (h : ys.length ≤ k) : lv b32 (ys.take (k + 1)) = lv b32 (ys.take k) := by
  rw [List.take_of_length_le (by omega), List.take_of_length_le h]
theorem SumAt.step {xs ys : List Int} {k : Nat} {zs : List Int} {c : Int} (h : SumAt xs ys k zs c) (dx : Ma.dg b32 xs) (dy : Ma.dg b32 ys) (hk : k < xs.length) :
    SumAt xs ys (k + 1) (zs ++ [(at0 xs k + at0 ys k + c) % 4294967296]) ((at0 xs k + at0 ys k + c) / 4294967296) := by
  obtain ⟨h1, h2, h3, h4, h5, h6⟩ := h
  obtain ⟨x0, x1⟩ := dg_at dx (by decide) k
  obtain ⟨y0, y1⟩ := dg_at dy (by decide) k
  rw [b32_eq] at x1 y1
  refine ⟨by omega, by simp [h2], dg_append.2 ⟨h3, fun x hx => ?_⟩, by omega, by omega, ?_⟩
  · rw [List.mem_singleton] at hx; rw [hx, b32_eq]; omega
  · have ey : lv b32 (ys.take (k + 1)) = lv b32 (ys.take k) + b32 ^ k * at0 ys k := by
      by_cases hy : k < ys.length
      · exact lv_take_succ _ _ _ hy
      · rw [at0_zero (by omega), at0_ge (by omega)]; omega
    rw [lv_snoc, h2, lv_take_succ _ _ _ hk, ey, Int.pow_succ]
    have e := Int.mul_ediv_add_emod (at0 xs k + at0 ys k + c) 4294967296
    generalize (at0 xs k + at0 ys k + c) / 4294967296 = q at *
    generalize (at0 xs k + at0 ys k + c) % 4294967296 = r at *
    rw [b32_eq] at *
    grind
theorem SumAt.done {xs ys : List Int} {k : Nat} {zs : List Int} {c : Int} (h : SumAt xs ys k zs c) (hk : k = xs.length) (hl : ys.length ≤ xs.length) :
    Ma.dg b32 (zs ++ [c]) ∧ lv b32 (zs ++ [c]) = lv b32 xs + lv b32 ys ∧ (zs ++ [c]).length = xs.length + 1 := by
  obtain ⟨h1, h2, h3, h4, h5, h6⟩ := h
  subst hk
  refine ⟨dg_append.2 ⟨h3, fun x hx => ?_⟩, ?_, by simp [h2]⟩
  · rw [List.mem_singleton] at hx; rw [hx, b32_eq]; omega
  · rw [lv_snoc, h2, h6, List.take_length, List.take_of_length_le hl]

set_option maxHeartbeats 800000 in
theorem sum_c (A B : Option Addr) (c d : Nat) (xs ys : List Int) (w : World) (rA : Rd w .u32 A xs) (rB : Rd w .u32 B ys) (hc : xs.length ≤ c) (hd : ys.length ≤ d) (dx : dg b32 xs) (dy : dg b32 ys) (hl : xs.length ≤ 1000000) (hl2 : ys.length ≤ 1000000) :
    Calls Try.prog 82 #[.slice A xs.length c, .slice B ys.length d] w (Ret w (KL .u32 fun zs => dg b32 zs ∧ lv b32 zs = lv b32 xs + lv b32 ys ∧ zs.length ≤ xs.length + ys.length + 1)) := by
  by_cases hle : ys.length ≤ xs.length
  · have hlt : decide (xs.length < ys.length) = false := by simp; omega
    obtain ⟨i0, hi, hz0, hz1, hz2⟩ := info_parts info_u32
    go_enter Try.func82, Try.ntmps82
    go_wp2_with (at_make; refine wpList_make_own _ rfl _ _ 22 rfl w.heap.size 92 i0 (.int .u32 0) 1 Try.underlying22 hi hz0 hz1 _ _ _ (xs.length + 1) rfl rfl (by omega) ?b2 ?b3 (Nat.le_refl _) ?_)
    case b2 => rw [hz2]; omega
    case b3 => unfold maxLen; omega
    intro w0 hown0 hgrow0
    go_wp2
    have n0 : Nw w w0 := (Below.refl _ _).grown hgrow0 (Nat.le_refl _) (fun k h => by cases h)
    go_loopw [5, 6, 25] (fun out cy ci wr => ∃ (k : Nat) (zs : List Int) (cc : Int), ci = .int .i64 k ∧ cy = .int .u32 cc ∧ Own wr w.heap.size 92 .u32 out zs ∧ SumAt xs ys k zs cc ∧ Nw w wr)
      (fun _ _ ci _ => xs.length - (intOf ci).toNat)
    case atStart => exact ⟨0, [], 0, rfl, rfl, hown0, SumAt.start _ _, n0⟩
    case round =>
      obtain ⟨k, zs, cc, rfl, rfl, ho, hs, hn⟩ := hrel
      have hkle := hs.le
      have hc0 := hs.c0
      have hc1 := hs.c1
      have hzl := hs.len
      have hs1 := hs.step dx dy
      by_cases hk : k < xs.length
      · obtain ⟨ad, hA, hcell⟩ := rA.2 k hk
        subst hA
        have hcell := hn.kept _ _ _ hcell
        have hxk := dg_at dx (by decide) k
        have hyk := dg_at dy (by decide) k
        rw [b32_eq] at hxk hyk
        obtain ⟨hx0, hx1⟩ := hxk
        obtain ⟨hy0, hy1⟩ := hyk
        have HS := Lib.hid (hs1 hk)
        have HZ := Lib.hid hzl
        clear hs1 hs hzl
        by_cases hky : k < ys.length
        · obtain ⟨bd, hB, hcellb⟩ := rB.2 k hky
          subst hB
          have hcellb := hn.kept _ _ _ hcellb
          go_wp2_with (first
            | (go_at_call 115; refine (add32_c _ _ _ _ ⟨hx0, hx1⟩ ⟨hy0, hy1⟩ ⟨hc0, hc1⟩).mono ?_; rintro e w' ⟨rfl, rfl⟩)
            | (at_builtin; refine wpList_append_own _ rfl (.tmp 45) (.tmp 47) 22 rfl w.heap.size 92 i0 (.int .u32 0) 1 4 Try.underlying22 hi hz0 hz1 hz2 rfl (by decide) _ _ _ rfl (ho.alloc _) ⟨wr.heap.size, 0, none⟩ 1 1 [.int .u32 ((at0 xs k + at0 ys k + cc) % 4294967296)] rfl rfl ?c1 ?c2 ?c3 ?c4 ?c5 ?_))
          case c1 => intro j u hu; exact cell_one_new _ _ _ j u hu
          case c2 => simp [Value.oneCell']
          case c3 => unfold maxLen; have := HZ.out; omega
          case c4 => have := HZ.out; omega
          case c5 => have := hn.size; simp; omega
          intro v1 w1 hown1 hgrow1 _
          go_wp2
          go_roundw
          case rel =>
            exact ⟨k + 1, _, _, by go_num, rfl, Own.cast hown1 (by simp) (by simp), HS.out, hn.grown _ ho hgrow1⟩
          case measure => simp [intOf]; omega
        · have hyz : ys.length ≤ k := by omega
          have hyk0 : at0 ys k = 0 := at0_ge (by omega)
          rw [hyk0, Int.add_zero] at HS
          clear hyk0
          go_wp2_with (first
            | (go_at_call 115; refine (add32_c _ _ _ _ ⟨hx0, hx1⟩ ⟨Int.le_refl _, by decide⟩ ⟨hc0, hc1⟩).mono ?_; rintro e w' ⟨rfl, rfl⟩)
            | (at_builtin; refine wpList_append_own _ rfl (.tmp 45) (.tmp 47) 22 rfl w.heap.size 92 i0 (.int .u32 0) 1 4 Try.underlying22 hi hz0 hz1 hz2 rfl (by decide) _ _ _ rfl (ho.alloc _) ⟨wr.heap.size, 0, none⟩ 1 1 [.int .u32 ((at0 xs k + cc) % 4294967296)] rfl rfl ?c1 ?c2 ?c3 ?c4 ?c5 ?_))
          case c1 => intro j u hu; exact cell_one_new _ _ _ j u hu
          case c2 => simp [Value.oneCell']
          case c3 => unfold maxLen; have := HZ.out; omega
          case c4 => have := HZ.out; omega
          case c5 => have := hn.size; simp; omega
          intro v1 w1 hown1 hgrow1 _
          go_wp2
          go_roundw
          case rel =>
            exact ⟨k + 1, _, _, by go_num, rfl, Own.cast hown1 (by simp) (by simp), HS.out, hn.grown _ ho hgrow1⟩
          case measure => simp [intOf]; omega
      · have hke : k = xs.length := by omega
        have HD := Lib.hid (hs.done hke hle)
        have HK := Lib.hid hke
        have HZ := Lib.hid hzl
        clear hs hs1 hke hzl
        go_wp2_with (at_builtin; refine wpList_append_own _ rfl (.tmp 51) (.tmp 53) 22 rfl w.heap.size 92 i0 (.int .u32 0) 1 4 Try.underlying22 hi hz0 hz1 hz2 rfl (by decide) _ _ _ rfl (ho.alloc _) ⟨wr.heap.size, 0, none⟩ 1 1 [.int .u32 cc] rfl rfl ?c1 ?c2 ?c3 ?c4 ?c5 ?_)
        case c1 => intro j u hu; exact cell_one_new _ _ _ j u hu
        case c2 => simp [Value.oneCell']
        case c3 => unfold maxLen; have := HZ.out; omega
        case c4 => have := HZ.out; omega
        case c5 => have := hn.size; simp; omega
        intro v1 w1 hown1 hgrow1 _
        go_wp2
        go_ret
        exact Ret.own (Own.cast (xs := zs ++ [cc]) hown1 (by simp) (by simp)) (by have := HD.out; exact ⟨this.1, this.2.1, by omega⟩) (hn.grown _ ho hgrow1)
  · have hlt : decide (xs.length < ys.length) = true := by simp; omega
    have hle' : xs.length ≤ ys.length := by omega
    clear hle
    obtain ⟨i0, hi, hz0, hz1, hz2⟩ := info_parts info_u32
    go_enter Try.func82, Try.ntmps82
    go_wp2_with (at_make; refine wpList_make_own _ rfl _ _ 22 rfl w.heap.size 92 i0 (.int .u32 0) 1 Try.underlying22 hi hz0 hz1 _ _ _ (ys.length + 1) rfl rfl (by omega) ?b2 ?b3 (Nat.le_refl _) ?_)
    case b2 => rw [hz2]; omega
    case b3 => unfold maxLen; omega
    intro w0 hown0 hgrow0
    go_wp2
    have n0 : Nw w w0 := (Below.refl _ _).grown hgrow0 (Nat.le_refl _) (fun k h => by cases h)
    go_loopw [5, 6, 25] (fun out cy ci wr => ∃ (k : Nat) (zs : List Int) (cc : Int), ci = .int .i64 k ∧ cy = .int .u32 cc ∧ Own wr w.heap.size 92 .u32 out zs ∧ SumAt ys xs k zs cc ∧ Nw w wr)
      (fun _ _ ci _ => ys.length - (intOf ci).toNat)
    case atStart => exact ⟨0, [], 0, rfl, rfl, hown0, SumAt.start _ _, n0⟩
    case round =>
      obtain ⟨k, zs, cc, rfl, rfl, ho, hs, hn⟩ := hrel
      have hkle := hs.le
      have hc0 := hs.c0
      have hc1 := hs.c1
      have hzl := hs.len
      have hs1 := hs.step dy dx
      by_cases hk : k < ys.length
      · obtain ⟨ad, hA, hcell⟩ := rB.2 k hk
        subst hA
        have hcell := hn.kept _ _ _ hcell
        have hxk := dg_at dy (by decide) k
        have hyk := dg_at dx (by decide) k
        rw [b32_eq] at hxk hyk
        obtain ⟨hx0, hx1⟩ := hxk
        obtain ⟨hy0, hy1⟩ := hyk
        have HS := Lib.hid (hs1 hk)
        have HZ := Lib.hid hzl
        clear hs1 hs hzl
        by_cases hky : k < xs.length
        · obtain ⟨bd, hB, hcellb⟩ := rA.2 k hky
          subst hB
          have hcellb := hn.kept _ _ _ hcellb
          go_wp2_with (first
            | (go_at_call 115; refine (add32_c _ _ _ _ ⟨hx0, hx1⟩ ⟨hy0, hy1⟩ ⟨hc0, hc1⟩).mono ?_; rintro e w' ⟨rfl, rfl⟩)
            | (at_builtin; refine wpList_append_own _ rfl (.tmp 45) (.tmp 47) 22 rfl w.heap.size 92 i0 (.int .u32 0) 1 4 Try.underlying22 hi hz0 hz1 hz2 rfl (by decide) _ _ _ rfl (ho.alloc _) ⟨wr.heap.size, 0, none⟩ 1 1 [.int .u32 ((at0 ys k + at0 xs k + cc) % 4294967296)] rfl rfl ?c1 ?c2 ?c3 ?c4 ?c5 ?_))
          case c1 => intro j u hu; exact cell_one_new _ _ _ j u hu
          case c2 => simp [Value.oneCell']
          case c3 => unfold maxLen; have := HZ.out; omega
          case c4 => have := HZ.out; omega
          case c5 => have := hn.size; simp; omega
          intro v1 w1 hown1 hgrow1 _
          go_wp2
          go_roundw
          case rel =>
            exact ⟨k + 1, _, _, by go_num, rfl, Own.cast hown1 (by simp) (by simp), HS.out, hn.grown _ ho hgrow1⟩
          case measure => simp [intOf]; omega
        · have hyz : xs.length ≤ k := by omega
          have hyk0 : at0 xs k = 0 := at0_ge (by omega)
          rw [hyk0, Int.add_zero] at HS
          clear hyk0
          go_wp2_with (first
            | (go_at_call 115; refine (add32_c _ _ _ _ ⟨hx0, hx1⟩ ⟨Int.le_refl _, by decide⟩ ⟨hc0, hc1⟩).mono ?_; rintro e w' ⟨rfl, rfl⟩)
            | (at_builtin; refine wpList_append_own _ rfl (.tmp 45) (.tmp 47) 22 rfl w.heap.size 92 i0 (.int .u32 0) 1 4 Try.underlying22 hi hz0 hz1 hz2 rfl (by decide) _ _ _ rfl (ho.alloc _) ⟨wr.heap.size, 0, none⟩ 1 1 [.int .u32 ((at0 ys k + cc) % 4294967296)] rfl rfl ?c1 ?c2 ?c3 ?c4 ?c5 ?_))
          case c1 => intro j u hu; exact cell_one_new _ _ _ j u hu
          case c2 => simp [Value.oneCell']
          case c3 => unfold maxLen; have := HZ.out; omega
          case c4 => have := HZ.out; omega
          case c5 => have := hn.size; simp; omega
          intro v1 w1 hown1 hgrow1 _
          go_wp2
          go_roundw
          case rel =>
            exact ⟨k + 1, _, _, by go_num, rfl, Own.cast hown1 (by simp) (by simp), HS.out, hn.grown _ ho hgrow1⟩
          case measure => simp [intOf]; omega
      · have hke : k = ys.length := by omega
        have HD := Lib.hid (hs.done hke hle')
        have HK := Lib.hid hke
        have HZ := Lib.hid hzl
        clear hs hs1 hke hzl
        go_wp2_with (at_builtin; refine wpList_append_own _ rfl (.tmp 51) (.tmp 53) 22 rfl w.heap.size 92 i0 (.int .u32 0) 1 4 Try.underlying22 hi hz0 hz1 hz2 rfl (by decide) _ _ _ rfl (ho.alloc _) ⟨wr.heap.size, 0, none⟩ 1 1 [.int .u32 cc] rfl rfl ?c1 ?c2 ?c3 ?c4 ?c5 ?_)
        case c1 => intro j u hu; exact cell_one_new _ _ _ j u hu
        case c2 => simp [Value.oneCell']
        case c3 => unfold maxLen; have := HZ.out; omega
        case c4 => have := HZ.out; omega
        case c5 => have := hn.size; simp; omega
        intro v1 w1 hown1 hgrow1 _
        go_wp2
        go_ret
        exact Ret.own (Own.cast (xs := zs ++ [cc]) hown1 (by simp) (by simp)) (by have := HD.out; exact ⟨this.1, by rw [this.2.1, Int.add_comm], by omega⟩) (hn.grown _ ho hgrow1)
end Go.Proofs.Ytcgkgcciogibkaa
