/- The contracts of the program's loops on limbs: less, compared, and those of slices.Equal and slices.Clone. -/
import Derived.Test.YtcgkgcciogibkaaA3
set_option linter.unusedVariables false
set_option linter.unusedSimpArgs false
namespace Go.Proofs.Ytcgkgcciogibkaa
open Go.RowKit Ma

/-- What a round of 'less' leaves. -/
structure LessAt (xs ys : List Int) (k : Nat) (zs : List Int) (c : Int) : Prop where
  le : k ≤ xs.length
  len : zs.length = k
  dg : dg b32 zs
  c0 : 0 ≤ c
  c1 : c ≤ 1
  eq : lv b32 zs = lv b32 (xs.take k) - lv b32 (ys.take k) + b32 ^ k * c
theorem LessAt.start (xs ys : List Int) : LessAt xs ys 0 [] 0 := ⟨by omega, rfl, dg_nil _, by omega, by omega, by simp [lv]⟩
theorem LessAt.step {xs ys : List Int} {k : Nat} {zs : List Int} {c : Int} (h : LessAt xs ys k zs c) (dx : Ma.dg b32 xs) (dy : Ma.dg b32 ys) (hk : k < xs.length) :
    LessAt xs ys (k + 1) (zs ++ [(at0 xs k - at0 ys k - c) % 4294967296]) (bor (at0 xs k) (at0 ys k) c) := by
  obtain ⟨h1, h2, h3, h4, h5, h6⟩ := h
  obtain ⟨x0, x1⟩ := dg_at dx (by decide) k
  obtain ⟨y0, y1⟩ := dg_at dy (by decide) k
  rw [b32_eq] at x1 y1
  refine ⟨by omega, by simp [h2], dg_append.2 ⟨h3, fun x hx => ?_⟩, (bor_le _ _ _).1, (bor_le _ _ _).2, ?_⟩
  · rw [List.mem_singleton] at hx; rw [hx, b32_eq]; omega
  · have ey : lv b32 (ys.take (k + 1)) = lv b32 (ys.take k) + b32 ^ k * at0 ys k := by
      by_cases hy : k < ys.length
      · exact lv_take_succ _ _ _ hy
      · rw [at0_zero (by omega), at0_ge (by omega)]; omega
    rw [lv_snoc, h2, lv_take_succ _ _ _ hk, ey, Int.pow_succ, bor_eq _ _ _ ⟨x0, x1⟩ ⟨y0, y1⟩ ⟨h4, h5⟩, h6]
    generalize bor (at0 xs k) (at0 ys k) c = q at *
    rw [b32_eq] at *
    grind
theorem LessAt.done {xs ys : List Int} {k : Nat} {zs : List Int} {c : Int} (h : LessAt xs ys k zs c) (hk : k = xs.length) (hl : ys.length ≤ xs.length) (hv : lv b32 ys ≤ lv b32 xs) :
    Ma.dg b32 zs ∧ lv b32 zs = lv b32 xs - lv b32 ys ∧ zs.length = xs.length := by
  obtain ⟨h1, h2, h3, h4, h5, h6⟩ := h
  subst hk
  rw [List.take_length, List.take_of_length_le hl] at h6
  have h7 := lv_lt (b := b32) (by decide) h3
  rw [h2] at h7
  have h8 := pos_pow (b := b32) (by decide) xs.length
  have : c = 0 := by
    by_cases hc : c = 1
    · subst hc; omega
    · omega
  subst this
  exact ⟨h3, by omega, h2⟩

set_option maxHeartbeats 800000 in
theorem less_c (A B : Option Addr) (c d : Nat) (xs ys : List Int) (w : World) (rA : Rd w .u32 A xs) (rB : Rd w .u32 B ys) (hc : xs.length ≤ c) (hd : ys.length ≤ d) (dx : dg b32 xs) (dy : dg b32 ys) (hl : xs.length ≤ 1000000) (hle : ys.length ≤ xs.length) (hv : lv b32 ys ≤ lv b32 xs) :
    Calls Try.prog 84 #[.slice A xs.length c, .slice B ys.length d] w (Ret w (KL .u32 fun zs => dg b32 zs ∧ lv b32 zs = lv b32 xs - lv b32 ys ∧ zs.length = xs.length)) := by
  obtain ⟨i0, hi, hz0, hz1, hz2⟩ := info_parts info_u32
  go_enter Try.func84, Try.ntmps84
  go_wp2_with (at_make; refine wpList_make_own _ rfl _ _ 22 rfl w.heap.size 92 i0 (.int .u32 0) 1 Try.underlying22 hi hz0 hz1 _ _ _ xs.length rfl rfl (by omega) ?b2 ?b3 (Nat.le_refl _) ?_)
  case b2 => rw [hz2]; omega
  case b3 => unfold maxLen; omega
  intro w0 hown0 hgrow0
  have n0 : Nw w w0 := (Below.refl _ _).grown hgrow0 (Nat.le_refl _) (fun k h => by cases h)
  go_wp2
  go_loopw [5, 6, 17] (fun out cy ci wr => ∃ (k : Nat) (zs : List Int) (cc : Int), ci = .int .i64 k ∧ cy = .int .u32 cc ∧ Own wr w.heap.size 92 .u32 out zs ∧ LessAt xs ys k zs cc ∧ Nw w wr)
    (fun _ _ ci _ => xs.length - (intOf ci).toNat)
  case atStart => exact ⟨0, [], 0, rfl, rfl, hown0, LessAt.start _ _, n0⟩
  case round =>
    obtain ⟨k, zs, cc, rfl, rfl, ho, hs, hn⟩ := hrel
    have hkle := hs.le
    have hc0 := hs.c0
    have hc1 := hs.c1
    have hzl := hs.len
    have hs1 := hs.step dx dy
    by_cases hk : k < xs.length
    · obtain ⟨ad, hA, hcell⟩ := rA.2 k hk
      subst hA
      have hcell := hn.kept _ _ _ hcell
      have hxk := dg_at dx (by decide) k
      have hyk := dg_at dy (by decide) k
      rw [b32_eq] at hxk hyk
      obtain ⟨hx0, hx1⟩ := hxk
      obtain ⟨hy0, hy1⟩ := hyk
      have HS := Lib.hid (hs1 hk)
      have HZ := Lib.hid hzl
      clear hs1 hs hzl
      by_cases hky : k < ys.length
      · obtain ⟨bd, hB, hcellb⟩ := rB.2 k hky
        subst hB
        have hcellb := hn.kept _ _ _ hcellb
        go_wp2_with (first
          | (go_at_call 116; refine (sub32_c _ _ _ _ ⟨hx0, hx1⟩ ⟨hy0, hy1⟩ ⟨hc0, hc1⟩).mono ?_; rintro e w' ⟨rfl, rfl⟩)
          | (at_builtin; refine wpList_append_own _ rfl (.tmp 37) (.tmp 39) 22 rfl w.heap.size 92 i0 (.int .u32 0) 1 4 Try.underlying22 hi hz0 hz1 hz2 rfl (by decide) _ _ _ rfl (ho.alloc _) ⟨wr.heap.size, 0, none⟩ 1 1 [.int .u32 ((at0 xs k - at0 ys k - cc) % 4294967296)] rfl rfl ?c1 ?c2 ?c3 ?c4 ?c5 ?_))
        case c1 => intro j u hu; exact cell_one_new _ _ _ j u hu
        case c2 => simp [Value.oneCell']
        case c3 => unfold maxLen; have := HZ.out; omega
        case c4 => have := HZ.out; omega
        case c5 => have := hn.size; simp; omega
        intro v1 w1 hown1 hgrow1 _
        go_wp2
        go_roundw
        case rel =>
          exact ⟨k + 1, _, _, by go_num, rfl, Own.cast hown1 (by simp) (by simp), HS.out, hn.grown _ ho hgrow1⟩
        case measure => simp [intOf]; omega
      · have hyz : ys.length ≤ k := by omega
        have hyk0 : at0 ys k = 0 := at0_ge (by omega)
        rw [hyk0, Int.sub_zero] at HS
        clear hyk0
        go_wp2_with (first
          | (go_at_call 116; refine (sub32_c _ _ _ _ ⟨hx0, hx1⟩ ⟨Int.le_refl _, by decide⟩ ⟨hc0, hc1⟩).mono ?_; rintro e w' ⟨rfl, rfl⟩)
          | (at_builtin; refine wpList_append_own _ rfl (.tmp 37) (.tmp 39) 22 rfl w.heap.size 92 i0 (.int .u32 0) 1 4 Try.underlying22 hi hz0 hz1 hz2 rfl (by decide) _ _ _ rfl (ho.alloc _) ⟨wr.heap.size, 0, none⟩ 1 1 [.int .u32 ((at0 xs k  - cc) % 4294967296)] rfl rfl ?c1 ?c2 ?c3 ?c4 ?c5 ?_))
        case c1 => intro j u hu; exact cell_one_new _ _ _ j u hu
        case c2 => simp [Value.oneCell']
        case c3 => unfold maxLen; have := HZ.out; omega
        case c4 => have := HZ.out; omega
        case c5 => have := hn.size; simp; omega
        intro v1 w1 hown1 hgrow1 _
        go_wp2
        go_roundw
        case rel =>
          exact ⟨k + 1, _, _, by go_num, rfl, Own.cast hown1 (by simp) (by simp), HS.out, hn.grown _ ho hgrow1⟩
        case measure => simp [intOf]; omega
    · have hke : k = xs.length := by omega
      have HD := Lib.hid (hs.done hke hle hv)
      have HK := Lib.hid hke
      have HZ := Lib.hid hzl
      clear hs hs1 hke hzl
      go_wp2
      go_ret
      exact Ret.own ho HD.out hn

/-- How the values of limbs compare. -/
def cmp (x y : Int) : Int := if x < y then -1 else if x = y then 0 else 1

theorem lv_lt_of_len {b : Int} (hb : 1 < b) {xs ys : List Int} (dx : dg b xs) (dy : dg b ys) (ty : top ys) (h : xs.length < ys.length) : lv b xs < lv b ys := by
  have h1 := lv_lt (by omega) dx
  have h2 := top_le (by omega) dy ty (by intro e; subst e; simp at h)
  have h3 := pow_le (b := b) (by omega) (show xs.length ≤ ys.length - 1 by omega)
  omega
theorem lv_cmp_step {b : Int} (hb : 0 < b) {xs ys : List Int} (dx : dg b xs) (dy : dg b ys) {k : Nat} (hx : k < xs.length) (hy : k < ys.length) (h : lv b (xs.drop (k + 1)) = lv b (ys.drop (k + 1))) (hlt : at0 xs k < at0 ys k) (hl : xs.length = ys.length) : lv b xs < lv b ys := by
  have e1 := lv_split b xs k (by omega)
  have e2 := lv_split b ys k (by omega)
  rw [lv_drop b xs k hx] at e1
  rw [lv_drop b ys k hy] at e2
  have h1 := lv_lt hb (dg_take dx k)
  have h2 := lv_nonneg hb (dg_take dy k)
  rw [List.length_take, Nat.min_eq_left (by omega)] at h1
  have h3 : b ^ k * (at0 xs k + 1) ≤ b ^ k * at0 ys k := Int.mul_le_mul_of_nonneg_left (by omega) (Int.le_of_lt (pos_pow hb k))
  rw [e1, e2, h, Int.mul_add, Int.mul_add]
  rw [Int.mul_add] at h3
  omega

set_option maxHeartbeats 800000 in
theorem compared_c (A B : Option Addr) (c d : Nat) (xs ys : List Int) (w : World) (rA : Rd w .u32 A xs) (rB : Rd w .u32 B ys) (dx : dg b32 xs) (dy : dg b32 ys) (tx : top xs) (ty : top ys) :
    Calls Try.prog 83 #[.slice A xs.length c, .slice B ys.length d] w (Ret w (KV (.int .i64 (cmp (lv b32 xs) (lv b32 ys))))) := by
  have hlx := rA.1
  by_cases hl : xs.length = ys.length
  · have hlb : (xs.length == ys.length) = true := by simpa using hl
    have hlb' : (xs.length != ys.length) = false := by simpa using hl
    have HL := Lib.hid hl
    have hly : ys.length ≤ xs.length := by omega
    clear hl
    have hz : lv b32 (xs.drop xs.length) = lv b32 (ys.drop xs.length) := by rw [List.drop_length, List.drop_eq_nil_of_le hly]
    go_enter Try.func83, Try.ntmps83
    go_wp2
    go_loopw [5] (fun ci wr => ((∃ k : Nat, ci = .int .i64 k ∧ k < xs.length ∧ lv b32 (xs.drop (k + 1)) = lv b32 (ys.drop (k + 1))) ∨ (ci = .int .i64 (-1) ∧ lv b32 (xs.drop 0) = lv b32 (ys.drop 0))) ∧ Nw w wr)
      (fun ci _ => (intOf ci + 1).toNat)
    case atStart =>
      refine ⟨?_, Nw.refl w⟩
      by_cases h0 : xs.length = 0
      · refine .inr ⟨by rw [h0]; rfl, ?_⟩
        rw [← h0]; exact hz
      · refine .inl ⟨xs.length - 1, ?_, by omega, ?_⟩
        · rw [show ((xs.length : Int) - 1) = ((xs.length - 1 : Nat) : Int) by omega]
        · rw [Nat.sub_add_cancel (by omega)]; exact hz
    case round =>
      obtain ⟨hc | hc, hn⟩ := hrel
      · obtain ⟨k, rfl, hk, he⟩ := hc
        have hky : k < ys.length := by have := HL.out; omega
        obtain ⟨ad, hA, hcell⟩ := rA.2 k hk
        obtain ⟨bd, hB, hcellb⟩ := rB.2 k hky
        subst hA hB
        have hcell := hn.kept _ _ _ hcell
        have hcellb := hn.kept _ _ _ hcellb
        have HE := Lib.hid he
        have hk0 : (0 : Int) ≤ (k : Int) := by omega
        have hki : (k : Int) < (xs.length : Int) := by omega
        have hkyi : (k : Int) < (ys.length : Int) := by omega
        clear he hz
        by_cases heq : at0 xs k = at0 ys k
        · have hb1 : (at0 xs k != at0 ys k) = false := by simpa using heq
          have HQ := Lib.hid heq
          clear heq
          go_wp2
          go_quiet (fail)
          go_wp2
          go_roundw
          case rel =>
            refine ⟨?_, hn.drewN _⟩
            have e2 : lv b32 (xs.drop k) = lv b32 (ys.drop k) := by rw [lv_drop _ _ _ hk, lv_drop _ _ _ hky, HQ.out, HE.out]
            by_cases h0 : k = 0
            · subst h0; exact .inr ⟨rfl, e2⟩
            · refine .inl ⟨k - 1, ?_, by omega, by rw [Nat.sub_add_cancel (by omega)]; exact e2⟩
              show Value.int .i64 ((k : Int) - 1) = .int .i64 ((k - 1 : Nat) : Int)
              rw [show ((k : Int) - 1) = ((k - 1 : Nat) : Int) by omega]
          case measure => simp [intOf]
        · have hb1 : (at0 xs k != at0 ys k) = true := by simpa using heq
          by_cases hlt : at0 xs k < at0 ys k
          · have hres : cmp (lv b32 xs) (lv b32 ys) = -1 := by
              unfold cmp; rw [if_pos (lv_cmp_step (by decide) dx dy hk hky HE.out hlt HL.out)]
            have HR := Lib.hid hres
            clear hres heq
            go_wp2
            go_quiet (fail)
            go_wp2
            go_quiet (fail)
            go_wp2
            go_ret
            exact Ret.Veq (by rw [HR.out]; rfl) ((hn.drewN _).drewN _)
          · have hres : cmp (lv b32 xs) (lv b32 ys) = 1 := by
              have := lv_cmp_step (by decide) dy dx hky hk HE.out.symm (by omega) HL.out.symm
              unfold cmp; rw [if_neg (by omega), if_neg (by omega)]
            have HR := Lib.hid hres
            clear hres heq
            go_wp2
            go_quiet (fail)
            go_wp2
            go_quiet (fail)
            go_wp2
            go_ret
            exact Ret.Veq (by rw [HR.out]; rfl) ((hn.drewN _).drewN _)
      · obtain ⟨rfl, he⟩ := hc
        have hres : cmp (lv b32 xs) (lv b32 ys) = 0 := by
          rw [List.drop_zero, List.drop_zero] at he
          unfold cmp; rw [if_neg (by omega), if_pos he]
        have HR := Lib.hid hres
        clear hres he hz
        go_wp2
        go_ret
        exact Ret.Veq (by rw [HR.out]; rfl) hn
  · have hlb : ((xs.length : Int) != (ys.length : Int)) = true := by simp; omega
    by_cases hlt : xs.length < ys.length
    · have hres : cmp (lv b32 xs) (lv b32 ys) = -1 := by
        unfold cmp; rw [if_pos (lv_lt_of_len (by decide) dx dy ty hlt)]
      have HR := Lib.hid hres
      clear hres hl
      go_enter Try.func83, Try.ntmps83
      go_wp2
      go_ret
      exact Ret.Veq (by rw [HR.out]; rfl) (Nw.refl w)
    · have hres : cmp (lv b32 xs) (lv b32 ys) = 1 := by
        have := lv_lt_of_len (by decide) dy dx tx (show ys.length < xs.length by omega)
        unfold cmp; rw [if_neg (by omega), if_neg (by omega)]
      have HR := Lib.hid hres
      clear hres hl
      go_enter Try.func83, Try.ntmps83
      go_wp2
      go_ret
      exact Ret.Veq (by rw [HR.out]; rfl) (Nw.refl w)

set_option maxHeartbeats 800000 in
/-- slices.Equal on limbs. -/
theorem equal_c (A B : Option Addr) (c d : Nat) (xs ys : List Int) (w : World) (rA : Rd w .u32 A xs) (rB : Rd w .u32 B ys) :
    Calls Try.prog 77 #[.slice A xs.length c, .slice B ys.length d] w (Ret w (KV (.bool (decide (xs = ys))))) := by
  have hlx := rA.1
  by_cases hl : xs.length = ys.length
  · have hlb : ((xs.length : Int) != (ys.length : Int)) = false := by simp; omega
    have HL := Lib.hid hl
    have hly : ys.length ≤ xs.length := by omega
    clear hl
    go_enter Try.func77, Try.ntmps77
    go_wp2
    go_loopw [5, 13] (fun _ ci wr => (∃ k : Nat, ci = .int .i64 k ∧ k ≤ xs.length ∧ xs.take k = ys.take k) ∧ Nw w wr)
      (fun _ ci _ => xs.length - (intOf ci).toNat)
    case atStart => exact ⟨⟨0, rfl, by omega, by simp⟩, Nw.refl w⟩
    case round =>
      obtain ⟨⟨k, rfl, hk, he⟩, hn⟩ := hrel
      have HE := Lib.hid he
      clear he
      by_cases hlt : k < xs.length
      · have hky : k < ys.length := by have := HL.out; omega
        obtain ⟨ad, hA, hcell⟩ := rA.2 k hlt
        obtain ⟨bd, hB, hcellb⟩ := rB.2 k hky
        subst hA hB
        have hcell := hn.kept _ _ _ hcell
        have hcellb := hn.kept _ _ _ hcellb
        have hk0 : (0 : Int) ≤ (k : Int) := by omega
        have hki : (k : Int) < (xs.length : Int) := by omega
        have hkyi : (k : Int) < (ys.length : Int) := by omega
        by_cases heq : at0 xs k = at0 ys k
        · have hb1 : (at0 xs k != at0 ys k) = false := by simpa using heq
          have HQ := Lib.hid heq
          clear heq
          go_wp2
          go_quiet (fail)
          go_wp2
          go_roundw
          case rel =>
            refine ⟨⟨k + 1, by go_num, by omega, ?_⟩, hn.drewN _⟩
            rw [List.take_succ_eq_append_getElem hlt, List.take_succ_eq_append_getElem hky, HE.out]
            have := HQ.out
            rw [at0_of_lt hlt, at0_of_lt hky] at this
            rw [this]
          case measure => simp [intOf]; omega
        · have hb1 : (at0 xs k != at0 ys k) = true := by simpa using heq
          have hres : decide (xs = ys) = false := by simp; intro e; subst e; exact heq rfl
          have HR := Lib.hid hres
          clear hres heq
          go_wp2
          go_quiet (fail)
          go_wp2
          go_ret
          exact Ret.Veq (by rw [HR.out]; rfl) (hn.drewN _)
      · have hres : decide (xs = ys) = true := by
          simp
          have := HE.out
          rwa [List.take_of_length_le (by omega), List.take_of_length_le (by omega)] at this
        have HR := Lib.hid hres
        clear hres
        go_wp2
        go_ret
        exact Ret.Veq (by rw [HR.out]; rfl) hn
  · have hlb : ((xs.length : Int) != (ys.length : Int)) = true := by simp; omega
    have hres : decide (xs = ys) = false := by simp; intro e; subst e; exact hl rfl
    have HR := Lib.hid hres
    clear hres hl
    go_enter Try.func77, Try.ntmps77
    go_wp2
    go_ret
    exact Ret.Veq (by rw [HR.out]; rfl) (Nw.refl w)

set_option maxHeartbeats 800000 in
set_option maxRecDepth 100000 in
/-- slices.Clone on limbs. -/
theorem clone_o (A : Option Addr) (c : Nat) (xs : List Int) (w : World) (rA : Rd w .u32 A xs) (hl : xs.length ≤ 1000000) :
    Calls Try.prog 112 #[.slice A xs.length c] w (Ret w (fun v W => Own W w.heap.size 92 .u32 v xs)) := by
  obtain ⟨i0, hi, hz0, hz1, hz2⟩ := info_parts info_u32
  cases A with
  | none =>
    have h0 : xs = [] := by
      cases xs with
      | nil => rfl
      | cons x xs => obtain ⟨ad, e, _⟩ := rA.2 0 (by simp); cases e
    subst h0
    have hnn := fun (w : World) (n c : Nat) => Lib.run_eql_slice_nil (P := Try.prog) w 22 92 none n c 0 0 Try.underlying22
    go_enter Try.func112, Try.ntmps112
    go_wp2
    go_ret
    exact ⟨_, rfl, Own.nil w _ _ .u32, Nw.refl w⟩
  | some ad =>
    have hnn := fun (w : World) (n c : Nat) => Lib.run_eql_slice_nil (P := Try.prog) w 22 92 (some ad) n c 0 0 Try.underlying22
    go_enter Try.func112, Try.ntmps112
    have RA := Lib.hid rA
    clear rA
    go_wp2_with (at_builtin; refine wpList_append_own _ rfl _ _ 22 rfl w.heap.size 92 i0 (.int .u32 0) 1 4 Try.underlying22 hi hz0 hz1 hz2 rfl (by decide) _ _ _ rfl (World.ownsRow_made w #[] 0 (Nat.le_refl _) (Nat.zero_le _) rfl) ad xs.length c (xs.map (Value.int .u32)) rfl ?c0 ?c1 ?c2 ?c3 ?c4 ?c5 ?_)
    case c0 => simp
    case c1 =>
      intro j u hu
      have hj : j < xs.length := by have := (List.getElem?_eq_some_iff.1 hu).1; simpa using this
      obtain ⟨ad', e, hcell⟩ := RA.out.2 j hj
      injection e with e
      subst e
      rw [List.getElem?_map, List.getElem?_eq_getElem hj] at hu
      injection hu with hu
      subst hu
      rw [at0_of_lt hj] at hcell
      exact Lib.cell?_alloc_some _ hcell
    case c2 => intro u hu; obtain ⟨x, _, rfl⟩ := List.mem_map.1 hu; rfl
    case c3 => unfold maxLen; omega
    case c4 => omega
    case c5 => simp
    intro v' w1 hown hgrow _
    go_wp2
    go_ret
    exact ⟨_, rfl, Own.cast (xs := xs) hown (by simp) (by simp), (Below.grown ((Nw.refl w).alloc _) hgrow (by simp) (by intro k hk; simp [Value.ownBlock] at hk; omega))⟩
theorem clone_c (A : Option Addr) (c : Nat) (xs : List Int) (w : World) (rA : Rd w .u32 A xs) (hl : xs.length ≤ 1000000) :
    Calls Try.prog 112 #[.slice A xs.length c] w (Ret w (KL .u32 fun zs => xs = zs)) :=
  (clone_o A c xs w rA hl).mono fun e w' ⟨v, e1, ho, hb⟩ => by obtain ⟨A', c', rfl, h1, h2⟩ := ho.rd; exact ⟨_, e1, ⟨xs, A', c', rfl, h1, h2, rfl⟩, hb⟩
end Go.Proofs.Ytcgkgcciogibkaa
