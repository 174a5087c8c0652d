/- Contracts and words, parts F2, F0, F4, F5, F6, F3, Syd, Sye, Syf, Syg, D2, in one file. -/
import Derived.Deep.CutRange
import Derived.Deep.DeepCutAuto
import Derived.IntWalk
import Derived.Deep.LoopGhost
import Derived.RowKit
import Derived.Test.YtcgkgcciogibkaaK3
import Derived.Test.YtcgkgcciogibkaaK4
/- The contracts of the program's sized, ones, and, Field, Shift. -/
set_option linter.unusedVariables false
set_option linter.unusedSimpArgs false
namespace Go.Proofs.Ytcgkgcciogibkaa
open Go.RowKit Ma

/-- A number of so many bits has so many limbs. -/
theorem RI.bits_le {w : World} {n : Bool} {A : Option Addr} {l c : Nat} {z : Int} (h : RI w n A l c z) (m : Nat) (h1 : -(2 ^ m) ≤ z) (h2 : z ≤ 2 ^ m) : l ≤ m / 32 + 1 := by
  have e : (b32 : Int) ^ (m / 32 + 1) = 2 ^ (32 * (m / 32 + 1)) := by rw [b32_eq, Int.pow_mul]; rfl
  have p : (0 : Int) < 2 ^ m := Int.pow_pos (by decide)
  have q := pow_le (b := 2) (by decide) (show m + 1 ≤ 32 * (m / 32 + 1) by omega)
  rw [Int.pow_succ] at q
  exact h.len_le _ (by rw [e]; omega) (by rw [e]; omega)
/-- Are a size and a position right. -/
def sz (a b : Int) : Bool := decide (0 ≤ a) && decide (a ≤ 65536) && decide (0 ≤ b) && decide (b ≤ 65536)
set_option maxHeartbeats 800000 in
theorem sized_c {a b : Int} {w : World} : Calls Try.prog 106 #[.int .i64 a, .int .i64 b] w fun e w' => e = .returned (.bool (sz a b)) ∧ w = w' := by
  by_cases h1 : 0 ≤ a
  · by_cases h2 : a ≤ 65536
    · by_cases h3 : 0 ≤ b
      · by_cases h4 : b ≤ 65536
        · have HZ := Lib.hid (show sz a b = true by simp [sz, h1, h2, h3, h4])
          go_enter Try.func106, Try.ntmps106
          go_wp2
          go_ret
          exact ⟨ret_val (by rw [HZ.out]; rfl), rfl⟩
        · have HZ := Lib.hid (show sz a b = false by simp [sz, h1, h2, h3, h4])
          go_enter Try.func106, Try.ntmps106
          go_wp2
          go_ret
          exact ⟨ret_val (by rw [HZ.out]; rfl), rfl⟩
      · have HZ := Lib.hid (show sz a b = false by simp [sz, h1, h2, h3])
        go_enter Try.func106, Try.ntmps106
        go_wp2
        go_ret
        exact ⟨ret_val (by rw [HZ.out]; rfl), rfl⟩
    · have HZ := Lib.hid (show sz a b = false by simp [sz, h1, h2])
      go_enter Try.func106, Try.ntmps106
      go_wp2
      go_ret
      exact ⟨ret_val (by rw [HZ.out]; rfl), rfl⟩
  · have HZ := Lib.hid (show sz a b = false by simp [sz, h1])
    go_enter Try.func106, Try.ntmps106
    go_wp2
    go_ret
    exact ⟨ret_val (by rw [HZ.out]; rfl), rfl⟩

set_option maxHeartbeats 1600000 in
set_option maxRecDepth 100000 in
theorem ones_c {k : Nat} {w : World} (hk : k ≤ 65536) :
    Calls Try.prog 108 #[.int .i64 k] w (Ret w (KI (2 ^ k - 1))) := by
  have nw1 : Nw w (w.alloc (.cells #[.bool false, .slice none 0 0] 28)) := (Nw.refl w).alloc _
  have sg0 : Sg [] w.heap.size 2 (w.alloc (.cells #[.bool false, .slice none 0 0] 28)) := ⟨trivial, box_two w 28 false none 0 0, by go_simp⟩
  have hsh : sh 1 (k : Int) = 2 ^ k := by unfold sh; rw [if_pos (by omega), Int.one_mul]; rfl
  have hp : (0 : Int) < 2 ^ k := Int.pow_pos (by decide)
  have HP := Lib.hid (⟨hsh, hp⟩ : _ ∧ _)
  clear hsh hp
  go_enter Try.func108, Try.ntmps108
  go_wp2_with fail
  refine (new_c (x := 1) (by omega)).mono ?_
  rintro e w1 ⟨_, rfl, ⟨m1, D1, l1, c1, rfl, i1⟩, hb1⟩
  have hl1 := i1.len_le 1 (by decide) (by decide)
  go_wp2_with fail
  refine (shift_c i1 (by omega) (by omega) (by omega)).mono ?_
  rintro e w2 ⟨_, rfl, ⟨m2, D2, l2, c2, rfl, i2⟩, hb2⟩
  have hl2 := (i2.eq HP.out.1).bits_le k (by have := HP.out.2; omega) (Int.le_refl _)
  go_wp2_with fail
  refine (new_c (x := 1) (by omega)).mono ?_
  rintro e w3 ⟨_, rfl, ⟨m3, D3, l3, c3, rfl, i3⟩, hb3⟩
  have hl3 := i3.len_le 1 (by decide) (by decide)
  go_wp2_with fail
  refine (sub_c (i2.kept hb3.kept) i3 (by omega) (by omega)).mono ?_
  rintro e w4 ⟨_, rfl, ⟨m4, D4, l4, c4, rfl, i4⟩, hb4⟩
  have b2 := ((((sg0.nw hb1).nw hb2).nw hb3).nw hb4).2.1
  obtain ⟨⟨v0, hv0, hn0⟩, hf0⟩ := b2 0 (by omega)
  obtain ⟨⟨v1, hv1, hn1⟩, hf1⟩ := b2 1 (by omega)
  go_wp2
  have hi' := i4.eq (z' := 2 ^ k - 1) (by rw [HP.out.1])
  exact bodyPost_ret (v := .agg #[.bool m4, .slice D4 l4 c4]) (by simp [results, Try.results108, go_sem, hv0, hv1]) rfl (Ret.I (hi'.kept (store_I b2 hi').1.2.1) (((((nw1.trans hb1).trans hb2).trans hb3).trans hb4).rr (store_I b2 hi').1 (by omega)))
end Go.Proofs.Ytcgkgcciogibkaa
/- Boole's contract with a bound for its answer. -/
set_option linter.unusedVariables false
set_option linter.unusedSimpArgs false
namespace Go.Proofs.Ytcgkgcciogibkaa
open Go.RowKit Ma

theorem sx_bd (m : Nat) (v : Int) (h0 : 0 ≤ v) (h1 : v < b32 ^ m) : -(b32 ^ m) < sx m v ∧ sx m v < b32 ^ m := by
  have p := pos_pow (b := b32) (by decide) m
  unfold sx
  split <;> omega
theorem boole_b {x y : Int} {n m : Bool} {A B : Option Addr} {l l' c d : Nat} {w : World} {op : Int} (hx : RI w n A l c x) (hy : RI w m B l' d y) (hl : l ≤ 300000) (hl' : l' ≤ 300000) (ho : 0 ≤ op) (ho2 : op ≤ 15) :
    Calls Try.prog 17 #[.agg #[.bool n, .slice A l c], .int .i64 op, .agg #[.bool m, .slice B l' d]] w (Ret w (K2 (fun v W => KI (bo op x y) v W ∧ -(b32 ^ (max l l' + 1)) < bo op x y ∧ bo op x y < b32 ^ (max l l' + 1)) (KV (.int .i64 0)))) := by
  have bx := hx.abs_lt
  have by' := hy.abs_lt
  refine (boole_w hx hy hl hl' ho ho2).mono fun e w' ⟨v, e1, ⟨v1, v2, e2, ⟨us, vs, ts, N, hN, lu, lv', lt, du, dv, dt, eu, ev, ht, hk⟩, h2⟩, hb⟩ => ⟨v, e1, ⟨v1, v2, e2, ?_, h2⟩, hb⟩
  have p1 := pow_le (b := b32) (by decide) (show l ≤ N - 1 by omega)
  have p2 := pow_le (b := b32) (by decide) (show l' ≤ N - 1 by omega)
  have t0 := lv_nonneg (show (0 : Int) < b32 by decide) dt
  have t1 := lv_lt (show (0 : Int) < b32 by decide) dt
  rw [lt] at t1
  rw [← bo_eq (boole_law ho ho2 (by omega) lu lv' lt du dv dt eu ev ht (by omega) (by omega) (by omega) (by omega)), ← hN]
  exact ⟨hk, sx_bd N _ t0 t1⟩
end Go.Proofs.Ytcgkgcciogibkaa
/- The contracts of the program's and, Field, Shift. -/
set_option linter.unusedVariables false
set_option linter.unusedSimpArgs false
namespace Go.Proofs.Ytcgkgcciogibkaa
open Go.RowKit Ma

theorem sh_dn {x n : Int} (hn : n ≤ 0) : (0 ≤ x → 0 ≤ sh x n ∧ sh x n ≤ x) ∧ (x < 0 → x ≤ sh x n ∧ sh x n < 0) := by
  by_cases h0 : 0 ≤ n
  · have : n = 0 := by omega
    subst this
    have : sh x 0 = x := by unfold sh; simp
    rw [this]; omega
  · have e : sh x n = x / 2 ^ (-n).toNat := by unfold sh; rw [if_neg h0]
    rw [e]
    have hp : (0 : Int) < 2 ^ (-n).toNat := Int.pow_pos (by decide)
    refine ⟨fun h => ⟨Int.ediv_nonneg h (by omega), Int.ediv_le_self _ h⟩, fun h => ?_⟩
    have a := shr_neg x (-n).toNat
    have b : 0 ≤ (-1 - x) / 2 ^ (-n).toNat := Int.ediv_nonneg (by omega) (by omega)
    have c : (-1 - x) / 2 ^ (-n).toNat ≤ -1 - x := Int.ediv_le_self _ (by omega)
    omega
theorem sh_dn_len {w w' : World} {x n : Int} {a b : Bool} {A B : Option Addr} {l l' c d : Nat} (hx : RI w a A l c x) (hy : RI w' b B l' d (sh x n)) (hn : n ≤ 0) : l' ≤ l := by
  have h := hx.abs_lt
  obtain ⟨p, q⟩ := sh_dn (x := x) hn
  by_cases h0 : 0 ≤ x
  · have := p h0
    exact hy.len_le l (by omega) (by omega)
  · have := q (by omega)
    exact hy.len_le l (by omega) (by omega)
set_option maxHeartbeats 1600000 in
set_option maxRecDepth 100000 in
theorem and_b {x y : Int} {n m : Bool} {A B : Option Addr} {l l' c d : Nat} {w : World} (hx : RI w n A l c x) (hy : RI w m B l' d y) (hl : l ≤ 300000) (hl' : l' ≤ 300000) :
    Calls Try.prog 107 #[.agg #[.bool n, .slice A l c], .agg #[.bool m, .slice B l' d]] w (Ret w (fun v W => KI (bo 8 x y) v W ∧ -(b32 ^ (max l l' + 1)) < bo 8 x y ∧ bo 8 x y < b32 ^ (max l l' + 1))) := by
  have nw1 : Nw w (((w.alloc (.cells #[.bool n, .slice A l c] 28)).alloc (.cells #[.bool m, .slice B l' d] 28)).alloc (.cells #[.bool false, .slice none 0 0] 28)) := (((Nw.refl w).alloc _).alloc _).alloc _
  have bx0 : Box (w.heap.size + 1 + 1) 2 (((w.alloc (.cells #[.bool n, .slice A l c] 28)).alloc (.cells #[.bool m, .slice B l' d] 28)).alloc (.cells #[.bool false, .slice none 0 0] 28)) := by
    have := box_two ((w.alloc (.cells #[.bool n, .slice A l c] 28)).alloc (.cells #[.bool m, .slice B l' d] 28)) 28 false none 0 0
    simpa using this
  have HX := Lib.hid (hx.kept nw1.kept)
  have HY := Lib.hid (hy.kept nw1.kept)
  go_enter Try.func107, Try.ntmps107
  go_wp2_with fail
  refine (boole_b HX.out HY.out hl hl' (by decide) (by decide)).mono ?_
  rintro e w1 ⟨_, rfl, ⟨v1, v2, rfl, ⟨⟨m1, D1, l1, c1, rfl, i1⟩, hbd⟩, rfl⟩, hb1⟩
  have HBD := Lib.hid hbd
  clear hbd
  have na : Nw w1 (w1.alloc (.cells #[.bool m1, .slice D1 l1 c1] 28)) := (Nw.refl w1).alloc _
  have b2 := (bx0.below hb1).below na
  have I1 := Lib.hid (i1.kept na.kept)
  have NW := Lib.hid ((nw1.trans hb1).trans na)
  obtain ⟨⟨v0, hv0, hn0⟩, hf0⟩ := b2 0 (by omega)
  obtain ⟨⟨v1, hv1, hn1⟩, hf1⟩ := b2 1 (by omega)
  go_wp2
  exact bodyPost_ret (v := .agg #[.bool m1, .slice D1 l1 c1]) (by simp [results, Try.results107, go_sem, hv0, hv1]) rfl ⟨_, rfl, ⟨⟨_, _, _, _, rfl, I1.out.kept (store_I b2 I1.out).1.2.1⟩, HBD.out⟩, NW.out.rr (store_I b2 I1.out).1 (by omega)⟩

theorem and_c {x y : Int} {n m : Bool} {A B : Option Addr} {l l' c d : Nat} {w : World} (hx : RI w n A l c x) (hy : RI w m B l' d y) (hl : l ≤ 300000) (hl' : l' ≤ 300000) :
    Calls Try.prog 107 #[.agg #[.bool n, .slice A l c], .agg #[.bool m, .slice B l' d]] w (Ret w (KI (bo 8 x y))) :=
  (and_b hx hy hl hl').mono fun e w' ⟨v, e1, h, hb⟩ => ⟨v, e1, h.1, hb⟩

set_option maxHeartbeats 1600000 in
set_option maxRecDepth 100000 in
theorem field_1 {x a b : Int} {n : Bool} {A : Option Addr} {l c : Nat} {w : World} (hx : RI w n A l c x) (hs : sz a b = false) :
    Calls Try.prog 58 #[.agg #[.bool n, .slice A l c], .int .i64 a, .int .i64 b] w (Ret w (K2 (KI 0) (KV (.int .i64 1)))) := by
  have nw1 : Nw w ((w.alloc (.cells #[.bool n, .slice A l c] 28)).alloc (.cells #[.bool false, .slice none 0 0] 28)) := ((Nw.refl w).alloc _).alloc _
  have sg0 : Sg [(w.heap.size, 0, Value.bool n), (w.heap.size, 1, Value.slice A l c)] (w.heap.size + 1) 2 ((w.alloc (.cells #[.bool n, .slice A l c] 28)).alloc (.cells #[.bool false, .slice none 0 0] 28)) := by
    refine ⟨⟨by go_simp, by go_simp, trivial⟩, ?_, by go_simp⟩
    have := box_two (w.alloc (.cells #[.bool n, .slice A l c] 28)) 28 false none 0 0
    simpa using this
  have HS := Lib.hid hs
  clear hs
  go_enter Try.func58, Try.ntmps58
  go_wp2_with (go_at_call 106; refine (sized_c).mono ?_; rintro e w' ⟨rfl, rfl⟩; rw [HS.out])
  exact bodyPost_ret (v := .tuple #[.agg #[.bool false, .slice none 0 0], .int .i64 1]) (by simp [results, Try.results58, go_sem]) rfl ⟨_, rfl, ⟨_, _, rfl, ⟨_, _, _, _, rfl, RI.zero _⟩, rfl⟩, nw1⟩

theorem sz_bd {a b : Int} (h : sz a b = true) : 0 ≤ a ∧ a ≤ 65536 ∧ 0 ≤ b ∧ b ≤ 65536 := by
  simp [sz] at h; omega
set_option maxHeartbeats 1600000 in
set_option maxRecDepth 100000 in
theorem field_0 {x a b : Int} {n : Bool} {A : Option Addr} {l c : Nat} {w : World} (hx : RI w n A l c x) (hl : l ≤ 300000) (hs : sz a b = true) :
    Calls Try.prog 58 #[.agg #[.bool n, .slice A l c], .int .i64 a, .int .i64 b] w (Ret w (K2 (KI (bo 8 (sh x (-b)) (2 ^ a.toNat - 1))) (KV (.int .i64 0)))) := by
  have nw1 : Nw w ((w.alloc (.cells #[.bool n, .slice A l c] 28)).alloc (.cells #[.bool false, .slice none 0 0] 28)) := ((Nw.refl w).alloc _).alloc _
  have sg0 : Sg [(w.heap.size, 0, Value.bool n), (w.heap.size, 1, Value.slice A l c)] (w.heap.size + 1) 2 ((w.alloc (.cells #[.bool n, .slice A l c] 28)).alloc (.cells #[.bool false, .slice none 0 0] 28)) := by
    refine ⟨⟨by go_simp, by go_simp, trivial⟩, ?_, by go_simp⟩
    have := box_two (w.alloc (.cells #[.bool n, .slice A l c] 28)) 28 false none 0 0
    simpa using this
  have SG := Lib.hid sg0
  have HS := Lib.hid hs
  have HX := Lib.hid (hx.kept nw1.kept)
  have hbd := sz_bd hs
  have hw : IntKind.i64.wrap (-b) = -b := IntWalk.i64_in _ (by omega)
  obtain ⟨k, rfl⟩ : ∃ k : Nat, a = k := ⟨a.toNat, by omega⟩
  have hk : k ≤ 65536 := by omega
  have hb9 : -9223372036854775808 ≤ -b ∧ -b ≤ 0 := by omega
  have HB9 := Lib.hid hb9
  clear hs hx hbd hb9
  rw [Int.toNat_natCast]
  go_enter Try.func58, Try.ntmps58
  go_wp2_with (go_at_call 106; refine (sized_c).mono ?_; rintro e w' ⟨rfl, rfl⟩; rw [HS.out])
  refine (shift_c HX.out (by omega) HB9.out.1 (by have := HB9.out; omega)).mono ?_
  rintro e w1 ⟨_, rfl, ⟨m1, D1, l1, c1, rfl, i1⟩, hb1⟩
  have hl1 := sh_dn_len HX.out i1 HB9.out.2
  have I1 := Lib.hid i1
  clear i1
  go_wp2_with fail
  refine (ones_c hk).mono ?_
  rintro e w2 ⟨_, rfl, ⟨m2, D2, l2, c2, rfl, i2⟩, hb2⟩
  have hp : (0 : Int) < 2 ^ k := Int.pow_pos (by decide)
  have hl2 := i2.bits_le k (by omega) (by omega)
  clear hp
  have I2 := Lib.hid i2
  clear i2
  go_wp2_with fail
  refine (and_c (I1.out.kept hb2.kept) I2.out (by omega) (by omega)).mono ?_
  rintro e w3 ⟨_, rfl, ⟨m3, D3, l3, c3, rfl, i3⟩, hb3⟩
  have b2 := (((SG.out.nw hb1).nw hb2).nw hb3).2.1
  have I3 := Lib.hid i3
  have NW := Lib.hid (((nw1.trans hb1).trans hb2).trans hb3)
  clear i3
  obtain ⟨⟨v0, hv0, hn0⟩, hf0⟩ := b2 0 (by omega)
  obtain ⟨⟨v1, hv1, hn1⟩, hf1⟩ := b2 1 (by omega)
  go_wp2
  exact bodyPost_ret (v := .tuple #[.agg #[.bool m3, .slice D3 l3 c3], .int .i64 0]) (by simp [results, Try.results58, go_sem, hv0, hv1]) rfl ⟨_, rfl, ⟨_, _, rfl, ⟨_, _, _, _, rfl, I3.out.kept (store_I b2 I3.out).1.2.1⟩, rfl⟩, NW.out.rr (store_I b2 I3.out).1 (by omega)⟩
end Go.Proofs.Ytcgkgcciogibkaa
/- The contract of the program's Shift. -/
set_option linter.unusedVariables false
set_option linter.unusedSimpArgs false
namespace Go.Proofs.Ytcgkgcciogibkaa
open Go.RowKit Ma

theorem wid_len {w : World} {x : Int} {n : Bool} {A : Option Addr} {l c : Nat} (hx : RI w n A l c x) : wid (pat x) ≤ 32 * l := by
  have hb := hx.abs_lt
  apply wid_le_of
  rw [show (b32 : Int) ^ l = 2 ^ (32 * l) by rw [b32_eq, Int.pow_mul]; rfl] at hb
  unfold pat
  split <;> omega
/-- May x be shifted so far. -/
def shOk (x i : Int) : Prop := i ≤ 0 ∨ x = 0 ∨ (wid (pat x) : Int) + i ≤ 65536
set_option maxHeartbeats 1600000 in
set_option maxRecDepth 100000 in
theorem Shift_0 {x i : Int} {n : Bool} {A : Option Addr} {l c : Nat} {w : World} (hx : RI w n A l c x) (hl : l ≤ 300000) (h1 : -9223372036854775808 ≤ i) (h2 : i ≤ 9223372036854775807) (hs : shOk x i) :
    Calls Try.prog 56 #[.agg #[.bool n, .slice A l c], .int .i64 i] w (Ret w (K2 (KI (sh x i)) (KV (.int .i64 0)))) := by
  have nw1 : Nw w ((w.alloc (.cells #[.bool n, .slice A l c] 28)).alloc (.cells #[.bool false, .slice none 0 0] 28)) := ((Nw.refl w).alloc _).alloc _
  have sg0 : Sg [(w.heap.size, 0, Value.bool n), (w.heap.size, 1, Value.slice A l c)] (w.heap.size + 1) 2 ((w.alloc (.cells #[.bool n, .slice A l c] 28)).alloc (.cells #[.bool false, .slice none 0 0] 28)) := by
    refine ⟨⟨by go_simp, by go_simp, trivial⟩, ?_, by go_simp⟩
    have := box_two (w.alloc (.cells #[.bool n, .slice A l c] 28)) 28 false none 0 0
    simpa using this
  have SG := Lib.hid sg0
  have HX := Lib.hid (hx.kept nw1.kept)
  by_cases hi : i ≤ 0
  · have hm : min i 0 = i := by omega
    clear hs hx
    go_enter Try.func56, Try.ntmps56
    go_wp2_with fail
    refine (shift_c HX.out (by omega) (by omega) (by omega)).mono ?_
    rintro e w1 ⟨_, rfl, ⟨m1, D1, l1, c1, rfl, i1⟩, hb1⟩
    have hi := i1.eq (z' := sh x i) rfl
    have b2 := (SG.out.nw hb1).2.1
    have I1 := Lib.hid hi
    have NW := Lib.hid (nw1.trans hb1)
    clear i1 hi
    obtain ⟨⟨v0, hv0, hn0⟩, hf0⟩ := b2 0 (by omega)
    obtain ⟨⟨v1, hv1, hn1⟩, hf1⟩ := b2 1 (by omega)
    go_wp2
    exact bodyPost_ret (v := .tuple #[.agg #[.bool m1, .slice D1 l1 c1], .int .i64 0]) (by simp [results, Try.results56, go_sem, hv0, hv1]) rfl ⟨_, rfl, ⟨_, _, rfl, ⟨_, _, _, _, rfl, I1.out.kept (store_I b2 I1.out).1.2.1⟩, rfl⟩, NW.out.rr (store_I b2 I1.out).1 (by omega)⟩
  · have hi' : 0 < i := by omega
    by_cases h0 : x = 0
    · have hsg : sgn x = 0 := by rw [h0]; rfl
      have HSG := Lib.hid hsg
      have hm : min i 0 = 0 := by omega
      have hz : sh x 0 = sh x i := by rw [h0]; unfold sh; simp
      have HZ := Lib.hid hz
      clear hs hx h0 hsg hi hz
      go_enter Try.func56, Try.ntmps56
      go_wp2_with fail
      refine (sign_c HX.out).mono ?_
      rintro e w2 ⟨_, rfl, rfl, hb2⟩
      rw [HSG.out]
      obtain ⟨q1, q2, _⟩ := (SG.out.nw hb2).1
      go_wp2_with fail
      refine (shift_c (HX.out.kept hb2.kept) (by omega) (by omega) (by omega)).mono ?_
      rintro e w1 ⟨_, rfl, ⟨m1, D1, l1, c1, rfl, i1⟩, hb1⟩
      have hi := i1.eq (z' := sh x i) HZ.out
      have b2 := ((SG.out.nw hb2).nw hb1).2.1
      have I1 := Lib.hid hi
      have NW := Lib.hid ((nw1.trans hb2).trans hb1)
      clear i1 hi
      obtain ⟨⟨v0, hv0, hn0⟩, hf0⟩ := b2 0 (by omega)
      obtain ⟨⟨v1, hv1, hn1⟩, hf1⟩ := b2 1 (by omega)
      go_wp2
      exact bodyPost_ret (v := .tuple #[.agg #[.bool m1, .slice D1 l1 c1], .int .i64 0]) (by simp [results, Try.results56, go_sem, hv0, hv1]) rfl ⟨_, rfl, ⟨_, _, rfl, ⟨_, _, _, _, rfl, I1.out.kept (store_I b2 I1.out).1.2.1⟩, rfl⟩, NW.out.rr (store_I b2 I1.out).1 (by omega)⟩
    · have hsg : sgn x ≠ 0 := by unfold sgn; split <;> (try split) <;> omega
      have hsz : (sgn x == 0) = false := by rw [beq_eq_false_iff_ne]; exact hsg
      have hw := wid_len hx
      have hsum : (wid (pat x) : Int) + i ≤ 65536 := by unfold shOk at hs; omega
      have hi6 : i ≤ 65536 := by omega
      have hwr : IntKind.i64.wrap ((wid (pat x) : Int) + i) = (wid (pat x) : Int) + i := IntWalk.i64_in _ (by omega)
      clear hs hx h0 hsg hi hw
      go_enter Try.func56, Try.ntmps56
      go_wp2_with fail
      refine (sign_c HX.out).mono ?_
      rintro e w2 ⟨_, rfl, rfl, hb2⟩
      obtain ⟨q1, q2, _⟩ := (SG.out.nw hb2).1
      go_wp2_with fail
      refine (len_c (HX.out.kept hb2.kept) (by omega)).mono ?_
      rintro e w3 ⟨_, rfl, rfl, hb3⟩
      obtain ⟨q1, q2, _⟩ := ((SG.out.nw hb2).nw hb3).1
      go_wp2_with fail
      refine (shift_c ((HX.out.kept hb2.kept).kept hb3.kept) (by omega) (by omega) (by omega)).mono ?_
      rintro e w1 ⟨_, rfl, ⟨m1, D1, l1, c1, rfl, i1⟩, hb1⟩
      have hi := i1.eq (z' := sh x i) rfl
      have b2 := (((SG.out.nw hb2).nw hb3).nw hb1).2.1
      have I1 := Lib.hid hi
      have NW := Lib.hid (((nw1.trans hb2).trans hb3).trans hb1)
      clear i1 hi
      obtain ⟨⟨v0, hv0, hn0⟩, hf0⟩ := b2 0 (by omega)
      obtain ⟨⟨v1, hv1, hn1⟩, hf1⟩ := b2 1 (by omega)
      go_wp2
      exact bodyPost_ret (v := .tuple #[.agg #[.bool m1, .slice D1 l1 c1], .int .i64 0]) (by simp [results, Try.results56, go_sem, hv0, hv1]) rfl ⟨_, rfl, ⟨_, _, rfl, ⟨_, _, _, _, rfl, I1.out.kept (store_I b2 I1.out).1.2.1⟩, rfl⟩, NW.out.rr (store_I b2 I1.out).1 (by omega)⟩
set_option maxHeartbeats 1600000 in
set_option maxRecDepth 100000 in
theorem Shift_1 {x i : Int} {n : Bool} {A : Option Addr} {l c : Nat} {w : World} (hx : RI w n A l c x) (hl : l ≤ 300000) (h1 : -9223372036854775808 ≤ i) (h2 : i ≤ 9223372036854775807) (hs : ¬ shOk x i) :
    Calls Try.prog 56 #[.agg #[.bool n, .slice A l c], .int .i64 i] w (Ret w (K2 (KI 0) (KV (.int .i64 14)))) := by
  have nw1 : Nw w ((w.alloc (.cells #[.bool n, .slice A l c] 28)).alloc (.cells #[.bool false, .slice none 0 0] 28)) := ((Nw.refl w).alloc _).alloc _
  have sg0 : Sg [(w.heap.size, 0, Value.bool n), (w.heap.size, 1, Value.slice A l c)] (w.heap.size + 1) 2 ((w.alloc (.cells #[.bool n, .slice A l c] 28)).alloc (.cells #[.bool false, .slice none 0 0] 28)) := by
    refine ⟨⟨by go_simp, by go_simp, trivial⟩, ?_, by go_simp⟩
    have := box_two (w.alloc (.cells #[.bool n, .slice A l c] 28)) 28 false none 0 0
    simpa using this
  have SG := Lib.hid sg0
  have HX := Lib.hid (hx.kept nw1.kept)
  have hw := wid_len hx
  have hi' : 0 < i := by unfold shOk at hs; omega
  have h0 : x ≠ 0 := by intro e; exact hs (.inr (.inl e))
  have hsg : sgn x ≠ 0 := by unfold sgn; split <;> (try split) <;> omega
  have hsz : (sgn x == 0) = false := by rw [beq_eq_false_iff_ne]; exact hsg
  have hsum : 65536 < (wid (pat x) : Int) + i := by unfold shOk at hs; omega
  clear hs hx h0 hsg
  by_cases hi6 : i ≤ 65536
  · have hwr : IntKind.i64.wrap ((wid (pat x) : Int) + i) = (wid (pat x) : Int) + i := IntWalk.i64_in _ (by omega)
    clear hw
    go_enter Try.func56, Try.ntmps56
    go_wp2_with fail
    refine (sign_c HX.out).mono ?_
    rintro e w2 ⟨_, rfl, rfl, hb2⟩
    obtain ⟨q1, q2, _⟩ := (SG.out.nw hb2).1
    go_wp2_with fail
    refine (len_c (HX.out.kept hb2.kept) (by omega)).mono ?_
    rintro e w3 ⟨_, rfl, rfl, hb3⟩
    have b2 := ((SG.out.nw hb2).nw hb3).2.1
    have NW := Lib.hid ((nw1.trans hb2).trans hb3)
    obtain ⟨⟨v0, hv0, hn0⟩, hf0⟩ := b2 0 (by omega)
    obtain ⟨⟨v1, hv1, hn1⟩, hf1⟩ := b2 1 (by omega)
    go_wp2
    exact bodyPost_ret (v := .tuple #[.agg #[.bool false, .slice none 0 0], .int .i64 14]) (by simp [results, Try.results56, go_sem, hv0, hv1]) rfl ⟨_, rfl, ⟨_, _, rfl, ⟨_, _, _, _, rfl, RI.zero _⟩, rfl⟩, NW.out.rr (store_I b2 (RI.zero _)).1 (by omega)⟩
  · clear hw hsum
    go_enter Try.func56, Try.ntmps56
    go_wp2_with fail
    refine (sign_c HX.out).mono ?_
    rintro e w2 ⟨_, rfl, rfl, hb2⟩
    have b2 := (SG.out.nw hb2).2.1
    have NW := Lib.hid (nw1.trans hb2)
    obtain ⟨⟨v0, hv0, hn0⟩, hf0⟩ := b2 0 (by omega)
    obtain ⟨⟨v1, hv1, hn1⟩, hf1⟩ := b2 1 (by omega)
    go_wp2
    exact bodyPost_ret (v := .tuple #[.agg #[.bool false, .slice none 0 0], .int .i64 14]) (by simp [results, Try.results56, go_sem, hv0, hv1]) rfl ⟨_, rfl, ⟨_, _, rfl, ⟨_, _, _, _, rfl, RI.zero _⟩, rfl⟩, NW.out.rr (store_I b2 (RI.zero _)).1 (by omega)⟩
end Go.Proofs.Ytcgkgcciogibkaa
/- The contract of the program's Deposit. -/
set_option linter.unusedVariables false
set_option linter.unusedSimpArgs false
namespace Go.Proofs.Ytcgkgcciogibkaa
open Go.RowKit Ma

theorem sh_up_len {w w' : World} {z : Int} {p : Nat} {a b : Bool} {A B : Option Addr} {l l' c d : Nat} (hx : RI w a A l c z) (hy : RI w' b B l' d (sh z (p : Int))) : l' ≤ l + p / 32 + 1 := by
  have h := hx.abs_lt
  rw [pow32] at h
  have e : sh z (p : Int) = z * 2 ^ p := by unfold sh; rw [if_pos (by omega)]; rfl
  have q : (0 : Int) < 2 ^ p := Int.pow_pos (by decide)
  have e2 : (2 : Int) ^ (32 * l + p) = 2 ^ (32 * l) * 2 ^ p := Int.pow_add _ _ _
  have u1 : z * 2 ^ p ≤ 2 ^ (32 * l) * 2 ^ p := Int.mul_le_mul_of_nonneg_right (by omega) (by omega)
  have u2 : -(2 ^ (32 * l)) * 2 ^ p ≤ z * 2 ^ p := Int.mul_le_mul_of_nonneg_right (by omega) (by omega)
  rw [Int.neg_mul] at u2
  have := hy.bits_le (32 * l + p) (by rw [e, e2]; exact u2) (by rw [e, e2]; exact u1)
  omega
theorem Box.drewN1 {r n : Nat} {W : World} (h : Box r n W) : Box r n W.drew := fun o ho => h o ho
set_option maxHeartbeats 1600000 in
set_option maxRecDepth 100000 in
theorem deposit_1 {x y a b : Int} {n m : Bool} {A B : Option Addr} {l l' c d : Nat} {w : World} (hx : RI w n A l c x) (hy : RI w m B l' d y) (hs : sz a b = false) :
    Calls Try.prog 60 #[.agg #[.bool n, .slice A l c], .agg #[.bool m, .slice B l' d], .int .i64 a, .int .i64 b] w (Ret w (K2 (KI 0) (KV (.int .i64 1)))) := by
  have nw1 : Nw w (((w.alloc (.cells #[.bool n, .slice A l c] 28)).alloc (.cells #[.bool m, .slice B l' d] 28)).alloc (.cells #[.bool false, .slice none 0 0] 28)) := (((Nw.refl w).alloc _).alloc _).alloc _
  have sg0 : Sg [(w.heap.size, 0, Value.bool n), (w.heap.size, 1, Value.slice A l c), (w.heap.size + 1, 0, Value.bool m), (w.heap.size + 1, 1, Value.slice B l' d)] (w.heap.size + 1 + 1) 2 (((w.alloc (.cells #[.bool n, .slice A l c] 28)).alloc (.cells #[.bool m, .slice B l' d] 28)).alloc (.cells #[.bool false, .slice none 0 0] 28)) := by
    refine ⟨⟨by go_simp, by go_simp, by go_simp, by go_simp, trivial⟩, ?_, by go_simp⟩
    have := box_two ((w.alloc (.cells #[.bool n, .slice A l c] 28)).alloc (.cells #[.bool m, .slice B l' d] 28)) 28 false none 0 0
    simpa using this
  have HS := Lib.hid hs
  clear hs
  go_enter Try.func60, Try.ntmps60
  go_wp2_with (go_at_call 106; refine (sized_c).mono ?_; rintro e w' ⟨rfl, rfl⟩; rw [HS.out])
  exact bodyPost_ret (v := .tuple #[.agg #[.bool false, .slice none 0 0], .int .i64 1]) (by simp [results, Try.results60, go_sem]) rfl ⟨_, rfl, ⟨_, _, rfl, ⟨_, _, _, _, rfl, RI.zero _⟩, rfl⟩, nw1⟩
set_option maxHeartbeats 3200000 in
set_option maxRecDepth 100000 in
theorem deposit_0 {x y a b : Int} {n m : Bool} {A B : Option Addr} {l l' c d : Nat} {w : World} (hx : RI w n A l c x) (hy : RI w m B l' d y) (hl : l ≤ 100000) (hl' : l' ≤ 100000) (hs : sz a b = true) :
    Calls Try.prog 60 #[.agg #[.bool n, .slice A l c], .agg #[.bool m, .slice B l' d], .int .i64 a, .int .i64 b] w (Ret w (K2 (KI (bo 8 x (-1 - sh (2 ^ a.toNat - 1) b) + sh (bo 8 y (2 ^ a.toNat - 1)) b)) (KV (.int .i64 0)))) := by
  have nw1 : Nw w (((w.alloc (.cells #[.bool n, .slice A l c] 28)).alloc (.cells #[.bool m, .slice B l' d] 28)).alloc (.cells #[.bool false, .slice none 0 0] 28)) := (((Nw.refl w).alloc _).alloc _).alloc _
  have sg0 : Sg [(w.heap.size, 0, Value.bool n), (w.heap.size, 1, Value.slice A l c), (w.heap.size + 1, 0, Value.bool m), (w.heap.size + 1, 1, Value.slice B l' d)] (w.heap.size + 1 + 1) 2 (((w.alloc (.cells #[.bool n, .slice A l c] 28)).alloc (.cells #[.bool m, .slice B l' d] 28)).alloc (.cells #[.bool false, .slice none 0 0] 28)) := by
    refine ⟨⟨by go_simp, by go_simp, by go_simp, by go_simp, trivial⟩, ?_, by go_simp⟩
    have := box_two ((w.alloc (.cells #[.bool n, .slice A l c] 28)).alloc (.cells #[.bool m, .slice B l' d] 28)) 28 false none 0 0
    simpa using this
  have SG := Lib.hid sg0
  have HS := Lib.hid hs
  have HX := Lib.hid (hx.kept nw1.kept)
  have HY := Lib.hid (hy.kept nw1.kept)
  have hbd := sz_bd hs
  obtain ⟨k, rfl⟩ : ∃ k : Nat, a = k := ⟨a.toNat, by omega⟩
  obtain ⟨p, rfl⟩ : ∃ p : Nat, b = p := ⟨b.toNat, by omega⟩
  have hk : k ≤ 65536 := by omega
  have hp : p ≤ 65536 := by omega
  have hsh : ∀ z : Int, sh z (p : Int) = z * 2 ^ p := fun z => by unfold sh; rw [if_pos (by omega)]; rfl
  have HSH := Lib.hid hsh
  clear hs hx hy hbd hsh
  rw [Int.toNat_natCast]
  go_enter Try.func60, Try.ntmps60
  go_wp2_with (go_at_call 106; refine (sized_c).mono ?_; rintro e w' ⟨rfl, rfl⟩; rw [HS.out])
  refine (ones_c hk).mono ?_
  rintro e w1 ⟨_, rfl, ⟨m1, D1, l1, c1, rfl, i1⟩, hb1⟩
  have h2 : (0 : Int) < 2 ^ k := Int.pow_pos (by decide)
  have hl1 := i1.bits_le k (by omega) (by omega)
  clear h2
  have I1 := Lib.hid i1
  clear i1
  go_wp2_with fail
  refine (shift_c I1.out (by omega) (by omega) (by omega)).mono ?_
  rintro e w2 ⟨_, rfl, ⟨m2, D2, l2, c2, rfl, i2⟩, hb2⟩
  have hl2 : l2 ≤ 5000 := by
    have h3 : (2 : Int) ^ (k + p) = 2 ^ k * 2 ^ p := Int.pow_add _ _ _
    have h4 : (0 : Int) < 2 ^ p := Int.pow_pos (by decide)
    have h5 : (0 : Int) < 2 ^ k := Int.pow_pos (by decide)
    have h6 : (0 : Int) ≤ (2 ^ k - 1) * 2 ^ p := Int.mul_nonneg (by omega) (by omega)
    have h7 : ((2 : Int) ^ k - 1) * 2 ^ p ≤ 2 ^ (k + p) := by rw [h3, Int.sub_mul]; omega
    have := i2.bits_le (k + p) (by rw [HSH.out]; have : (0 : Int) < 2 ^ (k + p) := Int.pow_pos (by decide); omega) (by rw [HSH.out]; exact h7)
    omega
  have nm : Nw w2 (w2.alloc (.cells #[.bool m2, .slice D2 l2 c2] 28)) := (Nw.refl w2).alloc _
  have SGM := Lib.hid (((SG.out.nw hb1).nw hb2).nw nm)
  have NWM := Lib.hid (((nw1.trans hb1).trans hb2).trans nm)
  have I2 := Lib.hid (i2.kept nm.kept)
  have K1 := Lib.hid (hb1.trans (hb2.trans nm))
  clear i2
  have hcm : -(b32 ^ (l2 + 1)) < -1 - sh (2 ^ k - 1) (p : Int) ∧ -1 - sh (2 ^ k - 1) (p : Int) < b32 ^ (l2 + 1) := by
    have q := I2.out.abs_lt
    have r := pos_pow (b := b32) (by decide) l2
    have s : b32 ^ l2 * 2 ≤ b32 ^ (l2 + 1) := by rw [Int.pow_succ]; exact Int.mul_le_mul_of_nonneg_left (by decide) (Int.le_of_lt r)
    omega
  have HCM := Lib.hid hcm
  clear hcm
  go_upto_region 4 with (fail)
  obtain ⟨wm, hwm⟩ : ∃ wm, wm = w2.alloc (.cells #[.bool m2, .slice D2 l2 c2] 28) := ⟨_, rfl⟩
  have p1 : wm.cell? ⟨w2.heap.size, 0, none⟩ = some (.bool m2) := by rw [hwm]; go_simp
  have p2 : wm.cell? ⟨w2.heap.size, 1, none⟩ = some (.slice D2 l2 c2) := by rw [hwm]; go_simp
  rw [← hwm] at SGM NWM I2 K1 ⊢
  clear hwm nm
  obtain ⟨q1, q2, q3, q4, _⟩ := SGM.out.1
  have XM := Lib.hid (HX.out.kept K1.out.kept)
  go_cut [11] (fun v11 wx => ∃ (P : Nat) (m3 : Bool) (D3 : Option Addr) (l3 c3 : Nat), v11 = .pointer (some ⟨P, 0, none⟩) ∧ l3 ≤ 400000 ∧ wm.heap.size ≤ P ∧ Nw wm wx ∧ wx.cell? ⟨P, 0, none⟩ = some (.bool m3) ∧ wx.cell? ⟨P, 1, none⟩ = some (.slice D3 l3 c3) ∧ RI wx m3 D3 l3 c3 (bo 8 x (-1 - sh (2 ^ k - 1) (p : Int))))
  case first =>
    go_region_held3 (fun w' => w'.cell? ⟨w.heap.size, 0, none⟩ = some (.bool n) ∧ w'.cell? ⟨w.heap.size, 1, none⟩ = some (.slice A l c) ∧ w'.cell? ⟨w2.heap.size, 0, none⟩ = some (.bool m2) ∧ w'.cell? ⟨w2.heap.size, 1, none⟩ = some (.slice D2 l2 c2))
      (exact ⟨Nw.c (by repeat (first | exact Nw.refl _ | apply Nw.drew | apply Nw.alloc | (refine Nw.trans ?_ (by assumption)) | (refine Nw.set ?_ ?_ _) | (refine Nw.size ?_))) q1, Nw.c (by repeat (first | exact Nw.refl _ | apply Nw.drew | apply Nw.alloc | (refine Nw.trans ?_ (by assumption)) | (refine Nw.set ?_ ?_ _) | (refine Nw.size ?_))) q2, Nw.c (by repeat (first | exact Nw.refl _ | apply Nw.drew | apply Nw.alloc | (refine Nw.trans ?_ (by assumption)) | (refine Nw.set ?_ ?_ _) | (refine Nw.size ?_))) p1, Nw.c (by repeat (first | exact Nw.refl _ | apply Nw.drew | apply Nw.alloc | (refine Nw.trans ?_ (by assumption)) | (refine Nw.set ?_ ?_ _) | (refine Nw.size ?_))) p2⟩)
      (first
        | (go_at_call 110; refine (complement_c (I2.out.kept (Nw.kept (by repeat (first | exact Nw.refl _ | apply Nw.drew | apply Nw.alloc)))) (by omega)).mono ?_; rintro e w4 ⟨_, rfl, ⟨m4, D4, l4, c4, rfl, i4⟩, hb4⟩; have hl4 := i4.len_le (l2 + 1) HCM.out.1 HCM.out.2; have I4 := Lib.hid i4; clear i4)
        | (go_at_call 107; refine (and_b (XM.out.kept (Nw.kept (by repeat (first | exact Nw.refl _ | apply Nw.drew | apply Nw.alloc | (refine Nw.trans ?_ (by assumption)) | (refine Nw.set ?_ ?_ _) | (refine Nw.size ?_))))) (I4.out.kept (Nw.kept (by repeat (first | exact Nw.refl _ | apply Nw.drew | apply Nw.alloc)))) (by omega) (by omega)).mono ?_; rintro e w5 ⟨_, rfl, ⟨⟨m5, D5, l5, c5, rfl, i5⟩, hz5⟩, hb5⟩; have hl5 := i5.len_le _ hz5.1 hz5.2; clear hz5; have I5 := Lib.hid i5; clear i5; first | (have bb := Box.below (Box.below (box_two _ _ _ _ _ _) hb4) hb5; obtain ⟨⟨v0, hv0, hn0⟩, hf0⟩ := bb 0 (by omega); obtain ⟨⟨v1, hv1, hn1⟩, hf1⟩ := bb 1 (by omega)) | (have bb := Box.below (box_two _ _ _ _ _ _) hb5; obtain ⟨⟨v0, hv0, hn0⟩, hf0⟩ := bb 0 (by omega); obtain ⟨⟨v1, hv1, hn1⟩, hf1⟩ := bb 1 (by omega)) | (have bb := Box.below (Box.below (Box.drewN1 (box_two _ _ _ _ _ _)) hb4) hb5; obtain ⟨⟨v0, hv0, hn0⟩, hf0⟩ := bb 0 (by omega); obtain ⟨⟨v1, hv1, hn1⟩, hf1⟩ := bb 1 (by omega)) | (have bb := Box.below (Box.drewN1 (box_two _ _ _ _ _ _)) hb5; obtain ⟨⟨v0, hv0, hn0⟩, hf0⟩ := bb 0 (by omega); obtain ⟨⟨v1, hv1, hn1⟩, hf1⟩ := bb 1 (by omega)) | skip))
    all_goals (go_wp2_with fail; go_meet; exact ⟨_, m5, D5, l5, c5, rfl, (by omega), (by first | exact Nat.le_refl _ | (refine Nw.size ?_; repeat (first | exact Nw.refl _ | apply Nw.drew | apply Nw.alloc | (refine Nw.trans ?_ (by assumption))))), (by repeat (first | exact Nw.refl _ | apply Nw.drew | apply Nw.alloc | (refine Nw.trans ?_ (by assumption)) | (refine Nw.set ?_ ?_ _) | (refine Nw.size ?_))), by go_simp, by go_simp, (by first | exact I5.out.kept (store_I bb I5.out).1.2.1 | exact I5.out.kept (Nw.kept ((Nw.refl _).alloc _)))⟩)
  case rest =>
    obtain ⟨P, m3, D3, l3, c3, rfl, hl3, hP, n5, s1, s2, i3⟩ := hcut
    have s3 := n5.c q3
    have s4 := n5.c q4
    have bR := SGM.out.2.1.below n5
    have hR : w.heap.size + 1 + 1 < wm.heap.size := by
      obtain ⟨⟨v, hv, _⟩, _⟩ := SGM.out.2.1 0 (by omega)
      exact World.block_lt_of_cell? wm ⟨w.heap.size + 1 + 1, 0, none⟩ hv
    have BR := Lib.hid bR
    have I3 := Lib.hid i3
    have YM := Lib.hid ((HY.out.kept K1.out.kept).kept n5.kept)
    have NW5 := Lib.hid (NWM.out.trans n5)
    clear i3 bR p1 p2 q1 q2 q3 q4 n5
    go_upto_region 5 with (fail)
    go_region_held3 (fun w' => w'.cell? ⟨w.heap.size + 1, 0, none⟩ = some (.bool m) ∧ w'.cell? ⟨w.heap.size + 1, 1, none⟩ = some (.slice B l' d) ∧ w'.cell? ⟨P, 0, none⟩ = some (.bool m3) ∧ w'.cell? ⟨P, 1, none⟩ = some (.slice D3 l3 c3))
      (first | (exact ⟨((two_off (by omega) _).1).trans (Nw.c (by repeat (first | exact Nw.refl _ | apply Nw.drew | apply Nw.alloc | (refine Nw.trans ?_ (by assumption)) | (refine Nw.set ?_ ?_ _) | (refine Nw.size ?_))) s3), ((two_off (by omega) _).1).trans (Nw.c (by repeat (first | exact Nw.refl _ | apply Nw.drew | apply Nw.alloc | (refine Nw.trans ?_ (by assumption)) | (refine Nw.set ?_ ?_ _) | (refine Nw.size ?_))) s4), ((two_off (by omega) _).1).trans (Nw.c (by repeat (first | exact Nw.refl _ | apply Nw.drew | apply Nw.alloc | (refine Nw.trans ?_ (by assumption)) | (refine Nw.set ?_ ?_ _) | (refine Nw.size ?_))) s1), ((two_off (by omega) _).1).trans (Nw.c (by repeat (first | exact Nw.refl _ | apply Nw.drew | apply Nw.alloc | (refine Nw.trans ?_ (by assumption)) | (refine Nw.set ?_ ?_ _) | (refine Nw.size ?_))) s2)⟩) | (exact ⟨Nw.c (by repeat (first | exact Nw.refl _ | apply Nw.drew | apply Nw.alloc | (refine Nw.trans ?_ (by assumption)) | (refine Nw.set ?_ ?_ _) | (refine Nw.size ?_))) s3, Nw.c (by repeat (first | exact Nw.refl _ | apply Nw.drew | apply Nw.alloc | (refine Nw.trans ?_ (by assumption)) | (refine Nw.set ?_ ?_ _) | (refine Nw.size ?_))) s4, Nw.c (by repeat (first | exact Nw.refl _ | apply Nw.drew | apply Nw.alloc | (refine Nw.trans ?_ (by assumption)) | (refine Nw.set ?_ ?_ _) | (refine Nw.size ?_))) s1, Nw.c (by repeat (first | exact Nw.refl _ | apply Nw.drew | apply Nw.alloc | (refine Nw.trans ?_ (by assumption)) | (refine Nw.set ?_ ?_ _) | (refine Nw.size ?_))) s2⟩))
      (first
        | (go_at_call 108; refine (ones_c hk).mono ?_; rintro e w6 ⟨_, rfl, ⟨m6, D6, l6, c6, rfl, i6⟩, hb6⟩; have h26 : (0 : Int) < 2 ^ k := (Int.pow_pos (by decide)); have hl6 := i6.bits_le k (by omega) (by omega); have I6 := Lib.hid i6; clear i6 h26)
        | (go_at_call 107; refine (and_b (YM.out.kept (Nw.kept (by repeat (first | exact Nw.refl _ | apply Nw.drew | apply Nw.alloc | (refine Nw.trans ?_ (by assumption)) | (refine Nw.set ?_ ?_ _) | (refine Nw.size ?_))))) (I6.out.kept (Nw.kept (by repeat (first | exact Nw.refl _ | apply Nw.drew | apply Nw.alloc | (refine Nw.trans ?_ (by assumption)) | (refine Nw.set ?_ ?_ _) | (refine Nw.size ?_))))) (by omega) (by omega)).mono ?_; rintro e w7 ⟨_, rfl, ⟨⟨m7, D7, l7, c7, rfl, i7⟩, hz7⟩, hb7⟩; have hl7 := i7.len_le _ hz7.1 hz7.2; have I7 := Lib.hid i7; clear i7 hz7)
        | (go_at_call 103; refine (shift_c I7.out (by omega) (by omega) (by omega)).mono ?_; rintro e w8 ⟨_, rfl, ⟨m8, D8, l8, c8, rfl, i8⟩, hb8⟩; have hl8 := sh_up_len I7.out i8; have I8 := Lib.hid i8; clear i8)
        | (go_at_call 24; refine (add_c (I3.out.kept (Nw.kept (by repeat (first | exact Nw.refl _ | apply Nw.drew | apply Nw.alloc | (refine Nw.trans ?_ (by assumption)) | (refine Nw.set ?_ ?_ _) | (refine Nw.size ?_))))) I8.out (by omega) (by omega)).mono ?_; rintro e w9 ⟨_, rfl, ⟨m9, D9, l9, c9, rfl, i9⟩, hb9⟩; have bb : Box (w.heap.size + 1 + 1) 2 w9 := Box.below BR.out (by repeat (first | exact Nw.refl _ | apply Nw.drew | apply Nw.alloc | (refine Nw.trans ?_ (by assumption)) | (refine Nw.set ?_ ?_ _) | (refine Nw.size ?_))); obtain ⟨⟨v0, hv0, hn0⟩, hf0⟩ := bb 0 (by omega); obtain ⟨⟨v1, hv1, hn1⟩, hf1⟩ := bb 1 (by omega); have I9 := Lib.hid i9; clear i9))
    all_goals
      go_wp2
      exact bodyPost_ret (v := .tuple #[.agg #[.bool m9, .slice D9 l9 c9], .int .i64 0]) (by simp [results, Try.results60, go_sem, hv0, hv1]) rfl ⟨_, rfl, ⟨_, _, rfl, ⟨_, _, _, _, rfl, I9.out.kept (store_I bb I9.out).1.2.1⟩, rfl⟩, (NW5.out.trans (by repeat (first | exact Nw.refl _ | apply Nw.drew | apply Nw.alloc | (refine Nw.trans ?_ (by assumption)) | (refine Nw.set ?_ ?_ _) | (refine Nw.size ?_)))).rr (store_I bb I9.out).1 (by omega)⟩
end Go.Proofs.Ytcgkgcciogibkaa
/- The contracts of bits.OnesCount32 and of the program's Count. -/
set_option linter.unusedVariables false
set_option linter.unusedSimpArgs false
namespace Go.Proofs.Ytcgkgcciogibkaa
open Go.RowKit Ma

theorem pc_bytes (n : Nat) : pc n = pc (n / 16777216) + pc (n / 65536 % 256) + pc (n / 256 % 256) + pc (n % 256) := by
  have a := pc_add 8 (n % 256) (n / 256) (by omega)
  have b := pc_add 8 (n / 256 % 256) (n / 65536) (by omega)
  have c := pc_add 8 (n / 65536 % 256) (n / 16777216) (by omega)
  rw [show n % 256 + 2 ^ 8 * (n / 256) = n by omega] at a
  rw [show n / 256 % 256 + 2 ^ 8 * (n / 65536) = n / 256 by omega] at b
  rw [show n / 65536 % 256 + 2 ^ 8 * (n / 16777216) = n / 65536 by omega] at c
  omega
theorem pop8_pc (b : Int) (h0 : 0 ≤ b) (h1 : b ≤ 255) : Lib.pop8 b = pc b.toNat := by
  have e := Lib.pop8_eq ⟨b.toNat, by omega⟩
  simp only [Int.toNat_of_nonneg h0] at e
  rw [e]
  unfold Lib.onesCount
  rw [popAux_pc 64 b.toNat (by omega)]
theorem pop8_bd (b : Int) (h0 : 0 ≤ b) (h1 : b ≤ 255) : 0 ≤ Lib.pop8 b ∧ Lib.pop8 b ≤ 8 := by
  have e := Lib.pop8_eq ⟨b.toNat, by omega⟩
  have l := Lib.onesCount_le8 ⟨b.toNat, by omega⟩
  simp only [Int.toNat_of_nonneg h0] at e
  rw [e]
  simp only at l
  omega
theorem and_255 (a : Int) (h : 0 ≤ a) (h2 : a < 4294967296) : bits .and .u32 a 255 = a % 256 := by
  obtain ⟨A, rfl⟩ := Int.eq_ofNat_of_zero_le h
  have := u32_and_nat A 255 (by omega) (by decide)
  rw [show ((255 : Nat) : Int) = 255 from rfl] at this
  rw [this, show (255 : Nat) = 2 ^ 8 - 1 from rfl, Nat.and_two_pow_sub_one_eq_mod]
  omega
theorem pc_le32 (n : Nat) (h : n < 4294967296) : pc n ≤ 32 := by
  have e := pc_bytes n
  have f : ∀ b : Nat, b ≤ 255 → pc b ≤ 8 := fun b hb => by
    have a := pop8_pc (b : Int) (by omega) (by omega)
    have c := pop8_bd (b : Int) (by omega) (by omega)
    rw [Int.toNat_natCast] at a
    omega
  have := f (n / 16777216) (by omega)
  have := f (n / 65536 % 256) (by omega)
  have := f (n / 256 % 256) (by omega)
  have := f (n % 256) (by omega)
  omega
set_option maxHeartbeats 3200000 in
set_option maxRecDepth 100000 in
theorem ones32_c (x : Int) (w : World) (h0 : 0 ≤ x) (h1 : x < 4294967296) :
    Calls Try.prog 96 #[.int .u32 x] w (Ret w (KV (.int .i64 (pc x.toNat)))) := by
  have a1 := and_255 (x / 65536) (by omega) (by omega)
  have a2 := and_255 (x / 256) (by omega) (by omega)
  have a3 := and_255 x h0 h1
  have b0 := pop8_bd (x / 16777216) (by omega) (by omega)
  have b1 := pop8_bd (x / 65536 % 256) (by omega) (by omega)
  have b2 := pop8_bd (x / 256 % 256) (by omega) (by omega)
  have b3 := pop8_bd (x % 256) (by omega) (by omega)
  have hp : Lib.pop8 (x / 16777216) + Lib.pop8 (x / 65536 % 256) + Lib.pop8 (x / 256 % 256) + Lib.pop8 (x % 256) = (pc x.toNat : Int) := by
    rw [pop8_pc _ (by omega) (by omega), pop8_pc _ (by omega) (by omega), pop8_pc _ (by omega) (by omega), pop8_pc _ (by omega) (by omega), pc_bytes x.toNat]
    rw [show (x / 16777216).toNat = x.toNat / 16777216 by omega, show (x / 65536 % 256).toNat = x.toNat / 65536 % 256 by omega, show (x / 256 % 256).toNat = x.toNat / 256 % 256 by omega, show (x % 256).toNat = x.toNat % 256 by omega]
    push_cast
    rfl
  have HP := Lib.hid hp
  have HB := Lib.hid (⟨b0, b1, b2, b3⟩ : _ ∧ _ ∧ _ ∧ _)
  clear hp
  have c0 : 0 ≤ x / 65536 % 256 ∧ x / 65536 % 256 ≤ 255 := by omega
  have c1 : 0 ≤ x / 256 % 256 ∧ x / 256 % 256 ≤ 255 := by omega
  have c2 : 0 ≤ x % 256 ∧ x % 256 ≤ 255 := by omega
  have c3 : 0 ≤ x / 16777216 ∧ x / 16777216 ≤ 255 := by omega
  obtain ⟨b00, b01⟩ := b0
  obtain ⟨b10, b11⟩ := b1
  obtain ⟨b20, b21⟩ := b2
  obtain ⟨b30, b31⟩ := b3
  obtain ⟨c00, c01⟩ := c0
  obtain ⟨c10, c11⟩ := c1
  obtain ⟨c20, c21⟩ := c2
  obtain ⟨c30, c31⟩ := c3
  go_enter Try.func96, Try.ntmps96
  go_wp2
  go_quiet (fail)
  go_wp2
  go_ret
  exact Ret.Veq (congrArg (Value.int .i64) (by have := HP.out; omega)) ((Nw.refl w).drewN _)
/-- The ones of the first so many digits. -/
def cn (zs : List Int) : Nat → Nat
  | 0 => 0
  | k + 1 => cn zs k + pc (at0 zs k).toNat
theorem cn_cons (x : Int) (t : List Int) : ∀ k, cn (x :: t) (k + 1) = pc x.toNat + cn t k
  | 0 => by simp [cn, at0]
  | k + 1 => by
    have h := cn_cons x t k
    show cn (x :: t) (k + 1) + pc (at0 (x :: t) (k + 1)).toNat = pc x.toNat + (cn t k + pc (at0 t k).toNat)
    rw [h, show at0 (x :: t) (k + 1) = at0 t k by simp [at0]]
    omega
theorem cn_lv : ∀ (zs : List Int), dg b32 zs → cn zs zs.length = pc (lv b32 zs).toNat
  | [], _ => by simp [cn, lv, pc_zero]
  | x :: t, d => by
    have dt : dg b32 t := fun y hy => d y (List.mem_cons_of_mem _ hy)
    have dx := d x List.mem_cons_self
    have h := cn_lv t dt
    have h0 := lv_nonneg (b := b32) (by decide) dt
    rw [b32_eq] at dx h h0
    rw [List.length_cons, cn_cons, b32_eq, h]
    obtain ⟨X, hX⟩ := Int.eq_ofNat_of_zero_le dx.1
    obtain ⟨T, hT⟩ := Int.eq_ofNat_of_zero_le h0
    have a := pc_add 32 X T (by omega)
    have e : (lv 4294967296 (x :: t)).toNat = X + 2 ^ 32 * T := by
      show (x + 4294967296 * lv 4294967296 t).toNat = _
      rw [hT, hX]; omega
    rw [e, a, hX, hT]
    rfl
theorem cn_le {zs : List Int} (d : dg b32 zs) : ∀ k, cn zs k ≤ 32 * k
  | 0 => Nat.le_refl _
  | k + 1 => by
    have h := cn_le d k
    obtain ⟨a, b⟩ := dg_at d (by decide) k
    rw [b32_eq] at b
    have := pc_le32 (at0 zs k).toNat (by omega)
    show cn zs k + pc (at0 zs k).toNat ≤ _
    omega
set_option maxHeartbeats 3200000 in
set_option maxRecDepth 100000 in
theorem count_c {x : Int} {n : Bool} {A : Option Addr} {l c : Nat} {w : World} (hx : RI w n A l c x) (hl : l ≤ 400000) :
    Calls Try.prog 50 #[.agg #[.bool n, .slice A l c]] w (Ret w (KV (.int .i64 (pc (pat x).toNat)))) := by
  have nw1 : Nw w (w.alloc (.cells #[.bool n, .slice A l c] 28)) := (Nw.refl w).alloc _
  have HX := Lib.hid (hx.kept nw1.kept)
  have hb := hx.abs_lt
  have hp : pat x < b32 ^ l := by unfold pat; split <;> omega
  have HP := Lib.hid hp
  clear hx hb hp
  go_enter Try.func50, Try.ntmps50
  go_wp2_with fail
  refine (pattern_c HX.out hl).mono ?_
  rintro e w1 ⟨_, rfl, ⟨zs, C, cc, rfl, hcc, rC, dz, tz, ez⟩, hb1⟩
  have EZ := Lib.hid ez
  have hzl : zs.length ≤ l := by
    have := HP.out
    rw [← EZ.out] at this
    by_cases h0 : zs = []
    · subst h0; simp
    · have h1 := top_le (b := b32) (by decide) dz tz h0
      by_cases h2 : zs.length ≤ l
      · omega
      · have := pow_le (b := b32) (by decide) (show l ≤ zs.length - 1 by omega)
        omega
  have n1 := nw1.trans hb1
  have RC := Lib.hid rC
  have TZ := Lib.hid tz
  clear ez nw1 hb1 rC tz
  go_wp2
  go_loopw [3, 5, 9] (fun cs _ ci wr => ∃ k : Nat, ci = .int .i64 k ∧ cs = .int .i64 (cn zs k) ∧ k ≤ zs.length ∧ Nw w1 wr)
    (fun _ _ ci _ => zs.length - (intOf ci).toNat)
  case atStart => exact ⟨0, rfl, rfl, Nat.zero_le _, Nw.refl _⟩
  case round =>
    obtain ⟨k, rfl, rfl, hk, hn⟩ := hrel
    by_cases hlt : k < zs.length
    · obtain ⟨ad, hA, hcell⟩ := RC.out.2 k hlt
      have hq := hn.c hcell
      obtain ⟨a, b⟩ := dg_at dz (by decide) k
      rw [b32_eq] at b
      have hc1 := cn_le dz k
      have hc2 := pc_le32 (at0 zs k).toNat (by omega)
      have hw1 : IntKind.i64.wrap ((k : Int) + 1) = (k : Int) + 1 := IntWalk.i64_in _ (by omega)
      have hw2 : IntKind.i64.wrap ((cn zs k : Int) + (pc (at0 zs k).toNat : Int)) = (cn zs k : Int) + (pc (at0 zs k).toNat : Int) := IntWalk.i64_in _ (by omega)
      subst hA
      go_wp2_with (go_at_call 96; refine (ones32_c (at0 zs k) _ a b).mono ?_; rintro e w2 ⟨_, rfl, rfl, hb2⟩)
      exact ⟨⟨k + 1, by go_num, by show Value.int _ _ = _; rw [show cn zs (k + 1) = cn zs k + pc (at0 zs k).toNat from rfl]; push_cast; rfl, by omega, hn.trans hb2⟩, by simp [intOf]; omega⟩
    · have hke : k = zs.length := by omega
      subst hke
      have hf : (cn zs zs.length : Int) = (pc (pat x).toNat : Int) := by rw [cn_lv zs dz, EZ.out]
      have HF := Lib.hid hf
      clear hf
      go_wp2
      go_ret
      exact Ret.Veq (congrArg (Value.int .i64) HF.out) (n1.trans hn)
end Go.Proofs.Ytcgkgcciogibkaa
/- Contracts in the form that the rules want. -/
set_option linter.unusedVariables false
set_option linter.unusedSimpArgs false
namespace Go.Proofs.Ytcgkgcciogibkaa.Sy
open Go Go.RowKit Ma
theorem ce_add : CE 24 := fun args W => by go_simp
theorem ce_sub : CE 26 := fun args W => by go_simp
theorem ce_mul : CE 25 := fun args W => by go_simp
theorem ce_neg : CE 32 := fun args W => by go_simp
theorem ce_abs : CE 34 := fun args W => by go_simp
theorem ce_cmp : CE 27 := fun args W => by go_simp
theorem ce_sign : CE 28 := fun args W => by go_simp
theorem ce_new : CE 41 := fun args W => by go_simp
theorem ce_boole : CE 17 := fun args W => by go_simp
theorem ce_same : CE 23 := fun args W => by go_simp
theorem ce_is : CE 19 := fun args W => by go_simp
theorem ce_awake : CE 15 := fun args W => by go_simp
theorem ce_len : CE 48 := fun args W => by go_simp
theorem ce_count : CE 50 := fun args W => by go_simp
theorem ce_bit : CE 20 := fun args W => by go_simp
theorem ce_Shift : CE 56 := fun args W => by go_simp
theorem ce_field : CE 58 := fun args W => by go_simp
theorem ce_dep : CE 60 := fun args W => by go_simp
theorem all0 {us : List Value} {W : World} (h : All [] us W) : us = [] := by cases us with | nil => rfl | cons _ _ => exact h.elim
theorem all1 {k1 : Know} {us : List Value} {W : World} (h : All [k1] us W) : ∃ u, us = [u] ∧ k1 u W := by
  match us, h with
  | [u], h => exact ⟨u, rfl, h.1⟩
theorem all2 {k1 k2 : Know} {us : List Value} {W : World} (h : All [k1, k2] us W) : ∃ u v, us = [u, v] ∧ k1 u W ∧ k2 v W := by
  match us, h with
  | [u, v], h => exact ⟨u, v, rfl, h.1, h.2.1⟩
theorem all3 {k1 k2 k3 : Know} {us : List Value} {W : World} (h : All [k1, k2, k3] us W) : ∃ u v x, us = [u, v, x] ∧ k1 u W ∧ k2 v W ∧ k3 x W := by
  match us, h with
  | [u, v, x], h => exact ⟨u, v, x, rfl, h.1, h.2.1, h.2.2.1⟩
theorem all4 {k1 k2 k3 k4 : Know} {us : List Value} {W : World} (h : All [k1, k2, k3, k4] us W) : ∃ u v x y, us = [u, v, x, y] ∧ k1 u W ∧ k2 v W ∧ k3 x W ∧ k4 y W := by
  match us, h with
  | [u, v, x, y], h => exact ⟨u, v, x, y, rfl, h.1, h.2.1, h.2.2.1, h.2.2.2.1⟩
theorem call1 {f : FuncId} {k1 r : Know} (ce : CE f) (h : ∀ W u, k1 u W → Calls Try.prog f #[u] W (Ret W r)) : CallOk f [k1] r := ⟨ce, fun W us hu => by obtain ⟨u, rfl, h1⟩ := all1 hu; exact h W u h1⟩
theorem call2 {f : FuncId} {k1 k2 r : Know} (ce : CE f) (h : ∀ W u v, k1 u W → k2 v W → Calls Try.prog f #[u, v] W (Ret W r)) : CallOk f [k1, k2] r := ⟨ce, fun W us hu => by obtain ⟨u, v, rfl, h1, h2⟩ := all2 hu; exact h W u v h1 h2⟩
theorem call3 {f : FuncId} {k1 k2 k3 r : Know} (ce : CE f) (h : ∀ W u v x, k1 u W → k2 v W → k3 x W → Calls Try.prog f #[u, v, x] W (Ret W r)) : CallOk f [k1, k2, k3] r := ⟨ce, fun W us hu => by obtain ⟨u, v, x, rfl, h1, h2, h3⟩ := all3 hu; exact h W u v x h1 h2 h3⟩
theorem call4 {f : FuncId} {k1 k2 k3 k4 r : Know} (ce : CE f) (h : ∀ W u v x y, k1 u W → k2 v W → k3 x W → k4 y W → Calls Try.prog f #[u, v, x, y] W (Ret W r)) : CallOk f [k1, k2, k3, k4] r := ⟨ce, fun W us hu => by obtain ⟨u, v, x, y, rfl, h1, h2, h3, h4⟩ := all4 hu; exact h W u v x y h1 h2 h3 h4⟩
theorem callI {f : FuncId} {x : Int} {r : Know} (ce : CE f) (h : ∀ W n A l c, RI W n A l c x → Calls Try.prog f #[.agg #[.bool n, .slice A l c]] W (Ret W r)) : CallOk f [KI x] r := call1 ce fun W u ⟨n, A, l, c, e, hx⟩ => by subst e; exact h W n A l c hx
theorem callII {f : FuncId} {x y : Int} {r : Know} (ce : CE f) (h : ∀ W n A l c m B l' d, RI W n A l c x → RI W m B l' d y → Calls Try.prog f #[.agg #[.bool n, .slice A l c], .agg #[.bool m, .slice B l' d]] W (Ret W r)) : CallOk f [KI x, KI y] r :=
  call2 ce fun W u v ⟨n, A, l, c, e, hx⟩ ⟨m, B, l', d, e', hy⟩ => by subst e e'; exact h W n A l c m B l' d hx hy
theorem callIV {f : FuncId} {x : Int} {v : Value} {r : Know} (ce : CE f) (h : ∀ W n A l c, RI W n A l c x → Calls Try.prog f #[.agg #[.bool n, .slice A l c], v] W (Ret W r)) : CallOk f [KI x, KV v] r :=
  call2 ce fun W u u' ⟨n, A, l, c, e, hx⟩ e' => by subst e; obtain rfl : u' = v := e'; exact h W n A l c hx
variable {x y : Int} {a b : Nat}
theorem k_add (hx : bd a x) (hy : bd b y) (ha : a ≤ 300000) (hb : b ≤ 300000) : CallOk 24 [KI x, KI y] (KI (x + y)) := callII ce_add fun W n A l c m B l' d h1 h2 => add_c h1 h2 (h1.le5 hx (by omega)) (h2.le5 hy (by omega))
theorem k_sub (hx : bd a x) (hy : bd b y) (ha : a ≤ 300000) (hb : b ≤ 300000) : CallOk 26 [KI x, KI y] (KI (x - y)) := callII ce_sub fun W n A l c m B l' d h1 h2 => sub_c h1 h2 (h1.le5 hx (by omega)) (h2.le5 hy (by omega))
theorem k_mul (hx : bd a x) (hy : bd b y) (ha : a ≤ 300000) (hb : b ≤ 300000) : CallOk 25 [KI x, KI y] (KI (x * y)) := callII ce_mul fun W n A l c m B l' d h1 h2 => mul_c h1 h2 (h1.le5 hx (by omega)) (h2.le5 hy (by omega))
theorem k_neg : CallOk 32 [KI x] (KI (-x)) := callI ce_neg fun W n A l c h => neg_c h
theorem k_abs : CallOk 34 [KI x] (KI (x.natAbs : Int)) := callI ce_abs fun W n A l c h => abs_c h
theorem k_cmp {z : Int} (e : cmp x y = z) : CallOk 27 [KI x, KI y] (KV (.int .i64 z)) := callII ce_cmp fun W n A l c m B l' d h1 h2 => e ▸ cmp_c h1 h2
theorem k_sign {z : Int} (e : sgn x = z) : CallOk 28 [KI x] (KV (.int .i64 z)) := callI ce_sign fun W n A l c h => e ▸ sign_c h
theorem k_new (h : -9223372036854775808 ≤ x ∧ x < 9223372036854775808) : CallOk 41 [KV (.int .i64 x)] (KI x) := call1 ce_new fun W u e => by obtain rfl : u = _ := e; exact new_c h
theorem k_same (e : x = y) : CallOk 23 [KI x, KI y] (KV (.bool true)) := callII ce_same fun W n A l c m B l' d h1 h2 => same_c h1 h2 e
theorem k_awake : CallOk 15 [] (KV (.bool true)) := ⟨ce_awake, fun W us hu => by rw [all0 hu]; exact awake_c⟩
theorem k_boole {op : Int} (hx : bd a x) (hy : bd b y) (ha : a ≤ 300000) (hb : b ≤ 300000) (h0 : 0 ≤ op) (h1 : op ≤ 15) : CallOk 17 [KI x, KV (.int .i64 op), KI y] (K2 (KI (bo op x y)) (KV (.int .i64 0))) :=
  call3 ce_boole fun W u v u' ⟨n, A, l, c, e, i1⟩ e2 ⟨m, B, l', d, e', i2⟩ => by subst e e'; obtain rfl : v = _ := e2; exact boole_c i1 i2 (i1.le hx ha) (i2.le hy hb) h0 h1
theorem k_len {z : Int} (hx : bd a x) (ha : a ≤ 300000) (e : (wid (pat x) : Int) = z) : CallOk 48 [KI x] (KV (.int .i64 z)) := callI ce_len fun W n A l c h => e ▸ len_c h (by have := h.le hx ha; omega)
theorem k_count {z : Int} (hx : bd a x) (ha : a ≤ 300000) (e : (pc (pat x).toNat : Int) = z) : CallOk 50 [KI x] (KV (.int .i64 z)) := callI ce_count fun W n A l c h => e ▸ count_c h (by have := h.le hx ha; omega)
theorem k_bit {i : Int} {z : Bool} (hx : bd a x) (ha : a ≤ 300000) (h0 : -9223372036854775808 ≤ i) (h1 : i ≤ 9223372036854775807) (e : bt x i = z) : CallOk 20 [KI x, KV (.int .i64 i)] (KV (.bool z)) := callIV ce_bit fun W n A l c h => e ▸ bit_c h (by have := h.le hx ha; omega) h0 h1
theorem k_Shift {i : Int} (hx : bd a x) (ha : a ≤ 300000) (h0 : -9223372036854775808 ≤ i) (h1 : i ≤ 9223372036854775807) (hs : shOk x i) : CallOk 56 [KI x, KV (.int .i64 i)] (K2 (KI (sh x i)) (KV (.int .i64 0))) := callIV ce_Shift fun W n A l c h => Shift_0 h (h.le hx ha) h0 h1 hs
theorem sz_ok {k p : Nat} (hk : k ≤ 65536) (hp : p ≤ 65536) : sz (k : Int) (p : Int) = true := by unfold sz; simp; omega
theorem k_field {k p : Nat} (hx : bd a x) (ha : a ≤ 300000) (hk : k ≤ 65536) (hp : p ≤ 65536) : CallOk 58 [KI x, KV (.int .i64 k), KV (.int .i64 p)] (K2 (KI (fld x k p)) (KV (.int .i64 0))) :=
  call3 ce_field fun W u v u' ⟨n, A, l, c, e, i1⟩ e2 e3 => by subst e; obtain rfl : v = _ := e2; obtain rfl : u' = _ := e3; exact field_0 i1 (i1.le hx ha) (sz_ok hk hp)
theorem k_dep {k p : Nat} (hx : bd a x) (hy : bd b y) (ha : a ≤ 100000) (hb : b ≤ 100000) (hk : k ≤ 65536) (hp : p ≤ 65536) : CallOk 60 [KI x, KI y, KV (.int .i64 k), KV (.int .i64 p)] (K2 (KI (dep x y k p)) (KV (.int .i64 0))) :=
  call4 ce_dep fun W u v u' v' ⟨n, A, l, c, e, i1⟩ ⟨m, B, l', d, e', i2⟩ e2 e3 => by
    subst e e'; obtain rfl : u' = _ := e2; obtain rfl : v' = _ := e3
    exact deposit_0 i1 i2 (i1.len_le _ (hx.mono ha).1 (hx.mono ha).2) (i2.len_le _ (hy.mono hb).1 (hy.mono hb).2) (sz_ok hk hp)
end Go.Proofs.Ytcgkgcciogibkaa.Sy
/-! ### Bounds -/
namespace Go.Proofs.Ytcgkgcciogibkaa
open Go Go.RowKit Ma
variable {x y : Int} {a b : Nat}
theorem bd2 {n : Nat} {z : Int} : bd n z ↔ -(2 ^ (32 * n)) < z ∧ z < 2 ^ (32 * n) := by unfold bd; rw [pow32]
theorem range_of_tb {z : Int} {m : Nat} {t : Bool} (h : ∀ i, m ≤ i → tb z i = t) : -(2 ^ m) ≤ z ∧ z < 2 ^ m := by
  have hp : (0 : Int) < 2 ^ m := Int.pow_pos (by decide)
  have e := Int.mul_ediv_add_emod z (2 ^ m)
  have r0 := Int.emod_nonneg z (Int.ne_of_gt hp)
  have r1 := Int.emod_lt_of_pos z hp
  have q : z / 2 ^ m = if t then -1 else 0 := by
    apply tb_ext
    intro i
    rw [← tb_shift, h (m + i) (by omega)]
    cases t
    · simp [tb_zero]
    · simp [tb_negone]
  rw [q] at e
  cases t <;> simp at e <;> omega
theorem bd.bo {op : Int} (h : bd a x) (k : bd b y) : bd (max a b + 1) (bo op x y) := by
  have h1 := bd2.1 (h.mono (Nat.le_max_left a b))
  have k1 := bd2.1 (k.mono (Nat.le_max_right a b))
  have := range_of_tb (z := Go.Proofs.Ytcgkgcciogibkaa.bo op x y) (m := 32 * max a b) (t := ch op (decide (x < 0)) (decide (y < 0))) fun i hi => by rw [bo_tb, tb_high (by omega) h1.2 hi, tb_high (by omega) k1.2 hi]
  rw [bd2]
  have e : (2 : Int) ^ (32 * (max a b + 1)) = 2 ^ (32 * max a b) * 4294967296 := by rw [show 32 * (max a b + 1) = 32 * max a b + 32 by omega, Int.pow_add]; rfl
  rw [e]
  have hp : (0 : Int) < 2 ^ (32 * max a b) := Int.pow_pos (by decide)
  omega
theorem bd.up {k m : Nat} (h : bd a x) (hk : k ≤ 32 * m) : bd (a + m) (sh x k) := by
  rw [sh_up]
  have h1 := bd2.1 h
  rw [bd2]
  have e : (2 : Int) ^ (32 * (a + m)) = 2 ^ (32 * a) * 2 ^ (32 * m) := by rw [Nat.mul_add, Int.pow_add]
  have p1 : (0 : Int) < 2 ^ k := Int.pow_pos (by decide)
  have p2 := pow_le (b := 2) (by decide) hk
  have p3 : (0 : Int) < 2 ^ (32 * a) := Int.pow_pos (by decide)
  rw [e]
  have q1 : x * 2 ^ k < 2 ^ (32 * a) * 2 ^ k := Int.mul_lt_mul_of_pos_right h1.2 p1
  have q2 : -(2 ^ (32 * a)) * 2 ^ k < x * 2 ^ k := Int.mul_lt_mul_of_pos_right h1.1 p1
  have q3 : (2 : Int) ^ (32 * a) * 2 ^ k ≤ 2 ^ (32 * a) * 2 ^ (32 * m) := Int.mul_le_mul_of_nonneg_left p2 (Int.le_of_lt p3)
  rw [Int.neg_mul] at q2
  omega
theorem bd.down {k : Nat} (h : bd a x) : bd a (sh x (-(k : Int))) := by
  have := sh_dn (x := x) (n := -(k : Int)) (by omega)
  unfold bd at *
  omega
theorem bd.ones {k m : Nat} (hk : k ≤ 32 * m) : bd (m + 1) (2 ^ k - 1 : Int) := by
  rw [bd2]
  have p1 : (0 : Int) < 2 ^ k := Int.pow_pos (by decide)
  have p2 := pow_le (b := 2) (by decide) (show k ≤ 32 * (m + 1) by omega)
  omega
theorem bd.fld {k p m : Nat} (h : bd a x) (hk : k ≤ 32 * m) : bd (max a (m + 1) + 1) (fld x k p) := h.down.bo (bd.ones hk)
theorem bd.lit (h : -4294967296 < x ∧ x < 4294967296) : bd 1 x := by unfold bd; have e : b32 ^ 1 = 4294967296 := rfl; rw [e]; exact h
theorem bd.one : bd 1 1 := by unfold bd; decide
theorem bd.small {m : Nat} (h : bd a x) (hm : a ≤ m) : bd m x := h.mono hm
theorem bd.compl (h : bd a x) : bd (a + 1) (-1 - x) := by
  unfold bd at *
  rw [Int.pow_succ]
  have := pos_pow (b := b32) (by decide) a
  have e : b32 ^ a * b32 = b32 ^ a * 4294967296 := rfl
  omega
theorem bd.dep {k p m q : Nat} (h : bd a x) (h2 : bd b y) (hk : k ≤ 32 * m) (hp : p ≤ 32 * q) : bd (max (max a (m + 1 + q + 1) + 1) (max b (m + 1) + 1 + q) + 1) (dep x y k p) :=
  (h.bo ((bd.ones hk).up hp).compl).add ((h2.bo (bd.ones hk)).up hp)
end Go.Proofs.Ytcgkgcciogibkaa
/- Ends of a walk by rules; a function's text behind a statement. -/
set_option linter.unusedVariables false
set_option linter.unusedSimpArgs false
namespace Go.Proofs.Ytcgkgcciogibkaa.Sy
open Go Go.RowKit Ma
/-- What follows the statement number k. -/
def restIn (k : Nat) : Code → Option Code
  | .seq a b => match a with
    | .region id _ _ => match Nat.beq id k with
      | true => some b
      | false => restIn k b
    | _ => match restIn k a with
      | some c => some c
      | none => restIn k b
  | .block _ c => restIn k c
  | .scope c => restIn k c
  | .loop c => restIn k c
  | .cond _ a b => match restIn k a with
    | some c => some c
    | none => restIn k b
  | _ => none
noncomputable def restOf (k : Nat) (f : Func) : Code := (f.body.bind (restIn k)).getD .skip
section
variable {B N : Nat} {w0 : World} {fr : List (Nat × AV)} {Q : Exit → Act → World → Prop} {fn : Func}
theorem run_res1 {s : Nat} (hr : fn.results = #[.tmp s]) (ts : Array Value) (W : World) : (results fn ts).run Try.prog W = .ok (ts.getD s undef) W := by
  simp [results, hr, go_sem]
theorem SX.done {s : Nat} {r : AV} (hr : fn.results = #[.tmp s]) (hs : opv fr (.tmp s) = some r) (hB : B = w0.heap.size) : SX B N w0 .ret fr (bodyPost Try.prog fn (Ret w0 r.of)) := fun a W hf =>
  bodyPost_ret (run_res1 hr _ _) hf.df ⟨_, rfl, ((opv_spec hf hs).1.of (opv_spec hf hs).2).1, by have := hf.be; rw [hB] at this; exact this⟩
theorem SX.doneN {s : Nat} {r : AV} (hr : fn.results = #[.tmp s]) (hs : opv fr (.tmp s) = some r) (hB : B = w0.heap.size) : SX B N w0 .normal fr (bodyPost Try.prog fn (Ret w0 r.of)) := fun a W hf =>
  ⟨hf.df, _, run_res1 hr _ _, ⟨_, rfl, ((opv_spec hf hs).1.of (opv_spec hf hs).2).1, by have := hf.be; rw [hB] at this; exact this⟩⟩
theorem SX.blockX {id id' : Nat} (hne : (id' == id) = false) (h : SX B N w0 (.exit id') fr Q) : SX B N w0 (.exit id') fr (Exit.inBlock id Q) := fun a W hf => by
  show (if id' = id then _ else _)
  rw [if_neg (by simpa using hne)]
  exact h a W hf
theorem Fr.base {a : Act} {W : World} (h1 : a.defers = []) (h2 : a.tmps.size = N) (hb : Below B w0 W) (hB : B ≤ W.heap.size) : Fr B N w0 [] a W :=
  ⟨h1, h2, hb, hB, fun i v h => (by cases h), fun i j b b' p _ h => (by cases h)⟩
theorem Fr.bxs {i : Nat} {b : BT} {k : Know} {a : Act} {W : World} (h : Fr B N w0 fr a W) (hu : Ho B (.bx b k) (a.tmps.getD i undef) W) (hn : ∀ j v', look fr j = some v' → v'.isBx = true → a.tmps.getD i undef ≠ a.tmps.getD j undef ∧ ∃ b, bxT v' = some b) : Fr B N w0 ((i, .bx b k) :: fr) a W :=
  h.more hu fun j v' p hj e e2 => by
    cases hv : v'.isBx with
    | false => rw [AV.blk_no hv] at e2; cases e2
    | true =>
      obtain ⟨h1, b', hb'⟩ := hn j v' hj hv
      obtain ⟨q, x, e3, _⟩ := hu
      obtain ⟨q', x', e4, _, _, _, e5⟩ := (h.ho j v' hj).bxT hb'
      rw [e4, e5] at e2
      rw [e3] at e
      injection e with e
      injection e2 with e2
      exact h1 (by rw [e3, e4, e, e2])
/-- A box of a sign and a slice, by its cells. -/
theorem Ho.two {T : TypeId} {z : Int} {m : Bool} {D : Option Addr} {l c p : Nat} {W : World} (ok : (BI T).Ok) (hp : B ≤ p) (h0 : W.cell? ⟨p, 0, none⟩ = some (.bool m)) (h1 : W.cell? ⟨p, 1, none⟩ = some (.slice D l c)) (f0 : W.frozen? ⟨p, 0, none⟩ = false) (f1 : W.frozen? ⟨p, 1, none⟩ = false) (hi : RI W m D l c z) : Ho B (.bx (BI T) (KI z)) (ptr p) W :=
  ⟨p, _, rfl, hp, ⟨_, ⟨m, D, l, c, rfl, rfl⟩, fun i x hx => by rcases two_at hx with ⟨rfl, rfl⟩ | ⟨rfl, rfl⟩ <;> exact ⟨by assumption, by assumption⟩⟩, ⟨m, D, l, c, rfl, hi⟩, KI.st z, ok⟩
/-- From a place in a walk on. -/
theorem SC.run {c : Code} {a : Act} {W : World} (h : SC B N w0 c fr Q) (hf : Fr B N w0 fr a W) : c.wp Try.prog Q a W := h a W hf
def OpsAre (fr : List (Nat × AV)) : List (Operand × Value) → Prop
  | [] => True
  | (x, v) :: l => opv fr x = some (.vl v) ∧ OpsAre fr l
def RhoAre (ρ : Operand → Value) : List (Operand × Value) → Prop
  | [] => True
  | (x, v) :: l => ρ x = v ∧ RhoAre ρ l
theorem rho_of {a : Act} {W : World} (hf : Fr B N w0 fr a W) : ∀ {l : List (Operand × Value)}, OpsAre fr l → RhoAre a.eval l
  | [], _ => trivial
  | (x, v) :: l, h => ⟨opv_vl hf h.1, rho_of hf h.2⟩
theorem PW.qn {ops : Array Oper} {o : Oper} {rest : List Oper} {d : Nat} (l : List (Operand × Value)) (v : Value) (hw : wantB ops fr o = some true) (hd : o.dst = some d) (hN : Nat.blt d N = true) (hx : OpsAre fr l) (h : ∀ (ρ : Operand → Value) (W : World), RhoAre ρ l → (execOp ρ o).run Try.prog W = .ok (.value v) W) (hk : PW B N w0 ops rest ((d, .vl v) :: fr) Q) : PW B N w0 ops (o :: rest) fr Q :=
  PW.val (r := .vl v) hw hd hN rfl (fun a W hf => ⟨v, h _ W (rho_of hf hx), rfl⟩) hk
end
/-! ### Rows -/
/-- Of all that is known nothing speaks of numbers in memory, but rows. -/
def AV.calm : AV → Bool
  | .vl _ => true
  | .nb _ => true
  | .ro _ _ _ _ => true
  | .rx _ _ _ => true
  | .bc _ _ _ => true
  | _ => false
def calmB : List (Nat × AV) → Bool
  | [] => true
  | (_, v) :: l => v.calm && calmB l
theorem calm_look : ∀ {fr : List (Nat × AV)}, calmB fr = true → ∀ s v, look fr s = some v → v.calm = true
  | [], _, s, v, h => by cases h
  | (j, u) :: l, hc, s, v, h => by
    unfold calmB at hc
    rw [Bool.and_eq_true] at hc
    rw [look_cons] at h
    by_cases e : j = s
    · rw [if_pos e] at h; injection h with h; subst h; exact hc.1
    · rw [if_neg e] at h; exact calm_look hc.2 s v h
section
variable {B N : Nat} {w0 : World} {fr : List (Nat × AV)}
theorem Ho.calm {v : AV} {u : Value} {W W' : World} {q : Nat} (hc : v.calm = true) (h : Ho B v u W) (k : W.grownBy W' (some q)) (hne : v.blk u ≠ some q) : Ho B v u W' := by
  cases v with
  | vl v => exact h
  | nb b =>
    obtain ⟨p, x, e, hp, hh, ok⟩ := h
    subst e
    have : p ≠ q := fun e2 => hne (by rw [e2]; rfl)
    exact ⟨p, x, rfl, hp, hh.same (k.block p (hh.lt ok) (fun e => this (by injection e))), ok⟩
  | ro v e f zs => exact OwF.off h k hne
  | rx e f p => obtain ⟨zs, h1, h2⟩ := h; exact ⟨zs, OwF.off h1 k hne, h2⟩
  | bc b p v =>
    obtain ⟨e, hh, ok⟩ := h
    have : p ≠ q := fun e2 => hne (by rw [e2]; rfl)
    exact ⟨e, hh.same (k.block p (hh.lt ok) (fun e => this (by injection e))), ok⟩
  | _ => cases hc
/-- A number of a row is written. -/
theorem Fr.rset {a : Act} {W : World} {K g n c i : Nat} {e : TypeId} {f : Int → Value} {zs : List Int} (h : Fr B N w0 fr a W) (hK : look fr K = some (.ro (.slice (some ⟨g, 0, none⟩) n c) e f zs)) (hc : calmB fr = true) (y : Int) : Fr B N w0 ((K, .ro (.slice (some ⟨g, 0, none⟩) n c) e f (zs.set i y)) :: fr) a (W.setCell ⟨g, i, none⟩ (f y)) := by
  have ho : OwF W B e f (.slice (some ⟨g, 0, none⟩) n c) zs := h.ho K _ hK
  have hgr : W.grownBy (W.setCell ⟨g, i, none⟩ (f y)) (some g) := OwF.grew ho i _
  have hB : B ≤ g := ho.ge
  refine ⟨h.df, h.sz, Below.grown h.be hgr h.bs (fun k e => by injection e with e; omega), by simpa [World.setCell] using h.bs, fun j v hj => ?_, fun j l v v' p hjl hj hl => ?_⟩
  · rw [look_cons] at hj
    by_cases e' : K = j
    · rw [if_pos e'] at hj
      injection hj with hj
      subst hj
      exact OwF.set ho i y
    · rw [if_neg e'] at hj
      exact Ho.calm (calm_look hc j v hj) (h.ho j v hj) hgr (h.di K j _ v g e' hK hj rfl)
  · rw [look_cons] at hj hl
    by_cases e1 : K = j
    · have e2 : K ≠ l := fun x => hjl (e1.symm.trans x)
      rw [if_pos e1] at hj
      rw [if_neg e2] at hl
      injection hj with hj
      subst hj
      intro x
      injection x with x
      subst x
      exact h.di K l _ v' g e2 hK hl rfl
    · rw [if_neg e1] at hj
      by_cases e2 : K = l
      · rw [if_pos e2] at hl
        injection hl with hl
        subst hl
        intro x y2
        injection y2 with y2
        subst y2
        exact h.di K j _ v g e1 hK hj rfl x
      · rw [if_neg e2] at hl; exact h.di j l v v' p hjl hj hl
end
end Go.Proofs.Ytcgkgcciogibkaa.Sy
/- A walk by rules: statements that draw their order, with whatever stores and new boxes: what is known behind some of the operations hangs on which of them were carried out, not on their order. -/
set_option linter.unusedVariables false
set_option linter.unusedSimpArgs false
namespace Go.Proofs.Ytcgkgcciogibkaa.Sy
open Go Go.RowKit Ma
/-- What an operation leaves. -/
inductive Eff
  | val (d : Nat) (r : AV)
  | new (d : Nat) (b : BT)
  | put (s : Nat) (b : BT) (r : AV)
  | rput (K g n c : Nat) (e : TypeId) (f : Int → Value) (zs : List Int) (i : Nat) (y : Int)
  | row (d : Nat) (e : TypeId) (f : Int → Value) (p : List Int → Prop)
def Eff.ent : Eff → Nat × AV
  | .val d r => (d, r)
  | .new d b => (d, .nb b)
  | .put s b r => (s, .bx b r.of)
  | .rput K g n c e f zs i y => (K, .ro (.slice (some ⟨g, 0, none⟩) n c) e f (zs.set i y))
  | .row d e f p => (d, .rx e f p)
def Eff.slot : Eff → Nat
  | .val d _ => d
  | .new d _ => d
  | .put s _ _ => s
  | .rput K _ _ _ _ _ _ _ _ => K
  | .row d _ _ _ => d
def Eff.isR : Eff → Bool
  | .rput _ _ _ _ _ _ _ _ _ => true
  | _ => false
theorem Eff.ent_slot (e : Eff) : e.ent.1 = e.slot := by cases e <;> rfl
/-- What is known behind the operations that L tells. -/
def cur : Nat → List Eff → (Nat → Bool) → List (Nat × AV) → List (Nat × AV)
  | _, [], _, fr => fr
  | i, e :: es, L, fr => cur (i + 1) es L (if L i then e.ent :: fr else fr)
theorem cur_congr {L L' : Nat → Bool} : ∀ (es : List Eff) (i : Nat) (fr : List (Nat × AV)), (∀ j, i ≤ j → L j = L' j) → cur i es L fr = cur i es L' fr
  | [], _, _, _ => rfl
  | e :: es, i, fr, h => by
    unfold cur
    rw [h i (Nat.le_refl _)]
    exact cur_congr es (i + 1) _ fun j hj => h j (by omega)
/-- A slot that no further operation writes. -/
theorem look_cur_none {L : Nat → Bool} {s : Nat} : ∀ (es : List Eff) (i : Nat) (fr : List (Nat × AV)), (∀ k e, es[k]? = some e → e.slot = s → L (i + k) = false) → look (cur i es L fr) s = look fr s
  | [], _, _, _ => rfl
  | e :: es, i, fr, h => by
    unfold cur
    rw [look_cur_none es (i + 1) _ fun k e' he hs => by have := h (k + 1) e' (by simpa using he) hs; rwa [show i + 1 + k = i + (k + 1) by omega]]
    by_cases hL : L i = true
    · rw [if_pos hL]
      have : e.slot ≠ s := fun hs => by have := h 0 e rfl hs; rw [Nat.add_zero, hL] at this; cases this
      rw [show e.ent = (e.ent.1, e.ent.2) from rfl, look_cons, if_neg (by rw [Eff.ent_slot]; exact this)]
    · rw [if_neg hL]
/-- The slot of operation number j, if none that was carried out writes it behind. -/
theorem look_cur_at {L : Nat → Bool} {s : Nat} : ∀ (es : List Eff) (i j : Nat) (e : Eff) (fr : List (Nat × AV)), es[j]? = some e → e.slot = s → L (i + j) = true → (∀ k e', j < k → es[k]? = some e' → e'.slot = s → L (i + k) = false) → look (cur i es L fr) s = some e.ent.2
  | [], _, _, _, _, h, _, _, _ => by simp at h
  | e0 :: es, i, 0, e, fr, h, hs, hL, hn => by
    have : e0 = e := by simpa using h
    subst this
    unfold cur
    rw [Nat.add_zero] at hL
    rw [if_pos hL, look_cur_none es (i + 1) _ fun k e' he hs' => by have := hn (k + 1) e' (by omega) (by simpa using he) hs'; rwa [show i + 1 + k = i + (k + 1) by omega]]
    rw [show e0.ent = (e0.ent.1, e0.ent.2) from rfl, look_cons, if_pos (by rw [Eff.ent_slot]; exact hs)]
  | e0 :: es, i, j + 1, e, fr, h, hs, hL, hn => by
    unfold cur
    exact look_cur_at es (i + 1) j e _ (by simpa using h) hs (by rwa [show i + 1 + j = i + (j + 1) by omega]) fun k e' hk he hs' => by have := hn (k + 1) e' (by omega) (by simpa using he) hs'; rwa [show i + 1 + k = i + (k + 1) by omega]
def add (L : Nat → Bool) (i : Nat) : Nat → Bool := fun j => if j = i then true else L j
/-- One more. -/
theorem look_add {L : Nat → Bool} {es : List Eff} {i : Nat} {e : Eff} {fr : List (Nat × AV)} (he : es[i]? = some e) (hL : L i = false) (hn : ∀ k e', i < k → es[k]? = some e' → e'.slot = e.slot → L k = false) (s : Nat) : look (cur 0 es (add L i) fr) s = look (e.ent :: cur 0 es L fr) s := by
  rw [show e.ent = (e.ent.1, e.ent.2) from rfl, look_cons, Eff.ent_slot]
  by_cases hs : e.slot = s
  · rw [if_pos hs]
    refine look_cur_at es 0 i e fr he hs ?_ fun k e' hk he' hs' => ?_
    · show add L i (0 + i) = true; unfold add; rw [Nat.zero_add, if_pos rfl]
    · show add L i (0 + k) = false
      unfold add
      rw [Nat.zero_add, if_neg (by omega)]
      exact hn k e' hk he' (hs'.trans hs.symm)
  · rw [if_neg hs]
    -- the last that was carried out and writes s, or none
    by_cases hex : ∃ k e', es[k]? = some e' ∧ e'.slot = s ∧ L k = true ∧ ∀ k' e'', k < k' → es[k']? = some e'' → e''.slot = s → L k' = false
    · obtain ⟨k, e', h1, h2, h3, h4⟩ := hex
      have hki : k ≠ i := fun x => by subst x; rw [he] at h1; injection h1 with h1; exact hs (h1 ▸ h2)
      have a1 : look (cur 0 es L fr) s = some e'.ent.2 := look_cur_at es 0 k e' fr h1 h2 (by rw [Nat.zero_add]; exact h3) fun k' e'' hk hk' hs' => by rw [Nat.zero_add]; exact h4 k' e'' hk hk' hs'
      have a2 : look (cur 0 es (add L i) fr) s = some e'.ent.2 := look_cur_at es 0 k e' fr h1 h2 (by rw [Nat.zero_add]; unfold add; rw [if_neg hki]; exact h3) fun k' e'' hk hk' hs' => by
        rw [Nat.zero_add]
        unfold add
        have : k' ≠ i := fun x => by subst x; rw [he] at hk'; injection hk' with hk'; exact hs (hk' ▸ hs')
        rw [if_neg this]
        exact h4 k' e'' hk hk' hs'
      rw [a1, a2]
    · have none_ : ∀ k e', es[k]? = some e' → e'.slot = s → L k = false := by
        -- otherwise there is a last one
        intro k e' h1 h2
        apply Classical.byContradiction
        intro h3
        have h3 : L k = true := by simpa using h3
        apply hex
        have key : ∀ n k e', es.length - k = n → es[k]? = some e' → e'.slot = s → L k = true → ∃ k e', es[k]? = some e' ∧ e'.slot = s ∧ L k = true ∧ ∀ k' e'', k < k' → es[k']? = some e'' → e''.slot = s → L k' = false := by
          intro n
          induction n using Nat.strongRecOn with
          | _ n ih =>
            intro k e' hn h1 h2 h3
            by_cases hl : ∀ k' e'', k < k' → es[k']? = some e'' → e''.slot = s → L k' = false
            · exact ⟨k, e', h1, h2, h3, hl⟩
            · simp only [Classical.not_forall] at hl
              obtain ⟨k', e'', hk, hk', hs', hL'⟩ := hl
              have lt1 : k < es.length := (List.getElem?_eq_some_iff.1 h1).1
              have lt2 : k' < es.length := (List.getElem?_eq_some_iff.1 hk').1
              exact ih (es.length - k') (by omega) k' e'' rfl hk' hs' (by simpa using hL')
        exact key _ k e' rfl h1 h2 h3
      have a1 : look (cur 0 es L fr) s = look fr s := look_cur_none es 0 fr fun k e' h1 h2 => by rw [Nat.zero_add]; exact none_ k e' h1 h2
      have a2 : look (cur 0 es (add L i) fr) s = look fr s := look_cur_none es 0 fr fun k e' h1 h2 => by
        rw [Nat.zero_add]
        unfold add
        have : k ≠ i := fun x => by subst x; rw [he] at h1; injection h1 with h1; exact hs (h1 ▸ h2)
        rw [if_neg this]
        exact none_ k e' h1 h2
      rw [a1, a2]
theorem Fr.ext {B N : Nat} {w0 : World} {fr fr' : List (Nat × AV)} {a : Act} {W : World} (h : Fr B N w0 fr a W) (e : ∀ s, look fr' s = look fr s) : Fr B N w0 fr' a W :=
  ⟨h.df, h.sz, h.be, h.bs, fun i v hi => h.ho i v (by rw [← e]; exact hi), fun i j b b' p hij hi hj => h.di i j b b' p hij (by rw [← e]; exact hi) (by rw [← e]; exact hj)⟩
theorem Fr.sub {B N : Nat} {w0 : World} {fr fr' : List (Nat × AV)} {a : Act} {W : World} (h : Fr B N w0 fr a W) (e : ∀ s v, look fr' s = some v → look fr s = some v) : Fr B N w0 fr' a W :=
  ⟨h.df, h.sz, h.be, h.bs, fun i v hi => h.ho i v (e i v hi), fun i j b b' p hij hi hj => h.di i j b b' p hij (e i _ hi) (e j _ hj)⟩

/-! ### What an operation may look at -/
/-- Does operation i wait for operation j (by an edge of its own). -/
def wt (ops : Array Oper) (i j : Nat) : Bool := match ops[i]? with
  | none => false
  | some o => o.after.any fun e => Region.binds .any e && e.on == j
/-- The operations that write a slot, but for those that are told, wait for operation i. -/
def offB (ops : Array Oper) (es : List Eff) (i s : Nat) (but : Nat → Bool) : Bool := (List.range es.length).all fun j => match es[j]? with
  | none => true
  | some e => !(Nat.beq e.slot s) || but j || Nat.beq j i || wt ops j i
/-- What operation i sees: the slots of operations that it waits for; slots of before. -/
def seeF (fr : List (Nat × AV)) : List Nat → List (Nat × AV)
  | [] => []
  | s :: ss => match look fr s with
    | some v => (s, v) :: seeF fr ss
    | none => seeF fr ss
def see (es : List Eff) (fr : List (Nat × AV)) : List Nat → List Nat → List (Nat × AV)
  | [], ss => seeF fr ss
  | j :: js, ss => match es[j]? with
    | some e => e.ent :: see es fr js ss
    | none => see es fr js ss
/-- Of each slot seen just one operation (or none) was carried out so far. -/
def seeB (ops : Array Oper) (es : List Eff) (i : Nat) (js ss : List Nat) : Bool :=
  (js.all fun j => wt ops i j && match es[j]? with
    | none => true
    | some e => offB ops es i e.slot fun k => Nat.beq k j || (Nat.blt k j && wt ops j k)) &&
  ss.all fun s => offB ops es i s fun _ => false
theorem offB_spec {ops : Array Oper} {es : List Eff} {i s : Nat} {but : Nat → Bool} (h : offB ops es i s but = true) {k : Nat} {e : Eff} (he : es[k]? = some e) (hs : e.slot = s) : but k = true ∨ k = i ∨ wt ops k i = true := by
  unfold offB at h
  rw [List.all_eq_true] at h
  have := h k (List.mem_range.2 (List.getElem?_eq_some_iff.1 he).1)
  rw [he] at this
  simp only [Bool.or_eq_true, Bool.not_eq_true', hs] at this
  rcases this with ((h1 | h1) | h1) | h1
  · simp at h1
  · exact .inl h1
  · exact .inr (.inl (by simpa using h1))
  · exact .inr (.inr h1)
/-- What was carried out waits for nothing that was not. -/
def Dn (ops : Array Oper) (L : Nat → Bool) : Prop := ∀ i j, L i = true → wt ops i j = true → L j = true
theorem see_spec {ops : Array Oper} {es : List Eff} {fr : List (Nat × AV)} {L : Nat → Bool} {i : Nat} (hd : Dn ops L) (hi : L i = false) (hw : ∀ j, wt ops i j = true → L j = true) : ∀ (js ss : List Nat), seeB ops es i js ss = true →
    ∀ s v, look (see es fr js ss) s = some v → look (cur 0 es L fr) s = some v
  | [], [], _, s, v, h => by simp [see, seeF, look] at h
  | [], s' :: ss, hb, s, v, h => by
    simp only [seeB, List.all_nil, Bool.true_and, List.all_cons, Bool.and_eq_true] at hb
    have rest : ∀ s v, look (see es fr [] ss) s = some v → look (cur 0 es L fr) s = some v := see_spec hd hi hw [] ss (by simp only [seeB, List.all_nil, Bool.true_and]; exact hb.2)
    unfold see seeF at h
    split at h
    · rename_i v' hv'
      rw [look_cons] at h
      by_cases e : s' = s
      · rw [if_pos e] at h
        injection h with h
        subst h e
        rw [look_cur_none es 0 fr fun k e' h1 h2 => ?_]
        · exact hv'
        · rw [Nat.zero_add]
          rcases offB_spec hb.1 h1 h2 with h3 | h3 | h3
          · cases h3
          · rw [h3]; exact hi
          · cases hk : L k with
            | false => rfl
            | true => have := hd k i hk h3; rw [hi] at this; cases this
      · rw [if_neg e] at h; exact rest s v (by unfold see; exact h)
    · exact rest s v (by unfold see; exact h)
  | j :: js, ss, hb, s, v, h => by
    simp only [seeB, List.all_cons, Bool.and_eq_true] at hb
    obtain ⟨⟨⟨h1, h2⟩, h3⟩, h4⟩ := hb
    have rest : ∀ s v, look (see es fr js ss) s = some v → look (cur 0 es L fr) s = some v := see_spec hd hi hw js ss (by simp only [seeB, Bool.and_eq_true]; exact ⟨h3, h4⟩)
    unfold see at h
    split at h
    · rename_i e he
      rw [show e.ent = (e.ent.1, e.ent.2) from rfl, look_cons, Eff.ent_slot] at h
      by_cases es' : e.slot = s
      · rw [if_pos es'] at h
        injection h with h
        subst h
        rw [he] at h2
        refine look_cur_at es 0 j e fr he es' (by rw [Nat.zero_add]; exact hw j h1) fun k e' hk he' hs' => ?_
        rw [Nat.zero_add]
        rcases offB_spec h2 he' (hs'.trans es'.symm) with h5 | h5 | h5
        · rw [Bool.or_eq_true, Bool.and_eq_true] at h5
          rcases h5 with h5 | h5
          · have := Nat.eq_of_beq_eq_true h5; omega
          · have : k < j := by simpa [Nat.blt_eq] using h5.1
            omega
        · rw [h5]; exact hi
        · cases hk' : L k with
          | false => rfl
          | true => have := hd k i hk' h5; rw [hi] at this; cases this
      · rw [if_neg es'] at h; exact rest s v h
    · exact rest s v h

/-! ### What each operation does -/
section
variable {B N : Nat} {w0 : World} {ops : Array Oper} {o : Oper} {fr : List (Nat × AV)}
/-- An operation, under what it sees, leaves what is told. -/
def Eo (B N : Nat) (w0 : World) (ops : Array Oper) (o : Oper) (fr : List (Nat × AV)) : Eff → Prop
  | .val d r => o.dst = some d ∧ Nat.blt d N = true ∧ r.isBx = false ∧ ∀ a W, Fr B N w0 fr a W → (Region.wanted o (yielded ops a.tmps) = true ∧ Rh.gives Try.prog o a W fun u W' => Nw W W' ∧ Ho B r u W') ∨ (Region.wanted o (yielded ops a.tmps) = false ∧ Ho B r undef W)
  | .new d b => o.dst = some d ∧ Nat.blt d N = true ∧ o.op = .alloc b.T ∧ b.Ok ∧ o.guard = none
  | .put s b r => o.dst = none ∧ o.guard = none ∧ ∃ x, o.op = .store b.T (.tmp s) x ∧ (look fr s).bind bxT = some b ∧ opv fr x = some r ∧ ∀ v W, r.of v W → ∃ cs, b.sh v cs
  | .rput K g n c e f zs i y => o.dst = none ∧ o.guard = none ∧ ∃ T s x, o.op = .store T (.tmp s) x ∧ look fr s = some (.vl (.pointer (some ⟨g, i, none⟩))) ∧ look fr K = some (.ro (.slice (some ⟨g, 0, none⟩) n c) e f zs) ∧ i < zs.length ∧ opv fr x = some (.vl (f y)) ∧
    ∀ (W : World) (p : Addr) (x y : Int), W.cell? p = some (f x) → W.frozen? p = false → (Instr.storeAt T (.pointer (some p)) (f y)).run Try.prog W = .ok () (W.setCell p (f y))
  | .row d e f p => o.dst = some d ∧ Nat.blt d N = true ∧ o.guard = none ∧ ∀ a W, Fr B N w0 fr a W → Rh.gives Try.prog o a W fun u W' => Nw W W' ∧ ∃ zs, OwF W' W.heap.size e f u zs ∧ p zs
/-- The step. -/
theorem Eo.step {fr1 : List (Nat × AV)} {e : Eff} (h : Eo B N w0 ops o fr e) {i : Nat} (hi : ops[i]? = some o) {Q : Exit → Act → World → Prop} {K : Act → World → Prop} {a : Act} {W : World} (hf : Fr B N w0 fr1 a W) (hs : ∀ s v, look fr s = some v → look fr1 s = some v) (hcal : e.isR = true → calmB fr1 = true)
    (hK : ∀ a' W', Fr B N w0 (e.ent :: fr1) a' W' → K a' W') : wpOp Try.prog ops Q i K a W := by
  have hf' := hf.sub hs
  unfold wpOp
  rw [hi]
  simp only []
  cases e with
  | val d r =>
    obtain ⟨hd, hN, hr, hv⟩ := h
    rcases hv a W hf' with ⟨hw, hg⟩ | ⟨hw, hg⟩
    · rw [if_pos hw]
      refine .inl (Rh.gives_wp (fun u W' hu => ?_) hg)
      rw [hd]
      exact hK _ _ ((hf.nw hu.1).set hN hu.2 hr)
    · rw [if_neg (by rw [hw]; exact Bool.false_ne_true), hd]
      exact hK _ _ (hf.set hN hg hr)
  | new d b =>
    obtain ⟨hd, hN, ho, ok, hg⟩ := h
    rw [if_pos (by simp [Region.wanted, hg])]
    obtain ⟨ob, z, cs, hz, hal⟩ := ok.alloc
    obtain ⟨h1, h2⟩ := hal W
    have e : (execOp a.eval o).run Try.prog W = .ok (.value (ptr W.heap.size)) (W.alloc ob) := by
      unfold execOp
      rw [ho]
      exact run_val h1
    refine .inl ?_
    unfold Oper.wp
    rw [e, Oper.upon_value, hd]
    exact hK _ _ (hf.fresh ((Nw.refl W).alloc ob) hN (Nat.le_refl _) rfl ⟨_, z, rfl, hf.bs, ⟨cs, hz, h2⟩, ok⟩)
  | put s b r =>
    obtain ⟨hd, hg, x, ho, hlb, hx, hsh⟩ := h
    obtain ⟨y, hl, hy⟩ := bind_look hlb
    rw [if_pos (by simp [Region.wanted, hg])]
    obtain ⟨h1, h2⟩ := opv_spec hf' hx
    obtain ⟨h3, h4⟩ := h1.of h2
    obtain ⟨cs', hcs⟩ := hsh _ _ h3
    obtain ⟨p, v, e, hB, hh, ok, hbk⟩ := (hf'.ho s _ hl).bxT hy
    obtain ⟨W', h5, h6, h7⟩ := ok.store v _ cs' W p hh hcs
    have e2 : (execOp a.eval o).run Try.prog W = .ok .skip W' := by
      unfold execOp
      rw [ho]
      show (do (Instr.storeAt b.T (a.tmps.getD s undef) (a.eval x)); pure .skip : Sem Next).run Try.prog W = _
      rw [e]
      exact run_skip h5
    refine .inl ?_
    unfold Oper.wp
    rw [e2]
    show K (a.put o.dst undef) W'
    rw [hd]
    exact hK _ _ (hf.stored (hs s _ hl) e hB hbk ok h7 h6 (h4 _ _ _ h7.nu h3) h4)
  | rput K' g n c e f zs i' y =>
    obtain ⟨hd, hg, T, s, x, ho, h1, h2, hi', h3, hst⟩ := h
    rw [if_pos (by simp [Region.wanted, hg])]
    have a1 : a.tmps.getD s undef = .pointer (some ⟨g, i', none⟩) := hf'.ho s _ h1
    have a2 : OwF W B e f (.slice (some ⟨g, 0, none⟩) n c) zs := hf'.ho K' _ h2
    have a3 := opv_vl hf' h3
    have e2 : (execOp a.eval o).run Try.prog W = .ok .skip (W.setCell ⟨g, i', none⟩ (f y)) := by
      unfold execOp
      rw [ho]
      show (do (Instr.storeAt T (a.tmps.getD s undef) (a.eval x)); pure .skip : Sem Next).run Try.prog W = _
      rw [a1, a3]
      exact run_skip (hst W _ _ _ (a2.cellAt hi') (a2.frozenAt i'))
    refine .inl ?_
    unfold Oper.wp
    rw [e2]
    show K (a.put o.dst undef) _
    rw [hd]
    exact hK _ _ (hf.rset (hs K' _ h2) (hcal rfl) y)
  | row d e f p =>
    obtain ⟨hd, hN, hg, hv⟩ := h
    rw [if_pos (by simp [Region.wanted, hg])]
    refine .inl (Rh.gives_wp (fun u W' ⟨hn, zs, hu, hp⟩ => ?_) (hv a W hf'))
    rw [hd]
    refine hK _ _ ((hf.nw hn).put hN (v := .rx e f p) ⟨zs, OwF.weaken hu hf.bs, hp⟩ fun i v' q hi e1 e2 => ?_)
    have a1 := OwF.base hu q e1
    have a2 := (hf.ho i _ hi).blk e2
    omega
end
section
variable {B N : Nat} {w0 : World} {ops : Array Oper} {o : Oper} {fr : List (Nat × AV)} {d : Nat}
theorem gives_val {a : Act} {W : World} {u : Value} {K : Value → World → Prop} (h : (execOp a.eval o).run Try.prog W = .ok (.value u) W) (hk : K u W) : Rh.gives Try.prog o a W K := by
  unfold Rh.gives; rw [h]; exact hk
theorem DX.val {r : AV} (hw : wantB ops fr o = some true) (hd : o.dst = some d) (hN : Nat.blt d N = true) (hr : r.isBx = false) (h : ∀ a W, Fr B N w0 fr a W → ∃ u, (execOp a.eval o).run Try.prog W = .ok (.value u) W ∧ Ho B r u W) : Eo B N w0 ops o fr (.val d r) :=
  ⟨hd, hN, hr, fun a W hf => .inl ⟨wantB_spec hf hw, by obtain ⟨u, e, hu⟩ := h a W hf; exact gives_val e ⟨Nw.refl W, hu⟩⟩⟩
theorem DX.skip (hw : wantB ops fr o = some false) (hd : o.dst = some d) (hN : Nat.blt d N = true) : Eo B N w0 ops o fr (.val d (.vl undef)) :=
  ⟨hd, hN, rfl, fun a W hf => .inr ⟨wantB_spec hf hw, rfl⟩⟩
theorem DX.move {x : Operand} {r : AV} (hw : wantB ops fr o = some true) (hd : o.dst = some d) (hN : Nat.blt d N = true) (ho : o.op = .move x) (hx : opv fr x = some r) (hr : r.isBx = false) : Eo B N w0 ops o fr (.val d r) :=
  DX.val hw hd hN hr fun a W hf => ⟨a.eval x, by unfold execOp; rw [ho]; rfl, (opv_spec hf hx).1⟩
theorem DX.assign {x : Operand} {r : AV} (hw : wantB ops fr o = some true) (hd : o.dst = some d) (hN : Nat.blt d N = true) (ho : o.op = .assign x) (hx : opv fr x = some r) (hr : r.isBx = false) : Eo B N w0 ops o fr (.val d r) :=
  DX.val hw hd hN hr fun a W hf => ⟨a.eval x, by unfold execOp; rw [ho]; rfl, (opv_spec hf hx).1⟩
theorem DX.load {T : TypeId} {s : Nat} {b : BT} {k : Know} (hw : wantB ops fr o = some true) (hd : o.dst = some d) (hN : Nat.blt d N = true) (ho : o.op = .load T (.tmp s)) (hs : look fr s = some (.bx b k)) (hT : b.T = T) : Eo B N w0 ops o fr (.val d (.kw k)) :=
  DX.val hw hd hN rfl fun a W hf => by
    obtain ⟨p, v, e, _, ⟨cs, hs1, hc⟩, hv, st, ok⟩ := hf.ho s _ hs
    refine ⟨v, ?_, hv, st⟩
    have := run_val (ok.load v cs W p hs1 fun i x hx => (hc i x hx).1)
    unfold execOp
    rw [ho]
    show (do pure (.value (← Instr.loadAt T (a.tmps.getD s undef))) : Sem Next).run Try.prog W = _
    rw [e, ← hT]
    exact this
theorem DX.ext {s i : Nat} {k : Know} {r : AV} (hw : wantB ops fr o = some true) (hd : o.dst = some d) (hN : Nat.blt d N = true) (ho : o.op = .extract (.tmp s) i) (hs : look fr s = some (.kw k)) (hx : Ex k i r) (hst : St r.of) (hr : r.isBx = false) : Eo B N w0 ops o fr (.val d r) :=
  DX.val hw hd hN hr fun a W hf => by
    obtain ⟨hv, _⟩ := hf.ho s _ hs
    obtain ⟨vs, v, e, hi, hv'⟩ := hx _ W hv
    refine ⟨v, ?_, Ho.mk hr hv' hst⟩
    unfold execOp
    rw [ho]
    show (do pure (.value (← Instr.extract (a.tmps.getD s undef) i)) : Sem Next).run Try.prog W = _
    rw [e]
    exact run_val (run_ext hi W)
theorem DX.call {c : Call} {f : FuncId} {ks : List Know} {r : AV} (hw : wantB ops fr o = some true) (hd : o.dst = some d) (hN : Nat.blt d N = true) (ho : o.op = .call c) (hc : c.callee = .value (.func f)) (ha : opks fr c.args.toList = some ks) (hst : St r.of) (hr : r.isBx = false)
    (h : CallOk f ks r.of) : Eo B N w0 ops o fr (.val d r) := by
  refine ⟨hd, hN, hr, fun a W hf => .inl ⟨wantB_spec hf hw, ?_⟩⟩
  obtain ⟨dst, op, ty, pos, after, guard⟩ := o
  simp only at ho
  subst ho
  unfold Rh.gives
  rw [run_call h.1 hc a.eval rfl ty W]
  have e : (c.args.toList.map a.eval).toArray = c.args.map a.eval := by rw [← Array.toList_map]
  have := h.2 W _ (opks_spec hf ha)
  rw [e] at this
  exact Rh.gives_enter (this.mono fun e W' ⟨v, he, hv, hn⟩ => ⟨v, he, hn, Ho.mk hr hv hst⟩)
theorem DX.q1 {x : Operand} {u : Value} (v : Value) (hw : wantB ops fr o = some true) (hd : o.dst = some d) (hN : Nat.blt d N = true) (hx : opv fr x = some (.vl u)) (h : ∀ (ρ : Operand → Value) (W : World), ρ x = u → (execOp ρ o).run Try.prog W = .ok (.value v) W) : Eo B N w0 ops o fr (.val d (.vl v)) :=
  DX.val hw hd hN rfl fun a W hf => ⟨v, h _ W (opv_vl hf hx), rfl⟩
theorem DX.q2 {x y : Operand} {u u2 : Value} (v : Value) (hw : wantB ops fr o = some true) (hd : o.dst = some d) (hN : Nat.blt d N = true) (hx : opv fr x = some (.vl u)) (hy : opv fr y = some (.vl u2)) (h : ∀ (ρ : Operand → Value) (W : World), ρ x = u → ρ y = u2 → (execOp ρ o).run Try.prog W = .ok (.value v) W) : Eo B N w0 ops o fr (.val d (.vl v)) :=
  DX.val hw hd hN rfl fun a W hf => ⟨v, h _ W (opv_vl hf hx) (opv_vl hf hy), rfl⟩
theorem DX.qn (l : List (Operand × Value)) (v : Value) (hw : wantB ops fr o = some true) (hd : o.dst = some d) (hN : Nat.blt d N = true) (hx : OpsAre fr l) (h : ∀ (ρ : Operand → Value) (W : World), RhoAre ρ l → (execOp ρ o).run Try.prog W = .ok (.value v) W) : Eo B N w0 ops o fr (.val d (.vl v)) :=
  DX.val hw hd hN rfl fun a W hf => ⟨v, h _ W (rho_of hf hx), rfl⟩
theorem run_pk (t : Bool) (p q : Value) (W : World) : (do pure (.value (if ← asBool (.bool t) then p else q)) : Sem Next).run Try.prog W = .ok (.value (bif t then p else q)) W := by
  cases t <;> simp [asBool, go_sem]
theorem DX.pick {c x y : Operand} {t : Bool} {r : AV} (hw : wantB ops fr o = some true) (hd : o.dst = some d) (hN : Nat.blt d N = true) (ho : o.op = .pick c x y) (hc : opv fr c = some (.vl (.bool t))) (hx : opv fr (bif t then x else y) = some r) (hr : r.isBx = false) : Eo B N w0 ops o fr (.val d r) :=
  DX.val hw hd hN hr fun a W hf => ⟨a.eval (bif t then x else y), by
    have e1 := opv_vl hf hc
    unfold execOp
    rw [ho]
    simp only [e1]
    refine (run_pk t _ _ W).trans ?_
    cases t <;> rfl, (opv_spec hf hx).1⟩
theorem DX.alloc {T : TypeId} (b : BT) (hd : o.dst = some d) (hN : Nat.blt d N = true) (ho : o.op = .alloc T) (hT : b.T = T) (ok : b.Ok) (hg : o.guard = none) : Eo B N w0 ops o fr (.new d b) := ⟨hd, hN, by rw [ho, hT], ok, hg⟩
theorem DX.rload {T : TypeId} {s K g n c i : Nat} {e : TypeId} {f : Int → Value} {zs : List Int} (hw : wantB ops fr o = some true) (hd : o.dst = some d) (hN : Nat.blt d N = true) (ho : o.op = .load T (.tmp s)) (hs : look fr s = some (.vl (.pointer (some ⟨g, i, none⟩)))) (hK : look fr K = some (.ro (.slice (some ⟨g, 0, none⟩) n c) e f zs)) (hi : i < zs.length)
    (hl : ∀ (W : World) (p : Addr) (x : Int), W.cell? p = some (f x) → (Instr.loadAt T (.pointer (some p))).run Try.prog W = .ok (f x) W) : Eo B N w0 ops o fr (.val d (.vl (f (at0 zs i)))) :=
  DX.val hw hd hN rfl fun a W hf => by
    have h1 : a.tmps.getD s undef = .pointer (some ⟨g, i, none⟩) := hf.ho s _ hs
    have h2 : OwF W B e f (.slice (some ⟨g, 0, none⟩) n c) zs := hf.ho K _ hK
    refine ⟨_, ?_, rfl⟩
    unfold execOp
    rw [ho]
    show (do pure (.value (← Instr.loadAt T (a.tmps.getD s undef))) : Sem Next).run Try.prog W = _
    rw [h1]
    exact run_val (hl W _ _ (h2.cellAt hi))
theorem DX.rstore {T : TypeId} {s K g n c i : Nat} {x : Operand} {e : TypeId} {f : Int → Value} {zs : List Int} {y : Int} (hd : o.dst = none) (hg : o.guard = none) (ho : o.op = .store T (.tmp s) x) (hs : look fr s = some (.vl (.pointer (some ⟨g, i, none⟩)))) (hK : look fr K = some (.ro (.slice (some ⟨g, 0, none⟩) n c) e f zs)) (hi : i < zs.length) (hx : opv fr x = some (.vl (f y)))
    (hst : ∀ (W : World) (p : Addr) (x y : Int), W.cell? p = some (f x) → W.frozen? p = false → (Instr.storeAt T (.pointer (some p)) (f y)).run Try.prog W = .ok () (W.setCell p (f y))) : Eo B N w0 ops o fr (.rput K g n c e f zs i y) := ⟨hd, hg, T, s, x, ho, hs, hK, hi, hx, hst⟩
theorem DX.store {T : TypeId} {s : Nat} {x : Operand} {r : AV} {b : BT} (hd : o.dst = none) (hg : o.guard = none) (ho : o.op = .store T (.tmp s) x) (hs : (look fr s).bind bxT = some b) (hT : b.T = T) (hx : opv fr x = some r) (hsh : ∀ v W, r.of v W → ∃ cs, b.sh v cs) : Eo B N w0 ops o fr (.put s b r) := ⟨hd, hg, x, by rw [ho, hT], hs, hx, hsh⟩
end
/-- Each operation's part. -/
def Eos (B N : Nat) (w0 : World) (ops : Array Oper) (es : List Eff) (fr : List (Nat × AV)) : List Oper → List Eff → List (List Nat × List Nat) → Prop
  | [], _, _ => True
  | o :: l, e :: l', (js, ss) :: l'' => Eo B N w0 ops o (see es fr js ss) e ∧ Eos B N w0 ops es fr l l' l''
  | _, _, _ => False
theorem Eos.at {B N : Nat} {w0 : World} {ops : Array Oper} {es : List Eff} {fr : List (Nat × AV)} : ∀ {l : List Oper} {l' : List Eff} {l'' : List (List Nat × List Nat)}, Eos B N w0 ops es fr l l' l'' → ∀ {i : Nat} {o : Oper}, l[i]? = some o → ∃ e js ss, l'[i]? = some e ∧ l''[i]? = some (js, ss) ∧ Eo B N w0 ops o (see es fr js ss) e
  | [], _, _, _, i, o, h => by simp at h
  | o' :: l, e :: l', (js, ss) :: l'', ⟨h1, h2⟩, 0, o, h => by
    have : o' = o := by simpa using h
    subst this
    exact ⟨e, js, ss, rfl, rfl, h1⟩
  | o' :: l, e :: l', (js, ss) :: l'', ⟨h1, h2⟩, i + 1, o, h => by
    obtain ⟨e', js', ss', a, b, c⟩ := Eos.at h2 (i := i) (by simpa using h)
    exact ⟨e', js', ss', by simpa using a, by simpa using b, c⟩
  | _ :: _, [], _, h, _, _, _ => h.elim
  | _ :: _, _ :: _, [], h, _, _, _ => h.elim
/-- All checks that look at the text alone: each operation waits for earlier ones alone; of two that write one slot the later waits for the other; what each sees. -/
def seesB (ops : Array Oper) (es : List Eff) : Nat → List (List Nat × List Nat) → Bool
  | _, [] => true
  | i, (js, ss) :: l => seeB ops es i js ss && seesB ops es (i + 1) l
def backB (ops : Array Oper) : Bool := (List.range ops.size).all fun i => match ops[i]? with
  | none => true
  | some o => o.after.all fun e => !(Region.binds .any e) || Nat.blt e.on i
def twiceB (ops : Array Oper) (es : List Eff) : Bool := (List.range es.length).all fun i => (List.range i).all fun j => match es[i]?, es[j]? with
  | some a, some b => !(Nat.beq a.slot b.slot) || wt ops i j
  | _, _ => true
theorem seesB_at {ops : Array Oper} {es : List Eff} : ∀ {l : List (List Nat × List Nat)} {i k : Nat} {js ss : List Nat}, seesB ops es i l = true → l[k]? = some (js, ss) → seeB ops es (i + k) js ss = true
  | [], _, _, _, _, _, h => by simp at h
  | (js', ss') :: l, i, 0, js, ss, hb, h => by
    unfold seesB at hb
    rw [Bool.and_eq_true] at hb
    have : (js', ss') = (js, ss) := by simpa using h
    injection this with a b
    subst a b
    exact hb.1
  | (js', ss') :: l, i, k + 1, js, ss, hb, h => by
    unfold seesB at hb
    rw [Bool.and_eq_true] at hb
    have := seesB_at hb.2 (k := k) (by simpa using h)
    rwa [show i + 1 + k = i + (k + 1) by omega] at this
theorem back_spec {ops : Array Oper} (h : backB ops = true) {i j : Nat} (hw : wt ops i j = true) : j < i := by
  unfold backB at h
  rw [List.all_eq_true] at h
  unfold wt at hw
  split at hw
  · cases hw
  · rename_i o ho
    have := h i (List.mem_range.2 (Array.getElem?_eq_some_iff.1 ho).1)
    rw [ho] at this
    simp only [Array.all_eq_true'] at this
    rw [Array.any_eq_true'] at hw
    obtain ⟨e, he, hb⟩ := hw
    rw [Bool.and_eq_true] at hb
    have h1 := this e he
    rw [hb.1] at h1
    have h2 : e.on = j := by simpa using hb.2
    rw [← h2]
    simpa [Nat.blt_eq] using h1
theorem twice_spec {ops : Array Oper} {es : List Eff} (h : twiceB ops es = true) {i j : Nat} {a b : Eff} (hij : j < i) (ha : es[i]? = some a) (hb : es[j]? = some b) (hs : a.slot = b.slot) : wt ops i j = true := by
  unfold twiceB at h
  rw [List.all_eq_true] at h
  have h1 := h i (List.mem_range.2 (List.getElem?_eq_some_iff.1 ha).1)
  rw [List.all_eq_true] at h1
  have h2 := h1 j (List.mem_range.2 hij)
  rw [ha, hb] at h2
  simp only [hs] at h2
  simpa using h2
/-- How many are left. -/
def lft : Nat → (Nat → Bool) → Nat
  | 0, _ => 0
  | n + 1, L => (if L n then 0 else 1) + lft n L
theorem lft_congr {L L' : Nat → Bool} : ∀ n, (∀ j, j < n → L j = L' j) → lft n L = lft n L'
  | 0, _ => rfl
  | n + 1, h => by unfold lft; rw [h n (by omega), lft_congr n fun j hj => h j (by omega)]
theorem lft_add {L : Nat → Bool} {i : Nat} (hL : L i = false) : ∀ n, i < n → lft n (add L i) + 1 = lft n L
  | 0, h => by omega
  | n + 1, h => by
    unfold lft
    by_cases e : n = i
    · subst e
      have : lft n (add L n) = lft n L := lft_congr n fun j hj => by unfold add; rw [if_neg (by omega)]
      rw [this, hL]
      unfold add
      simp
      omega
    · have := lft_add hL n (by omega)
      have e2 : add L i n = L n := by unfold add; rw [if_neg e]
      rw [e2]
      omega
theorem lft_zero {L : Nat → Bool} : ∀ n, lft n L = 0 → ∀ j, j < n → L j = true
  | 0, _, j, h => by omega
  | n + 1, h, j, hj => by
    unfold lft at h
    by_cases e : j = n
    · subst e
      cases hL : L j with
      | true => rfl
      | false => rw [hL] at h; simp at h
    · exact lft_zero n (by omega) j (by omega)
/-- The frame behind all. -/
def ents : List Eff → List (Nat × AV) → List (Nat × AV)
  | [], fr => fr
  | e :: es, fr => ents es (e.ent :: fr)
theorem cur_all {L : Nat → Bool} : ∀ (es : List Eff) (i : Nat) (fr : List (Nat × AV)), (∀ k, i ≤ k → k < i + es.length → L k = true) → cur i es L fr = ents es fr
  | [], _, _, _ => rfl
  | e :: es, i, fr, h => by
    unfold cur ents
    rw [if_pos (h i (Nat.le_refl _) (by simp))]
    exact cur_all es (i + 1) _ fun k h1 h2 => h k (by omega) (by simp; omega)
theorem cur_no {L : Nat → Bool} : ∀ (es : List Eff) (i : Nat) (fr : List (Nat × AV)), (∀ k, L k = false) → cur i es L fr = fr
  | [], _, _, _ => rfl
  | e :: es, i, fr, h => by
    unfold cur
    rw [h i, if_neg (by simp)]
    exact cur_no es (i + 1) _ h
def dxcalm (es : List Eff) (fr : List (Nat × AV)) : Bool := match es.any Eff.isR with
  | false => true
  | true => calmB fr && es.all fun e => e.ent.2.calm
theorem cur_calm {L : Nat → Bool} : ∀ (es : List Eff) (i : Nat) (fr : List (Nat × AV)), calmB fr = true → (es.all fun e => e.ent.2.calm) = true → calmB (cur i es L fr) = true
  | [], _, _, h, _ => h
  | e :: es, i, fr, h, hs => by
    rw [List.all_cons, Bool.and_eq_true] at hs
    unfold cur
    refine cur_calm es (i + 1) _ ?_ hs.2
    split
    · show (e.ent.2.calm && calmB fr) = true
      rw [hs.1, h]; rfl
    · exact h
theorem dxcalm_spec {es : List Eff} {fr : List (Nat × AV)} (h : dxcalm es fr = true) {i : Nat} {e : Eff} (he : es[i]? = some e) (hr : e.isR = true) (L : Nat → Bool) : calmB (cur 0 es L fr) = true := by
  have : es.any Eff.isR = true := List.any_eq_true.2 ⟨e, List.mem_of_getElem? he, hr⟩
  unfold dxcalm at h
  rw [this] at h
  simp only [Bool.and_eq_true] at h
  exact cur_calm es 0 fr h.1 h.2
/-- **A statement that draws its order.** -/
theorem SC.dx {B N : Nat} {w0 : World} {id : Nat} {l : List Oper} {fr : List (Nat × AV)} {Q : Exit → Act → World → Prop} (es : List Eff) (sees : List (List Nat × List Nat)) (hlen : es.length = l.length)
    (h1 : backB l.toArray = true) (h2 : twiceB l.toArray es = true) (h3 : seesB l.toArray es 0 sees = true) (h4 : dxcalm es fr = true) (ho : Eos B N w0 l.toArray es fr l es sees) (hk : SX B N w0 .normal (ents es fr) Q) : SC B N w0 (.region id l.toArray true) fr Q := fun a W hf => by
  have hd : Nw W W.drew := (Nw.refl W).drew
  refine wp_region_any (by kernel_rfl) ?_
  have key : ∀ (fuel : Nat) (listed : Array Bool) (a : Act) (W : World), listed.size = l.length → Dn l.toArray (fun j => listed.getD j false) → lft l.length (fun j => listed.getD j false) ≤ fuel → Fr B N w0 (cur 0 es (fun j => listed.getD j false) fr) a W → wpAny Try.prog .any l.toArray Q fuel listed a W := by
    intro fuel
    induction fuel with
    | zero =>
      intro listed a W hz hD hl hf
      have hall := lft_zero l.length (Nat.le_zero.1 hl)
      refine ⟨?_, ?_⟩
      · cases hr : Region.ready .any l.toArray listed with
        | nil => rfl
        | cons i t =>
          exfalso
          have hi : i ∈ Region.ready .any l.toArray listed := by rw [hr]; exact List.mem_cons_self
          obtain ⟨hun, o, hoo, _⟩ := mem_ready.1 hi
          have hlt : i < l.length := by simpa using (Array.getElem?_eq_some_iff.1 hoo).1
          have := hall i hlt
          rw [Rh.listed_not hun] at this
          cases this
      · rw [cur_all es 0 fr fun k _ hk2 => hall k (by omega)] at hf
        exact hk a W hf
    | succ fuel ih =>
      intro listed a W hz hD hl hf
      refine ⟨fun hr => ?_, fun i hi => ?_⟩
      · -- nothing is ready: nothing is left
        have hall : ∀ n j, j = n → j < l.length → listed.getD j false = true := by
          intro n
          induction n using Nat.strongRecOn with
          | _ n ihn =>
            intro j hj hjl
            subst hj
            cases hL : listed.getD j false with
            | true => rfl
            | false =>
              exfalso
              have : j ∈ Region.ready .any l.toArray listed := mem_ready.2 ⟨by
                have : j < listed.size := by omega
                simp [this] at hL ⊢; exact hL, l[j], by simp [hjl], fun e he hb => by
                have hw : wt l.toArray j e.on = true := by
                  unfold wt
                  rw [show l.toArray[j]? = some l[j] by simp [hjl]]
                  simp only []
                  rw [Array.any_eq_true']
                  exact ⟨e, he, by rw [hb]; simp⟩
                have hlt := back_spec h1 hw
                exact ihn e.on hlt e.on rfl (by omega)⟩
              rw [hr] at this
              cases this
        rw [cur_all es 0 fr fun k _ hk2 => hall k k rfl (by omega)] at hf
        exact hk a W hf
      · obtain ⟨hun, o, hoo, haft⟩ := mem_ready.1 hi
        have hlt : i < l.length := by simpa using (Array.getElem?_eq_some_iff.1 hoo).1
        have hLi : listed.getD i false = false := Rh.listed_not hun
        have hwi : ∀ j, wt l.toArray i j = true → listed.getD j false = true := by
          intro j hj
          unfold wt at hj
          rw [hoo] at hj
          simp only [] at hj
          rw [Array.any_eq_true'] at hj
          obtain ⟨e, he, hb⟩ := hj
          rw [Bool.and_eq_true] at hb
          have : e.on = j := by simpa using hb.2
          rw [← this]
          exact haft e he hb.1
        obtain ⟨e, js, ss, he, hs, hE⟩ := ho.at (i := i) (o := o) (by simpa using hoo)
        have hsb := seesB_at h3 (k := i) hs
        rw [Nat.zero_add] at hsb
        have hLadd : (fun j => (listed.setIfInBounds i true).getD j false) = add (fun j => listed.getD j false) i := by
          funext j
          unfold add
          by_cases hji : j = i
          · subst hji
            have : j < listed.size := by omega
            simp [this]
          · rw [if_neg hji]
            simp only [Array.getD_eq_getD_getElem?, Array.getElem?_setIfInBounds, if_neg (Ne.symm hji)]
        refine hE.step hoo hf (see_spec hD hLi hwi js ss hsb) (fun hr => dxcalm_spec h4 he hr _) fun a' W' hf' => ih _ a' W' (by simpa using hz) ?_ ?_ ?_
        · rw [hLadd]
          intro p q hp hpq
          unfold add at hp ⊢
          by_cases hpi : p = i
          · subst hpi
            by_cases hqi : q = p
            · rw [if_pos hqi]
            · rw [if_neg hqi]; exact hwi q hpq
          · rw [if_neg hpi] at hp
            by_cases hqi : q = i
            · rw [if_pos hqi]
            · rw [if_neg hqi]; exact hD p q hp hpq
        · rw [hLadd]
          have := lft_add (L := fun j => listed.getD j false) (i := i) hLi l.length hlt
          omega
        · rw [hLadd]
          refine hf'.ext fun s => look_add he hLi (fun k e' hik hk' hsl => ?_) s
          cases hk2 : listed.getD k false with
          | false => rfl
          | true => exact absurd ((hD k i hk2 (twice_spec h2 hik hk' he hsl)).symm.trans hLi) (by simp)
  refine key _ _ a W.drew (by simp) (fun i j hi => ?_) ?_ ?_
  · exfalso
    rcases Nat.lt_or_ge i l.length with h' | h'
    · simp [h'] at hi
    · simp [Array.getElem?_eq_none, h'] at hi
  · have : ∀ n, lft n (fun j => (Array.replicate l.toArray.size false).getD j false) ≤ n := by
      intro n
      induction n with
      | zero => exact Nat.le_refl _
      | succ n ih => unfold lft; split <;> omega
    simpa using this l.length
  · rw [cur_no es 0 fr fun k => by
      rcases Nat.lt_or_ge k l.length with h' | h'
      · simp [h']
      · simp [Array.getElem?_eq_none, h']]
    exact hf.nw hd
end Go.Proofs.Ytcgkgcciogibkaa.Sy
/- A walk by rules: loops; a field of a box; the beginning of a function. -/
set_option linter.unusedVariables false
set_option linter.unusedSimpArgs false
namespace Go.Proofs.Ytcgkgcciogibkaa.Sy
open Go Go.RowKit Ma
def Sub : List (Nat × AV) → List (Nat × AV) → Prop
  | [], _ => True
  | (i, v) :: l, fr => look fr i = some v ∧ Sub l fr
theorem Sub.spec {fr : List (Nat × AV)} : ∀ {l : List (Nat × AV)}, Sub l fr → ∀ s v, look l s = some v → look fr s = some v
  | [], _, s, v, h => by cases h
  | (i, u) :: l, hs, s, v, h => by
    rw [look_cons] at h
    by_cases e : i = s
    · rw [if_pos e] at h; injection h with h; subst h e; exact hs.1
    · rw [if_neg e] at h; exact hs.2.spec s v h
section
variable {B N : Nat} {w0 : World} {ops : Array Oper} {o o2 : Oper} {rest : List Oper} {fr : List (Nat × AV)} {Q : Exit → Act → World → Prop} {d : Nat}
theorem SC.keep {c : Code} (fr' : List (Nat × AV)) (hs : Sub fr' fr) (h : SC B N w0 c fr' Q) : SC B N w0 c fr Q := fun a W hf => h a W (hf.sub hs.spec)
/-- What a round hands on. -/
def Bk {S : Type} (B N : Nat) (w0 : World) (F : S → List (Nat × AV)) (P : S → Prop) (μ : S → Nat) (n : Nat) (a : Act) (W : World) : Prop := ∃ s', P s' ∧ μ s' < n ∧ Fr B N w0 (F s') a W
theorem SC.loop {c : Code} {S : Type} (F : S → List (Nat × AV)) (P : S → Prop) (μ : S → Nat) (s0 : S) (p0 : P s0) (h0 : Sub (F s0) fr)
    (round : ∀ s, P s → SC B N w0 c (F s) (Exit.then (Bk B N w0 F P μ (μ s)) Q)) : SC B N w0 (.loop c) fr Q := fun a W hf => by
  refine wp_loop_ghost (fun n a w => ∃ s, P s ∧ μ s = n ∧ Fr B N w0 (F s) a w) (μ s0) ⟨s0, p0, rfl, hf.sub h0.spec⟩ ?_
  rintro n a w ⟨s, hp, rfl, hf⟩
  refine wp_mono (round s hp a w hf) fun e a' w' hq => ?_
  cases e with
  | normal => obtain ⟨s', h1, h2, h3⟩ := hq; exact ⟨μ s', h2, s', h1, rfl, h3⟩
  | exit id => exact hq
  | goto l => exact hq
  | ret => exact hq
  | panic ch => exact hq
  | outgrown => exact hq
theorem SX.back {S : Type} {F : S → List (Nat × AV)} {P : S → Prop} {μ : S → Nat} {n : Nat} (s' : S) (hp : P s') (hm : μ s' < n) (hs : Sub (F s') fr) : SX B N w0 .normal fr (Exit.then (Bk B N w0 F P μ n) Q) :=
  fun a W hf => ⟨s', hp, hm, hf.sub hs.spec⟩
/-- One field of a box, read at once. -/
theorem PW.fld {T T' : TypeId} {s j d2 : Nat} {b : BT} {k : Know} {r : AV} (hw : wantB ops fr o = some true) (hd : o.dst = some d) (hN : Nat.blt d N = true) (ho : o.op = .fieldAddr T (.tmp s) j) (hs : look fr s = some (.bx b k)) (hT : b.T = T)
    (hw2 : wantB ops ((d, .kw KT) :: fr) o2 = some true) (hd2 : o2.dst = some d2) (hN2 : Nat.blt d2 N = true) (ho2 : o2.op = .load T' (.tmp d)) (hr : r.isBx = false)
    (hx : ∀ v W p, Holds b p v W → k v W → ∃ q u, (Instr.fieldAt T (ptr p) j).run Try.prog W = .ok q W ∧ (Instr.loadAt T' q).run Try.prog W = .ok u W ∧ r.of u W) (hst : St r.of)
    (hk : PW B N w0 ops rest ((d2, r) :: (d, .kw KT) :: fr) Q) : PW B N w0 ops (o :: o2 :: rest) fr Q :=
  PW.step hw fun a W hf K hK => by
    obtain ⟨p, v, e, hB, hh, hv, st, ok⟩ := hf.ho s _ hs
    obtain ⟨q, u, h1, h2, h3⟩ := hx v W p hh hv
    have e1 : (execOp a.eval o).run Try.prog W = .ok (.value q) W := by
      unfold execOp
      rw [ho]
      show (do pure (.value (← Instr.fieldAt T (a.tmps.getD s undef) j)) : Sem Next).run Try.prog W = _
      rw [e]
      exact run_val h1
    unfold Oper.wp
    rw [e1, Oper.upon_value, hd]
    have hf2 := hf.set (v := .kw KT) hN (u := q) ⟨trivial, KT.st⟩ rfl
    refine hK _ _ (wpList_step fun K' hK' => ?_)
    rw [if_pos (wantB_spec hf2 hw2)]
    have hq : (a.put (some d) q).eval (.tmp d) = q := by
      show (a.put (some d) q).tmps.getD d undef = q
      rw [getD_put (by rw [hf.sz]; simpa [Nat.blt_eq] using hN), if_pos rfl]
    have e2 : (execOp (a.put (some d) q).eval o2).run Try.prog W = .ok (.value u) W := by
      unfold execOp
      rw [ho2]
      simp only [hq]
      exact run_val h2
    unfold Oper.wp
    rw [e2, Oper.upon_value, hd2]
    exact hK' _ _ (hk _ _ (hf2.set hN2 (Ho.mk hr h3 hst) hr))
end
/-! ### The beginning of a function -/
def ini : Nat → List AV → List (Nat × AV)
  | _, [] => []
  | i, v :: l => (i, v) :: ini (i + 1) l
def AllA (B : Nat) : List AV → List Value → World → Prop
  | [], [], _ => True
  | v :: l, u :: us, W => Ho B v u W ∧ v.isBx = false ∧ AllA B l us W
  | _, _, _ => False
theorem look_ini : ∀ (l : List AV) (i s : Nat) (v : AV), look (ini i l) s = some v → ∃ k, s = i + k ∧ l[k]? = some v
  | [], _, _, _, h => by cases h
  | x :: l, i, s, v, h => by
    unfold ini at h
    rw [look_cons] at h
    by_cases e : i = s
    · rw [if_pos e] at h; exact ⟨0, by omega, by simpa using h⟩
    · rw [if_neg e] at h
      obtain ⟨k, h1, h2⟩ := look_ini l (i + 1) s v h
      exact ⟨k + 1, by omega, by simpa using h2⟩
theorem AllA.at {B : Nat} {W : World} : ∀ {l : List AV} {us : List Value}, AllA B l us W → ∀ {k : Nat} {v : AV}, l[k]? = some v → ∃ u, us[k]? = some u ∧ Ho B v u W ∧ v.isBx = false
  | [], [], _, k, v, h => by simp at h
  | x :: l, u :: us, hh, 0, v, h => by
    have : x = v := by simpa using h
    subst this
    exact ⟨u, rfl, hh.1, hh.2.1⟩
  | x :: l, u :: us, hh, k + 1, v, h => by
    obtain ⟨u', h1, h2⟩ := AllA.at hh.2.2 (k := k) (by simpa using h)
    exact ⟨u', by simpa using h1, h2⟩
  | [], _ :: _, hh, _, _, _ => hh.elim
  | _ :: _, [], hh, _, _, _ => hh.elim
theorem Fr.ini {B N : Nat} {w : World} {l : List AV} {us : List Value} (h : AllA B l us w) (hB : B = w.heap.size) (n : Nat) (hN : us.length + n = N) : Fr B N w (ini 0 l) ⟨us.toArray ++ Array.replicate n undef, []⟩ w := by
  refine ⟨rfl, by simp [hN], hB ▸ Below.refl _ _, by omega, fun i v hi => ?_, fun i j b b' p hij hi hj e => ?_⟩
  · obtain ⟨k, rfl, hk⟩ := look_ini l 0 i v hi
    rw [Nat.zero_add]
    obtain ⟨u, hu, hv, _⟩ := h.at hk
    have hlt := (List.getElem?_eq_some_iff.1 hu).1
    have : (us.toArray ++ Array.replicate n undef).getD k undef = u := by
      simp only [Array.getD_eq_getD_getElem?]
      rw [Array.getElem?_append_left (by simpa using hlt)]
      simp [hu]
    show Ho B v ((us.toArray ++ Array.replicate n undef).getD k undef) w
    rw [this]; exact hv
  · obtain ⟨k1, _, hk1⟩ := look_ini l 0 i _ hi
    obtain ⟨u, _, _, h3⟩ := h.at hk1
    rw [AV.blk_no h3] at e
    cases e
def StA : List AV → Prop
  | [] => True
  | v :: l => St v.of ∧ v.isBx = false ∧ StA l
theorem AllA.of {B : Nat} {W : World} : ∀ {l : List AV} {us : List Value}, StA l → All (l.map AV.of) us W → AllA B l us W
  | [], [], _, _ => trivial
  | v :: l, u :: us, hs, h => ⟨Ho.mk hs.2.1 h.1 hs.1, hs.2.1, AllA.of hs.2.2 h.2⟩
  | [], _ :: _, _, h => h.elim
  | _ :: _, [], _, h => h.elim
theorem All.len {W : World} : ∀ {ks : List Know} {us : List Value}, All ks us W → us.length = ks.length
  | [], [], _ => rfl
  | _ :: _, _ :: _, h => by simp [All.len h.2]
  | [], _ :: _, h => h.elim
  | _ :: _, [], h => h.elim
/-- A contract by rules. -/
theorem CallOk.enter {f : FuncId} {fn : Func} {c : Code} {l : List AV} {r : Know} (N : Nat) (ce : CE f) (hf : Try.prog.funcs[f]? = some fn) (hb : fn.body = some c) (hn : fn.ntmps = N) (hN : l.length ≤ N) (hs : StA l)
    (h : ∀ w : World, SC w.heap.size N w c (ini 0 l) (bodyPost Try.prog fn (Ret w r))) : CallOk f (l.map AV.of) r := ⟨ce, fun W us hu => by
  have hl := hu.len
  rw [List.length_map] at hl
  refine calls_of_wp hf hb ?_
  have := Fr.ini (AllA.of (B := W.heap.size) hs hu) rfl (N - us.length) (N := N) (by omega)
  simp only [List.size_toArray, hn]
  exact h W _ _ this⟩
/-! ### Results -/
section
variable {B N : Nat} {w0 : World} {fr : List (Nat × AV)} {fn : Func}
theorem run_cell {b : BT} {p : Nat} {v : Value} {W : World} (ok : b.Ok) (h : Holds b p v W) : (loadVar b.T ⟨p, 0, none⟩).run Try.prog W = .ok v W := by
  obtain ⟨cs, hs, hc⟩ := h
  have := ok.load v cs W p hs fun i x hx => (hc i x hx).1
  unfold Instr.loadAt at this
  generalize loadVar = G at this ⊢
  simpa [Instr.sureAddr, go_sem] using this
/-- A result in a box, one in a slot. -/
theorem SX.done2 {e : Exit} {s t : Nat} {b : BT} {k : Know} {r : AV} (he : e = .ret ∨ e = .normal) (hr : fn.results = #[.cell s b.T, .tmp t]) (hs : look fr s = some (.bx b k)) (ht : opv fr (.tmp t) = some r) (hB : B = w0.heap.size) : SX B N w0 e fr (bodyPost Try.prog fn (Ret w0 (K2 k r.of))) := fun a W hf => by
  obtain ⟨p, v, ep, _, hh, hv, st, ok⟩ := hf.ho s _ hs
  have h1 := opv_spec hf ht
  have hrun : (results fn a.tmps).run Try.prog W = .ok (.tuple #[v, a.tmps.getD t undef]) W := by
    have := run_cell ok hh
    have ep' : a.tmps[s]?.getD undef = ptr p := by simpa [Array.getD_eq_getD_getElem?] using ep
    unfold results
    generalize loadVar = G at this ⊢
    simp [hr, go_sem, ep', asAddr, this]
  have key : a.defers = [] ∧ ∃ v, (results fn a.tmps).run Try.prog W = .ok v W ∧ Ret w0 (K2 k r.of) (.returned v) W :=
    ⟨hf.df, _, hrun, ⟨_, rfl, ⟨v, _, rfl, hv, (h1.1.of h1.2).1⟩, by have := hf.be; rw [hB] at this; exact this⟩⟩
  rcases he with rfl | rfl <;> exact key
/-- A result in a box. -/
theorem SX.doneC {e : Exit} {s : Nat} {b : BT} {k : Know} (he : e = .ret ∨ e = .normal) (hr : fn.results = #[.cell s b.T]) (hs : look fr s = some (.bx b k)) (hB : B = w0.heap.size) : SX B N w0 e fr (bodyPost Try.prog fn (Ret w0 k)) := fun a W hf => by
  obtain ⟨p, v, ep, _, hh, hv, st, ok⟩ := hf.ho s _ hs
  have hrun : (results fn a.tmps).run Try.prog W = .ok v W := by
    have := run_cell ok hh
    have ep' : a.tmps[s]?.getD undef = ptr p := by simpa [Array.getD_eq_getD_getElem?] using ep
    unfold results
    generalize loadVar = G at this ⊢
    simp [hr, go_sem, ep', asAddr, this]
  have key : a.defers = [] ∧ ∃ v, (results fn a.tmps).run Try.prog W = .ok v W ∧ Ret w0 k (.returned v) W :=
    ⟨hf.df, _, hrun, ⟨_, rfl, hv, by have := hf.be; rw [hB] at this; exact this⟩⟩
  rcases he with rfl | rfl <;> exact key
end
/-! ### Fields of a box of a sign and a slice -/
theorem fld_sign {T T' : TypeId} {z : Int} (h : ∀ (W : World) (p : Nat) (m : Bool), W.cell? ⟨p, 0, none⟩ = some (.bool m) → (Instr.fieldAt T (ptr p) 0).run Try.prog W = .ok (ptr p) W ∧ (Instr.loadAt T' (ptr p)).run Try.prog W = .ok (.bool m) W) (v : Value) (W : World) (p : Nat) (hh : Holds (BI T) p v W) (hk : KI z v W) :
    ∃ q u, (Instr.fieldAt T (ptr p) 0).run Try.prog W = .ok q W ∧ (Instr.loadAt T' q).run Try.prog W = .ok u W ∧ (AV.vl (.bool (decide (z < 0)))).of u W := by
  obtain ⟨m, A, l, c, rfl, hi⟩ := hk
  obtain ⟨cs, ⟨m', A', l', c', e1, rfl⟩, hc⟩ := hh
  simp only [Value.agg.injEq, Array.mk.injEq, List.cons.injEq, Value.bool.injEq, Value.slice.injEq, and_true] at e1
  obtain ⟨rfl, rfl, rfl, rfl⟩ := e1
  obtain ⟨h1, h2⟩ := h W p m (hc 0 _ rfl).1
  exact ⟨_, _, h1, h2, by show Value.bool m = _; rw [hi.sign]⟩
theorem fldI0 {z : Int} (v : Value) (W : World) (p : Nat) (hh : Holds (BI 28) p v W) (hk : KI z v W) : ∃ q u, (Instr.fieldAt 28 (ptr p) 0).run Try.prog W = .ok q W ∧ (Instr.loadAt 4 q).run Try.prog W = .ok u W ∧ (AV.vl (.bool (decide (z < 0)))).of u W :=
  fld_sign (fun W p m h => ⟨by go_simp, by go_simp⟩) v W p hh hk
theorem zeroI (B : Nat) (w0 : World) (W : World) : Ho B (.kw (KI 0)) (.agg #[.bool false, .slice none 0 0]) W := ⟨⟨_, _, _, _, rfl, RI.zero _⟩, KI.st 0⟩
end Go.Proofs.Ytcgkgcciogibkaa.Sy
/- How plain data that came in read. -/
set_option linter.unusedVariables false
set_option linter.unusedSimpArgs false
namespace Go.Proofs.Ytcgkgcciogibkaa
open Go.RowKit Ma
theorem In.nil (W : World) : In W none 0 0 [] := ⟨rfl, Nat.le_refl _, Rd.nil _ _ _, dg_nil _⟩
theorem In.of {W : World} {x : Addr} {l c : Nat} {zs : List Int} (hl : l ≤ c) (hm : c ≤ maxLen) (hz : zs.length = c) (hcell : ∀ i, i < zs.length → W.cell? (x.add i) = some (.int .u32 (zs.getD i 0))) (hw : ∀ n ∈ zs, (Lit.int .u32 n).wf = true) : In W (some x) l c (zs.take l) := by
  have h1 : (zs.take l).length = l := by rw [List.length_take]; omega
  refine ⟨h1.symm, hl, ⟨by rw [h1]; unfold maxLen at hm; omega, fun i hi => ⟨x, rfl, ?_⟩⟩, fun n hn => ?_⟩
  · rw [h1] at hi
    rw [hcell i (by omega)]
    simp only [at0, List.getD_eq_getElem?_getD, List.getElem?_take, hi, if_true]
  · have h2 := hw n (List.mem_of_mem_take hn)
    simp only [Lit.wf, Bool.and_eq_true, decide_eq_true_eq] at h2
    have hm : IntKind.u32.max = 4294967295 := by simp [IntKind.max, IntKind.bits, IntKind.signed]
    have hn : IntKind.u32.min = 0 := by simp [IntKind.min, IntKind.signed]
    rw [hm, hn] at h2
    rw [b32_eq]
    omega
end Go.Proofs.Ytcgkgcciogibkaa
