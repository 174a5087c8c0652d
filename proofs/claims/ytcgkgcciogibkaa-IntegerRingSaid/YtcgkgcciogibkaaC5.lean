/- The contracts of the law's Is (of equal numbers), of same. -/
import Derived.Test.YtcgkgcciogibkaaC4
set_option linter.unusedVariables false
set_option linter.unusedSimpArgs false
namespace Go.Proofs.Ytcgkgcciogibkaa
open Go.RowKit Ma

theorem num_inj {b : Int} (hb : 1 < b) {n m : Bool} {xs ys : List Int} {z : Int} (hx : Num b n xs z) (hy : Num b m ys z) : n = m ∧ xs = ys := by
  obtain ⟨dx, tx, nx, ex⟩ := hx
  obtain ⟨dy, ty, ny, ey⟩ := hy
  have px := lv_nonneg (b := b) (by omega) dx
  have py := lv_nonneg (b := b) (by omega) dy
  have qx : n = true → 0 < lv b xs := fun h => Int.lt_of_lt_of_le (pos_pow (by omega) _) (top_le (b := b) (by omega) dx tx (nx h))
  have qy : m = true → 0 < lv b ys := fun h => Int.lt_of_lt_of_le (pos_pow (by omega) _) (top_le (b := b) (by omega) dy ty (ny h))
  have e : sg n (lv b xs) = sg m (lv b ys) := ex.symm.trans ey
  cases n <;> cases m <;> simp only [sg, if_true, if_false, Bool.false_eq_true, forall_const, true_implies] at e qx qy
  · exact ⟨rfl, lv_inj hb dx dy tx ty e⟩
  · omega
  · omega
  · exact ⟨rfl, lv_inj hb dx dy tx ty (by omega)⟩

theorem equal_l {A B : Option Addr} {l l' c d : Nat} {xs ys : List Int} {w : World} (e1 : l = xs.length) (e2 : l' = ys.length) (rA : Rd w .u32 A xs) (rB : Rd w .u32 B ys) (e : xs = ys) :
    Calls Try.prog 77 #[.slice A l c, .slice B l' d] w (Ret w (KV (.bool true))) := by
  subst e1 e2
  have := equal_c A B c d xs ys w rA rB
  rwa [decide_eq_true e] at this

set_option maxHeartbeats 1600000 in
set_option maxRecDepth 100000 in
theorem is_c {x y : Int} {n m : Bool} {A B : Option Addr} {l l' c d : Nat} {w : World} (hx : RI w n A l c x) (hy : RJ w m B l' d y) (e : x = y) (hl : l ≤ 1000000) (hl' : l' ≤ 2000000) :
    Calls Try.prog 19 #[.agg #[.bool n, .slice A l c], .agg #[.bool m, .slice B l' d]] w (Ret w (KV (.bool true))) := by
  subst e
  have nw1 : Nw w ((w.alloc (.cells #[.bool n, .slice A l c] 28)).alloc (.cells #[.bool m, .slice B l' d] 31)) := ((Nw.refl w).alloc _).alloc _
  have hc0 : Has [(w.heap.size + 1, 0, Value.bool m), (w.heap.size + 1, 1, Value.slice B l' d)] ((w.alloc (.cells #[.bool n, .slice A l c] 28)).alloc (.cells #[.bool m, .slice B l' d] 31)) := ⟨by go_simp, by go_simp, trivial⟩
  have HC := Lib.hid hc0
  have HX := Lib.hid hx
  have HY := Lib.hid hy
  have hnm : n = m := by
    obtain ⟨xs, _, _, _, nx⟩ := hx
    obtain ⟨ys, _, _, _, ny⟩ := hy
    have px := nx
    cases n <;> cases m
    · rfl
    · exfalso
      have h1 := lv_nonneg (b := b32) (by decide) nx.1
      have h2 := Int.lt_of_lt_of_le (pos_pow (b := b16) (by decide) _) (top_le (b := b16) (by decide) ny.1 ny.2.1 (ny.2.2.1 rfl))
      have e1 := nx.2.2.2
      have e2 := ny.2.2.2
      simp only [sg, if_true, if_false, Bool.false_eq_true] at e1 e2
      omega
    · exfalso
      have h1 := lv_nonneg (b := b16) (by decide) ny.1
      have h2 := Int.lt_of_lt_of_le (pos_pow (b := b32) (by decide) _) (top_le (b := b32) (by decide) nx.1 nx.2.1 (nx.2.2.1 rfl))
      have e1 := nx.2.2.2
      have e2 := ny.2.2.2
      simp only [sg, if_true, if_false, Bool.false_eq_true] at e1 e2
      omega
    · rfl
  subst hnm
  clear hx hy hc0
  go_enter Try.func19, Try.ntmps19
  go_wp2_with (first
    | (go_at_call 76; refine (limbs_c (HX.out.kept nw1.kept) hl).mono ?_; rintro e w1 ⟨_, rfl, ⟨_, _, rfl, rfl, ⟨zs, C, cc, rfl, hcc, rC, nC⟩⟩, hb1⟩; obtain ⟨q1, q2, _⟩ := HC.out.nw hb1)
    | (go_at_call 78; refine (rlimbs_c ((HY.out.kept nw1.kept).kept hb1.kept) hl').mono ?_; rintro e w2 ⟨_, rfl, ⟨us, D, cd, rfl, hcd, rD, nD⟩, hb2⟩)
    | (go_at_call 77; refine (equal_l rfl rfl (rC.kept hb2.kept) rD (num_inj (by decide) nC nD).2).mono ?_; rintro e w3 ⟨_, rfl, rfl, hb3⟩))
  go_ret
  exact Ret.V (((nw1.trans hb1).trans hb2).trans hb3)

theorem cmp_self (x : Int) : cmp x x = 0 := by unfold cmp; rw [if_neg (by omega), if_pos rfl]
set_option maxHeartbeats 1600000 in
set_option maxRecDepth 100000 in
theorem same_c {x y : Int} {n m : Bool} {A B : Option Addr} {l l' c d : Nat} {w : World} (hx : RI w n A l c x) (hy : RI w m B l' d y) (e : x = y) :
    Calls Try.prog 23 #[.agg #[.bool n, .slice A l c], .agg #[.bool m, .slice B l' d]] w (Ret w (KV (.bool true))) := by
  subst e
  have nw1 : Nw w ((w.alloc (.cells #[.bool n, .slice A l c] 28)).alloc (.cells #[.bool m, .slice B l' d] 28)) := ((Nw.refl w).alloc _).alloc _
  have HX := Lib.hid hx
  have HY := Lib.hid hy
  clear hx hy
  go_enter Try.func23, Try.ntmps23
  go_wp2_with (go_at_call 27; refine (cmp_c (HX.out.kept nw1.kept) (HY.out.kept nw1.kept)).mono ?_; rintro e w1 ⟨_, rfl, rfl, hb1⟩; rw [cmp_self])
  go_ret
  exact Ret.V (nw1.trans hb1)
end Go.Proofs.Ytcgkgcciogibkaa
