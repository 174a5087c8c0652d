/- Parts C7, C8, C9, Ca, F1, F2, F0, F4, F5, F6, F3, Syd, Lv, Lp, Ls, Lt, Ltx0, Ldg, Sye, Syf, Syg, Syr, Syi, Syj, Ja, Pwm, Jf, Syk, Syl, Jk, Jd, Jb, Jh, Je, So, Ln, Lg, Ld, Sd, Jg, Syn, Jw, Syq, Pw, Pk, Jx, Jy, Jz, Gc, Rt, Jn, St, in one file. -/
import Derived.WalkSmall
import Derived.IntWalk
import Derived.Deep.CutRange
import Derived.Deep.DeepCutAuto
import Derived.Lib.Case
import Derived.Lib.Repeat
import Derived.Deep.LoopGhost
import Derived.OwnWalk
import Derived.Maps.AppendAt
import Derived.Laws.OwnMore
import Derived.Lib.RabinKarpLaws
import Derived.Test.YthpjmhhfcechmaaDoorLDigits1
import Derived.Test.YthpjmhhfcechmaaDoorLDigits2
import Derived.Test.YthpjmhhfcechmaaDoorLDigits3
/- The contract of the law's made: a new slice of the program's integers. -/
set_option linter.unusedVariables false
set_option linter.unusedSimpArgs false
namespace Go.Proofs.YthpjmhhfcechmaaDoor
open Go.RowKit Ma

theorem info_Int : (Tryd.prog.info? 28).map (fun i => (i.zero, i.size, i.bytes)) = some (some (.agg #[.bool false, .slice none 0 0]), 2, 32) := by kernel_rfl
def flat (rs : List Nn) : List Value := rs.flatMap fun x => [.bool x.1, .slice x.2.1 x.2.2.1 x.2.2.2]
theorem flat_at : ∀ (rs : List Nn) (i : Nat) (n : Bool) (A : Option Addr) (l c : Nat), rs[i]? = some (n, A, l, c) → (flat rs)[i * 2]? = some (.bool n) ∧ (flat rs)[i * 2 + 1]? = some (.slice A l c)
 | [], i, n, A, l, c, h => by simp at h
 | x :: rs, 0, n, A, l, c, h => by simp at h; subst h; exact ⟨rfl, rfl⟩
 | x :: rs, i + 1, n, A, l, c, h => by
  have := flat_at rs i n A l c (by simpa using h)
  rw [show (i + 1) * 2 = i * 2 + 1 + 1 by omega]
  exact this
theorem flat_snoc (rs : List Nn) (x : Nn) : flat (rs ++ [x]) = flat rs ++ [.bool x.1, .slice x.2.1 x.2.2.1 x.2.2.2] := by simp [flat]
def Ins (w : World) (ns : List Nn) (zs : List Int) : Prop := ns.length = zs.length ∧ ∀ i n A l c, ns[i]? = some (n, A, l, c) → ∃ xs, l = xs.length ∧ l ≤ c ∧ xs.length ≤ 1000000 ∧ Rd w .u32 A xs ∧ dg b32 xs ∧ at0 zs i = sg n (lv b32 xs)
theorem Ins.nw {w W : World} {ns : List Nn} {zs : List Int} (h : Ins w ns zs) (k : Nw w W) : Ins W ns zs := ⟨h.1, fun i n A l c e => let ⟨xs, h1, h2, h3, h4, h5, h6⟩ := h.2 i n A l c e; ⟨xs, h1, h2, h3, h4.kept k.kept, h5, h6⟩⟩
def Rs (w : World) (rs : List Nn) (zs : List Int) : Prop := rs.length = zs.length ∧ ∀ i n A l c, rs[i]? = some (n, A, l, c) → RI w n A l c (at0 zs i)
def KM (zs : List Int) : Rg.Know := fun v W => ∃ g c rs, v = .slice (some ⟨g, 0, none⟩) zs.length c ∧ zs.length ≤ c ∧ Ns W g rs ∧ Rs W rs zs
def RO (w : World) (base : Nat) (n : Bool) (A : Option Addr) (l c : Nat) (z : Int) : Prop := ∃ xs, l = xs.length ∧ Own w base 56 .u32 (.slice A l c) xs ∧ Num b32 n xs z
theorem RO.ri {w : World} {base : Nat} {n : Bool} {A : Option Addr} {l c : Nat} {z : Int} (h : RO w base n A l c z) : RI w n A l c z := by
 obtain ⟨xs, hl, ho, hn⟩ := h
 obtain ⟨h1, h2, h3⟩ := ho.rdg
 exact ⟨xs, hl, h2, h3, hn⟩
theorem RO.grown {w w' : World} {base : Nat} {n : Bool} {A : Option Addr} {l c : Nat} {z : Int} {row : Option Nat} (h : RO w base n A l c z) (hg : w.grownBy w' row) (hne : (Value.slice A l c).ownBlock = none ∨ (Value.slice A l c).ownBlock ≠ row) : RO w' base n A l c z := by
 obtain ⟨xs, hl, ho, hn⟩ := h
 exact ⟨xs, hl, World.ownsRow.kept ho hg hne, hn⟩
theorem RO.nw {w w' : World} {base : Nat} {n : Bool} {A : Option Addr} {l c : Nat} {z : Int} (h : RO w base n A l c z) (hg : Nw w w') : RO w' base n A l c z := by
 obtain ⟨xs, hl, ho, hn⟩ := h
 exact ⟨xs, hl, ho.kept hg, hn⟩
theorem RO.eq {w : World} {base : Nat} {n : Bool} {A : Option Addr} {l c : Nat} {z z' : Int} (h : RO w base n A l c z) (e : z = z') : RO w base n A l c z' := e ▸ h
theorem RO.lower {w : World} {base b' : Nat} {n : Bool} {A : Option Addr} {l c : Nat} {z : Int} (h : RO w base n A l c z) (hb : b' ≤ base) : RO w b' n A l c z := by
 obtain ⟨xs, hl, ho, hn⟩ := h
 exact ⟨xs, hl, row_base ho hb, hn⟩
theorem RO.ne {w : World} {base b : Nat} {m : Bool} {A : Option Addr} {l c : Nat} {z : Int} {e : TypeId} {s n : Nat} {v : Value} {xs : List Value} (h : RO w base m A l c z) (hv : w.ownsRow b e s v n xs) (he : 56 ≠ e) : (Value.slice A l c).ownBlock = none ∨ (Value.slice A l c).ownBlock ≠ v.ownBlock := by
 obtain ⟨ys, hl, ho, hn⟩ := h
 obtain ⟨_, h1 | ⟨g, cap, cur, hv1, hb, hg, _⟩⟩ := ho
 ·left; rw [h1.1]; rfl
 ·right
  obtain ⟨_, h2 | ⟨g', cap', cur', hv', hb', hg', _⟩⟩ := hv
  ·rw [hv1, h2.1]; simp [Value.ownBlock]
  ·rw [hv1, hv']
   simp only [Value.ownBlock, ne_eq, Option.some.injEq]
   intro e1; subst e1
   rw [hg] at hg'
   simp only [Option.some.injEq, Obj.cells.injEq] at hg'
   exact he hg'.2.1
theorem Own.trims {w : World} {base : Nat} {e : TypeId} {k : IntKind} {A : Option Addr} {l c : Nat} {xs : List Int} (h : Own w base e k (.slice A l c) xs) : Own w base e k (.slice A (trim xs).length c) (trim xs) := by
 have hl := trim_len xs
 obtain ⟨_, h1 | ⟨g, cap, cur, hv, hb, hg, _⟩⟩ := id h
 ·obtain ⟨e1, e2⟩ := h1
  have : xs = [] := List.eq_nil_of_length_eq_zero e2
  subst this
  simp only [Value.slice.injEq] at e1
  obtain ⟨rfl, rfl, rfl⟩ := e1
  exact h
 ·simp only [Value.slice.injEq] at hv
  obtain ⟨rfl, rfl, rfl⟩ := hv
  have := h.take (by rfl) (trim xs).length hl
  rwa [← trim_take] at this
def KRO (base : Nat) (z : Int) : Rg.Know := fun v W => ∃ m A l c, v = .agg #[.bool m, .slice A l c] ∧ RO W base m A l c z
set_option maxHeartbeats 400000 in
theorem made_o {n : Bool} {A : Option Addr} {l c base : Nat} {xs : List Int} {w : World} (e : l = xs.length) (ho : Own w base 56 .u32 (.slice A l c) xs) (hd : dg b32 xs) :
  Calls Tryd.prog 27 #[.bool n, .slice A l c] w (Ret w (KRO base (sg n (lv b32 xs)))) := by
 subst e
 have hn := num_made (n := n) hd
 have HN := Lib.hid hn
 obtain ⟨_, hc, rA⟩ := ho.rdg
 have HO := Lib.hid ho
 clear hn ho
 cases n
 all_goals
  go_enter Tryd.func27, Tryd.ntmps27
  go_wp2_with (go_at_call 52; refine (trimmed_c A c xs _ (rA.kept (IntK.alloc _ _)) hc).mono ?_; rintro e w' ⟨rfl, rfl⟩)
 ·refine bodyPost_ret (v := .agg #[.bool false, .slice A (trim xs).length c]) (by simp [results, Tryd.results27, go_sem]) rfl ⟨_, rfl, ⟨_, _, _, _, rfl, trim xs, rfl, ?_, by simpa using HN.out⟩, (Nw.refl w).alloc _⟩
  exact HO.out.trims.kept ((Nw.refl w).alloc _)
 ·refine bodyPost_ret (v := .agg #[.bool (decide (0 < (trim xs).length)), .slice A (trim xs).length c]) (by simp [results, Tryd.results27, go_sem]) rfl ⟨_, rfl, ⟨_, _, _, _, rfl, trim xs, rfl, ?_, by simpa using HN.out⟩, (Nw.refl w).alloc _⟩
  exact HO.out.trims.kept ((Nw.refl w).alloc _)
theorem RO.far {w : World} {base : Nat} {n : Bool} {A : Option Addr} {l c : Nat} {z : Int} (h : RO w base n A l c z) {r : Nat} (hr : r < base) : (Value.slice A l c).ownBlock = none ∨ (Value.slice A l c).ownBlock ≠ some r := by
 obtain ⟨xs, hl, ho, hn⟩ := h
 cases hv : (Value.slice A l c).ownBlock with
 | none => exact .inl rfl
 | some g =>
  right
  have := (World.ownsRow.lt ho g hv).1
  simp; omega
theorem grown_set (w : World) (r o : Nat) (v : Value) : w.grownBy (w.setCell ⟨r, o, none⟩ v) (some r) := ⟨rfl, rfl, rfl, by simp [World.setCell], fun i _ hne => Below.heap_setCell w ⟨r, o, none⟩ v i (fun e => hne (by rw [e]))⟩
theorem store_o {r base : Nat} {W : World} {m : Bool} {D : Option Addr} {l c : Nat} {z : Int} (h : RO W base m D l c z) (hr : r < base) :
  RO ((W.setCell ⟨r, 0, none⟩ (.bool m)).setCell ⟨r, 1, none⟩ (.slice D l c)) base m D l c z := (h.grown (grown_set W r 0 _) (h.far hr)).grown (grown_set _ r 1 _) (h.far hr)
theorem ret_RO {w w' : World} {base : Nat} {z : Int} {m : Bool} {A : Option Addr} {l c : Nat} (h : RO w' base m A l c z) (hb : Nw w w') : Ret w (KRO base z) (.returned (.agg #[.bool m, .slice A l c])) w' := ⟨_, rfl, ⟨m, A, l, c, rfl, h⟩, hb⟩
set_option maxHeartbeats 1600000 in
set_option maxRecDepth 100000 in
theorem make_o {n : Bool} {A : Option Addr} {c : Nat} {xs : List Int} {w : World} (rA : Rd w .u32 A xs) (dx : dg b32 xs) (hl : xs.length ≤ 1000000) :
  Calls Tryd.prog 22 #[.bool n, .slice A xs.length c] w (Ret w (KRO (w.heap.size + 1) (sg n (lv b32 xs)))) := by
 have RA := Lib.hid rA
 clear rA
 have nw1 : Nw w (w.alloc (.cells #[.bool false, .slice none 0 0] 28)) := (Nw.refl w).alloc _
 have sg0 : Sg [] w.heap.size 2 (w.alloc (.cells #[.bool false, .slice none 0 0] 28)) := ⟨trivial, box_two w 28 false none 0 0, by go_simp⟩
 go_enter Tryd.func22, Tryd.ntmps22
 go_wp2_with (first
  | (go_at_call 50; refine (clone_o A c xs _ (RA.out.kept nw1.kept) hl).mono ?_; rintro e w1 ⟨_, rfl, ho, hb⟩; obtain ⟨C, cc, rfl, _, _⟩ := ho.rd; have ho1 := Lib.hid (row_base (b' := w.heap.size + 1) ho (by simp)); clear ho)
  | (go_at_call 27; refine (made_o rfl ho1.out dx).mono ?_; rintro e w2 ⟨_, rfl, ⟨m, D, l2, c2, rfl, hi⟩, hb2⟩; have b2 := ((sg0.nw hb).nw hb2).2.1; obtain ⟨⟨v0, hv0, hn0⟩, hf0⟩ := b2 0 (by omega); obtain ⟨⟨v1, hv1, hn1⟩, hf1⟩ := b2 1 (by omega)))
 exact bodyPost_ret (v := .agg #[.bool m, .slice D l2 c2]) (by simp [results, Tryd.results22, go_sem, hv0, hv1]) rfl (ret_RO (store_o hi (by omega)) (((nw1.trans hb).trans hb2).rr (store_I b2 hi.ri).1 (Nat.le_refl _)))
end Go.Proofs.YthpjmhhfcechmaaDoor
/- The contract of the law's made: a new slice of the program's integers. -/
namespace Go.Proofs.YthpjmhhfcechmaaDoor
open Go.RowKit Ma

theorem own_nw {w w' : World} {base : Nat} {e : TypeId} {s : Nat} {v : Value} {n : Nat} {xs : List Value} (h : w.ownsRow base e s v n xs) (hb : Nw w w') : w'.ownsRow base e s v n xs :=
 World.ownsRow.kept h (row := none) ⟨hb.os, hb.tape, hb.output, hb.size, fun i hi _ => hb.block i hi⟩ (by cases v.ownBlock <;> simp)
def Ros (w : World) (rs : List Nn) (zs : List Int) : Prop := rs.length = zs.length ∧ ∀ i n A l c, rs[i]? = some (n, A, l, c) → RO w 0 n A l c (at0 zs i)
theorem Ros.nw {w W : World} {ns : List Nn} {zs : List Int} (h : Ros w ns zs) (k : Nw w W) : Ros W ns zs := ⟨h.1, fun i n A l c e => (h.2 i n A l c e).nw k⟩
theorem Ros.ri {w : World} {ns : List Nn} {zs : List Int} (h : Ros w ns zs) : Rs w ns zs := ⟨h.1, fun i n A l c e => (h.2 i n A l c e).ri⟩
theorem Ros.snoc {w : World} {rs : List Nn} {zs : List Int} {k : Nat} {n : Bool} {A : Option Addr} {l c : Nat} (h : Ros w rs (zs.take k)) (hk : k < zs.length) (hi : RO w 0 n A l c (at0 zs k)) : Ros w (rs ++ [(n, A, l, c)]) (zs.take (k + 1)) := by
 have hl := h.1
 rw [List.length_take, Nat.min_eq_left (by omega)] at hl
 refine ⟨by simp [hl, List.length_take]; omega, fun i n' A' l' c' e => ?_⟩
 rcases Nat.lt_trichotomy i k with hi' | hi' | hi'
 ·rw [List.getElem?_append_left (by omega)] at e
  have := h.2 i _ _ _ _ e
  simp only [at0, List.getD_eq_getElem?_getD, List.getElem?_take, hi', if_true] at this ⊢
  rwa [if_pos (by omega)]
 ·subst hi'
  rw [List.getElem?_append_right (by omega), hl, Nat.sub_self] at e
  simp at e
  obtain ⟨rfl, rfl, rfl, rfl⟩ := e
  simp only [at0, List.getD_eq_getElem?_getD, List.getElem?_take] at hi ⊢
  rwa [if_pos (by omega)]
 ·rw [List.getElem?_append_right (by omega), List.getElem?_eq_none (by simp; omega)] at e
  cases e
theorem Ros.grown {w w' : World} {rs : List Nn} {zs : List Int} {b s n : Nat} {e : TypeId} {v : Value} {xs : List Value} (h : Ros w rs zs) (hv : w.ownsRow b e s v n xs) (he : 56 ≠ e) (hg : w.grownBy w' v.ownBlock) : Ros w' rs zs :=
 ⟨h.1, fun i n A l c e1 => (h.2 i n A l c e1).grown hg ((h.2 i n A l c e1).ne hv he)⟩
set_option maxHeartbeats 1600000 in
set_option maxRecDepth 100000 in
theorem mades_c {b c : Nat} {ns : List Nn} {zs : List Int} {w : World} (hn : Ns w b ns) (hz : Ins w ns zs) (hl : ns.length ≤ 1000) (h0 : 0 < ns.length) :
  Calls Tryd.prog 6 #[.slice (some ⟨b, 0, none⟩) ns.length c] w (Ret w (KM zs)) := by
 obtain ⟨i0, hi, hz0, hz1, hz2⟩ := info_parts info_Int
 have HN := Lib.hid hn
 have HZ := Lib.hid hz
 clear hn hz
 go_enter Tryd.func6, Tryd.ntmps6
 go_wp2
 go_loopw [3, 8] (fun v ci wr => ∃ (k : Nat) (rs : List Nn), ci = .int .i64 k ∧ k ≤ ns.length ∧ rs.length = k ∧ wr.ownsRow w.heap.size 28 2 v k (flat rs) ∧ Ros wr rs (zs.take k) ∧ Nw w wr)
  (fun _ ci _ => ns.length - (intOf ci).toNat)
 case atStart => exact ⟨0, [], rfl, by omega, rfl, World.ownsRow_nil w _ _ _, ⟨rfl, fun i n A l c e => by simp at e⟩, Nw.refl w⟩
 case round =>
  obtain ⟨k, rs, rfl, hk, hrl, ho, hr, hn⟩ := hrel
  have HRL := Lib.hid hrl
  clear hrl
  by_cases hlt : k < ns.length
  ·obtain ⟨⟨n, A, l, cc⟩, he⟩ : ∃ x, ns[k]? = some x := ⟨_, List.getElem?_eq_getElem hlt⟩
   obtain ⟨h1, h2⟩ := (HN.out.nw hn) k n A l cc he
   obtain ⟨xs, rfl, hlc, hxl, rx, dx, ez⟩ := (HZ.out.nw hn).2 k n A l cc he
   have hk0 : (0 : Int) ≤ (k : Int) := by omega
   have hki : (k : Int) < (ns.length : Int) := by omega
   have HE := Lib.hid ez
   clear he ez
   have hsz := hn.size
   go_wp2_with (first
    | (go_at_call 22; refine (make_o (rx.kept (IntK.alloc _ _)) dx hxl).mono ?_; rintro e w1 ⟨_, rfl, ⟨m, D, l2, c2, rfl, i2⟩, hb1⟩; have hn1 := ((Nw.refl wr).alloc _).trans hb1; have ho1 := own_nw ho hn1; have hr1 := hr.nw hn1; have hsz1 := hn1.size; clear ho hr)
    | (at_builtin; refine wpList_append_own _ rfl (.tmp 12) (.tmp 18) 29 rfl w.heap.size 28 i0 (.agg #[.bool false, .slice none 0 0]) 2 32 Tryd.underlying29 hi hz0 hz1 hz2 rfl (by decide) _ _ _ rfl (own_nw ho1 ((Nw.refl w1).alloc _)) ⟨w1.heap.size, 0, none⟩ 1 1 [.bool m, .slice D l2 c2] rfl rfl ?c1 ?c2 ?c3 ?c4 ?c5 ?_))
   case c1 => exact cell_two_new _ _ _ _
   case c2 => simp [Value.oneCell']
   case c3 => unfold maxLen; omega
   case c4 => omega
   case c5 => simp; omega
   intro v1 w4 hown1 hgrow1 _
   have n4 : Nw w w4 := Below.grown ((hn.trans hn1).alloc _) hgrow1 (by simp; omega) (fun g hg => (World.ownsRow.lt ho1 g hg).1)
   have hxa := (Nw.refl w1).alloc (.cells #[.bool m, .slice D l2 c2] 28)
   have hr4 := ((hr1.snoc (by have := HZ.out.1; omega) ((i2.eq HE.out.symm).lower (Nat.zero_le _))).nw hxa).grown (own_nw ho1 hxa) (by decide) hgrow1
   clear hr1
   go_wp2
   go_roundw
   case rel =>
    exact ⟨k + 1, rs ++ [(m, D, l2, c2)], by go_num, by omega, by simp [HRL.out], by rw [flat_snoc]; exact hown1, hr4, n4⟩
   case measure => simp [intOf]; omega
  ·have hke : k = ns.length := by omega
   have hr9 := hr.ri
   have hz0' := HZ.out.1
   rw [hke, List.take_of_length_le (by omega)] at hr9
   have HK := Lib.hid hke
   obtain ⟨_, h1 | ⟨g, cap, cur, rfl, _, _, hcap, _⟩⟩ := id ho
   ·exfalso; omega
   ·have hns : Ns wr g rs := fun i n A l c e => by
     obtain ⟨f1, f2⟩ := flat_at rs i n A l c e
     have hi : i < rs.length := (List.getElem?_eq_some_iff.1 e).1
     have := HRL.out
     rw [World.ownsRow.cellAt ho (i * 2) (by omega), World.ownsRow.cellAt ho (i * 2 + 1) (by omega)]
     exact ⟨f1, f2⟩
    have e1 : k = zs.length := by omega
    have HZL := Lib.hid e1
    clear hke e1 hz0'
    go_wp2
    go_ret
    exact ⟨_, rfl, ⟨g, cap, rs, by rw [← HZL.out]; rfl, by have := HZL.out; omega, hns, hr9⟩, hn⟩
end Go.Proofs.YthpjmhhfcechmaaDoor
/- The contract of the law's awake: it returns true. -/
namespace Go.Proofs.YthpjmhhfcechmaaDoor
open Go.RowKit Ma

theorem txt_FF : Txt 16 255 ⟨#[70, 70]⟩ := ⟨[15, 15], by intro x hx; simp at hx; omega, by unfold top; simp, by decide, by decide⟩
theorem bo_8 : bo 8 (-4) 7 = 4 := by
 refine (bo_eq fun i => ?_).symm
 by_cases h : i < 3
 ·have : i = 0 ∨ i = 1 ∨ i = 2 := by omega
  rcases this with rfl | rfl | rfl <;> decide
 ·rw [tb_high (z := 4) (m := 3) (by decide) (by decide) (by omega), tb_high (z := 7) (m := 3) (by decide) (by decide) (by omega), tb_high (z := -4) (m := 3) (by decide) (by decide) (by omega)]
  decide
theorem RJ.len_le {w : World} {n : Bool} {A : Option Addr} {l c : Nat} {z : Int} (h : RJ w n A l c z) (k : Nat) (h1 : -(b16 ^ k) < z) (h2 : z < b16 ^ k) : l ≤ k := by
 obtain ⟨xs, rfl, hc, rA, dx, tx, nx, rfl⟩ := h
 have h3 := lv_nonneg (b := b16) (by decide) dx
 have h4 : lv b16 xs < b16 ^ k := by cases n <;> simp only [sg, if_true, if_false, Bool.false_eq_true] at h1 h2 <;> omega
 apply Classical.byContradiction
 intro hk
 have hne : xs ≠ [] := by intro e; subst e; simp at hk
 have h5 := top_le (b := b16) (by decide) dx tx hne
 have h6 := pow_le (b := b16) (by decide) (show k ≤ xs.length - 1 by omega)
 omega
set_option maxHeartbeats 3200000 in
set_option maxRecDepth 100000 in
theorem awake_c {w : World} : Calls Tryd.prog 5 #[] w (Ret w (KV (.bool true))) := by
 go_enter Tryd.func5, Tryd.ntmps5
 go_wp2_with fail
 refine (new_c (x := -7) (by omega)).mono ?_
 rintro e w1 ⟨_, rfl, ⟨m1, D1, l1, c1, rfl, i1⟩, hb1⟩
 go_wp2_with fail
 refine (new_c (x := 2) (by omega)).mono ?_
 rintro e w2 ⟨_, rfl, ⟨m2, D2, l2, c2, rfl, i2⟩, hb2⟩
 have s1 := i1.len_le 1 (by decide) (by decide)
 have s2 := i2.len_le 1 (by decide) (by decide)
 go_wp2_with fail
 refine (divide_1 (i1.kept hb2.kept) i2 (by omega) (by decide) (.inl s2)).mono ?_
 rintro e w3 ⟨_, rfl, ⟨_, _, _, rfl, ⟨m3, D3, l3, c3, rfl, i3⟩, ⟨m4, D4, l4, c4, rfl, i4⟩, rfl⟩, hb3⟩
 clear i1 i2 s1 s2
 go_wp2_with fail
 have nA : Nw w3 ((w3.alloc (.cells #[.bool m3, .slice D3 l3 c3] 28)).alloc (.cells #[.bool m4, .slice D4 l4 c4] 28)) := ((Nw.refl w3).alloc _).alloc _
 have cA : Has [(w3.heap.size, 0, Value.bool m3), (w3.heap.size, 1, Value.slice D3 l3 c3), (w3.heap.size + 1, 0, Value.bool m4), (w3.heap.size + 1, 1, Value.slice D4 l4 c4)] ((w3.alloc (.cells #[.bool m3, .slice D3 l3 c3] 28)).alloc (.cells #[.bool m4, .slice D4 l4 c4] 28)) := ⟨by go_simp, by go_simp, by go_simp, by go_simp, trivial⟩
 refine (new_c (x := 255) (by omega)).mono ?_
 rintro e w4 ⟨_, rfl, ⟨m5, D5, l5, c5, rfl, i5⟩, hb4⟩
 have s5 := i5.len_le 1 (by decide) (by decide)
 go_wp2_with fail
 refine (text_ok 16 (by decide) (by decide) i5 (by omega)).mono ?_
 rintro e w5 ⟨_, rfl, ⟨_, _, rfl, ⟨s, rfl, hs⟩, rfl⟩, hb5⟩
 obtain rfl := Txt.eq (by decide) hs txt_FF
 clear hs
 go_wp2_with fail
 refine (new_c (x := -4) (by omega)).mono ?_
 rintro e w6 ⟨_, rfl, ⟨m6, D6, l6, c6, rfl, i6⟩, hb6⟩
 go_wp2_with fail
 refine (new_c (x := 7) (by omega)).mono ?_
 rintro e w7 ⟨_, rfl, ⟨m7, D7, l7, c7, rfl, i7⟩, hb7⟩
 have s6 := i6.len_le 1 (by decide) (by decide)
 have s7 := i7.len_le 1 (by decide) (by decide)
 go_wp2_with fail
 refine (boole_c (op := 8) (i6.kept hb7.kept) i7 (by omega) (by omega) (by decide) (by decide)).mono ?_
 rintro e w8 ⟨_, rfl, ⟨_, _, rfl, ⟨m8, D8, l8, c8, rfl, i8⟩, rfl⟩, hb8⟩
 have nB := (((hb4.trans hb5).trans hb6).trans hb7).trans hb8
 have nC : Nw w8 (w8.alloc (.cells #[.bool m8, .slice D8 l8 c8] 28)) := (Nw.refl w8).alloc _
 have cC : Has [(w8.heap.size, 0, Value.bool m8), (w8.heap.size, 1, Value.slice D8 l8 c8)] (w8.alloc (.cells #[.bool m8, .slice D8 l8 c8] 28)) := ⟨by go_simp, by go_simp, trivial⟩
 obtain ⟨q1, q2, q3, q4, _⟩ := cA.nw (nB.trans nC)
 obtain ⟨q5, q6, _⟩ := cC
 have I3 := Lib.hid (i3.kept (nA.trans (nB.trans nC)).kept)
 have I4 := Lib.hid (i4.kept (nA.trans (nB.trans nC)).kept)
 have I8 := Lib.hid (i8.kept nC.kept)
 have nD := ((((hb1.trans hb2).trans hb3).trans nA).trans nB).trans nC
 have s3 := i3.len_le 1 (by decide) (by decide)
 have s4 := i4.len_le 1 (by decide) (by decide)
 rw [bo_8] at I8 i8
 have s8 := i8.len_le 1 (by decide) (by decide)
 clear i5 s5 i6 i7 s6 s7 i3 i4 i8 cA nA nB nC hb1 hb2 hb3 hb4 hb5 hb6 hb7 hb8
 go_wp2
 generalize w8.alloc (.cells #[.bool m8, .slice D8 l8 c8] 28) = wz at *
 have n1 : Nw w _ := nD
 refine region_nw [(12, KJ (-3)), (13, KV (.bool true)), (17, KJ (-1)), (18, KV (.bool true)), (26, KJ (4)), (27, KV (.bool true))] (by kernel_rfl) (by kernel_rfl) (by kernel_rfl) (by kernel_rfl) ⟨SN.st (KJ.st _), SN.st (KV.st _), SN.st (KJ.st _), SN.st (KV.st _), SN.st (KJ.st _), SN.st (KV.st _), trivial⟩ ?_
 repeat
  apply Rg.wpK_quiet rfl rfl
  case hq => intro W hS; have q0 := hS.c q1; have q1 := hS.c q2; have q2 := hS.c q3; have q3 := hS.c q4; have q4 := hS.c q5; have q5 := hS.c q6; go_simp; exact rfl
  case he => exact (by simp only [Act.put, List.setIfInBounds_toArray, List.set_cons_zero, List.set_cons_succ]; exact rfl)
 apply Rg.wpK_know rfl rfl
 case ha =>
  intro W hR hS hF
  have hn := n1.trans hS
  have q0 := hS.c q1
  have q1 := hS.c q2
  have q2 := hS.c q3
  have q3 := hS.c q4
  have q4 := hS.c q5
  have q5 := hS.c q6
  unfold Rg.gives
  go_simp
  exact Rg.gives_enter (call_nw (rnew_c (by decide)))
 intro u hu
 obtain ⟨W0, hw1, hw2, hf⟩ := hu
 obtain ⟨m12, D12, l12, c12, rfl, hx⟩ := Rg.upd_at rfl (hf 12)
 refine ⟨_, (by simp only [Act.put, List.setIfInBounds_toArray, List.set_cons_zero, List.set_cons_succ]; exact rfl), ?_⟩
 clear hf hw1 hw2 hx W0
 repeat
  apply Rg.wpK_quiet rfl rfl
  case hq => intro W hS; have q0 := hS.c q1; have q1 := hS.c q2; have q2 := hS.c q3; have q3 := hS.c q4; have q4 := hS.c q5; have q5 := hS.c q6; go_simp; exact rfl
  case he => exact (by simp only [Act.put, List.setIfInBounds_toArray, List.set_cons_zero, List.set_cons_succ]; exact rfl)
 apply Rg.wpK_know rfl rfl
 case ha =>
  intro W hR hS hF
  have hn := n1.trans hS
  have q0 := hS.c q1
  have q1 := hS.c q2
  have q2 := hS.c q3
  have q3 := hS.c q4
  have q4 := hS.c q5
  have q5 := hS.c q6
  have i12 := KJ.agg (Rg.upd_at rfl (hF 12 (by kernel_rfl)))
  unfold Rg.gives
  go_simp
  exact Rg.gives_enter (call_nw (is_c (I3.out.kept hS.kept) i12 (by decide) (by omega) (Nat.le_trans (i12.len_le 1 (by decide) (by decide)) (by decide))))
 intro u hu
 obtain ⟨W0, hw1, hw2, hf⟩ := hu
 obtain rfl := Rg.upd_at rfl (hf 13)
 have hx := trivial
 refine ⟨_, (by simp only [Act.put, List.setIfInBounds_toArray, List.set_cons_zero, List.set_cons_succ]; exact rfl), ?_⟩
 clear hf hw1 hw2 hx W0
 repeat
  apply Rg.wpK_quiet rfl rfl
  case hq => intro W hS; have q0 := hS.c q1; have q1 := hS.c q2; have q2 := hS.c q3; have q3 := hS.c q4; have q4 := hS.c q5; have q5 := hS.c q6; go_simp; exact rfl
  case he => exact (by simp only [Act.put, List.setIfInBounds_toArray, List.set_cons_zero, List.set_cons_succ]; exact rfl)
 apply Rg.wpK_know rfl rfl
 case ha =>
  intro W hR hS hF
  have hn := n1.trans hS
  have q0 := hS.c q1
  have q1 := hS.c q2
  have q2 := hS.c q3
  have q3 := hS.c q4
  have q4 := hS.c q5
  have q5 := hS.c q6
  unfold Rg.gives
  go_simp
  exact Rg.gives_enter (call_nw (rnew_c (by decide)))
 intro u hu
 obtain ⟨W0, hw1, hw2, hf⟩ := hu
 obtain ⟨m17, D17, l17, c17, rfl, hx⟩ := Rg.upd_at rfl (hf 17)
 refine ⟨_, (by simp only [Act.put, List.setIfInBounds_toArray, List.set_cons_zero, List.set_cons_succ]; exact rfl), ?_⟩
 clear hf hw1 hw2 hx W0
 repeat
  apply Rg.wpK_quiet rfl rfl
  case hq => intro W hS; have q0 := hS.c q1; have q1 := hS.c q2; have q2 := hS.c q3; have q3 := hS.c q4; have q4 := hS.c q5; have q5 := hS.c q6; go_simp; exact rfl
  case he => exact (by simp only [Act.put, List.setIfInBounds_toArray, List.set_cons_zero, List.set_cons_succ]; exact rfl)
 apply Rg.wpK_know rfl rfl
 case ha =>
  intro W hR hS hF
  have hn := n1.trans hS
  have q0 := hS.c q1
  have q1 := hS.c q2
  have q2 := hS.c q3
  have q3 := hS.c q4
  have q4 := hS.c q5
  have q5 := hS.c q6
  have i17 := KJ.agg (Rg.upd_at rfl (hF 17 (by kernel_rfl)))
  unfold Rg.gives
  go_simp
  exact Rg.gives_enter (call_nw (is_c (I4.out.kept hS.kept) i17 (by decide) (by omega) (Nat.le_trans (i17.len_le 1 (by decide) (by decide)) (by decide))))
 intro u hu
 obtain ⟨W0, hw1, hw2, hf⟩ := hu
 obtain rfl := Rg.upd_at rfl (hf 18)
 have hx := trivial
 refine ⟨_, (by simp only [Act.put, List.setIfInBounds_toArray, List.set_cons_zero, List.set_cons_succ]; exact rfl), ?_⟩
 clear hf hw1 hw2 hx W0
 repeat
  apply Rg.wpK_quiet rfl rfl
  case hq => intro W hS; have q0 := hS.c q1; have q1 := hS.c q2; have q2 := hS.c q3; have q3 := hS.c q4; have q4 := hS.c q5; have q5 := hS.c q6; go_simp; exact rfl
  case he => exact (by simp only [Act.put, List.setIfInBounds_toArray, List.set_cons_zero, List.set_cons_succ]; exact rfl)
 apply Rg.wpK_know rfl rfl
 case ha =>
  intro W hR hS hF
  have hn := n1.trans hS
  have q0 := hS.c q1
  have q1 := hS.c q2
  have q2 := hS.c q3
  have q3 := hS.c q4
  have q4 := hS.c q5
  have q5 := hS.c q6
  unfold Rg.gives
  go_simp
  exact Rg.gives_enter (call_nw (rnew_c (by decide)))
 intro u hu
 obtain ⟨W0, hw1, hw2, hf⟩ := hu
 obtain ⟨m26, D26, l26, c26, rfl, hx⟩ := Rg.upd_at rfl (hf 26)
 refine ⟨_, (by simp only [Act.put, List.setIfInBounds_toArray, List.set_cons_zero, List.set_cons_succ]; exact rfl), ?_⟩
 clear hf hw1 hw2 hx W0
 repeat
  apply Rg.wpK_quiet rfl rfl
  case hq => intro W hS; have q0 := hS.c q1; have q1 := hS.c q2; have q2 := hS.c q3; have q3 := hS.c q4; have q4 := hS.c q5; have q5 := hS.c q6; go_simp; exact rfl
  case he => exact (by simp only [Act.put, List.setIfInBounds_toArray, List.set_cons_zero, List.set_cons_succ]; exact rfl)
 apply Rg.wpK_know rfl rfl
 case ha =>
  intro W hR hS hF
  have hn := n1.trans hS
  have q0 := hS.c q1
  have q1 := hS.c q2
  have q2 := hS.c q3
  have q3 := hS.c q4
  have q4 := hS.c q5
  have q5 := hS.c q6
  have i26 := KJ.agg (Rg.upd_at rfl (hF 26 (by kernel_rfl)))
  unfold Rg.gives
  go_simp
  exact Rg.gives_enter (call_nw (is_c (I8.out.kept hS.kept) i26 (by decide) (by omega) (Nat.le_trans (i26.len_le 1 (by decide) (by decide)) (by decide))))
 intro u hu
 obtain ⟨W0, hw1, hw2, hf⟩ := hu
 obtain rfl := Rg.upd_at rfl (hf 27)
 have hx := trivial
 refine ⟨_, (by simp only [Act.put, List.setIfInBounds_toArray, List.set_cons_zero, List.set_cons_succ]; exact rfl), ?_⟩
 clear hf hw1 hw2 hx W0
 repeat
  apply Rg.wpK_quiet rfl rfl
  case hq => intro W hS; have q0 := hS.c q1; have q1 := hS.c q2; have q2 := hS.c q3; have q3 := hS.c q4; have q4 := hS.c q5; have q5 := hS.c q6; go_simp; exact rfl
  case he => exact (by simp only [Act.put, List.setIfInBounds_toArray, List.set_cons_zero, List.set_cons_succ]; exact rfl)
 refine Rg.wpK_end fun w9 hR hS hF => ?_
 have hn := n1.trans hS
 have i12 := KJ.agg (Rg.upd_at rfl (Rg.upd_off rfl (Rg.upd_off rfl (Rg.upd_off rfl (Rg.upd_off rfl (Rg.upd_off rfl (hF 12)))))))
 have i17 := KJ.agg (Rg.upd_at rfl (Rg.upd_off rfl (Rg.upd_off rfl (Rg.upd_off rfl (hF 17)))))
 have i26 := KJ.agg (Rg.upd_at rfl (Rg.upd_off rfl (hF 26)))
 clear hF hR
 go_wp2
 go_ret
 exact Ret.V hn
end Go.Proofs.YthpjmhhfcechmaaDoor
/- Words for the laws: bounds, what came in; a region by its number. -/
namespace Go.Proofs.YthpjmhhfcechmaaDoor
open Go.RowKit Ma

def In (w : World) (A : Option Addr) (l c : Nat) (xs : List Int) : Prop := l = xs.length ∧ l ≤ c ∧ Rd w .u32 A xs ∧ dg b32 xs
theorem In.nw {w W : World} {A : Option Addr} {l c : Nat} {xs : List Int} (h : In w A l c xs) (k : Nw w W) : In W A l c xs := ⟨h.1, h.2.1, h.2.2.1.kept k.kept, h.2.2.2⟩
theorem short_l {b l c : Nat} {m : Int} (most : Nat) (ns : List Nn) {w : World} (e1 : m = most) (e2 : l = ns.length) (hn : Ns w b ns) (hm : most ≤ 1000) (hl : ns.length ≤ 1000) (hL : ∀ x ∈ ns, x.2.2.1 ≤ 9223372036854775807) :
  Calls Tryd.prog 4 #[.int .i64 m, .slice (some ⟨b, 0, none⟩) l c] w (Ret w (KV (.bool (shB most ns)))) := by
 subst e1 e2; exact short_c hn hm hl hL
theorem mades_l {b l c : Nat} (ns : List Nn) (zs : List Int) {w : World} (e : l = ns.length) (hn : Ns w b ns) (hz : Ins w ns zs) (hl : ns.length ≤ 1000) (h0 : 0 < ns.length) :
  Calls Tryd.prog 6 #[.slice (some ⟨b, 0, none⟩) l c] w (Ret w (KM zs)) := by
 subst e; exact mades_c hn hz hl h0
def bd (k : Nat) (z : Int) : Prop := -(b32 ^ k) < z ∧ z < b32 ^ k
theorem bd.mono {k j : Nat} {x : Int} (h : bd k x) (hj : k ≤ j) : bd j x := by
 have := pow_le (b := b32) (by decide) hj
 unfold bd at *; omega
theorem bd.add {a b : Nat} {x y : Int} (h : bd a x) (k : bd b y) : bd (max a b + 1) (x + y) := by
 have h1 := h.mono (Nat.le_max_left a b)
 have h2 := k.mono (Nat.le_max_right a b)
 unfold bd at *
 rw [Int.pow_succ]
 have := pos_pow (b := b32) (by decide) (max a b)
 have e : b32 ^ max a b * b32 = b32 ^ max a b * 4294967296 := rfl
 omega
theorem RI.le {w : World} {n : Bool} {A : Option Addr} {l c k : Nat} {z : Int} (h : RI w n A l c z) (hb : bd k z) (hk : k ≤ 300000) : l ≤ 300000 := Nat.le_trans (h.len_le k hb.1 hb.2) hk
theorem bd_sg {n : Bool} {xs : List Int} {k : Nat} (d : dg b32 xs) (hl : xs.length ≤ k) : bd k (sg n (lv b32 xs)) := by
 have h1 := lv_lt (b := b32) (by decide) d
 have h2 := lv_nonneg (b := b32) (by decide) d
 have h3 := pow_le (b := b32) (by decide) hl
 unfold bd
 cases n <;> simp only [sg, if_true, if_false, Bool.false_eq_true] <;> omega
end Go.Proofs.YthpjmhhfcechmaaDoor
/- The contract of the program's shift, every way. -/
namespace Go.Proofs.YthpjmhhfcechmaaDoor
open Go.RowKit Ma

end Go.Proofs.YthpjmhhfcechmaaDoor
/- The contracts of the program's sized, ones, and, Field, Shift. -/
namespace Go.Proofs.YthpjmhhfcechmaaDoor
open Go.RowKit Ma

def sz (a b : Int) : Bool := decide (0 ≤ a) && decide (a ≤ 65536) && decide (0 ≤ b) && decide (b ≤ 65536)
end Go.Proofs.YthpjmhhfcechmaaDoor
/- Boole's contract with a bound for its answer. -/
namespace Go.Proofs.YthpjmhhfcechmaaDoor
open Go.RowKit Ma

end Go.Proofs.YthpjmhhfcechmaaDoor
/- The contracts of the program's and, Field, Shift. -/
namespace Go.Proofs.YthpjmhhfcechmaaDoor
open Go.RowKit Ma

end Go.Proofs.YthpjmhhfcechmaaDoor
/- The contract of the program's Shift. -/
namespace Go.Proofs.YthpjmhhfcechmaaDoor
open Go.RowKit Ma

end Go.Proofs.YthpjmhhfcechmaaDoor
/- The contract of the program's Deposit. -/
namespace Go.Proofs.YthpjmhhfcechmaaDoor
open Go.RowKit Ma

end Go.Proofs.YthpjmhhfcechmaaDoor
/- The contracts of bits.OnesCount32 and of the program's Count. -/
namespace Go.Proofs.YthpjmhhfcechmaaDoor
open Go.RowKit Ma

end Go.Proofs.YthpjmhhfcechmaaDoor
/- Contracts in the form that the rules want. -/
namespace Go.Proofs.YthpjmhhfcechmaaDoor.Sy
open Go Go.RowKit Ma
theorem ce_sign : CE 10 := fun args W => by go_simp
theorem ce_same : CE 13 := fun args W => by go_simp
theorem ce_awake : CE 5 := fun args W => by go_simp
theorem all0 {us : List Value} {W : World} (h : All [] us W) : us = [] := by cases us with | nil => rfl | cons _ _ => exact h.elim
theorem all1 {k1 : Know} {us : List Value} {W : World} (h : All [k1] us W) : ∃ u, us = [u] ∧ k1 u W := by
 match us, h with
 | [u], h => exact ⟨u, rfl, h.1⟩
theorem all2 {k1 k2 : Know} {us : List Value} {W : World} (h : All [k1, k2] us W) : ∃ u v, us = [u, v] ∧ k1 u W ∧ k2 v W := by
 match us, h with
 | [u, v], h => exact ⟨u, v, rfl, h.1, h.2.1⟩
theorem all4 {k1 k2 k3 k4 : Know} {us : List Value} {W : World} (h : All [k1, k2, k3, k4] us W) : ∃ u v x y, us = [u, v, x, y] ∧ k1 u W ∧ k2 v W ∧ k3 x W ∧ k4 y W := by
 match us, h with
 | [u, v, x, y], h => exact ⟨u, v, x, y, rfl, h.1, h.2.1, h.2.2.1, h.2.2.2.1⟩
theorem call1 {f : FuncId} {k1 r : Know} (ce : CE f) (h : ∀ W u, k1 u W → Calls Tryd.prog f #[u] W (Ret W r)) : CallOk f [k1] r := ⟨ce, fun W us hu => by obtain ⟨u, rfl, h1⟩ := all1 hu; exact h W u h1⟩
theorem call2 {f : FuncId} {k1 k2 r : Know} (ce : CE f) (h : ∀ W u v, k1 u W → k2 v W → Calls Tryd.prog f #[u, v] W (Ret W r)) : CallOk f [k1, k2] r := ⟨ce, fun W us hu => by obtain ⟨u, v, rfl, h1, h2⟩ := all2 hu; exact h W u v h1 h2⟩
theorem call4 {f : FuncId} {k1 k2 k3 k4 r : Know} (ce : CE f) (h : ∀ W u v x y, k1 u W → k2 v W → k3 x W → k4 y W → Calls Tryd.prog f #[u, v, x, y] W (Ret W r)) : CallOk f [k1, k2, k3, k4] r := ⟨ce, fun W us hu => by obtain ⟨u, v, x, y, rfl, h1, h2, h3, h4⟩ := all4 hu; exact h W u v x y h1 h2 h3 h4⟩
theorem callI {f : FuncId} {x : Int} {r : Know} (ce : CE f) (h : ∀ W n A l c, RI W n A l c x → Calls Tryd.prog f #[.agg #[.bool n, .slice A l c]] W (Ret W r)) : CallOk f [KI x] r := call1 ce fun W u ⟨n, A, l, c, e, hx⟩ => by subst e; exact h W n A l c hx
theorem callII {f : FuncId} {x y : Int} {r : Know} (ce : CE f) (h : ∀ W n A l c m B l' d, RI W n A l c x → RI W m B l' d y → Calls Tryd.prog f #[.agg #[.bool n, .slice A l c], .agg #[.bool m, .slice B l' d]] W (Ret W r)) : CallOk f [KI x, KI y] r :=
 call2 ce fun W u v ⟨n, A, l, c, e, hx⟩ ⟨m, B, l', d, e', hy⟩ => by subst e e'; exact h W n A l c m B l' d hx hy
variable {x y : Int} {a b : Nat}
theorem k_sign {z : Int} (e : sgn x = z) : CallOk 10 [KI x] (KV (.int .i64 z)) := callI ce_sign fun W n A l c h => e ▸ sign_c h
theorem k_same (e : x = y) : CallOk 13 [KI x, KI y] (KV (.bool true)) := callII ce_same fun W n A l c m B l' d h1 h2 => same_c h1 h2 e
theorem k_awake : CallOk 5 [] (KV (.bool true)) := ⟨ce_awake, fun W us hu => by rw [all0 hu]; exact awake_c⟩
end Go.Proofs.YthpjmhhfcechmaaDoor.Sy
/-! ### Bounds -/
namespace Go.Proofs.YthpjmhhfcechmaaDoor
open Go Go.RowKit Ma
variable {x y : Int} {a b : Nat}
theorem bd2 {n : Nat} {z : Int} : bd n z ↔ -(2 ^ (32 * n)) < z ∧ z < 2 ^ (32 * n) := by unfold bd; rw [pow32]
end Go.Proofs.YthpjmhhfcechmaaDoor
/- Plain laws for the reference's lists of bits. No program in sight. -/
namespace Go.Proofs.YthpjmhhfcechmaaDoor.Ma
open Go
end Go.Proofs.YthpjmhhfcechmaaDoor.Ma
/- Plain laws for texts of integers that are read. No program in sight. -/
namespace Go.Proofs.YthpjmhhfcechmaaDoor.Ma
open Go
def byl (s : ByteArray) : List Int := s.data.toList.map fun b => (b.toNat : Int)
theorem byl_len (s : ByteArray) : (byl s).length = s.size := by simp [byl]
theorem byl_byte (s : ByteArray) (i : Nat) : 0 ≤ at0 (byl s) i ∧ at0 (byl s) i < 256 := by
 by_cases h : i < (byl s).length
 ·rw [at0_of_lt h]
  have := (s.data.toList[i]'(by simpa [byl] using h)).toNat_lt
  simp only [byl, List.getElem_map]
  omega
 ·rw [at0_ge (by omega)]; omega
theorem byl_at (s : ByteArray) {i : Nat} (h : i < s.size) : ((s[i]'h).toNat : Int) = at0 (byl s) i := by
 rw [at0_of_lt (by rw [byl_len]; exact h)]
 simp only [byl, List.getElem_map]
 rfl
theorem byl_drop (s : ByteArray) (p : Nat) : byl (s.extract p s.size) = (byl s).drop p := by
 unfold byl
 rw [ByteArray.data_extract, Array.toList_extract]
 simp only [List.extract_eq_take_drop, List.map_take, List.map_drop]
 rw [List.take_of_length_le]
 simp
theorem byl_inj {s t : ByteArray} (h : byl s = byl t) : s = t := bytes_inj h
def dv (c : Int) : Int := if 48 ≤ c ∧ c ≤ 57 then c - 48 else if 65 ≤ c ∧ c ≤ 90 then c - 55 else if 97 ≤ c ∧ c ≤ 122 then c - 87 else 36
theorem dv_le (c : Int) : 0 ≤ dv c ∧ dv c ≤ 36 := by unfold dv; repeat' split
                                                     all_goals omega
def pv (r : Int) (v : Int) : List Int → Int
 | [] => v
 | c :: l => pv r (v * r + dv c) l
theorem pv_app (r : Int) : ∀ (l : List Int) (v c : Int), pv r v (l ++ [c]) = pv r v l * r + dv c
 | [], v, c => rfl
 | x :: l, v, c => pv_app r l _ c
def parseR (r : Int) (s : List Int) : Except Int Int :=
 if ¬ (2 ≤ r ∧ r ≤ 36) then .error 1
 else if 20000 < s.length then .error 14
 else
  let b := if at0 s 0 = 45 ∨ at0 s 0 = 43 then s.drop 1 else s
  if b = [] then .error 2
  else if b.all fun c => decide (dv c < r) then .ok (sg (decide (at0 s 0 = 45)) (pv r 0 b)) else .error 2
structure PrI (b r : Int) (ls : List Int) (i : Nat) (zs : List Int) : Prop where
 le : i ≤ ls.length
 ok : ∀ j, j < i → dv (at0 ls j) < r
 dg : Ma.dg b zs
 lv : Ma.lv b zs = pv r 0 (ls.take i)
 len : zs.length ≤ i
theorem PrI.start (b r : Int) (ls : List Int) : PrI b r ls 0 [] := ⟨by omega, fun j h => by omega, dg_nil _, by simp [Ma.lv, pv], by simp⟩
theorem take_snoc {ls : List Int} {i : Nat} (h : i < ls.length) : ls.take (i + 1) = ls.take i ++ [at0 ls i] := by
 rw [List.take_add_one, at0_of_lt h]; simp [h]
theorem pv_step {r : Int} {ls : List Int} {i : Nat} (h : i < ls.length) : pv r 0 (ls.take (i + 1)) = pv r 0 (ls.take i) * r + dv (at0 ls i) := by rw [take_snoc h, pv_app]
structure PrJ (b r d : Int) (ys : List Int) (k : Nat) (zs : List Int) (cc : Int) : Prop where
 le : k ≤ ys.length
 len : zs.length = ys.length
 dg : Ma.dg b zs
 up : zs.drop k = ys.drop k
 eq : Ma.lv b (zs.take k) + b ^ k * cc = Ma.lv b (ys.take k) * r + d
 c0 : 0 ≤ cc
 c1 : cc ≤ 36
theorem PrJ.start {b r d : Int} {ys : List Int} (h : Ma.dg b ys) (h0 : 0 ≤ d) (h1 : d ≤ 36) : PrJ b r d ys 0 ys d := ⟨by omega, rfl, h, rfl, by simp [Ma.lv], h0, h1⟩
theorem PrJ.at {b r d : Int} {ys zs : List Int} {k : Nat} {cc : Int} (h : PrJ b r d ys k zs cc) (hk : k < ys.length) : at0 zs k = at0 ys k := by
 have e := h.up
 have a1 := h.len
 have hz : k < zs.length := by rw [a1]; exact hk
 rw [List.drop_eq_getElem_cons hz, List.drop_eq_getElem_cons hk] at e
 injection e with e1 _
 rw [at0_of_lt hz, at0_of_lt hk, e1]
theorem PrJ.step {b r d : Int} {ys zs : List Int} {k : Nat} {cc n : Int} (hb : 65536 ≤ b) (h : PrJ b r d ys k zs cc) (hk : k < ys.length) (hr0 : 2 ≤ r) (hr : r ≤ 36) (hn : n = at0 zs k * r + cc) (hy : Ma.dg b ys) : PrJ b r d ys (k + 1) (zs.set k (n % b)) (n / b) := by
 have hb0 : (0 : Int) < b := by omega
 have a := dg_at hy hb0 k
 have e0 := h.at hk
 have hl := h.len
 have c0 := h.c0
 have c1 := h.c1
 have n0 : 0 ≤ n := by
  have := Int.mul_nonneg a.1 (show (0 : Int) ≤ r by omega)
  rw [hn, e0]; omega
 have n1 : n < b * 37 := by
  have h1 := Int.mul_le_mul_of_nonneg_right (show at0 ys k ≤ b - 1 by omega) (show (0 : Int) ≤ r by omega)
  have h2 := Int.mul_le_mul_of_nonneg_left hr (show (0 : Int) ≤ b - 1 by omega)
  rw [hn, e0]
  have h3 : (b - 1) * 36 = b * 36 - 36 := by omega
  omega
 have m0 := Int.emod_nonneg n (Int.ne_of_gt hb0)
 have m1 := Int.emod_lt_of_pos n hb0
 have me := Int.mul_ediv_add_emod n b
 refine ⟨by omega, by simpa using hl, dg_set h.dg _ m0 m1, ?_, ?_, Int.ediv_nonneg n0 (by omega), ?_⟩
 ·rw [List.drop_set_of_lt (by omega)]
  have := congrArg (List.drop 1) h.up
  rw [List.drop_drop, List.drop_drop] at this
  exact this
 ·have t1 : (zs.set k (n % b)).take (k + 1) = zs.take k ++ [n % b] := by
   rw [take_snoc (by simp; omega), at0_put_self _ (by omega), List.take_set_of_le (Nat.le_refl k)]
  have t2 : (zs.take k).length = k := by simp; omega
  rw [t1, lv_snoc, t2, lv_take_succ _ _ _ hk, Int.pow_succ]
  have e1 := h.eq
  rw [e0] at hn
  have e3 : b ^ k * b * (n / b) = b ^ k * (b * (n / b)) := Int.mul_assoc _ _ _
  have e4 : b ^ k * n = b ^ k * (at0 ys k * r) + b ^ k * cc := by rw [hn, Int.mul_add]
  have e5 : b ^ k * (b * (n / b)) + b ^ k * (n % b) = b ^ k * n := by rw [← Int.mul_add, me]
  have e6 : (Ma.lv b (ys.take k) + b ^ k * at0 ys k) * r = Ma.lv b (ys.take k) * r + b ^ k * (at0 ys k * r) := by rw [Int.add_mul, Int.mul_assoc]
  rw [e6, e3]
  omega
 ·have : n / b < 37 := Int.ediv_lt_of_lt_mul hb0 (by rw [Int.mul_comm]; exact n1)
  omega
theorem PrJ.fin {b r d : Int} {ys zs : List Int} {cc : Int} (h : PrJ b r d ys ys.length zs cc) : Ma.lv b zs + b ^ zs.length * cc = Ma.lv b ys * r + d := by
 have e := h.eq
 have l := h.len
 rw [List.take_of_length_le (by omega), List.take_of_length_le (Nat.le_refl _), ← l] at e
 exact e
theorem PrI.no {b r : Int} {ls ys zs : List Int} {i : Nat} (h : PrI b r ls i ys) (hi : i < ls.length) (hd : dv (at0 ls i) < r) (h2 : PrJ b r (dv (at0 ls i)) ys ys.length zs 0) : PrI b r ls (i + 1) zs := by
 have e := h2.fin
 refine ⟨by omega, fun j hj => ?_, h2.dg, ?_, by have := h2.len; have := h.len; omega⟩
 ·by_cases e : j = i
  ·subst e; exact hd
  ·exact h.ok j (by omega)
 ·rw [pv_step hi, ← h.lv]; omega
theorem PrI.yes {b r : Int} {ls ys zs : List Int} {i : Nat} {cc : Int} (hb : 65536 ≤ b) (h : PrI b r ls i ys) (hi : i < ls.length) (hd : dv (at0 ls i) < r) (h2 : PrJ b r (dv (at0 ls i)) ys ys.length zs cc) : PrI b r ls (i + 1) (zs ++ [cc]) := by
 have e := h2.fin
 refine ⟨by omega, fun j hj => ?_, dg_append.2 ⟨h2.dg, fun x hx => ?_⟩, ?_, by have := h2.len; have := h.len; simp; omega⟩
 ·by_cases e : j = i
  ·subst e; exact hd
  ·exact h.ok j (by omega)
 ·have c0 := h2.c0
  have c1 := h2.c1
  rw [List.mem_singleton] at hx
  omega
 ·rw [lv_snoc, pv_step hi, ← h.lv]; exact e
theorem all_at {ls : List Int} {r : Int} : (ls.all fun c => decide (dv c < r)) = true ↔ ∀ j, j < ls.length → dv (at0 ls j) < r := by
 rw [List.all_eq_true]
 constructor
 ·intro h j hj
  have := h _ (List.getElem_mem hj)
  rw [at0_of_lt hj]
  simpa using this
 ·intro h x hx
  obtain ⟨j, hj, rfl⟩ := List.getElem_of_mem hx
  have := h j hj
  rw [at0_of_lt hj] at this
  simpa using this
end Go.Proofs.YthpjmhhfcechmaaDoor.Ma
/- The reference's division, digit by digit. No program in sight. -/
namespace Go.Proofs.YthpjmhhfcechmaaDoor.Ma
end Go.Proofs.YthpjmhhfcechmaaDoor.Ma
/- Plain laws for texts of integers that are written. -/
namespace Go.Proofs.YthpjmhhfcechmaaDoor.Ma
open Go
theorem byl_append (s t : ByteArray) : byl (s ++ t) = byl s ++ byl t := by
 unfold byl
 rw [ByteArray.data_append, Array.toList_append, List.map_append]
noncomputable def tstr (r x : Int) : ByteArray := @dite _ (∃ s, Txt r x s) (Classical.propDecidable _) (fun h => Classical.choose h) (fun _ => ⟨#[]⟩)
theorem tstr_eq {r x : Int} {s : ByteArray} (hr : 2 ≤ r) (h : Txt r x s) : s = tstr r x := by
 have hex : ∃ s, Txt r x s := ⟨s, h⟩
 unfold tstr
 rw [dif_pos hex]
 exact Txt.eq hr h (Classical.choose_spec hex)
end Go.Proofs.YthpjmhhfcechmaaDoor.Ma
/- Plain laws: a text of an integer that is read again is the integer. -/
namespace Go.Proofs.YthpjmhhfcechmaaDoor.Sy
open Go Go.RowKit Ma
theorem dv_dch {d : Int} (h0 : 0 ≤ d) (h1 : d < 36) : dv (dch d) = d := by
 unfold dch
 split
 ·unfold dv; rw [if_pos (by omega)]; omega
 ·unfold dv; rw [if_neg (by omega), if_pos (by omega)]; omega
theorem dch_ge {d : Int} (h0 : 0 ≤ d) : 48 ≤ dch d := by unfold dch; split <;> omega
theorem dch_lt {d : Int} (h0 : 0 ≤ d) (h1 : d < 36) : dch d < 256 := by unfold dch; split <;> omega
theorem pv_rev {r : Int} (hr : r ≤ 36) : ∀ ds : List Int, dg r ds → pv r 0 ((ds.map dch).reverse) = lv r ds
 | [], _ => rfl
 | x :: ds, h => by
  have ⟨h1, h2⟩ := dg_cons.1 h
  rw [List.map_cons, List.reverse_cons, pv_app, pv_rev hr ds h2, dv_dch h1.1 (by omega), Int.mul_comm]
  simp only [lv]
  omega
theorem digits_ex {r : Int} (hr : 2 ≤ r) : ∀ n : Nat, ∃ ds, dg r ds ∧ top ds ∧ lv r ds = (n : Int) := by
 intro n
 induction n using Nat.strongRecOn with
 | _ n ih =>
  by_cases h0 : n = 0
  ·subst h0; exact ⟨[], dg_nil _, top_nil, rfl⟩
  ·obtain ⟨m, hm⟩ : ∃ m : Nat, (m : Int) = (n : Int) / r := ⟨((n : Int) / r).toNat, Int.toNat_of_nonneg (Int.ediv_nonneg (by omega) (by omega))⟩
   have e1 := Int.emod_add_mul_ediv (n : Int) r
   have b0 := Int.emod_nonneg (n : Int) (show r ≠ 0 by omega)
   have b1 := Int.emod_lt_of_pos (n : Int) (show 0 < r by omega)
   have hmn : m < n := by
    have : (m : Int) < n := by rw [hm]; exact Int.ediv_lt_of_lt_mul (by omega) (by have := Int.mul_le_mul_of_nonneg_left hr (show (0 : Int) ≤ n by omega); omega)
    omega
   obtain ⟨ds, d1, d2, d3⟩ := ih m hmn
   refine ⟨(n : Int) % r :: ds, dg_cons.2 ⟨⟨b0, b1⟩, d1⟩, ?_, by simp only [lv]; rw [d3, hm]; exact e1⟩
   cases ds with
   | nil =>
    unfold top
    simp only [lv] at d3
    rw [← hm, ← d3] at e1
    simp
    omega
   | cons y ds =>
    unfold top at d2 ⊢
    rwa [List.getLast?_cons_cons]
theorem bytes_ex : ∀ l : List Int, (∀ x ∈ l, 0 ≤ x ∧ x < 256) → ∃ s : ByteArray, byl s = l := by
 intro l h
 refine ⟨⟨(l.map fun x => x.toNat.toUInt8).toArray⟩, ?_⟩
 unfold byl
 simp only [List.map_map]
 conv => rhs; rw [← List.map_id l]
 refine List.map_congr_left fun x hx => ?_
 have := h x hx
 simp only [Function.comp, id]
 rw [Nat.toUInt8_eq, UInt8.toNat_ofNat']
 omega
theorem txt_ex {r z : Int} (hr : 2 ≤ r ∧ r ≤ 36) : ∃ s, Txt r z s := by
 obtain ⟨ds, d1, d2, d3⟩ := digits_ex hr.1 z.natAbs
 obtain ⟨s, hs⟩ := bytes_ex (if z = 0 then [48] else (if z < 0 then [45] else []) ++ (ds.map dch).reverse) (by
  intro x hx
  have hd : ∀ y ∈ (ds.map dch).reverse, 0 ≤ y ∧ y < 256 := fun y hy => by
   simp only [List.mem_reverse, List.mem_map] at hy
   obtain ⟨d, hd, rfl⟩ := hy
   have := d1 d hd
   exact ⟨by have := dch_ge this.1; omega, dch_lt this.1 (by omega)⟩
  split at hx
  ·simp at hx; omega
  ·rw [List.mem_append] at hx
   rcases hx with hx | hx
   ·split at hx
    ·simp at hx; omega
    ·cases hx
   ·exact hd x hx)
 exact ⟨s, ds, d1, d2, d3, hs⟩
theorem tstr_txt {r z : Int} (hr : 2 ≤ r ∧ r ≤ 36) : Txt r z (tstr r z) := by
 obtain ⟨s, h⟩ := txt_ex (z := z) hr
 rw [← tstr_eq hr.1 h]
 exact h
theorem rev_head {ds : List Int} (h : ds ≠ []) (f : Int → Int) : ∃ d ∈ ds, at0 ((ds.map f).reverse) 0 = f d := by
 have hl : 0 < ((ds.map f).reverse).length := by have := List.length_pos_iff.2 h; simp; exact this
 rw [at0_of_lt hl]
 have hm := List.getElem_mem hl
 rw [List.mem_reverse, List.mem_map] at hm
 obtain ⟨d, hd, e⟩ := hm
 exact ⟨d, hd, e.symm⟩
theorem all_dch {r : Int} (hr : r ≤ 36) {ds : List Int} (h : dg r ds) : ((ds.map dch).reverse.all fun c => decide (dv c < r)) = true := by
 rw [List.all_eq_true]
 intro c hc
 rw [List.mem_reverse, List.mem_map] at hc
 obtain ⟨d, hd, rfl⟩ := hc
 have := h d hd
 rw [dv_dch this.1 (by omega)]
 exact decide_eq_true this.2
theorem parse_digits {r : Int} {l b : List Int} {m : Bool} (hr : 2 ≤ r ∧ r ≤ 36) (hl : l.length ≤ 20000) (hb : (if at0 l 0 = 45 ∨ at0 l 0 = 43 then l.drop 1 else l) = b) (hm : decide (at0 l 0 = 45) = m) (h0 : b ≠ []) (ha : (b.all fun c => decide (dv c < r)) = true) : parseR r l = .ok (sg m (pv r 0 b)) := by
 unfold parseR
 rw [if_neg (fun x => x hr), if_neg (by omega)]
 dsimp only
 rw [hb, if_neg h0, if_pos ha, hm]
theorem parse_txt {r z : Int} {s : ByteArray} (hr : 2 ≤ r ∧ r ≤ 36) (h : Txt r z s) (hl : s.size ≤ 20000) : parseR r (byl s) = .ok z := by
 obtain ⟨ds, d1, d2, d3, d4⟩ := h
 have d4 : byl s = _ := d4
 have hl2 : (byl s).length ≤ 20000 := by rw [byl_len]; exact hl
 by_cases hz : z = 0
 ·rw [if_pos hz] at d4
  rw [d4]
  rw [parse_digits (b := [48]) (m := false) hr (by simp) rfl rfl (by simp) (by simp [dv]; omega)]
  subst hz
  have e : pv r 0 [48] = 0 := by simp only [pv, Int.zero_mul]; decide
  rw [e]
  rfl
 ·rw [if_neg hz] at d4
  have hne : ds ≠ [] := fun e => by rw [e] at d3; simp only [lv] at d3; omega
  have hne2 : (ds.map dch).reverse ≠ [] := by simpa using hne
  by_cases hn : z < 0
  ·rw [if_pos hn] at d4
   rw [parse_digits (b := (ds.map dch).reverse) (m := true) hr hl2 (by rw [d4]; rfl) (by rw [d4]; rfl) hne2 (all_dch hr.2 d1), pv_rev hr.2 ds d1, d3]
   unfold sg
   rw [if_pos rfl]
   congr 1
   omega
  ·rw [if_neg hn, List.nil_append] at d4
   obtain ⟨d, hd, e⟩ := rev_head hne dch
   have := dch_ge (d1 d hd).1
   rw [parse_digits (b := (ds.map dch).reverse) (m := false) hr hl2 (by rw [d4, if_neg (by omega)]) (by rw [d4]; exact decide_eq_false (by omega)) hne2 (all_dch hr.2 d1), pv_rev hr.2 ds d1, d3]
   unfold sg
   congr 1
   simp
   omega
end Go.Proofs.YthpjmhhfcechmaaDoor.Sy
/- Plain laws: digits of an integer, with zeros and a sign in front, and small letters, read again. -/
namespace Go.Proofs.YthpjmhhfcechmaaDoor.Sy
open Go Go.RowKit Ma
def bytesOf (l : List UInt8) : List Int := l.map fun b => (b.toNat : Int)
theorem bytesOf_append (a b : List UInt8) : bytesOf (a ++ b) = bytesOf a ++ bytesOf b := by simp [bytesOf]
theorem repeat_bytes (n : Nat) : bytesOf (Lib.repeatL [48] n) = List.replicate n 48 := by
 induction n with
 | zero => rfl
 | succ n ih => rw [Lib.repeatL, bytesOf_append, ih, List.replicate_succ]; rfl
theorem pv_zeros (r : Int) (n : Nat) (l : List Int) : pv r 0 (List.replicate n 48 ++ l) = pv r 0 l := by
 induction n with
 | zero => rfl
 | succ n ih => rw [List.replicate_succ, List.cons_append, pv, show (0 : Int) * r + dv 48 = 0 by rw [Int.zero_mul]; decide]; exact ih
theorem pv_map (r : Int) (f : Int → Int) : ∀ (l : List Int) (v : Int), (∀ c ∈ l, dv (f c) = dv c) → pv r v (l.map f) = pv r v l
 | [], v, _ => rfl
 | c :: l, v, h => by
  rw [List.map_cons, pv, pv, h c (by simp)]
  exact pv_map r f l _ fun c' hc => h c' (by simp [hc])
def lowI (c : Int) : Int := if 65 ≤ c ∧ c ≤ 90 then c + 32 else c
theorem low_dv {c : Int} : dv (lowI c) = dv c := by
 unfold lowI
 split
 ·unfold dv
  rw [if_neg (by omega), if_neg (by omega), if_pos (by omega), if_neg (by omega), if_pos (by omega)]
  omega
 ·rfl
theorem lowB_eq (b : UInt8) : ((Lib.lowerB b).toNat : Int) = lowI (b.toNat : Int) := by
 have hb := b.toNat_lt
 unfold Lib.lowerB Lib.isUpperB lowI
 by_cases h : 65 ≤ b.toNat ∧ b.toNat ≤ 90
 ·rw [if_pos (by simp [UInt8.le_iff_toNat_le]; exact h), if_pos (by omega), UInt8.toNat_add]
  show (((b.toNat + 32) % 256 : Nat) : Int) = _
  omega
 ·rw [if_neg (by simp [UInt8.le_iff_toNat_le]; omega), if_neg (by omega)]
theorem low_bytes (l : List UInt8) : bytesOf (Lib.toLowerA l) = (bytesOf l).map lowI := by
 unfold bytesOf Lib.toLowerA
 rw [List.map_map, List.map_map]
 refine List.map_congr_left fun b _ => ?_
 simp only [Function.comp]
 exact lowB_eq b
theorem txt_split {r z : Int} {s : ByteArray} (h : Txt r z s) : ∃ ds, dg r ds ∧ top ds ∧ lv r ds = (z.natAbs : Int) ∧ byl s = (if z < 0 then [45] else []) ++ (if z = 0 then [48] else (ds.map dch).reverse) := by
 obtain ⟨ds, d1, d2, d3, d4⟩ := h
 have d4 : byl s = _ := d4
 refine ⟨ds, d1, d2, d3, ?_⟩
 rw [d4]
 by_cases hz : z = 0
 ·subst hz; rfl
 ·rw [if_neg hz, if_neg hz]
def dgs (r z : Int) (l : List Int) : Prop := ∃ ds, dg r ds ∧ top ds ∧ lv r ds = (z.natAbs : Int) ∧ l = if z = 0 then [48] else (ds.map dch).reverse
theorem prefix_iff (l : List UInt8) (c : UInt8) : Lib.hasPrefix l [c] = decide (l.head? = some c) := by
 unfold Lib.hasPrefix
 cases l with
 | nil => rfl
 | cons x l =>
  simp only [List.isPrefixOf_cons_cons, List.isPrefixOf_nil_left, Bool.and_true, List.head?_cons, Option.some.injEq]
  by_cases h : x = c
  ·subst h; simp
  ·rw [decide_eq_false h]; simpa using fun e => h e.symm
theorem head_bytes {s : ByteArray} {c : UInt8} {x : Int} {l : List Int} (h : byl s = x :: l) : (s.data.toList.head? = some c) ↔ x = (c.toNat : Int) := by
 unfold byl at h
 cases hs : s.data.toList with
 | nil => rw [hs] at h; cases h
 | cons y m =>
  rw [hs] at h
  injection h with h1 h2
  simp only [List.head?_cons, Option.some.injEq]
  constructor
  ·rintro rfl; exact h1.symm
  ·intro e; exact UInt8.toNat_inj.1 (by have h1 : (y.toNat : Int) = x := h1; omega)
theorem dgs_head {r z : Int} {l : List Int} (hr : 2 ≤ r ∧ r ≤ 36) (h : dgs r z l) : ∃ x m, l = x :: m ∧ 48 ≤ x ∧ (x = 48 ↔ z = 0) := by
 obtain ⟨ds, d1, d2, d3, rfl⟩ := h
 by_cases hz : z = 0
 ·rw [if_pos hz]; exact ⟨48, [], rfl, by decide, by simp [hz]⟩
 ·rw [if_neg hz]
  have hne : ds ≠ [] := fun e => by rw [e] at d3; simp only [lv] at d3; omega
  rcases List.eq_nil_or_concat ds with e | ⟨es, d, e⟩
  ·exact absurd e hne
  ·subst e
   have hd := d1 d (by simp)
   refine ⟨dch d, (es.map dch).reverse, by simp, dch_ge hd.1, ?_⟩
   have h0 : d ≠ 0 := fun e => d2 (by simp [e])
   constructor
   ·intro e; unfold dch at e; split at e <;> omega
   ·intro e; exact absurd e hz
theorem neg_prefix {r z : Int} {s : ByteArray} (hr : 2 ≤ r ∧ r ≤ 36) (h : Txt r z s) : Lib.hasPrefix s.data.toList [45] = decide (z < 0) := by
 rw [prefix_iff]
 obtain ⟨ds, d1, d2, d3, e⟩ := txt_split h
 by_cases hn : z < 0
 ·rw [if_pos hn] at e
  rw [decide_eq_true hn, decide_eq_true ((head_bytes (c := 45) e).2 rfl)]
 ·rw [if_neg hn, List.nil_append] at e
  obtain ⟨x, m, e2, hx, _⟩ := dgs_head hr (⟨ds, d1, d2, d3, rfl⟩ : dgs r z _)
  rw [e2] at e
  rw [decide_eq_false hn]
  refine decide_eq_false fun h => ?_
  have := (head_bytes (c := 45) e).1 h
  have h45 : ((45 : UInt8).toNat : Int) = 45 := rfl
  omega
theorem trim_dgs {r z : Int} {s : ByteArray} (hr : 2 ≤ r ∧ r ≤ 36) (h : Txt r z s) : dgs r z (bytesOf (Lib.trimPrefix s.data.toList [45])) := by
 obtain ⟨ds, d1, d2, d3, e⟩ := txt_split h
 refine ⟨ds, d1, d2, d3, ?_⟩
 unfold Lib.trimPrefix
 rw [neg_prefix hr h]
 have e : bytesOf s.data.toList = _ := e
 by_cases hn : z < 0
 ·rw [if_pos (by simpa using hn)]
  rw [if_pos hn] at e
  have : bytesOf (s.data.toList.drop 1) = (bytesOf s.data.toList).drop 1 := by unfold bytesOf; rw [List.map_drop]
  show bytesOf (s.data.toList.drop 1) = _
  rw [this, e]; rfl
 ·rw [if_neg (by simpa using hn), e, if_neg hn]; rfl
theorem dgs_pv {r z : Int} {l : List Int} (hr : 2 ≤ r ∧ r ≤ 36) (h : dgs r z l) : pv r 0 l = (z.natAbs : Int) ∧ (∀ c ∈ l, dv c < r) ∧ (∀ c ∈ l, 48 ≤ c ∧ c < 128) := by
 obtain ⟨ds, d1, d2, d3, rfl⟩ := h
 by_cases hz : z = 0
 ·rw [if_pos hz]
  subst hz
  refine ⟨by simp only [pv, Int.zero_mul]; decide, fun c hc => ?_, fun c hc => ?_⟩
  ·obtain rfl : c = 48 := by simpa using hc
   have : dv 48 = 0 := by decide
   omega
  ·obtain rfl : c = 48 := by simpa using hc
   decide
 ·rw [if_neg hz]
  refine ⟨(pv_rev hr.2 ds d1).trans d3, fun c hc => ?_, fun c hc => ?_⟩
  ·rw [List.mem_reverse, List.mem_map] at hc
   obtain ⟨d, hd, rfl⟩ := hc
   rw [dv_dch (d1 d hd).1 (by have := (d1 d hd).2; omega)]
   exact (d1 d hd).2
  ·rw [List.mem_reverse, List.mem_map] at hc
   obtain ⟨d, hd, rfl⟩ := hc
   have := d1 d hd
   exact ⟨dch_ge this.1, by unfold dch; split <;> omega⟩
theorem parse_long0 {r z : Int} {l : List Int} {n : Nat} (hr : 2 ≤ r ∧ r ≤ 36) (h : dgs r z l) (hl : l.length + n + 1 ≤ 20000) : parseR r ((if z < 0 then 45 else 43) :: (List.replicate n 48 ++ l.map lowI)) = .ok z := by
 obtain ⟨p1, p2, p3⟩ := dgs_pv hr h
 obtain ⟨x, m, e1, _⟩ := dgs_head hr h
 have hat : at0 ((if z < 0 then (45 : Int) else 43) :: (List.replicate n 48 ++ l.map lowI)) 0 = if z < 0 then 45 else 43 := rfl
 rw [parse_digits (b := List.replicate n 48 ++ l.map lowI) (m := decide (z < 0)) hr (by simp; omega)]
 ·rw [pv_zeros, pv_map r lowI l 0 (fun c _ => low_dv), p1]
  unfold sg
  by_cases hn : z < 0
  ·rw [if_pos (by simpa using hn)]; congr 1; omega
  ·rw [if_neg (by simpa using hn)]; congr 1; omega
 ·rw [hat]; by_cases hn : z < 0
  ·rw [if_pos hn]; rfl
  ·rw [if_neg hn]; rfl
 ·rw [hat]; by_cases hn : z < 0
  ·rw [if_pos hn, decide_eq_true hn]; rfl
  ·rw [if_neg hn, decide_eq_false hn]; rfl
 ·rw [e1]; simp
 ·rw [List.all_eq_true]
  intro c hc
  rw [List.mem_append] at hc
  rcases hc with hc | hc
  ·obtain rfl := (List.mem_replicate.1 hc).2
   have : dv 48 = 0 := by decide
   exact decide_eq_true (by omega)
  ·rw [List.mem_map] at hc
   obtain ⟨d, hd, rfl⟩ := hc
   rw [low_dv]
   exact decide_eq_true (p2 d hd)
end Go.Proofs.YthpjmhhfcechmaaDoor.Sy
/- Ends of a walk by rules; a function's text behind a statement. -/
namespace Go.Proofs.YthpjmhhfcechmaaDoor.Sy
open Go Go.RowKit Ma
def restIn (k : Nat) : Code → Option Code
 | .seq a b => match a with
  | .region id _ _ => match Nat.beq id k with
   | true => some b
   | false => restIn k b
  | _ => match restIn k a with
   | some c => some c
   | none => restIn k b
 | .block _ c => restIn k c
 | .scope c => restIn k c
 | .loop c => restIn k c
 | .cond _ a b => match restIn k a with
  | some c => some c
  | none => restIn k b
 | _ => none
noncomputable def restOf (k : Nat) (f : Func) : Code := (f.body.bind (restIn k)).getD .skip
section
variable {B N : Nat} {w0 : World} {fr : List (Nat × AV)} {Q : Exit → Act → World → Prop} {fn : Func}
theorem run_res1 {s : Nat} (hr : fn.results = #[.tmp s]) (ts : Array Value) (W : World) : (results fn ts).run Tryd.prog W = .ok (ts.getD s undef) W := by
 simp [results, hr, go_sem]
theorem SX.done {s : Nat} {r : AV} (hr : fn.results = #[.tmp s]) (hs : opv fr (.tmp s) = some r) (hB : B = w0.heap.size) : SX B N w0 .ret fr (bodyPost Tryd.prog fn (Ret w0 r.of)) := fun a W hf =>
 bodyPost_ret (run_res1 hr _ _) hf.df ⟨_, rfl, ((opv_spec hf hs).1.of (opv_spec hf hs).2).1, by have := hf.be; rw [hB] at this; exact this⟩
theorem Fr.base {a : Act} {W : World} (h1 : a.defers = []) (h2 : a.tmps.size = N) (hb : Below B w0 W) (hB : B ≤ W.heap.size) : Fr B N w0 [] a W :=
 ⟨h1, h2, hb, hB, fun i v h => (by cases h), fun i j b b' p _ h => (by cases h)⟩
theorem Fr.bxs {i : Nat} {b : BT} {k : Know} {a : Act} {W : World} (h : Fr B N w0 fr a W) (hu : Ho B (.bx b k) (a.tmps.getD i undef) W) (hn : ∀ j v', look fr j = some v' → v'.isBx = true → a.tmps.getD i undef ≠ a.tmps.getD j undef ∧ ∃ b, bxT v' = some b) : Fr B N w0 ((i, .bx b k) :: fr) a W :=
 h.more hu fun j v' p hj e e2 => by
  cases hv : v'.isBx with
  | false => rw [AV.blk_no hv] at e2; cases e2
  | true =>
   obtain ⟨h1, b', hb'⟩ := hn j v' hj hv
   obtain ⟨q, x, e3, _⟩ := hu
   obtain ⟨q', x', e4, _, _, _, e5⟩ := (h.ho j v' hj).bxT hb'
   rw [e4, e5] at e2
   rw [e3] at e
   injection e with e
   injection e2 with e2
   exact h1 (by rw [e3, e4, e, e2])
theorem Ho.two {T : TypeId} {z : Int} {m : Bool} {D : Option Addr} {l c p : Nat} {W : World} (ok : (BI T).Ok) (hp : B ≤ p) (h0 : W.cell? ⟨p, 0, none⟩ = some (.bool m)) (h1 : W.cell? ⟨p, 1, none⟩ = some (.slice D l c)) (f0 : W.frozen? ⟨p, 0, none⟩ = false) (f1 : W.frozen? ⟨p, 1, none⟩ = false) (hi : RI W m D l c z) : Ho B (.bx (BI T) (KI z)) (ptr p) W :=
 ⟨p, _, rfl, hp, ⟨_, ⟨m, D, l, c, rfl, rfl⟩, fun i x hx => by rcases two_at hx with ⟨rfl, rfl⟩ | ⟨rfl, rfl⟩ <;> exact ⟨by assumption, by assumption⟩⟩, ⟨m, D, l, c, rfl, hi⟩, KI.st z, ok⟩
theorem SC.run {c : Code} {a : Act} {W : World} (h : SC B N w0 c fr Q) (hf : Fr B N w0 fr a W) : c.wp Tryd.prog Q a W := h a W hf
def OpsAre (fr : List (Nat × AV)) : List (Operand × Value) → Prop
 | [] => True
 | (x, v) :: l => opv fr x = some (.vl v) ∧ OpsAre fr l
def RhoAre (ρ : Operand → Value) : List (Operand × Value) → Prop
 | [] => True
 | (x, v) :: l => ρ x = v ∧ RhoAre ρ l
theorem rho_of {a : Act} {W : World} (hf : Fr B N w0 fr a W) : ∀ {l : List (Operand × Value)}, OpsAre fr l → RhoAre a.eval l
 | [], _ => trivial
 | (x, v) :: l, h => ⟨opv_vl hf h.1, rho_of hf h.2⟩
theorem PW.qn {ops : Array Oper} {o : Oper} {rest : List Oper} {d : Nat} (l : List (Operand × Value)) (v : Value) (hw : wantB ops fr o = some true) (hd : o.dst = some d) (hN : Nat.blt d N = true) (hx : OpsAre fr l) (h : ∀ (ρ : Operand → Value) (W : World), RhoAre ρ l → (execOp ρ o).run Tryd.prog W = .ok (.value v) W) (hk : PW B N w0 ops rest ((d, .vl v) :: fr) Q) : PW B N w0 ops (o :: rest) fr Q :=
 PW.val (r := .vl v) hw hd hN rfl (fun a W hf => ⟨v, h _ W (rho_of hf hx), rfl⟩) hk
end
/-! ### Rows -/
def AV.calm : AV → Bool
 | .vl _ => true
 | .nb _ => true
 | .ro _ _ _ _ => true
 | .rx _ _ _ => true
 | .bc _ _ _ => true
 | _ => false
def calmB : List (Nat × AV) → Bool
 | [] => true
 | (_, v) :: l => v.calm && calmB l
theorem calm_look : ∀ {fr : List (Nat × AV)}, calmB fr = true → ∀ s v, look fr s = some v → v.calm = true
 | [], _, s, v, h => by cases h
 | (j, u) :: l, hc, s, v, h => by
  unfold calmB at hc
  rw [Bool.and_eq_true] at hc
  rw [look_cons] at h
  by_cases e : j = s
  ·rw [if_pos e] at h; injection h with h; subst h; exact hc.1
  ·rw [if_neg e] at h; exact calm_look hc.2 s v h
section
variable {B N : Nat} {w0 : World} {fr : List (Nat × AV)}
theorem Ho.calm {v : AV} {u : Value} {W W' : World} {q : Nat} (hc : v.calm = true) (h : Ho B v u W) (k : W.grownBy W' (some q)) (hne : v.blk u ≠ some q) : Ho B v u W' := by
 cases v with
 | vl v => exact h
 | nb b =>
  obtain ⟨p, x, e, hp, hh, ok⟩ := h
  subst e
  have : p ≠ q := fun e2 => hne (by rw [e2]; rfl)
  exact ⟨p, x, rfl, hp, hh.same (k.block p (hh.lt ok) (fun e => this (by injection e))), ok⟩
 | ro v e f zs => exact OwF.off h k hne
 | rx e f p => obtain ⟨zs, h1, h2⟩ := h; exact ⟨zs, OwF.off h1 k hne, h2⟩
 | bc b p v =>
  obtain ⟨e, hh, ok⟩ := h
  have : p ≠ q := fun e2 => hne (by rw [e2]; rfl)
  exact ⟨e, hh.same (k.block p (hh.lt ok) (fun e => this (by injection e))), ok⟩
 | _ => cases hc
theorem Fr.rset {a : Act} {W : World} {K g n c i : Nat} {e : TypeId} {f : Int → Value} {zs : List Int} (h : Fr B N w0 fr a W) (hK : look fr K = some (.ro (.slice (some ⟨g, 0, none⟩) n c) e f zs)) (hc : calmB fr = true) (y : Int) : Fr B N w0 ((K, .ro (.slice (some ⟨g, 0, none⟩) n c) e f (zs.set i y)) :: fr) a (W.setCell ⟨g, i, none⟩ (f y)) := by
 have ho : OwF W B e f (.slice (some ⟨g, 0, none⟩) n c) zs := h.ho K _ hK
 have hgr : W.grownBy (W.setCell ⟨g, i, none⟩ (f y)) (some g) := OwF.grew ho i _
 have hB : B ≤ g := ho.ge
 refine ⟨h.df, h.sz, Below.grown h.be hgr h.bs (fun k e => by injection e with e; omega), by simpa [World.setCell] using h.bs, fun j v hj => ?_, fun j l v v' p hjl hj hl => ?_⟩
 ·rw [look_cons] at hj
  by_cases e' : K = j
  ·rw [if_pos e'] at hj
   injection hj with hj
   subst hj
   exact OwF.set ho i y
  ·rw [if_neg e'] at hj
   exact Ho.calm (calm_look hc j v hj) (h.ho j v hj) hgr (h.di K j _ v g e' hK hj rfl)
 ·rw [look_cons] at hj hl
  by_cases e1 : K = j
  ·have e2 : K ≠ l := fun x => hjl (e1.symm.trans x)
   rw [if_pos e1] at hj
   rw [if_neg e2] at hl
   injection hj with hj
   subst hj
   intro x
   injection x with x
   subst x
   exact h.di K l _ v' g e2 hK hl rfl
  ·rw [if_neg e1] at hj
   by_cases e2 : K = l
   ·rw [if_pos e2] at hl
    injection hl with hl
    subst hl
    intro x y2
    injection y2 with y2
    subst y2
    exact h.di K j _ v g e1 hK hj rfl x
   ·rw [if_neg e2] at hl; exact h.di j l v v' p hjl hj hl
end
end Go.Proofs.YthpjmhhfcechmaaDoor.Sy
/- A walk by rules: statements that draw their order, with whatever stores and new boxes: what is known behind some of the operations hangs on which of them were carried out, not on their order. -/
namespace Go.Proofs.YthpjmhhfcechmaaDoor.Sy
open Go Go.RowKit Ma
inductive Eff
 | val (d : Nat) (r : AV)
 | new (d : Nat) (b : BT)
 | put (s : Nat) (b : BT) (r : AV)
 | rput (K g n c : Nat) (e : TypeId) (f : Int → Value) (zs : List Int) (i : Nat) (y : Int)
 | row (d : Nat) (e : TypeId) (f : Int → Value) (p : List Int → Prop)
 | gs (d : Nat) (e : TypeId) (s n : Nat) (R : List Value → World → Prop)
def Eff.ent : Eff → Nat × AV
 | .val d r => (d, r)
 | .new d b => (d, .nb b)
 | .put s b r => (s, .bx b r.of)
 | .rput K g n c e f zs i y => (K, .ro (.slice (some ⟨g, 0, none⟩) n c) e f (zs.set i y))
 | .row d e f p => (d, .rx e f p)
 | .gs d e s n R => (d, .rz e s n R)
def cur : Nat → List Eff → (Nat → Bool) → List (Nat × AV) → List (Nat × AV)
 | _, [], _, fr => fr
 | i, e :: es, L, fr => cur (i + 1) es L (if L i then e.ent :: fr else fr)
theorem Fr.ext {B N : Nat} {w0 : World} {fr fr' : List (Nat × AV)} {a : Act} {W : World} (h : Fr B N w0 fr a W) (e : ∀ s, look fr' s = look fr s) : Fr B N w0 fr' a W :=
 ⟨h.df, h.sz, h.be, h.bs, fun i v hi => h.ho i v (by rw [← e]; exact hi), fun i j b b' p hij hi hj => h.di i j b b' p hij (by rw [← e]; exact hi) (by rw [← e]; exact hj)⟩
theorem Fr.sub {B N : Nat} {w0 : World} {fr fr' : List (Nat × AV)} {a : Act} {W : World} (h : Fr B N w0 fr a W) (e : ∀ s v, look fr' s = some v → look fr s = some v) : Fr B N w0 fr' a W :=
 ⟨h.df, h.sz, h.be, h.bs, fun i v hi => h.ho i v (e i v hi), fun i j b b' p hij hi hj => h.di i j b b' p hij (e i _ hi) (e j _ hj)⟩
/-! ### What an operation may look at -/
/-! ### What each operation does -/
section
variable {B N : Nat} {w0 : World} {ops : Array Oper} {o : Oper} {fr : List (Nat × AV)}
end
section
variable {B N : Nat} {w0 : World} {ops : Array Oper} {o : Oper} {fr : List (Nat × AV)} {d : Nat}
end
end Go.Proofs.YthpjmhhfcechmaaDoor.Sy
/- A walk by rules: loops; a field of a box; the beginning of a function. -/
namespace Go.Proofs.YthpjmhhfcechmaaDoor.Sy
open Go Go.RowKit Ma
def Sub : List (Nat × AV) → List (Nat × AV) → Prop
 | [], _ => True
 | (i, v) :: l, fr => look fr i = some v ∧ Sub l fr
theorem Sub.spec {fr : List (Nat × AV)} : ∀ {l : List (Nat × AV)}, Sub l fr → ∀ s v, look l s = some v → look fr s = some v
 | [], _, s, v, h => by cases h
 | (i, u) :: l, hs, s, v, h => by
  rw [look_cons] at h
  by_cases e : i = s
  ·rw [if_pos e] at h; injection h with h; subst h e; exact hs.1
  ·rw [if_neg e] at h; exact hs.2.spec s v h
section
variable {B N : Nat} {w0 : World} {ops : Array Oper} {o o2 : Oper} {rest : List Oper} {fr : List (Nat × AV)} {Q : Exit → Act → World → Prop} {d : Nat}
def Bk {S : Type} (B N : Nat) (w0 : World) (F : S → List (Nat × AV)) (P : S → Prop) (μ : S → Nat) (n : Nat) (a : Act) (W : World) : Prop := ∃ s', P s' ∧ μ s' < n ∧ Fr B N w0 (F s') a W
theorem SC.loop {c : Code} {S : Type} (F : S → List (Nat × AV)) (P : S → Prop) (μ : S → Nat) (s0 : S) (p0 : P s0) (h0 : Sub (F s0) fr)
  (round : ∀ s, P s → SC B N w0 c (F s) (Exit.then (Bk B N w0 F P μ (μ s)) Q)) : SC B N w0 (.loop c) fr Q := fun a W hf => by
 refine wp_loop_ghost (fun n a w => ∃ s, P s ∧ μ s = n ∧ Fr B N w0 (F s) a w) (μ s0) ⟨s0, p0, rfl, hf.sub h0.spec⟩ ?_
 rintro n a w ⟨s, hp, rfl, hf⟩
 refine wp_mono (round s hp a w hf) fun e a' w' hq => ?_
 cases e with
 | normal => obtain ⟨s', h1, h2, h3⟩ := hq; exact ⟨μ s', h2, s', h1, rfl, h3⟩
 | exit id => exact hq
 | goto l => exact hq
 | ret => exact hq
 | panic ch => exact hq
 | outgrown => exact hq
theorem SX.back {S : Type} {F : S → List (Nat × AV)} {P : S → Prop} {μ : S → Nat} {n : Nat} (s' : S) (hp : P s') (hm : μ s' < n) (hs : Sub (F s') fr) : SX B N w0 .normal fr (Exit.then (Bk B N w0 F P μ n) Q) :=
 fun a W hf => ⟨s', hp, hm, hf.sub hs.spec⟩
end
/-! ### The beginning of a function -/
def ini : Nat → List AV → List (Nat × AV)
 | _, [] => []
 | i, v :: l => (i, v) :: ini (i + 1) l
def AllA (B : Nat) : List AV → List Value → World → Prop
 | [], [], _ => True
 | v :: l, u :: us, W => Ho B v u W ∧ v.isBx = false ∧ AllA B l us W
 | _, _, _ => False
theorem look_ini : ∀ (l : List AV) (i s : Nat) (v : AV), look (ini i l) s = some v → ∃ k, s = i + k ∧ l[k]? = some v
 | [], _, _, _, h => by cases h
 | x :: l, i, s, v, h => by
  unfold ini at h
  rw [look_cons] at h
  by_cases e : i = s
  ·rw [if_pos e] at h; exact ⟨0, by omega, by simpa using h⟩
  ·rw [if_neg e] at h
   obtain ⟨k, h1, h2⟩ := look_ini l (i + 1) s v h
   exact ⟨k + 1, by omega, by simpa using h2⟩
theorem AllA.at {B : Nat} {W : World} : ∀ {l : List AV} {us : List Value}, AllA B l us W → ∀ {k : Nat} {v : AV}, l[k]? = some v → ∃ u, us[k]? = some u ∧ Ho B v u W ∧ v.isBx = false
 | [], [], _, k, v, h => by simp at h
 | x :: l, u :: us, hh, 0, v, h => by
  have : x = v := by simpa using h
  subst this
  exact ⟨u, rfl, hh.1, hh.2.1⟩
 | x :: l, u :: us, hh, k + 1, v, h => by
  obtain ⟨u', h1, h2⟩ := AllA.at hh.2.2 (k := k) (by simpa using h)
  exact ⟨u', by simpa using h1, h2⟩
 | [], _ :: _, hh, _, _, _ => hh.elim
 | _ :: _, [], hh, _, _, _ => hh.elim
theorem Fr.ini {B N : Nat} {w : World} {l : List AV} {us : List Value} (h : AllA B l us w) (hB : B = w.heap.size) (n : Nat) (hN : us.length + n = N) : Fr B N w (ini 0 l) ⟨us.toArray ++ Array.replicate n undef, []⟩ w := by
 refine ⟨rfl, by simp [hN], hB ▸ Below.refl _ _, by omega, fun i v hi => ?_, fun i j b b' p hij hi hj e => ?_⟩
 ·obtain ⟨k, rfl, hk⟩ := look_ini l 0 i v hi
  rw [Nat.zero_add]
  obtain ⟨u, hu, hv, _⟩ := h.at hk
  have hlt := (List.getElem?_eq_some_iff.1 hu).1
  have : (us.toArray ++ Array.replicate n undef).getD k undef = u := by
   simp only [Array.getD_eq_getD_getElem?]
   rw [Array.getElem?_append_left (by simpa using hlt)]
   simp [hu]
  show Ho B v ((us.toArray ++ Array.replicate n undef).getD k undef) w
  rw [this]; exact hv
 ·obtain ⟨k1, _, hk1⟩ := look_ini l 0 i _ hi
  obtain ⟨u, _, _, h3⟩ := h.at hk1
  rw [AV.blk_no h3] at e
  cases e
def StA : List AV → Prop
 | [] => True
 | v :: l => St v.of ∧ v.isBx = false ∧ StA l
theorem AllA.of {B : Nat} {W : World} : ∀ {l : List AV} {us : List Value}, StA l → All (l.map AV.of) us W → AllA B l us W
 | [], [], _, _ => trivial
 | v :: l, u :: us, hs, h => ⟨Ho.mk hs.2.1 h.1 hs.1, hs.2.1, AllA.of hs.2.2 h.2⟩
 | [], _ :: _, _, h => h.elim
 | _ :: _, [], _, h => h.elim
theorem All.len {W : World} : ∀ {ks : List Know} {us : List Value}, All ks us W → us.length = ks.length
 | [], [], _ => rfl
 | _ :: _, _ :: _, h => by simp [All.len h.2]
 | [], _ :: _, h => h.elim
 | _ :: _, [], h => h.elim
theorem CallOk.enter {f : FuncId} {fn : Func} {c : Code} {l : List AV} {r : Know} (N : Nat) (ce : CE f) (hf : Tryd.prog.funcs[f]? = some fn) (hb : fn.body = some c) (hn : fn.ntmps = N) (hN : l.length ≤ N) (hs : StA l)
  (h : ∀ w : World, SC w.heap.size N w c (ini 0 l) (bodyPost Tryd.prog fn (Ret w r))) : CallOk f (l.map AV.of) r := ⟨ce, fun W us hu => by
 have hl := hu.len
 rw [List.length_map] at hl
 refine calls_of_wp hf hb ?_
 have := Fr.ini (AllA.of (B := W.heap.size) hs hu) rfl (N - us.length) (N := N) (by omega)
 simp only [List.size_toArray, hn]
 exact h W _ _ this⟩
/-! ### Results -/
section
variable {B N : Nat} {w0 : World} {fr : List (Nat × AV)} {fn : Func}
theorem run_cell {b : BT} {p : Nat} {v : Value} {W : World} (ok : b.Ok) (h : Holds b p v W) : (loadVar b.T ⟨p, 0, none⟩).run Tryd.prog W = .ok v W := by
 obtain ⟨cs, hs, hc⟩ := h
 have := ok.load v cs W p hs fun i x hx => (hc i x hx).1
 unfold Instr.loadAt at this
 generalize loadVar = G at this ⊢
 simpa [Instr.sureAddr, go_sem] using this
theorem SX.done2 {e : Exit} {s t : Nat} {b : BT} {k : Know} {r : AV} (he : e = .ret ∨ e = .normal) (hr : fn.results = #[.cell s b.T, .tmp t]) (hs : look fr s = some (.bx b k)) (ht : opv fr (.tmp t) = some r) (hB : B = w0.heap.size) : SX B N w0 e fr (bodyPost Tryd.prog fn (Ret w0 (K2 k r.of))) := fun a W hf => by
 obtain ⟨p, v, ep, _, hh, hv, st, ok⟩ := hf.ho s _ hs
 have h1 := opv_spec hf ht
 have hrun : (results fn a.tmps).run Tryd.prog W = .ok (.tuple #[v, a.tmps.getD t undef]) W := by
  have := run_cell ok hh
  have ep' : a.tmps[s]?.getD undef = ptr p := by simpa [Array.getD_eq_getD_getElem?] using ep
  unfold results
  generalize loadVar = G at this ⊢
  simp [hr, go_sem, ep', asAddr, this]
 have key : a.defers = [] ∧ ∃ v, (results fn a.tmps).run Tryd.prog W = .ok v W ∧ Ret w0 (K2 k r.of) (.returned v) W :=
  ⟨hf.df, _, hrun, ⟨_, rfl, ⟨v, _, rfl, hv, (h1.1.of h1.2).1⟩, by have := hf.be; rw [hB] at this; exact this⟩⟩
 rcases he with rfl | rfl <;> exact key
end
/-! ### Fields of a box of a sign and a slice -/
theorem zeroI (B : Nat) (w0 : World) (W : World) : Ho B (.kw (KI 0)) (.agg #[.bool false, .slice none 0 0]) W := ⟨⟨_, _, _, _, rfl, RI.zero _⟩, KI.st 0⟩
end Go.Proofs.YthpjmhhfcechmaaDoor.Sy
/- A walk by rules: rows of numbers. -/
namespace Go.Proofs.YthpjmhhfcechmaaDoor.Sy
open Go Go.RowKit Ma
section
variable {B N : Nat} {w0 : World} {ops : Array Oper} {o : Oper} {rest : List Oper} {fr : List (Nat × AV)} {Q : Exit → Act → World → Prop} {d : Nat}
theorem PW.callG {c : Call} {f : FuncId} {r : AV} (ce : CE f) (hw : wantB ops fr o = some true) (hd : o.dst = some d) (hN : Nat.blt d N = true) (ho : o.op = .call c) (hc : c.callee = .value (.func f)) (hst : St r.of) (hr : r.isBx = false)
  (h : ∀ a W, Fr B N w0 fr a W → Calls Tryd.prog f (c.args.toList.map a.eval).toArray W (Ret W r.of)) (hk : PW B N w0 ops rest ((d, r) :: fr) Q) : PW B N w0 ops (o :: rest) fr Q :=
 PW.step hw fun a W hf K hK => by
  obtain ⟨dst, op, ty, pos, after, guard⟩ := o
  simp only at ho hd
  subst ho
  subst hd
  unfold Oper.wp
  rw [run_call ce hc a.eval rfl ty W]
  simp only [Oper.upon]
  have e0 : (c.args.toList.map a.eval).toArray = c.args.map a.eval := by rw [← Array.toList_map]
  have h0 := h a W hf
  rw [e0] at h0
  refine h0.mono fun e W' ⟨v, he, hv, hn⟩ => ?_
  subst he
  exact hK _ _ (hk _ _ ((hf.nw hn).set hN (Ho.mk hr hv hst) hr))
end
end Go.Proofs.YthpjmhhfcechmaaDoor.Sy
/- A walk by rules: operations on numbers and rows, each said once. -/
namespace Go.Proofs.YthpjmhhfcechmaaDoor.Sy
open Go Go.RowKit Ma
section
variable {x y : Operand} {dst : Option Tmp} {ty : TypeId} {pos : String} {after : Array Edge} {guard : Option (Nat × Bool)} {ρ : Operand → Value} {W : World} {a b c : Int}
theorem r_idx {g n cap i : Nat} (h1 : ρ x = .slice (some ⟨g, 0, none⟩) n cap) (h2 : ρ y = .int .i64 (i : Int)) (hi : i < n) : (execOp ρ ⟨dst, .indexAddr 22 x y, ty, pos, after, guard⟩).run Tryd.prog W = .ok (.value (.pointer (some ⟨g, i, none⟩))) W := by
 go_simp
theorem r_add {z : Int} (h1 : ρ x = .int .i64 a) (h2 : ρ y = .int .i64 b) (e : a + b = z) (hz : -9223372036854775808 ≤ z ∧ z < 9223372036854775808) : (execOp ρ ⟨dst, .binOp .add 3 x y 3, ty, pos, after, guard⟩).run Tryd.prog W = .ok (.value (.int .i64 z)) W := by
 subst e
 go_simp
 exact IntWalk.i64_in _ (by omega)
theorem r_quo {z : Int} (h1 : ρ x = .int .i64 a) (h2 : ρ y = .int .i64 b) (e : a / b = z) (ha : 0 ≤ a ∧ a < 9223372036854775808) (hb : 0 < b) : (execOp ρ ⟨dst, .binOp .quo 3 x y 3, ty, pos, after, guard⟩).run Tryd.prog W = .ok (.value (.int .i64 z)) W := by
 subst e
 have e1 : a.tdiv b = a / b := Int.tdiv_eq_ediv_of_nonneg ha.1
 have e3 : a / b ≤ a := Int.ediv_le_self _ ha.1
 have e4 := Int.ediv_nonneg ha.1 (Int.le_of_lt hb)
 have e : IntKind.i64.wrap (a / b) = a / b := IntWalk.i64_in _ (by omega)
 have e2 : ¬ b = 0 := by omega
 clear ha hb e3 e4
 go_simp
 first | done | rw [if_neg e2, e1, e]
theorem r_rem {z : Int} (h1 : ρ x = .int .i64 a) (h2 : ρ y = .int .i64 b) (e : a % b = z) (ha : 0 ≤ a ∧ a < 9223372036854775808) (hb : 0 < b) : (execOp ρ ⟨dst, .binOp .rem 3 x y 3, ty, pos, after, guard⟩).run Tryd.prog W = .ok (.value (.int .i64 z)) W := by
 subst e
 have e1 : a.tmod b = a % b := Int.tmod_eq_emod_of_nonneg ha.1
 have e3 : a % b ≤ a := by have a1 := Int.mul_ediv_add_emod a b; have a2 := Int.mul_nonneg (Int.le_of_lt hb) (Int.ediv_nonneg ha.1 (Int.le_of_lt hb)); omega
 have e4 := Int.emod_nonneg a (Int.ne_of_gt hb)
 have e : IntKind.i64.wrap (a % b) = a % b := IntWalk.i64_in _ (by omega)
 have e2 : ¬ b = 0 := by omega
 clear ha hb e3 e4
 go_simp
 first | done | rw [if_neg e2, e1, e]
theorem r_lt {t : Bool} (h1 : ρ x = .int .i64 a) (h2 : ρ y = .int .i64 b) (e : decide (a < b) = t) : (execOp ρ ⟨dst, .binOp .lss 3 x y 3, ty, pos, after, guard⟩).run Tryd.prog W = .ok (.value (.bool t)) W := by
 subst e
 go_simp
theorem r_ge {t : Bool} (h1 : ρ x = .int .i64 a) (h2 : ρ y = .int .i64 b) (e : decide (a ≥ b) = t) : (execOp ρ ⟨dst, .binOp .geq 3 x y 3, ty, pos, after, guard⟩).run Tryd.prog W = .ok (.value (.bool t)) W := by
 subst e
 go_simp
theorem r_gt {t : Bool} (h1 : ρ x = .int .i64 a) (h2 : ρ y = .int .i64 b) (e : decide (a > b) = t) : (execOp ρ ⟨dst, .binOp .gtr 3 x y 3, ty, pos, after, guard⟩).run Tryd.prog W = .ok (.value (.bool t)) W := by
 subst e
 go_simp
theorem r_gt6 {t : Bool} (h1 : ρ x = .int .u64 a) (h2 : ρ y = .int .u64 b) (e : decide (a > b) = t) : (execOp ρ ⟨dst, .binOp .gtr 64 x y 64, ty, pos, after, guard⟩).run Tryd.prog W = .ok (.value (.bool t)) W := by
 subst e
 go_simp
theorem r_64 (h1 : ρ x = .int .u32 a) (h : 0 ≤ a ∧ a < 4294967296) : (execOp ρ ⟨dst, .convert 56 64 x, ty, pos, after, guard⟩).run Tryd.prog W = .ok (.value (.int .u64 a)) W := by
 have e : IntKind.u64.wrap a = a := IntWalk.u64_in _ (by omega)
 go_simp
 done
theorem r_32 (h1 : ρ x = .int .u64 a) : (execOp ρ ⟨dst, .convert 64 56 x, ty, pos, after, guard⟩).run Tryd.prog W = .ok (.value (.int .u32 (a % 4294967296))) W := by
 have e := IntKind.wrap_u32 a
 go_simp
 done
theorem r_add6 {z : Int} (h1 : ρ x = .int .u64 a) (h2 : ρ y = .int .u64 b) (ez : a + b = z) (h : 0 ≤ z ∧ z < 18446744073709551616) : (execOp ρ ⟨dst, .binOp .add 64 x y 64, ty, pos, after, guard⟩).run Tryd.prog W = .ok (.value (.int .u64 z)) W := by
 subst ez
 have e : IntKind.u64.wrap (a + b) = a + b := IntWalk.u64_in _ (by omega)
 go_simp
 done
theorem r_mul6 {z : Int} (h1 : ρ x = .int .u64 a) (h2 : ρ y = .int .u64 b) (ez : a * b = z) (h : 0 ≤ z ∧ z < 18446744073709551616) : (execOp ρ ⟨dst, .binOp .mul 64 x y 64, ty, pos, after, guard⟩).run Tryd.prog W = .ok (.value (.int .u64 z)) W := by
 subst ez
 have e : IntKind.u64.wrap (a * b) = a * b := IntWalk.u64_in _ (by omega)
 go_simp
 done
theorem r_32z {z : Int} (h1 : ρ x = .int .u64 a) (e : a % 4294967296 = z) : (execOp ρ ⟨dst, .convert 64 56 x, ty, pos, after, guard⟩).run Tryd.prog W = .ok (.value (.int .u32 z)) W := e ▸ r_32 h1
theorem r_dn32 (h1 : ρ x = .int .u64 a) (h2 : ρ y = .int .u64 32) : (execOp ρ ⟨dst, .binOp .shr 64 x y 65, ty, pos, after, guard⟩).run Tryd.prog W = .ok (.value (.int .u64 (a / 4294967296))) W := by
 go_simp
 done
theorem r_len {A : Option Addr} {n cap : Nat} (h1 : ρ x = .slice A n cap) : (execOp ρ ⟨dst, .call ⟨.builtin .len, #[x], #[22]⟩, ty, pos, after, guard⟩).run Tryd.prog W = .ok (.value (.int .i64 (n : Int))) W := by
 go_simp
 done
end
theorem r_l32 (W : World) (p : Addr) (x : Int) (h : W.cell? p = some (.int .u32 x)) : (Instr.loadAt 56 (.pointer (some p))).run Tryd.prog W = .ok (.int .u32 x) W := by
 go_simp
theorem r_s32 (W : World) (p : Addr) (x y : Int) (h : W.cell? p = some (.int .u32 x)) (hf : W.frozen? p = false) : (Instr.storeAt 56 (.pointer (some p)) (.int .u32 y)).run Tryd.prog W = .ok () (W.setCell p (.int .u32 y)) := by
 go_simp
section
variable {B N : Nat} {w0 : World} {ops : Array Oper} {o : Oper} {rest : List Oper} {fr : List (Nat × AV)} {Q : Exit → Act → World → Prop} {d : Nat}
theorem Fr.vl {a : Act} {W : World} {s : Nat} {v : Value} (h : Fr B N w0 fr a W) (hs : look fr s = some (.vl v)) : a.tmps.getD s undef = v := h.ho s _ hs
theorem Fr.rgrow {a : Act} {W W' : World} {K g0 : Nat} {v v' : Value} {e : TypeId} {f : Int → Value} {zs zs' : List Int} (h : Fr B N w0 fr a W) (hK : look fr K = some (.ro v e f zs)) (hc : calmB fr = true) (hgr : W.grownBy W' v.ownBlock) (hown : OwF W' B e f v' zs') (hat : v'.ownBlock = v.ownBlock ∨ v'.ownBlock = some g0) (hg0 : W.heap.size ≤ g0) : Fr B N w0 ((K, .ro v' e f zs') :: fr) a W' := by
 have ho : OwF W B e f v zs := h.ho K _ hK
 have keep : ∀ j x, K ≠ j → look fr j = some x → Ho B x (a.tmps.getD j undef) W' := fun j x e' hj => by
  cases hv : v.ownBlock with
  | none =>
   rw [hv] at hgr
   exact (h.ho j x hj).nw ⟨hgr.os, hgr.tape, hgr.output, hgr.size, fun k hk => hgr.block k hk (fun e => by cases e)⟩
  | some q =>
   rw [hv] at hgr
   exact Ho.calm (calm_look hc j x hj) (h.ho j x hj) hgr (h.di K j _ x q e' hK hj hv)
 have size : W.heap.size ≤ W'.heap.size := hgr.size
 refine ⟨h.df, h.sz, Below.grown h.be hgr h.bs (fun k e => ho.base k e), Nat.le_trans h.bs size, fun j x hj => ?_, fun j l x x' p hjl hj hl => ?_⟩
 ·rw [look_cons] at hj
  by_cases e' : K = j
  ·rw [if_pos e'] at hj
   injection hj with hj
   subst hj
   exact hown
  ·rw [if_neg e'] at hj; exact keep j x e' hj
 ·rw [look_cons] at hj hl
  have new : ∀ l x', K ≠ l → look fr l = some x' → v'.ownBlock = some p → x'.blk (a.tmps.getD l undef) ≠ some p := fun l x' hKl hl hp y => by
   rcases hat with h1 | h1
   ·exact h.di K l _ x' p hKl hK hl (h1.symm.trans hp) y
   ·have e1 : g0 = p := by rw [h1] at hp; injection hp
    have := (h.ho l x' hl).blk y
    omega
  by_cases e1 : K = j
  ·have e2 : K ≠ l := fun x => hjl (e1.symm.trans x)
   rw [if_pos e1] at hj
   rw [if_neg e2] at hl
   injection hj with hj
   subst hj
   exact fun x => new l x' e2 hl x
  ·rw [if_neg e1] at hj
   by_cases e2 : K = l
   ·rw [if_pos e2] at hl
    injection hl with hl
    subst hl
    exact fun x y => new j _ e1 hj y x
   ·rw [if_neg e2] at hl; exact h.di j l x x' p hjl hj hl
theorem PW.app {o2 : Oper} {T e : TypeId} {K s d2 by_ : Nat} {v : Value} {f : Int → Value} {zs : List Int} (news : List Int) (hw : wantB ops fr o = some true) (hd : o.dst = some d) (hN : Nat.blt d N = true)
  (hq : ∀ a W, Fr B N w0 fr a W → (execOp a.eval o).run Tryd.prog W = .ok (.value (.slice (some ⟨W.heap.size, 0, none⟩) news.length news.length)) (W.alloc (.cells (news.map f).toArray e)))
  (hg : o2.guard = none) (hd2 : o2.dst = some d2) (hN2 : Nat.blt d2 N = true) (ho : o2.op = .call { callee := .builtin .append, args := #[.tmp s, .tmp d], argTypes := #[T, T] }) (hs : look fr s = some (.vl v)) (hsd : Nat.beq d s = false) (hK : look fr K = some (.ro v e f zs)) (hc : calmB fr = true)
  (hu : Tryd.prog.underlying T = some (.slice e)) (hi : (Tryd.prog.info? e).map (fun i => (i.zero, i.size, i.bytes)) = some (some (f 0), 1, by_)) (hz : (f 0).cells.size = 1) (h1c : ∀ x, (f x).oneCell' = true) (hn : zs.length + news.length ≤ maxLen) (hb : (zs.length + news.length) * by_ ≤ 140737488355328)
  (hKN : Nat.ble N K = true) (hk : ∀ v' u, PW B N w0 ops rest ((K, .ro v' e f (zs ++ news)) :: (d2, .vl v') :: (d, .vl u) :: fr) Q) : PW B N w0 ops (o :: o2 :: rest) fr Q :=
 PW.step hw fun a W hf K' hK' => by
  unfold Oper.wp
  rw [hq a W hf, Oper.upon_value, hd]
  have hf1 := (hf.nw ((Nw.refl W).alloc (.cells (news.map f).toArray e))).set (v := .vl (.slice (some ⟨W.heap.size, 0, none⟩) news.length news.length)) hN (u := .slice (some ⟨W.heap.size, 0, none⟩) news.length news.length) rfl rfl
  refine hK' _ _ ?_
  have hds : ¬ d = s := fun e => by subst e; simp at hsd
  have hls : look ((d, .vl (.slice (some ⟨W.heap.size, 0, none⟩) news.length news.length)) :: fr) s = some (.vl v) := by rw [look_cons, if_neg hds]; exact hs
  have hlK : look ((d, .vl (.slice (some ⟨W.heap.size, 0, none⟩) news.length news.length)) :: fr) K = some (.ro v e f zs) := by
   have hdK : ¬ d = K := fun e => by subst e; simp [Nat.blt_eq] at hN hKN; omega
   rw [look_cons, if_neg hdK]; exact hK
  have hc1 : calmB ((d, .vl (.slice (some ⟨W.heap.size, 0, none⟩) news.length news.length)) :: fr) = true := hc
  generalize hW1 : W.alloc (.cells (news.map f).toArray e) = W1 at hf1 ⊢
  have s1 : (a.put (some d) (.slice (some ⟨W.heap.size, 0, none⟩) news.length news.length)).eval (.tmp s) = v := hf1.ho s _ hls
  have s2 : (a.put (some d) (.slice (some ⟨W.heap.size, 0, none⟩) news.length news.length)).eval (.tmp d) = .slice (some ⟨W.heap.size, 0, none⟩) news.length news.length := hf1.vl (s := d) (by rw [look_cons, if_pos rfl])
  obtain ⟨i0, q1, q2, q3, q4⟩ := info_parts hi
  have own : W1.ownsRow B e 1 v zs.length (zs.map f) := hf1.ho K _ hlK
  obtain ⟨v', W2, r1, r2, r3, _, r5⟩ := run_append_own_at (P := Tryd.prog) W1 B T o2.type e i0 (f 0) 1 by_ hu q1 q2 q3 q4 hz (by decide) v zs.length (zs.map f) own ⟨W.heap.size, 0, none⟩ news.length news.length (news.map f) (by simp) (fun j u hj => by
   rw [← hW1, add_at]
   rw [World.cell?_alloc_at _ _ _ _ rfl]
   simpa using hj) (fun u hu => by obtain ⟨x, _, rfl⟩ := List.mem_map.1 hu; exact h1c x) hn hb hf1.bs
  refine wpList_step fun K2 hK2 => ?_
  rw [if_pos (by simp [Region.wanted, hg])]
  have e2 : (execOp (a.put (some d) (.slice (some ⟨W.heap.size, 0, none⟩) news.length news.length)).eval o2).run Tryd.prog W1 = .ok (.value v') W2 := by
   unfold execOp
   simp only [ho, resolve, invoke, builtin, Sem.run_bind, Sem.run_pure, Result.andThen_ok, List.map_toArray, List.map_cons, List.map_nil, s1, s2, r1]
  unfold Oper.wp
  rw [e2, Oper.upon_value, hd2]
  have own2 : OwF W2 B e f v' (zs ++ news) := by
   unfold OwF
   rw [List.length_append, List.map_append]
   exact r2
  have hf2 := hf1.rgrow hlK hc1 r3 own2 r5 (Nat.le_refl _)
  have hf3 := hf2.set (v := .vl v') hN2 (u := v') rfl rfl
  refine hK2 _ _ (hk v' (.slice (some ⟨W.heap.size, 0, none⟩) news.length news.length) _ _ (hf3.ext fun s' => ?_))
  have hdK : ¬ d2 = K := fun e => by subst e; simp [Nat.blt_eq] at hN2 hKN; omega
  simp only [look_cons]
  by_cases a1 : K = s'
  ·subst a1; rw [if_pos rfl, if_neg hdK, if_pos rfl]
  ·rw [if_neg a1, if_neg a1]
end
end Go.Proofs.YthpjmhhfcechmaaDoor.Sy
/- A walk by rules: slices that came in; digits of the reference. -/
namespace Go.Proofs.YthpjmhhfcechmaaDoor.Sy
open Go Go.RowKit Ma
def padd (A : Option Addr) (i : Nat) : Option Addr := A.map (·.add i)
section
variable {x y : Operand} {dst : Option Tmp} {ty : TypeId} {pos : String} {after : Array Edge} {guard : Option (Nat × Bool)} {ρ : Operand → Value} {W : World} {a b c : Int}
end
theorem Fr.nilrow {B N : Nat} {w0 : World} {fr : List (Nat × AV)} {a : Act} {W : World} (K : Nat) (e : TypeId) (f : Int → Value) (h : Fr B N w0 fr a W) : Fr B N w0 ((K, .ro (.slice none 0 0) e f []) :: fr) a W :=
 h.more (World.ownsRow_nil W B e 1) fun j v' p hj e1 e2 => by cases e1
section
variable {B N : Nat} {w0 : World} {ops : Array Oper} {o : Oper} {rest : List Oper} {fr : List (Nat × AV)} {Q : Exit → Act → World → Prop} {d : Nat}
def KR (base : Nat) (e : TypeId) (k : IntKind) (p : List Int → Prop) : Know := fun v W => ∃ zs, Own W base e k v zs ∧ p zs
theorem KR.l {base : Nat} {e : TypeId} {k : IntKind} {p : List Int → Prop} {v : Value} {W : World} (h : KR base e k p v W) : KL k p v W := by
 obtain ⟨zs, ho, hp⟩ := h
 obtain ⟨A, c, rfl, h1, h2⟩ := ho.rd
 exact ⟨zs, A, c, rfl, h1, h2, hp⟩
end
/-! ### Boxes at a place that is known -/
section
variable {B N : Nat} {w0 : World} {ops : Array Oper} {o : Oper} {rest : List Oper} {fr : List (Nat × AV)} {Q : Exit → Act → World → Prop} {d : Nat}
end
/-! ### The reference's digits -/
end Go.Proofs.YthpjmhhfcechmaaDoor.Sy
/- The reference's compare, plus, minus, times, by rules. -/
namespace Go.Proofs.YthpjmhhfcechmaaDoor.Sy
open Go Go.RowKit Ma
end Go.Proofs.YthpjmhhfcechmaaDoor.Sy
/- Powers: what their loop keeps, and how long they are. No program in sight. -/
namespace Go.Proofs.YthpjmhhfcechmaaDoor
open Go Go.RowKit Ma
end Go.Proofs.YthpjmhhfcechmaaDoor
/- Fields of the reference's integers in boxes; contracts of its digit functions in the form that the rules want. -/
namespace Go.Proofs.YthpjmhhfcechmaaDoor.Sy
open Go Go.RowKit Ma
section
variable {z : Int} {p : Nat}
end
section
variable {x y : Int} {a b : Nat}
end
end Go.Proofs.YthpjmhhfcechmaaDoor.Sy
/- A walk by rules: calls that hand back rows that may be nil; append of a row to a row. -/
namespace Go.Proofs.YthpjmhhfcechmaaDoor.Sy
open Go Go.RowKit Ma
section
variable {B N : Nat} {w0 : World} {ops : Array Oper} {o : Oper} {rest : List Oper} {fr : List (Nat × AV)} {Q : Exit → Act → World → Prop} {d : Nat}
end
end Go.Proofs.YthpjmhhfcechmaaDoor.Sy
/- A walk by rules: statements that draw their order, whose last operations wait for all else. -/
namespace Go.Proofs.YthpjmhhfcechmaaDoor.Sy
open Go Go.RowKit Ma
theorem least {L : Nat → Bool} {m : Nat} (h : ¬ ∀ j, j < m → L j = true) : ∃ k, k < m ∧ L k = false ∧ ∀ j, j < k → L j = true := by
 induction m with
 | zero => exact absurd (fun j hj => by omega) h
 | succ m ih =>
  by_cases h2 : ∀ j, j < m → L j = true
  ·refine ⟨m, by omega, ?_, h2⟩
   cases hm : L m with
   | false => rfl
   | true => exact absurd (fun j hj => by by_cases e : j = m; (subst e; exact hm); exact h2 j (by omega)) h
  ·obtain ⟨k, h3, h4, h5⟩ := ih h2
   exact ⟨k, by omega, h4, h5⟩
/-! ### Rows of the call's own, wherever they lie -/
section
variable {B N : Nat} {w0 : World} {ops : Array Oper} {o : Oper} {rest : List Oper} {fr : List (Nat × AV)} {Q : Exit → Act → World → Prop} {d : Nat}
end
/-! ### Boxes that hold just a value -/
section
variable {B N : Nat} {w0 : World} {ops : Array Oper} {o : Oper} {rest : List Oper} {fr : List (Nat × AV)} {Q : Exit → Act → World → Prop} {d : Nat}
end
/-! ### More operations on numbers -/
section
variable {x y : Operand} {dst : Option Tmp} {ty : TypeId} {pos : String} {after : Array Edge} {guard : Option (Nat × Bool)} {ρ : Operand → Value} {W : World} {a b c : Int}
end
end Go.Proofs.YthpjmhhfcechmaaDoor.Sy
/- The reference's Make, the law's Of and Is, by rules. -/
namespace Go.Proofs.YthpjmhhfcechmaaDoor.Sy
open Go Go.RowKit Ma
theorem dg32 {xs : List Int} (d : dg b32 xs) (i : Nat) : 0 ≤ at0 xs i ∧ at0 xs i < 4294967296 := dg_at d (by decide) i
section
variable {p : Nat} {m : Bool} {A : Option Addr} {l c : Nat}
end
end Go.Proofs.YthpjmhhfcechmaaDoor.Sy
/- The reference's divided, by rules. -/
namespace Go.Proofs.YthpjmhhfcechmaaDoor.Sy
open Go Go.RowKit Ma
end Go.Proofs.YthpjmhhfcechmaaDoor.Sy
/- The reference's Sign, Neg, Add, Sub, Mul, Cmp, by rules. -/
namespace Go.Proofs.YthpjmhhfcechmaaDoor.Sy
open Go Go.RowKit Ma
end Go.Proofs.YthpjmhhfcechmaaDoor.Sy
/- Three results; the reference's divided in the form that the rules want. -/
namespace Go.Proofs.YthpjmhhfcechmaaDoor.Sy
open Go Go.RowKit Ma
section
variable {B N : Nat} {w0 : World} {fr : List (Nat × AV)} {fn : Func}
end
end Go.Proofs.YthpjmhhfcechmaaDoor.Sy
/- The reference's Abs, Divide, by rules. -/
namespace Go.Proofs.YthpjmhhfcechmaaDoor.Sy
open Go Go.RowKit Ma
end Go.Proofs.YthpjmhhfcechmaaDoor.Sy
/- shifted: its own slice. -/
namespace Go.Proofs.YthpjmhhfcechmaaDoor
open Go Go.RowKit Ma
end Go.Proofs.YthpjmhhfcechmaaDoor
/- Long division of limbs: its rounds together. No program in sight. -/
namespace Go.Proofs.YthpjmhhfcechmaaDoor.Ma
section
variable {xs ys U0 vs : List Int} {s : Nat}
end
end Go.Proofs.YthpjmhhfcechmaaDoor.Ma
/- The contract of the program's long (division by at least two limbs), by rules. -/
namespace Go.Proofs.YthpjmhhfcechmaaDoor.Sy
open Go Go.RowKit Ma
end Go.Proofs.YthpjmhhfcechmaaDoor.Sy
/- The contract of the program's Divide, whole. -/
namespace Go.Proofs.YthpjmhhfcechmaaDoor
open Go.RowKit Ma

end Go.Proofs.YthpjmhhfcechmaaDoor
/- Divide, in the form that the rules want. -/
namespace Go.Proofs.YthpjmhhfcechmaaDoor
open Go.RowKit Ma
namespace Sy
open Go
variable {x y : Int} {a b : Nat}
end Sy
/-! ### Bounds of quotients -/
end Go.Proofs.YthpjmhhfcechmaaDoor
/- The reference's Gcd, by rules. -/
namespace Go.Proofs.YthpjmhhfcechmaaDoor.Sy
open Go Go.RowKit Ma
end Go.Proofs.YthpjmhhfcechmaaDoor.Sy
/- A walk by rules: the laws' first statements: what came in as plain data. -/
namespace Go.Proofs.YthpjmhhfcechmaaDoor.Sy
open Go Go.RowKit Ma
section
variable {B N : Nat} {w0 : World} {ops : Array Oper} {o : Oper} {rest : List Oper} {fr : List (Nat × AV)} {Q : Exit → Act → World → Prop} {d : Nat}
end
section
variable {x y z : Operand} {dst : Option Tmp} {ty : TypeId} {pos : String} {after : Array Edge} {guard : Option (Nat × Bool)} {ρ : Operand → Value} {W : World}
variable {n1 n2 n3 : Bool} {A1 A2 A3 : Option Addr} {l1 l2 l3 c1 c2 c3 : Nat}
end
section
variable {n1 n2 n3 : Bool} {A1 A2 A3 : Option Addr} {l1 l2 l3 c1 c2 c3 : Nat}
end
end Go.Proofs.YthpjmhhfcechmaaDoor.Sy
/- The reference's width, set, Two, chosen, New by rules. -/
namespace Go.Proofs.YthpjmhhfcechmaaDoor.Sy
open Go Go.RowKit Ma
end Go.Proofs.YthpjmhhfcechmaaDoor.Sy
/- A walk by rules: rows of bools; rows wherever they lie, by index; boxes that hold just a value, known as something. -/
namespace Go.Proofs.YthpjmhhfcechmaaDoor.Sy
open Go Go.RowKit Ma
def sad : Value → Option Addr
 | .slice A _ _ => A
 | _ => none
section
variable {B N : Nat} {w0 : World} {ops : Array Oper} {o : Oper} {rest : List Oper} {fr : List (Nat × AV)} {Q : Exit → Act → World → Prop} {d : Nat}
theorem ridx_run {T : TypeId} {s K i : Nat} {y : Operand} {v : Value} {e : TypeId} {f : Int → Value} {zs : List Int} {a : Act} {W : World} (hf : Fr B N w0 fr a W) (ho : o.op = .indexAddr T (.tmp s) y) (hs : look fr s = some (.vl v)) (hy : opv fr y = some (.vl (.int .i64 (i : Int)))) (hK : look fr K = some (.ro v e f zs)) (hi : i < zs.length)
  (hx : ∀ (ρ : Operand → Value) (W : World) (g c : Nat), ρ (.tmp s) = .slice (some ⟨g, 0, none⟩) zs.length c → ρ y = .int .i64 (i : Int) → (execOp ρ o).run Tryd.prog W = .ok (.value (.pointer (some ⟨g, i, none⟩))) W) : (execOp a.eval o).run Tryd.prog W = .ok (.value (.pointer (padd (sad v) i))) W := by
 have ow : OwF W B e f v zs := hf.ho K _ hK
 have h1 : a.eval (.tmp s) = v := hf.ho s _ hs
 have h2 := opv_vl hf hy
 rcases ow.form with ⟨_, h⟩ | ⟨g, c, rfl, hc⟩
 ·rw [h] at hi; simp at hi
 ·rw [hx a.eval W g c h1 h2]
  show _ = Result.ok (Next.value (.pointer (some (Addr.add ⟨g, 0, none⟩ i)))) W
  rw [add_at]
theorem PW.ridx {T : TypeId} {s i : Nat} {y : Operand} {v : Value} {e : TypeId} {f : Int → Value} {zs : List Int} (K : Nat) (hw : wantB ops fr o = some true) (hd : o.dst = some d) (hN : Nat.blt d N = true) (ho : o.op = .indexAddr T (.tmp s) y) (hs : look fr s = some (.vl v)) (hy : opv fr y = some (.vl (.int .i64 (i : Int)))) (hK : look fr K = some (.ro v e f zs)) (hi : i < zs.length)
  (hx : ∀ (ρ : Operand → Value) (W : World) (g c : Nat), ρ (.tmp s) = .slice (some ⟨g, 0, none⟩) zs.length c → ρ y = .int .i64 (i : Int) → (execOp ρ o).run Tryd.prog W = .ok (.value (.pointer (some ⟨g, i, none⟩))) W) (hk : PW B N w0 ops rest ((d, .vl (.pointer (padd (sad v) i))) :: fr) Q) : PW B N w0 ops (o :: rest) fr Q :=
 PW.val (r := .vl (.pointer (padd (sad v) i))) hw hd hN rfl (fun a W hf => ⟨_, ridx_run hf ho hs hy hK hi hx, rfl⟩) hk
theorem rget_run {T : TypeId} {t K i : Nat} {v : Value} {e : TypeId} {f : Int → Value} {zs : List Int} {a : Act} {W : World} (hf : Fr B N w0 fr a W) (ho : o.op = .load T (.tmp t)) (ht : look fr t = some (.vl (.pointer (padd (sad v) i)))) (hK : look fr K = some (.ro v e f zs)) (hi : i < zs.length)
  (hl : ∀ (W : World) (p : Addr) (x : Int), W.cell? p = some (f x) → (Instr.loadAt T (.pointer (some p))).run Tryd.prog W = .ok (f x) W) : (execOp a.eval o).run Tryd.prog W = .ok (.value (f (at0 zs i))) W := by
 have ow : OwF W B e f v zs := hf.ho K _ hK
 have h1 : a.tmps.getD t undef = .pointer (padd (sad v) i) := hf.ho t _ ht
 rcases ow.form with ⟨_, h⟩ | ⟨g, c, rfl, hc⟩
 ·rw [h] at hi; simp at hi
 ·have h2 := ow.cellAt hi
  unfold execOp
  rw [ho]
  show (do pure (.value (← Instr.loadAt T (a.tmps.getD t undef))) : Sem Next).run Tryd.prog W = _
  rw [h1]
  show (do pure (.value (← Instr.loadAt T (.pointer (some (Addr.add ⟨g, 0, none⟩ i))))) : Sem Next).run Tryd.prog W = _
  rw [add_at]
  exact run_val (hl W _ _ h2)
theorem PW.rget {T : TypeId} {t i : Nat} {v : Value} {e : TypeId} {f : Int → Value} {zs : List Int} (K : Nat) (hw : wantB ops fr o = some true) (hd : o.dst = some d) (hN : Nat.blt d N = true) (ho : o.op = .load T (.tmp t)) (ht : look fr t = some (.vl (.pointer (padd (sad v) i)))) (hK : look fr K = some (.ro v e f zs)) (hi : i < zs.length)
  (hl : ∀ (W : World) (p : Addr) (x : Int), W.cell? p = some (f x) → (Instr.loadAt T (.pointer (some p))).run Tryd.prog W = .ok (f x) W) (hk : PW B N w0 ops rest ((d, .vl (f (at0 zs i))) :: fr) Q) : PW B N w0 ops (o :: rest) fr Q :=
 PW.val (r := .vl (f (at0 zs i))) hw hd hN rfl (fun a W hf => ⟨_, rget_run hf ho ht hK hi hl, rfl⟩) hk
theorem PW.rput {T : TypeId} {t i : Nat} {x : Operand} {v : Value} {e : TypeId} {f : Int → Value} {zs : List Int} (y : Int) (K : Nat) (hw : wantB ops fr o = some true) (hd : o.dst = none) (ho : o.op = .store T (.tmp t) x) (ht : look fr t = some (.vl (.pointer (padd (sad v) i)))) (hK : look fr K = some (.ro v e f zs)) (hi : i < zs.length) (hx : opv fr x = some (.vl (f y))) (hc : calmB fr = true)
  (hst : ∀ (W : World) (p : Addr) (x y : Int), W.cell? p = some (f x) → W.frozen? p = false → (Instr.storeAt T (.pointer (some p)) (f y)).run Tryd.prog W = .ok () (W.setCell p (f y))) (hk : PW B N w0 ops rest ((K, .ro v e f (zs.set i y)) :: fr) Q) : PW B N w0 ops (o :: rest) fr Q :=
 PW.step hw fun a W hf K' hK' => by
  have ow : OwF W B e f v zs := hf.ho K _ hK
  have h1 : a.tmps.getD t undef = .pointer (padd (sad v) i) := hf.ho t _ ht
  rcases ow.form with ⟨_, h⟩ | ⟨g, c, hv, hcl⟩
  ·rw [h] at hi; simp at hi
  ·subst hv
   have h3 := opv_vl hf hx
   have h4 : a.tmps.getD t undef = .pointer (some ⟨g, i, none⟩) := by
    rw [h1]
    show Value.pointer (some (Addr.add ⟨g, 0, none⟩ i)) = _
    rw [add_at]
   have e2 : (execOp a.eval o).run Tryd.prog W = .ok .skip (W.setCell ⟨g, i, none⟩ (f y)) := by
    unfold execOp
    rw [ho]
    show (do (Instr.storeAt T (a.tmps.getD t undef) (a.eval x)); pure .skip : Sem Next).run Tryd.prog W = _
    rw [h4, h3]
    exact run_skip (hst W _ _ _ (ow.cellAt hi) (ow.frozenAt i))
   unfold Oper.wp
   rw [e2]
   show K' (a.put o.dst undef) _
   rw [hd]
   exact hK' _ _ (hk _ _ (hf.rset hK hc y))
theorem rlen_run {s K : Nat} {v : Value} {e : TypeId} {f : Int → Value} {zs : List Int} {a : Act} {W : World} (hf : Fr B N w0 fr a W) (hs : look fr s = some (.vl v)) (hK : look fr K = some (.ro v e f zs))
  (hl : ∀ (ρ : Operand → Value) (W : World) (A : Option Addr) (c : Nat), ρ (.tmp s) = .slice A zs.length c → (execOp ρ o).run Tryd.prog W = .ok (.value (.int .i64 (zs.length : Int))) W) : (execOp a.eval o).run Tryd.prog W = .ok (.value (.int .i64 (zs.length : Int))) W := by
 have ow : OwF W B e f v zs := hf.ho K _ hK
 have h1 : a.eval (.tmp s) = v := hf.ho s _ hs
 rcases ow.form with ⟨rfl, rfl⟩ | ⟨g, c, rfl, hc⟩
 ·exact hl a.eval W none 0 h1
 ·exact hl a.eval W _ c h1
theorem PW.rlen {s : Nat} {v : Value} {e : TypeId} {f : Int → Value} {zs : List Int} (K : Nat) (hw : wantB ops fr o = some true) (hd : o.dst = some d) (hN : Nat.blt d N = true) (hs : look fr s = some (.vl v)) (hK : look fr K = some (.ro v e f zs))
  (hl : ∀ (ρ : Operand → Value) (W : World) (A : Option Addr) (c : Nat), ρ (.tmp s) = .slice A zs.length c → (execOp ρ o).run Tryd.prog W = .ok (.value (.int .i64 (zs.length : Int))) W) (hk : PW B N w0 ops rest ((d, .vl (.int .i64 (zs.length : Int))) :: fr) Q) : PW B N w0 ops (o :: rest) fr Q :=
 PW.val (r := .vl (.int .i64 (zs.length : Int))) hw hd hN rfl (fun a W hf => ⟨_, rlen_run hf hs hK hl, rfl⟩) hk
end
section
variable {x y : Operand} {dst : Option Tmp} {ty : TypeId} {pos : String} {after : Array Edge} {guard : Option (Nat × Bool)} {ρ : Operand → Value} {W : World}
end
end Go.Proofs.YthpjmhhfcechmaaDoor.Sy
/- The contract of the program's Power, by rules. -/
namespace Go.Proofs.YthpjmhhfcechmaaDoor.Sy
open Go Go.RowKit Ma
end Go.Proofs.YthpjmhhfcechmaaDoor.Sy
/- The contract of the program's Power, in one; powers of powers of two. -/
namespace Go.Proofs.YthpjmhhfcechmaaDoor.Sy
open Go Go.RowKit Ma
/-! ### Powers of powers of two -/
end Go.Proofs.YthpjmhhfcechmaaDoor.Sy
/- The reference's Length, Power, Root by rules. -/
namespace Go.Proofs.YthpjmhhfcechmaaDoor.Sy
open Go Go.RowKit Ma
end Go.Proofs.YthpjmhhfcechmaaDoor.Sy
/- The reference's Bits and Of by rules. -/
namespace Go.Proofs.YthpjmhhfcechmaaDoor.Sy
open Go Go.RowKit Ma
end Go.Proofs.YthpjmhhfcechmaaDoor.Sy
/- The reference's Bit, Boole, Count, Field, Deposit by rules. -/
namespace Go.Proofs.YthpjmhhfcechmaaDoor.Sy
open Go Go.RowKit Ma
end Go.Proofs.YthpjmhhfcechmaaDoor.Sy
/- The contract of the program's Gcd, by rules. -/
namespace Go.Proofs.YthpjmhhfcechmaaDoor.Sy
open Go Go.RowKit Ma
end Go.Proofs.YthpjmhhfcechmaaDoor.Sy
/- The contract of the program's Root, by rules. -/
namespace Go.Proofs.YthpjmhhfcechmaaDoor.Sy
open Go Go.RowKit Ma
section
variable {x q r : Int}
theorem tq (hx : 0 < x) : x.tdiv q = x / q := Int.tdiv_eq_ediv_of_nonneg (by omega)
end
end Go.Proofs.YthpjmhhfcechmaaDoor.Sy
/- Odd, Int64 of the program and of the reference by rules. -/
namespace Go.Proofs.YthpjmhhfcechmaaDoor.Sy
open Go Go.RowKit Ma
section
variable {x y : Operand} {dst : Option Tmp} {ty : TypeId} {pos : String} {after : Array Edge} {guard : Option (Nat × Bool)} {ρ : Operand → Value} {W : World} {a b z : Int}
theorem r_i64u (h1 : ρ x = .int .i64 a) (h : 0 ≤ a ∧ a < 9223372036854775808) : (execOp ρ ⟨dst, .convert 3 64 x, ty, pos, after, guard⟩).run Tryd.prog W = .ok (.value (.int .u64 a)) W := by
 have e : IntKind.u64.wrap a = a := IntWalk.u64_in _ (by omega)
 go_simp
 done
end
section
variable {B N : Nat} {w0 : World} {fr : List (Nat × AV)} {fn : Func}
end
end Go.Proofs.YthpjmhhfcechmaaDoor.Sy
/- A walk by rules: strings: their length, their bytes, parts of them; contracts of strings.HasPrefix, IndexByte. -/
namespace Go.Proofs.YthpjmhhfcechmaaDoor.Sy
open Go Go.RowKit Ma
section
variable {x y z : Operand} {dst : Option Tmp} {ty : TypeId} {pos : String} {after : Array Edge} {guard : Option (Nat × Bool)} {ρ : Operand → Value} {W : World} {a b : Int} {s t : ByteArray}
theorem r_slen (h1 : ρ x = .string s) : (execOp ρ ⟨dst, .call ⟨.builtin .len, #[x], #[9]⟩, ty, pos, after, guard⟩).run Tryd.prog W = .ok (.value (.int .i64 (s.size : Int))) W := by
 go_simp
theorem r_sidx {i : Nat} (h1 : ρ x = .string s) (h2 : ρ y = .int .i64 (i : Int)) (hi : i < s.size) : (execOp ρ ⟨dst, .index 9 x y, ty, pos, after, guard⟩).run Tryd.prog W = .ok (.value (.int .u8 (at0 (byl s) i))) W := by
 rw [← byl_at s hi]
 go_simp
theorem r_sfrom {p : Nat} (h1 : ρ x = .string s) (h2 : ρ y = .int .i64 (p : Int)) (hp : p ≤ s.size) : (execOp ρ ⟨dst, .slice 9 x (some y) none none, ty, pos, after, guard⟩).run Tryd.prog W = .ok (.value (.string (s.extract p s.size))) W := by
 go_simp
theorem r_seq {c : Bool} (h1 : ρ x = .string s) (h2 : ρ y = .string t) (e : (s.toList == t.toList) = c) : (execOp ρ ⟨dst, .binOp .eql 9 x y 9, ty, pos, after, guard⟩).run Tryd.prog W = .ok (.value (.bool c)) W := by
 subst e
 go_simp
theorem r_sadd (h1 : ρ x = .string s) (h2 : ρ y = .string t) (h : s.size + t.size ≤ 9223372036854775807) : (execOp ρ ⟨dst, .binOp .add 9 x y 9, ty, pos, after, guard⟩).run Tryd.prog W = .ok (.value (.string (s ++ t))) W := by
 have e := run_string_add_sum (P := Tryd.prog) W s t h
 go_simp
theorem r_ge8 {c : Bool} (h1 : ρ x = .int .u8 a) (h2 : ρ y = .int .u8 b) (e : decide (a ≥ b) = c) : (execOp ρ ⟨dst, .binOp .geq 5 x y 5, ty, pos, after, guard⟩).run Tryd.prog W = .ok (.value (.bool c)) W := by
 subst e
 go_simp
theorem r_le8 {c : Bool} (h1 : ρ x = .int .u8 a) (h2 : ρ y = .int .u8 b) (e : decide (a ≤ b) = c) : (execOp ρ ⟨dst, .binOp .leq 5 x y 5, ty, pos, after, guard⟩).run Tryd.prog W = .ok (.value (.bool c)) W := by
 subst e
 go_simp
theorem r_sub8 {c : Int} (h1 : ρ x = .int .u8 a) (h2 : ρ y = .int .u8 b) (e : a - b = c) (hc : 0 ≤ c ∧ c < 256) : (execOp ρ ⟨dst, .binOp .sub 5 x y 5, ty, pos, after, guard⟩).run Tryd.prog W = .ok (.value (.int .u8 c)) W := by
 subst e
 have e : IntKind.u8.wrap (a - b) = a - b := IntWalk.u8_in _ (by omega)
 go_simp
 done
end
theorem toList_byl (s t : ByteArray) : (s.toList == t.toList) = decide (byl s = byl t) := by
 rw [ByteArray.toList_eq, ByteArray.toList_eq]
 by_cases h : s = t
 ·subst h; simp
 ·have h1 : byl s ≠ byl t := fun e => h (byl_inj e)
  rw [decide_eq_false h1]
  rw [← Bool.not_eq_true, beq_iff_eq]
  intro e
  apply h
  cases s; cases t; congr; exact Array.toList_inj.1 e
theorem empty_eq (s : ByteArray) : (s.toList == (ByteArray.mk #[]).toList) = decide (s.size = 0) := by
 rw [toList_byl]
 congr 1
 apply propext
 show byl s = [] ↔ _
 rw [← byl_len]
 exact List.length_eq_zero_iff.symm
theorem k_hasPrefix (s p : ByteArray) {c : Bool} (e : Lib.hasPrefix s.data.toList p.data.toList = c) : CallOk 14 [KV (.string s), KV (.string p)] (KV (.bool c)) :=
 call2 (fun args W => by go_simp) fun W u v e1 e2 => by
  obtain rfl : u = _ := e1
  obtain rfl : v = _ := e2
  subst e
  exact (Tryd.strings_HasPrefix s p W).mono fun e W' ⟨e1, e2⟩ => ⟨_, e1, rfl, e2 ▸ Nw.refl _⟩
theorem k_indexByte (s : ByteArray) (c : Int) {r : Int} (e : Lib.indexByte s.data.toList c.toNat.toUInt8 = r) : CallOk 53 [KV (.string s), KV (.int .u8 c)] (KV (.int .i64 r)) :=
 call2 (fun args W => by go_simp) fun W u v e1 e2 => by
  obtain rfl : u = _ := e1
  obtain rfl : v = _ := e2
  subst e
  exact (Tryd.strings_IndexByte s c W).mono fun e W' ⟨e1, e2⟩ => ⟨_, e1, rfl, e2 ▸ Nw.refl _⟩
theorem pre_one (s : ByteArray) (b : UInt8) : Lib.hasPrefix s.data.toList [b] = decide (0 < s.size ∧ at0 (byl s) 0 = (b.toNat : Int)) := by
 unfold Lib.hasPrefix
 have hs : s.size = s.data.toList.length := by simp
 unfold byl
 rw [hs]
 cases s.data.toList with
 | nil => simp
 | cons x l =>
  simp only [List.isPrefixOf, Bool.and_true, List.length_cons, List.map_cons, at0, List.getD_cons_zero]
  by_cases h : b = x
  ·subst h; simp
  ·have h2 : ¬ ((x.toNat : Int) = (b.toNat : Int)) := fun e => h (UInt8.toNat_inj.1 (by omega)).symm
   simp [h, h2]
def ixd (c : Int) : Int := if 48 ≤ c ∧ c ≤ 57 then c - 48 else if 65 ≤ c ∧ c ≤ 90 then c - 55 else -1
theorem index_digs {c : Int} (h0 : 0 ≤ c) (h1 : c < 256) : Lib.indexByte digs.data.toList c.toNat.toUInt8 = ixd c := by
 have key : ∀ n : Fin 256, Lib.indexByte digs.data.toList n.val.toUInt8 = ixd (n.val : Int) := by decide +kernel
 have := key ⟨c.toNat, by omega⟩
 rw [Int.toNat_of_nonneg h0] at this
 exact this
def KPI : Except Int Int → Know
 | .ok z => K2 (KI z) (KV (.int .i64 0))
 | .error e => K2 (KI 0) (KV (.int .i64 e))
theorem parse_radix {r : Int} {s : List Int} (h : ¬ (2 ≤ r ∧ r ≤ 36)) : parseR r s = .error 1 := if_pos h
theorem parse_long {r : Int} {s : List Int} (h : 2 ≤ r ∧ r ≤ 36) (hl : 20000 < s.length) : parseR r s = .error 14 := by
 unfold parseR; rw [if_neg (fun x => x h), if_pos hl]
theorem parse_form {r : Int} {s b : List Int} (h : 2 ≤ r ∧ r ≤ 36) (hl : ¬ 20000 < s.length) (hb : b = if at0 s 0 = 45 ∨ at0 s 0 = 43 then s.drop 1 else s) : parseR r s = if b = [] then .error 2 else if b.all fun c => decide (dv c < r) then .ok (sg (decide (at0 s 0 = 45)) (pv r 0 b)) else .error 2 := by
 subst hb
 unfold parseR; rw [if_neg (fun x => x h), if_neg hl]
theorem form_empty {r z : Int} {b : List Int} {g : Bool} (h : b.length = 0) : (if b = [] then Except.error 2 else if b.all fun c => decide (dv c < r) then .ok (sg g (pv r 0 b)) else .error 2 : Except Int Int) = .error 2 := by
 rw [if_pos (List.eq_nil_of_length_eq_zero h)]
theorem form_bad {r : Int} {b : List Int} {g : Bool} {i : Nat} (hi : i < b.length) (h : dv (at0 b i) ≥ r) : (if b = [] then Except.error 2 else if b.all fun c => decide (dv c < r) then .ok (sg g (pv r 0 b)) else .error 2 : Except Int Int) = .error 2 := by
 have h1 : ¬ (b.all fun c => decide (dv c < r)) = true := fun h2 => by have := all_at.1 h2 i hi; omega
 rw [if_neg h1]
 split <;> rfl
theorem form_ok {r : Int} {b : List Int} {g : Bool} (h0 : ¬ b.length = 0) (h : ∀ j, j < b.length → dv (at0 b j) < r) : (if b = [] then Except.error 2 else if b.all fun c => decide (dv c < r) then .ok (sg g (pv r 0 b)) else .error 2 : Except Int Int) = .ok (sg g (pv r 0 b)) := by
 rw [if_neg (fun e => h0 (by rw [e]; rfl)), if_pos (all_at.2 h)]
end Go.Proofs.YthpjmhhfcechmaaDoor.Sy
