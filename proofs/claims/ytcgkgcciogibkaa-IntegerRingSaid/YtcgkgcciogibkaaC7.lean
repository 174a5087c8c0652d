/- The contract of the law's made: a new slice of the program's integers. -/
import Derived.Test.YtcgkgcciogibkaaC6
import Derived.WalkSmall
set_option linter.unusedVariables false
set_option linter.unusedSimpArgs false
namespace Go.Proofs.Ytcgkgcciogibkaa
open Go.RowKit Ma

theorem info_Int : (Try.prog.info? 28).map (fun i => (i.zero, i.size, i.bytes)) = some (some (.agg #[.bool false, .slice none 0 0]), 2, 32) := by kernel_rfl
def flat (rs : List Nn) : List Value := rs.flatMap fun x => [.bool x.1, .slice x.2.1 x.2.2.1 x.2.2.2]
theorem flat_len (rs : List Nn) : (flat rs).length = rs.length * 2 := by
  induction rs with
  | nil => rfl
  | cons x rs ih => simp [flat] at ih ⊢; omega
theorem flat_at : ∀ (rs : List Nn) (i : Nat) (n : Bool) (A : Option Addr) (l c : Nat), rs[i]? = some (n, A, l, c) → (flat rs)[i * 2]? = some (.bool n) ∧ (flat rs)[i * 2 + 1]? = some (.slice A l c)
  | [], i, n, A, l, c, h => by simp at h
  | x :: rs, 0, n, A, l, c, h => by simp at h; subst h; exact ⟨rfl, rfl⟩
  | x :: rs, i + 1, n, A, l, c, h => by
    have := flat_at rs i n A l c (by simpa using h)
    rw [show (i + 1) * 2 = i * 2 + 1 + 1 by omega]
    exact this
theorem flat_snoc (rs : List Nn) (x : Nn) : flat (rs ++ [x]) = flat rs ++ [.bool x.1, .slice x.2.1 x.2.2.1 x.2.2.2] := by simp [flat]
/-- What came in, and which numbers it tells. -/
def Ins (w : World) (ns : List Nn) (zs : List Int) : Prop := ns.length = zs.length ∧ ∀ i n A l c, ns[i]? = some (n, A, l, c) → ∃ xs, l = xs.length ∧ l ≤ c ∧ xs.length ≤ 1000000 ∧ Rd w .u32 A xs ∧ dg b32 xs ∧ at0 zs i = sg n (lv b32 xs)
theorem Ins.nw {w W : World} {ns : List Nn} {zs : List Int} (h : Ins w ns zs) (k : Nw w W) : Ins W ns zs := ⟨h.1, fun i n A l c e => let ⟨xs, h1, h2, h3, h4, h5, h6⟩ := h.2 i n A l c e; ⟨xs, h1, h2, h3, h4.kept k.kept, h5, h6⟩⟩
def Rs (w : World) (rs : List Nn) (zs : List Int) : Prop := rs.length = zs.length ∧ ∀ i n A l c, rs[i]? = some (n, A, l, c) → RI w n A l c (at0 zs i)
theorem Rs.nw {w W : World} {ns : List Nn} {zs : List Int} (h : Rs w ns zs) (k : Nw w W) : Rs W ns zs := ⟨h.1, fun i n A l c e => (h.2 i n A l c e).kept k.kept⟩
def KM (zs : List Int) : Rg.Know := fun v W => ∃ g c rs, v = .slice (some ⟨g, 0, none⟩) zs.length c ∧ zs.length ≤ c ∧ Ns W g rs ∧ Rs W rs zs
theorem Rs.snoc {w : World} {rs : List Nn} {zs : List Int} {k : Nat} {n : Bool} {A : Option Addr} {l c : Nat} (h : Rs w rs (zs.take k)) (hk : k < zs.length) (hi : RI w n A l c (at0 zs k)) : Rs w (rs ++ [(n, A, l, c)]) (zs.take (k + 1)) := by
  have hl := h.1
  rw [List.length_take, Nat.min_eq_left (by omega)] at hl
  refine ⟨by simp [hl, List.length_take]; omega, fun i n' A' l' c' e => ?_⟩
  rcases Nat.lt_trichotomy i k with hi' | hi' | hi'
  · rw [List.getElem?_append_left (by omega)] at e
    have := h.2 i _ _ _ _ e
    simp only [at0, List.getD_eq_getElem?_getD, List.getElem?_take, hi', if_true] at this ⊢
    rwa [if_pos (by omega)]
  · subst hi'
    rw [List.getElem?_append_right (by omega), hl, Nat.sub_self] at e
    simp at e
    obtain ⟨rfl, rfl, rfl, rfl⟩ := e
    simp only [at0, List.getD_eq_getElem?_getD, List.getElem?_take] at hi ⊢
    rwa [if_pos (by omega)]
  · rw [List.getElem?_append_right (by omega), List.getElem?_eq_none (by simp; omega)] at e
    cases e

/-- An integer of the program's whose limbs nobody else has. -/
def RO (w : World) (base : Nat) (n : Bool) (A : Option Addr) (l c : Nat) (z : Int) : Prop := ∃ xs, l = xs.length ∧ Own w base 92 .u32 (.slice A l c) xs ∧ Num b32 n xs z
theorem RO.ri {w : World} {base : Nat} {n : Bool} {A : Option Addr} {l c : Nat} {z : Int} (h : RO w base n A l c z) : RI w n A l c z := by
  obtain ⟨xs, hl, ho, hn⟩ := h
  obtain ⟨h1, h2, h3⟩ := ho.rdg
  exact ⟨xs, hl, h2, h3, hn⟩
theorem RO.grown {w w' : World} {base : Nat} {n : Bool} {A : Option Addr} {l c : Nat} {z : Int} {row : Option Nat} (h : RO w base n A l c z) (hg : w.grownBy w' row) (hne : (Value.slice A l c).ownBlock = none ∨ (Value.slice A l c).ownBlock ≠ row) : RO w' base n A l c z := by
  obtain ⟨xs, hl, ho, hn⟩ := h
  exact ⟨xs, hl, World.ownsRow.kept ho hg hne, hn⟩
theorem RO.nw {w w' : World} {base : Nat} {n : Bool} {A : Option Addr} {l c : Nat} {z : Int} (h : RO w base n A l c z) (hg : Nw w w') : RO w' base n A l c z := by
  obtain ⟨xs, hl, ho, hn⟩ := h
  exact ⟨xs, hl, ho.kept hg, hn⟩
theorem RO.eq {w : World} {base : Nat} {n : Bool} {A : Option Addr} {l c : Nat} {z z' : Int} (h : RO w base n A l c z) (e : z = z') : RO w base n A l c z' := e ▸ h
theorem RO.lower {w : World} {base b' : Nat} {n : Bool} {A : Option Addr} {l c : Nat} {z : Int} (h : RO w base n A l c z) (hb : b' ≤ base) : RO w b' n A l c z := by
  obtain ⟨xs, hl, ho, hn⟩ := h
  exact ⟨xs, hl, row_base ho hb, hn⟩
/-- .. lies in no block of another type. -/
theorem RO.ne {w : World} {base b : Nat} {m : Bool} {A : Option Addr} {l c : Nat} {z : Int} {e : TypeId} {s n : Nat} {v : Value} {xs : List Value} (h : RO w base m A l c z) (hv : w.ownsRow b e s v n xs) (he : 92 ≠ e) : (Value.slice A l c).ownBlock = none ∨ (Value.slice A l c).ownBlock ≠ v.ownBlock := by
  obtain ⟨ys, hl, ho, hn⟩ := h
  obtain ⟨_, h1 | ⟨g, cap, cur, hv1, hb, hg, _⟩⟩ := ho
  · left; rw [h1.1]; rfl
  · right
    obtain ⟨_, h2 | ⟨g', cap', cur', hv', hb', hg', _⟩⟩ := hv
    · rw [hv1, h2.1]; simp [Value.ownBlock]
    · rw [hv1, hv']
      simp only [Value.ownBlock, ne_eq, Option.some.injEq]
      intro e1; subst e1
      rw [hg] at hg'
      simp only [Option.some.injEq, Obj.cells.injEq] at hg'
      exact he hg'.2.1
theorem Own.trims {w : World} {base : Nat} {e : TypeId} {k : IntKind} {A : Option Addr} {l c : Nat} {xs : List Int} (h : Own w base e k (.slice A l c) xs) : Own w base e k (.slice A (trim xs).length c) (trim xs) := by
  have hl := trim_len xs
  obtain ⟨_, h1 | ⟨g, cap, cur, hv, hb, hg, _⟩⟩ := id h
  · obtain ⟨e1, e2⟩ := h1
    have : xs = [] := List.eq_nil_of_length_eq_zero e2
    subst this
    simp only [Value.slice.injEq] at e1
    obtain ⟨rfl, rfl, rfl⟩ := e1
    exact h
  · simp only [Value.slice.injEq] at hv
    obtain ⟨rfl, rfl, rfl⟩ := hv
    have := h.take (by rfl) (trim xs).length hl
    rwa [← trim_take] at this
def KRO (base : Nat) (z : Int) : Rg.Know := fun v W => ∃ m A l c, v = .agg #[.bool m, .slice A l c] ∧ RO W base m A l c z
set_option maxHeartbeats 400000 in
theorem made_o {n : Bool} {A : Option Addr} {l c base : Nat} {xs : List Int} {w : World} (e : l = xs.length) (ho : Own w base 92 .u32 (.slice A l c) xs) (hd : dg b32 xs) :
    Calls Try.prog 81 #[.bool n, .slice A l c] w (Ret w (KRO base (sg n (lv b32 xs)))) := by
  subst e
  have hn := num_made (n := n) hd
  have HN := Lib.hid hn
  obtain ⟨_, hc, rA⟩ := ho.rdg
  have HO := Lib.hid ho
  clear hn ho
  cases n
  all_goals
    go_enter Try.func81, Try.ntmps81
    go_wp2_with (go_at_call 114; refine (trimmed_c A c xs _ (rA.kept (IntK.alloc _ _)) hc).mono ?_; rintro e w' ⟨rfl, rfl⟩)
  · refine bodyPost_ret (v := .agg #[.bool false, .slice A (trim xs).length c]) (by simp [results, Try.results81, go_sem]) rfl ⟨_, rfl, ⟨_, _, _, _, rfl, trim xs, rfl, ?_, by simpa using HN.out⟩, (Nw.refl w).alloc _⟩
    exact HO.out.trims.kept ((Nw.refl w).alloc _)
  · refine bodyPost_ret (v := .agg #[.bool (decide (0 < (trim xs).length)), .slice A (trim xs).length c]) (by simp [results, Try.results81, go_sem]) rfl ⟨_, rfl, ⟨_, _, _, _, rfl, trim xs, rfl, ?_, by simpa using HN.out⟩, (Nw.refl w).alloc _⟩
    exact HO.out.trims.kept ((Nw.refl w).alloc _)
theorem RO.far {w : World} {base : Nat} {n : Bool} {A : Option Addr} {l c : Nat} {z : Int} (h : RO w base n A l c z) {r : Nat} (hr : r < base) : (Value.slice A l c).ownBlock = none ∨ (Value.slice A l c).ownBlock ≠ some r := by
  obtain ⟨xs, hl, ho, hn⟩ := h
  cases hv : (Value.slice A l c).ownBlock with
  | none => exact .inl rfl
  | some g =>
    right
    have := (World.ownsRow.lt ho g hv).1
    simp; omega
theorem grown_set (w : World) (r o : Nat) (v : Value) : w.grownBy (w.setCell ⟨r, o, none⟩ v) (some r) := ⟨rfl, rfl, rfl, by simp [World.setCell], fun i _ hne => Below.heap_setCell w ⟨r, o, none⟩ v i (fun e => hne (by rw [e]))⟩
/-- Behind the store of a result. -/
theorem store_o {r base : Nat} {W : World} {m : Bool} {D : Option Addr} {l c : Nat} {z : Int} (h : RO W base m D l c z) (hr : r < base) :
    RO ((W.setCell ⟨r, 0, none⟩ (.bool m)).setCell ⟨r, 1, none⟩ (.slice D l c)) base m D l c z := (h.grown (grown_set W r 0 _) (h.far hr)).grown (grown_set _ r 1 _) (h.far hr)
theorem ret_RO {w w' : World} {base : Nat} {z : Int} {m : Bool} {A : Option Addr} {l c : Nat} (h : RO w' base m A l c z) (hb : Nw w w') : Ret w (KRO base z) (.returned (.agg #[.bool m, .slice A l c])) w' := ⟨_, rfl, ⟨m, A, l, c, rfl, h⟩, hb⟩
set_option maxHeartbeats 1600000 in
set_option maxRecDepth 100000 in
theorem make_o {n : Bool} {A : Option Addr} {c : Nat} {xs : List Int} {w : World} (rA : Rd w .u32 A xs) (dx : dg b32 xs) (hl : xs.length ≤ 1000000) :
    Calls Try.prog 68 #[.bool n, .slice A xs.length c] w (Ret w (KRO (w.heap.size + 1) (sg n (lv b32 xs)))) := by
  have RA := Lib.hid rA
  clear rA
  have nw1 : Nw w (w.alloc (.cells #[.bool false, .slice none 0 0] 28)) := (Nw.refl w).alloc _
  have sg0 : Sg [] w.heap.size 2 (w.alloc (.cells #[.bool false, .slice none 0 0] 28)) := ⟨trivial, box_two w 28 false none 0 0, by go_simp⟩
  go_enter Try.func68, Try.ntmps68
  go_wp2_with (first
    | (go_at_call 112; refine (clone_o A c xs _ (RA.out.kept nw1.kept) hl).mono ?_; rintro e w1 ⟨_, rfl, ho, hb⟩; obtain ⟨C, cc, rfl, _, _⟩ := ho.rd; have ho1 := Lib.hid (row_base (b' := w.heap.size + 1) ho (by simp)); clear ho)
    | (go_at_call 81; refine (made_o rfl ho1.out dx).mono ?_; rintro e w2 ⟨_, rfl, ⟨m, D, l2, c2, rfl, hi⟩, hb2⟩; have b2 := ((sg0.nw hb).nw hb2).2.1; obtain ⟨⟨v0, hv0, hn0⟩, hf0⟩ := b2 0 (by omega); obtain ⟨⟨v1, hv1, hn1⟩, hf1⟩ := b2 1 (by omega)))
  exact bodyPost_ret (v := .agg #[.bool m, .slice D l2 c2]) (by simp [results, Try.results68, go_sem, hv0, hv1]) rfl (ret_RO (store_o hi (by omega)) (((nw1.trans hb).trans hb2).rr (store_I b2 hi.ri).1 (Nat.le_refl _)))
end Go.Proofs.Ytcgkgcciogibkaa
