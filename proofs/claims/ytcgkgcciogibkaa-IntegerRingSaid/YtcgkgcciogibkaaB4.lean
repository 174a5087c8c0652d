/- The contract of the program's Text. -/
import Derived.Test.YtcgkgcciogibkaaB3
import Derived.Laws.IdiomStrings
set_option linter.unusedVariables false
set_option linter.unusedSimpArgs false
namespace Go.Proofs.Ytcgkgcciogibkaa
open Go.RowKit Ma

theorem info_u8 : (Try.prog.info? 5).map (fun i => (i.zero, i.size, i.bytes)) = some (some (.int .u8 0), 1, 1) := by kernel_rfl
/-- The character of a digit. -/
def dch (d : Int) : Int := if d < 10 then 48 + d else 55 + d
/-- The text of a number. -/
def Txt (r z : Int) (s : ByteArray) : Prop := ∃ ds, dg r ds ∧ top ds ∧ lv r ds = z.natAbs ∧ s.data.toList.map (fun b => (b.toNat : Int)) = if z = 0 then [48] else (if z < 0 then [45] else []) ++ (ds.map dch).reverse
def KT (r z : Int) : Rg.Know := fun v _ => ∃ s, v = .string s ∧ Txt r z s
theorem KT.st (r z : Int) : St (KT r z) := fun _ _ _ _ h => h
theorem bytes_inj {s t : ByteArray} (h : s.data.toList.map (fun b => (b.toNat : Int)) = t.data.toList.map (fun b => (b.toNat : Int))) : s = t := by
  have : s.data.toList = t.data.toList := by
    refine List.map_inj_right (f := fun b : UInt8 => (b.toNat : Int)) (fun a b e => ?_) |>.1 h
    exact UInt8.toNat_inj.1 (by exact_mod_cast e)
  cases s; cases t; congr; exact Array.toList_inj.1 this
theorem Txt.eq {r z : Int} {s t : ByteArray} (hr : 2 ≤ r) (h : Txt r z s) (k : Txt r z t) : s = t := by
  obtain ⟨ds, d1, t1, l1, e1⟩ := h
  obtain ⟨es, d2, t2, l2, e2⟩ := k
  have : ds = es := lv_inj (by omega) d1 d2 t1 t2 (l1.trans l2.symm)
  subst this
  exact bytes_inj (e1.trans e2.symm)
def digs : ByteArray := { data := #[48, 49, 50, 51, 52, 53, 54, 55, 56, 57, 65, 66, 67, 68, 69, 70, 71, 72, 73, 74, 75, 76, 77, 78, 79, 80, 81, 82, 83, 84, 85, 86, 87, 88, 89, 90] }
theorem dch_at {d : Int} (h0 : 0 ≤ d) (h1 : d < 36) (h : d.toNat < digs.size) : ((digs[d.toNat]'h).toNat : Int) = dch d := by
  obtain ⟨k, rfl⟩ := Int.eq_ofNat_of_zero_le h0
  have hk : k < 36 := by omega
  have key : ∀ k : Fin 36, ((digs[k.val]'(Nat.lt_of_lt_of_le k.2 (by decide))).toNat : Int) = dch k.val := by decide
  exact key ⟨k, hk⟩
theorem cell_one_eq (w : World) (k : IntKind) (x y : Int) (e : TypeId) (h : x = y) : ∀ j u, [Value.int k y][j]? = some u → (w.alloc (.cells #[.int k x] e)).cell? ((⟨w.heap.size, 0, none⟩ : Addr).add j) = some u := by
  subst h; intro j u hu; exact cell_one_new _ _ _ j u hu
def slen : Value → Nat
  | .slice _ n _ => n
  | _ => 0
theorem Own.slen {w : World} {b : Nat} {e : TypeId} {k : IntKind} {v : Value} {xs : List Int} (h : Own w b e k v xs) : slen v = xs.length := by
  obtain ⟨A, c, rfl, _⟩ := h.rd; rfl
theorem Own.row {w w' : World} {b b' : Nat} {e e' : TypeId} {k k' : IntKind} {v v' : Value} {xs ys : List Int} {o : Obj} (h : Own w b e k v xs) (h' : Own w b' e' k' v' ys) (he : e ≠ e') (hg : (w.alloc o).grownBy w' v'.ownBlock) : Own w' b e k v xs :=
  World.ownsRow.kept (World.ownsRow.alloc h o) hg (h.ne h' he)
theorem Nw.grew {w W w1 : World} {b : Nat} {e : TypeId} {k : IntKind} {v : Value} {xs : List Int} {o : Obj} (h : Nw w W) (ho : Own W b e k v xs) (hg : (W.alloc o).grownBy w1 v.ownBlock) (hb : w.heap.size ≤ b) : Nw w w1 :=
  Below.grown (h.alloc o) hg (h.alloc o).size (fun g hg => Nat.le_trans hb (ho.base g hg))

theorem Own.some' {w : World} {b : Nat} {e : TypeId} {k : IntKind} {v : Value} {xs : List Int} (h : Own w b e k v xs) (hne : xs ≠ []) : ∃ g c, v = .slice (some ⟨g, 0, none⟩) xs.length c := by
  rcases h.2 with ⟨hv, h0⟩ | ⟨g, cap, cur, hv, _⟩
  · exact absurd (List.eq_nil_of_length_eq_zero h0) hne
  · exact ⟨g, cap, hv⟩
theorem dch_0 {d : Int} (h0 : 0 ≤ d) (h1 : d < 36) : 48 ≤ dch d ∧ dch d ≤ 90 ∧ (dch d = 48 ↔ d = 0) := by
  unfold dch; split <;> omega
theorem at0_map (es : List Int) (i : Nat) (hi : i < es.length) : at0 (es.map dch) i = dch (at0 es i) := by
  rw [at0_of_lt (by simpa using hi), at0_of_lt hi]; simp
theorem strip_step {r : Int} {es : List Int} {V : Int} (d : Ma.dg r es) (e : lv r es = V) (h0 : 0 < V) : 0 < es.length ∧ (at0 es (es.length - 1) = 0 → Ma.dg r (es.take (es.length - 1)) ∧ lv r (es.take (es.length - 1)) = V) ∧ (at0 es (es.length - 1) ≠ 0 → Ma.top es) := by
  have hl : 0 < es.length := by
    cases es with
    | nil => simp [lv] at e; omega
    | cons a t => simp
  refine ⟨hl, fun hz => ⟨dg_take d _, ?_⟩, fun hz => (top_at (by intro e; subst e; simp at hl)).2 hz⟩
  have := lv_take_succ r es (es.length - 1) (by omega)
  rw [Nat.sub_add_cancel hl, List.take_length, hz, Int.mul_zero, Int.add_zero] at this
  omega
/-- The bytes of a slice are a string. -/
theorem bytes_of (zs : List Int) (h : ∀ z ∈ zs, 0 ≤ z ∧ z < 256) : ∃ l : List UInt8, l.map (fun b => (b.toNat : Int)) = zs ∧ l.length = zs.length := by
  induction zs with
  | nil => exact ⟨[], rfl, rfl⟩
  | cons z zs ih =>
    obtain ⟨l, e, hl⟩ := ih (fun x hx => h x (List.mem_cons_of_mem _ hx))
    have hz := h z (List.mem_cons_self ..)
    refine ⟨UInt8.ofNat z.toNat :: l, ?_, by simp [hl]⟩
    simp only [List.map_cons, e, UInt8.toNat_ofNat']
    congr 1
    omega

theorem Txt.pos {r z : Int} {es : List Int} {s : ByteArray} (h0 : 0 < z) (de : Ma.dg r es) (te : Ma.top es) (he : lv r es = z) (hs : s.data.toList.map (fun b => (b.toNat : Int)) = (es.map dch).reverse) : Txt r z s :=
  ⟨es, de, te, by omega, by rw [hs, if_neg (by omega), if_neg (by omega)]; simp⟩
theorem Txt.neg {r z : Int} {es : List Int} {s : ByteArray} (h0 : z < 0) (de : Ma.dg r es) (te : Ma.top es) (he : lv r es = -z) (hs : s.data.toList.map (fun b => (b.toNat : Int)) = (es.map dch ++ [45]).reverse) : Txt r z s :=
  ⟨es, de, te, by omega, by rw [hs, if_neg (by omega), if_pos h0]; simp⟩
theorem own_string {w : World} {base g n cap : Nat} {zs : List Int} (ho : Own w base 5 .u8 (.slice (some ⟨g, 0, none⟩) n cap) zs) (hn : n = zs.length) (hz : ∀ z ∈ zs, 0 ≤ z ∧ z < 256) :
    ∃ s : ByteArray, (convert 123 9 (.slice (some ⟨g, 0, none⟩) n cap)).run Try.prog w = .ok (.string s) w ∧ s.data.toList.map (fun b => (b.toNat : Int)) = zs := by
  obtain ⟨l, hl, hll⟩ := bytes_of zs hz
  subst hl
  have e : n = l.length := by rw [hn]; simp
  subst e
  refine ⟨⟨l.toArray⟩, run_convert_bytes_back w _ _ _ ⟨g, 0, none⟩ cap l Try.underlying123 Try.underlying5 Try.underlying9 (fun j hj => ?_), by simp⟩
  rw [add_at, ho.cellAt (i := j) (by simpa using hj) (by simp), at0_of_lt (by simpa using hj)]
  simp

set_option maxHeartbeats 800000 in
set_option maxRecDepth 100000 in
theorem text_bad {x : Int} {n : Bool} {A : Option Addr} {l c : Nat} {w : World} (r : Int) (h : ¬ (2 ≤ r ∧ r ≤ 36)) :
    Calls Try.prog 52 #[.agg #[.bool n, .slice A l c], .int .i64 r] w (Ret w (KV (.tuple #[.string ⟨#[]⟩, .int .i64 1]))) := by
  by_cases h2 : r < 2
  · go_enter Try.func52, Try.ntmps52
    go_wp2
    go_ret2
    exact Ret.V ((Nw.refl w).alloc _)
  · have h3 : ¬ r ≤ 36 := by omega
    go_enter Try.func52, Try.ntmps52
    go_wp2
    go_ret2
    exact Ret.V ((Nw.refl w).alloc _)

/-- What a round of Text leaves: the digits ds, the rest xs. -/
structure TxA (r : Int) (xs0 ds xs : List Int) : Prop where
  dd : dg r ds
  dx : Ma.dg b32 xs
  tx : Ma.top xs
  eq : lv r ds + r ^ ds.length * lv b32 xs = lv b32 xs0
structure TxI (r : Int) (xs0 xs : List Int) (k len0 j : Nat) (ds : List Int) (q : Int) : Prop where
  le : j ≤ k
  len : ds.length = len0 + j
  dd : dg r ds
  q0 : 0 ≤ q
  q1 : q < r ^ (k - j)
  eq : lv r ds + r ^ ds.length * q + r ^ (len0 + k) * lv b32 xs = lv b32 xs0
theorem TxI.step {r : Int} {xs0 xs : List Int} {k len0 j : Nat} {ds : List Int} {q : Int} (h : TxI r xs0 xs k len0 j ds q) (hr : 2 ≤ r) (hj : j < k) : TxI r xs0 xs k len0 (j + 1) (ds ++ [q % r]) (q / r) := by
  obtain ⟨h1, h2, h3, h4, h5, h6⟩ := h
  have m0 := Int.emod_nonneg q (show r ≠ 0 by omega)
  have m1 := Int.emod_lt_of_pos q (show 0 < r by omega)
  refine ⟨by omega, by simp [h2]; omega, dg_append.2 ⟨h3, fun x hx => by rw [List.mem_singleton] at hx; rw [hx]; exact ⟨m0, m1⟩⟩, Int.ediv_nonneg h4 (by omega), ?_, ?_⟩
  · apply Int.ediv_lt_of_lt_mul (by omega)
    rw [← Int.pow_succ, show (k - (j + 1)).succ = k - j by omega]
    exact h5
  · have e := Int.mul_ediv_add_emod q r
    rw [lv_snoc, List.length_append, List.length_singleton, Int.pow_succ]
    generalize q / r = a at *
    generalize q % r = b at *
    generalize r ^ ds.length = p at *
    generalize r ^ (len0 + k) = p2 at *
    rw [← h6, ← e]
    grind
theorem TxI.q1r {r : Int} {xs0 xs : List Int} {k len0 j : Nat} {ds : List Int} {q : Int} (h : TxI r xs0 xs k len0 j ds q) (hr : 2 ≤ r) : q < r ^ k := by
  have := pow_le (b := r) (by omega) (show k - j ≤ k by omega)
  have := h.q1
  omega
theorem TxA.inner {r : Int} {xs0 ds xs : List Int} (h : TxA r xs0 ds xs) {k : Nat} {zs : List Int} {by_ : Int} (hr : 2 ≤ r) (hby : by_ = r ^ k) (dz : Ma.dg b32 zs) (hz : lv b32 zs = lv b32 xs / by_) : TxI r xs0 zs k ds.length 0 ds (lv b32 xs % by_) := by
  subst hby
  have hp := pos_pow (show 0 < r by omega) k
  refine ⟨by omega, by omega, h.dd, Int.emod_nonneg _ (by omega), Int.emod_lt_of_pos _ hp, ?_⟩
  have e := Int.mul_ediv_add_emod (lv b32 xs) (r ^ k)
  rw [hz, Int.pow_add, ← h.eq]
  generalize lv b32 xs / r ^ k = a at *
  generalize lv b32 xs % r ^ k = b at *
  generalize r ^ ds.length = p at *
  generalize r ^ k = p2 at *
  rw [← e]
  grind
theorem TxI.outer {r : Int} {xs0 xs : List Int} {k len0 : Nat} {ds : List Int} {q : Int} (h : TxI r xs0 xs k len0 k ds q) (dx : Ma.dg b32 xs) (tx : Ma.top xs) : TxA r xs0 ds xs := by
  obtain ⟨h1, h2, h3, h4, h5, h6⟩ := h
  refine ⟨h3, dx, tx, ?_⟩
  have : q = 0 := by simp at h5; omega
  rw [this] at h6
  rw [h2] at *
  simpa using h6
theorem pow2_le (r : Int) (hr : 2 ≤ r) : ∀ k : Nat, (2 : Int) ^ k ≤ r ^ k := by
  intro k
  induction k with
  | zero => simp
  | succ k ih =>
    rw [Int.pow_succ, Int.pow_succ]
    have h0 : (0 : Int) < 2 ^ k := Int.pow_pos (by decide)
    have h1 : (2 : Int) ^ k * 2 ≤ 2 ^ k * r := Int.mul_le_mul_of_nonneg_left hr (Int.le_of_lt h0)
    have h3 : (2 : Int) ^ k * r ≤ r ^ k * r := Int.mul_le_mul_of_nonneg_right ih (by omega)
    omega
theorem TxA.len {r : Int} {xs0 ds xs : List Int} (h : TxA r xs0 ds xs) (hr : 2 ≤ r) (d0 : Ma.dg b32 xs0) (hne : xs ≠ []) : ds.length ≤ 32 * xs0.length := by
  have h1 := h.eq
  have h2 := lv_nonneg (show 0 < r by omega) h.dd
  have h3 : 1 ≤ lv b32 xs := by
    have := top_le (by decide) h.dx h.tx hne
    have := pos_pow (show (0 : Int) < b32 by decide) (xs.length - 1)
    omega
  have h4 := lv_lt (show 0 < b32 by decide) d0
  have hp := pos_pow (show 0 < r by omega) ds.length
  have h5 : r ^ ds.length * 1 ≤ r ^ ds.length * lv b32 xs := Int.mul_le_mul_of_nonneg_left h3 (by omega)
  have h6 := pow2_le r hr ds.length
  have h7 : (2 : Int) ^ ds.length < 2 ^ (32 * xs0.length) := by
    have : b32 ^ xs0.length = 2 ^ (32 * xs0.length) := by rw [Int.pow_mul]; rfl
    omega
  apply Classical.byContradiction
  intro hc
  have := pow_le (b := 2) (by decide) (show 32 * xs0.length ≤ ds.length by omega)
  omega

set_option maxHeartbeats 3200000 in
set_option maxRecDepth 100000 in
theorem text_ok {x : Int} {n : Bool} {A : Option Addr} {l c : Nat} {w : World} (r : Int) (h2 : 2 ≤ r) (h36 : r ≤ 36) (hx : RI w n A l c x) (hl : l ≤ 500000) :
    Calls Try.prog 52 #[.agg #[.bool n, .slice A l c], .int .i64 r] w (Ret w (K2 (KT r x) (KV (.int .i64 0)))) := by
  have nw1 : Nw w (w.alloc (.cells #[.bool n, .slice A l c] 28)) := (Nw.refl w).alloc _
  have hx1 := hx.kept nw1.kept
  by_cases h0 : x = 0
  · have hs : sgn x = 0 := by rw [h0]; rfl
    have HS := Lib.hid hs
    have HX := Lib.hid hx1
    clear hx hx1 hs
    go_enter Try.func52, Try.ntmps52
    go_wp2_with (go_at_call 28; refine (sign_c HX.out).mono ?_; rintro e w1 ⟨_, rfl, hk, hb⟩; rw [HS.out] at hk; subst hk)
    go_ret2
    exact ⟨_, rfl, ⟨_, _, rfl, ⟨_, rfl, [], dg_nil _, top_nil, by simp [lv, h0], by simp [h0]⟩, rfl⟩, nw1.trans hb⟩
  · have hs : sgn x ≠ 0 := by unfold sgn; split <;> (try split) <;> omega
    obtain ⟨sv, hsv⟩ : ∃ sv, sgn x = sv := ⟨_, rfl⟩
    rw [hsv] at hs
    have HSV := Lib.hid hsv
    have HX := Lib.hid hx1
    obtain ⟨xs, rfl, hc, rA, dx, tx, nx, ex⟩ := hx1
    obtain ⟨i0, hi, hz0, hz1, hz2⟩ := info_parts info_u8
    have Q0 : Has [(w.heap.size, 0, .bool n), (w.heap.size, 1, .slice A xs.length c)] (w.alloc (.cells #[.bool n, .slice A xs.length c] 28)) := ⟨by go_simp, by go_simp, trivial⟩
    have Q0 := Lib.hid Q0
    clear hx hsv
    go_enter Try.func52, Try.ntmps52
    go_wp2_with (first
      | (go_at_call 28; refine (sign_c HX.out).mono ?_; rintro e w1 ⟨_, rfl, hk, hb⟩; rw [HSV.out] at hk; subst hk; obtain ⟨q0, q1, _⟩ := Q0.out.nw hb)
      | (go_at_call 97; refine (chunk_c r _ h2 h36).mono ?_; rintro e w2 ⟨k, rfl, rfl, hk1, hk32, hrk⟩))
    obtain ⟨W2, hW2⟩ : ∃ W2, W2 = w1 := ⟨_, rfl⟩
    have nw2 : Nw w w1 := nw1.trans hb
    have RX := Lib.hid (rA.kept hb.kept)
    go_loopw [8, 9, 10] (fun ov lv' rv wr => ∃ (ds zs : List Int) (A' : Option Addr) (c' : Nat), lv' = .slice A' zs.length c' ∧ zs.length ≤ c' ∧ Rd wr .u32 A' zs ∧ zs.length ≤ xs.length ∧ ds.length ≤ 32 * xs.length + 32 ∧ Own wr w1.heap.size 5 .u8 ov (ds.map dch) ∧ TxA r xs ds zs ∧ Nw w1 wr)
      (fun ov _ _ _ => 32 * xs.length + 1 - slen ov)
    case atStart => exact ⟨[], xs, A, c, rfl, hc, RX.out, Nat.le_refl _, by simp, Own.nil _ _ _ _, ⟨dg_nil _, dx, tx, by simp [lv]⟩, Nw.refl _⟩
    case round =>
      obtain ⟨ds, zs, A', c', rfl, hzc, rz, hzl, hdn, ho, ht, hn⟩ := hrel
      by_cases hz : 0 < zs.length
      · have hne : zs ≠ [] := by intro e; subst e; simp at hz
        have hlen := ht.len h2 dx hne
        have hp0 := pos_pow (show 0 < r by omega) k
        have HT := Lib.hid ht
        have hdz := ht.dx
        have HO := Lib.hid ho
        have HR := Lib.hid rz
        have HN := Lib.hid hn
        clear ht ho rz hn q0 q1
        go_wp2_with (go_at_call 85; refine (divided_c A' c' zs (r ^ k) wr HR.out hdz (by omega) hp0 hrk).mono ?_; rintro e w3 ⟨_, rfl, ⟨v1, v2, rfl, ⟨us, g3, c3, rfl, o5, p1, p2, p3⟩, rfl⟩, hb3⟩)
        have hi0 := (HT.out.inner (k := k) h2 rfl p1 p2)
        have HI := Lib.hid hi0
        have hul : us.length ≤ zs.length := length_le (by decide) p1 hdz p3 (by rw [p2]; exact Int.ediv_le_self _ (lv_nonneg (by decide) hdz))
        clear hi0 p2
        have o3 := Lib.hid (HO.out.kept hb3)
        have n3 := Lib.hid (HN.out.trans hb3)
        obtain ⟨q9, hq⟩ : ∃ q9, lv b32 zs % r ^ k = q9 := ⟨_, rfl⟩
        rw [hq] at HI
        have hqq := Lib.hid hq
        clear hq HN HR
        go_loopw [8, 10, 37] (fun ov rv ci wq => ∃ (j : Nat) (es : List Int) (q : Int), ci = .int .i64 j ∧ rv = .int .u32 q ∧ Own wq w1.heap.size 5 .u8 ov (es.map dch) ∧ Own wq wr.heap.size 92 .u32 (.slice (some ⟨g3, 0, none⟩) us.length c3) us ∧ TxI r xs us k ds.length j es q ∧ Nw w1 wq)
          (fun _ _ ci _ => k - (intOf ci).toNat)
        case atStart => exact ⟨0, ds, q9, rfl, by rw [hqq.out], o3.out, o5, HI.out, n3.out⟩
        case round =>
          clear o3 HI o5 n3
          obtain ⟨j, es, q, rfl, rfl, ho4, hu4, hi4, hn4⟩ := hrel
          have hjk := hi4.le
          by_cases hj : j < k
          · have hq0 := hi4.q0
            have hq1 := hi4.q1r h2
            have m0 := Int.emod_nonneg q (show r ≠ 0 by omega)
            have m1 := Int.emod_lt_of_pos q (show 0 < r by omega)
            have d0 := Int.ediv_nonneg hq0 (show 0 ≤ r by omega)
            have d1 := Int.ediv_le_self r hq0
            have HS := Lib.hid (hi4.step h2 hj)
            have hel := hi4.len
            clear hi4
            have m2 : q % r < 36 := by omega
            have hsz := hn4.size
            have HU := Lib.hid hu4
            go_wp2_with (at_builtin; refine wpList_append_own _ rfl (.tmp 39) (.tmp 45) 123 rfl w1.heap.size 5 i0 (.int .u8 0) 1 1 Try.underlying123 hi hz0 hz1 hz2 rfl (by decide) _ _ _ rfl (ho4.alloc _) ⟨wr.heap.size, 0, none⟩ 1 1 [.int .u8 (dch (q % r))] rfl rfl ?c1 ?c2 ?c3 ?c4 ?c5 ?_)
            case c1 => exact cell_one_eq _ _ _ _ _ (dch_at m0 m2 _)
            case c2 => simp [Value.oneCell']
            case c3 => unfold maxLen; simp; omega
            case c4 => simp; omega
            case c5 => simp; omega
            intro v1 w4 hown1 hgrow1 _
            have HU2 := Lib.hid (HU.out.row ho4 (by decide) hgrow1)
            have n4 : Nw w1 w4 := hn4.grew ho4 hgrow1 (Nat.le_refl _)
            go_wp2
            go_roundw
            case rel => exact ⟨j + 1, _, _, by go_num, rfl, Own.cast hown1 (by simp [hel]) (by simp), HU2.out, HS.out, n4⟩
            case measure => simp [intOf]; omega
          · have hjk : j = k := by omega
            have hi5 : TxI r xs us k ds.length k es q := hjk ▸ hi4
            have HO5 := Lib.hid (hi5.outer p1 p3)
            have hel := hi5.len
            obtain ⟨_, hcu, ru⟩ := hu4.rdg
            have HK4 := Lib.hid ho4
            clear ho4 hu4
            clear hi4 hi5
            go_wp2
            exact ⟨⟨es, us, _, c3, rfl, hcu, ru, by omega, by omega, HK4.out, HO5.out, hn4⟩, by simp [HK4.out.slen, HO.out.slen]; omega⟩
      · have hz0 : zs = [] := List.eq_nil_of_length_eq_zero (by omega)
        subst hz0
        have hv0 : 0 < lv b32 xs := by
          have h1 := lv_nonneg (show (0 : Int) < b32 by decide) dx
          have h3 : lv b32 xs ≠ 0 := by intro e; rw [e] at ex; exact h0 (by rw [ex]; cases n <;> simp [sg])
          omega
        have heq := ht.eq
        simp only [lv, Int.mul_zero, Int.add_zero] at heq
        have dd := ht.dd
        obtain ⟨V, hV⟩ : ∃ V, V = lv b32 xs := ⟨_, rfl⟩
        rw [← hV] at heq hv0
        have HV := Lib.hid hV
        have HEX := Lib.hid ex
        have hdl := (strip_step dd heq hv0).1
        obtain ⟨g, cap, rfl⟩ := ho.some' (by intro e; simp at e; rw [e] at hdl; simp at hdl)
        have HQ := Lib.hid heq
        have hol : ds.length ≤ 9223372036854775807 := by have := (ho.rdg).2.2.1; simpa using this
        clear ht rz hzc hzl hV HSV HX ex heq
        go_wp2
        go_loop [8] (fun ov => ∃ (es : List Int), ov = .slice (some ⟨g, 0, none⟩) es.length cap ∧ Own wr w1.heap.size 5 .u8 (.slice (some ⟨g, 0, none⟩) es.length cap) (es.map dch) ∧ Ma.dg r es ∧ lv r es = V ∧ es.length ≤ ds.length) (fun ov => slen ov)
        case atStart => exact ⟨ds, by simp, by simpa using ho, dd, HQ.out, Nat.le_refl _⟩
        case round =>
          obtain ⟨es, rfl, hs, de, hve, hel⟩ := hrel
          obtain ⟨hpos, st0, st1⟩ := strip_step de hve hv0
          obtain ⟨y0, y1⟩ := dg_at de (by omega) (es.length - 1)
          have hc1 := hs.cellAt (i := es.length - 1) (by simp; omega) (by simp)
          rw [at0_map _ _ (by omega)] at hc1
          obtain ⟨c1, c2, c3⟩ := dch_0 y0 (by omega)
          obtain ⟨dd1, hdd1⟩ : ∃ dd1, dch (at0 es (es.length - 1)) = dd1 := ⟨_, rfl⟩
          rw [hdd1] at hc1 c1 c2 c3
          have HS := Lib.hid hs
          have HE := Lib.hid hve
          clear hdd1 hs hve ho
          by_cases hz : dd1 = 48
          · have hzb : (dd1 == 48) = true := by simpa using hz
            have Z := Lib.hid (st0 (c3.1 hz))
            have hs2 := HS.out.take (by simp) (es.length - 1) (by omega)
            rw [← List.map_take] at hs2
            have HS2 := Lib.hid hs2
            clear hs2 st0 st1 c3 hz
            have hcap : es.length ≤ cap := by have := HS.out.rdg.2.1; simpa using this
            go_wp2
            exact ⟨⟨es.take (es.length - 1), by simp, by simpa using HS2.out, Z.out.1, Z.out.2, by simp; omega⟩, by simp [slen]; omega⟩
          · have hzb : (dd1 == 48) = false := by simpa using hz
            have Z := Lib.hid (st1 (fun h => hz (c3.2 h)))
            have hcap : es.length ≤ cap := by have := HS.out.rdg.2.1; simpa using this
            clear st0 st1 c3 hz
            obtain ⟨q0, q1, _⟩ := (Q0.out.nw hb).nw hn
            have HBD : ∀ z ∈ es.map dch, 0 ≤ z ∧ z < 256 := by
              intro z hz9
              obtain ⟨d, hd, rfl⟩ := List.mem_map.1 hz9
              have hd2 := de d hd
              have := dch_0 hd2.1 (by omega)
              omega
            have HBD := Lib.hid HBD
            cases n
            · have hxp : x = V := by rw [HEX.out, HV.out]; simp [sg]
              go_wp2_with (go_at_call 98; refine (reverse_c HS.out (by simp)).mono ?_; rintro e w5 ⟨rfl, o5, hb5⟩; obtain ⟨s, hcv, hst⟩ := own_string o5 (by simp) (fun z hz => HBD.out z (List.mem_reverse.1 hz)))
              go_ret2
              exact ⟨_, rfl, ⟨_, _, rfl, ⟨s, rfl, Txt.pos (by omega) de Z.out (by rw [HE.out, hxp]) hst⟩, rfl⟩, Below.trans (nw2.trans hn) (Below.mono hb5 nw2.size)⟩
            · have hxp : x = -V := by rw [HEX.out, HV.out]; simp [sg]
              go_wp2_with (at_builtin; refine wpList_append_own _ rfl (.tmp 66) (.tmp 67) 123 rfl w1.heap.size 5 i0 (.int .u8 0) 1 1 Try.underlying123 hi hz0 hz1 hz2 rfl (by decide) _ _ _ rfl (HS.out.alloc _) ⟨wr.heap.size, 0, none⟩ 1 1 [.int .u8 45] rfl rfl ?c1 ?c2 ?c3 ?c4 ?c5 ?_)
              case c2 => simp [Value.oneCell']
              case c3 => unfold maxLen; simp; omega
              case c4 => omega
              case c5 => have := hn.size; simp; omega
              intro v1 w4 hown1 hgrow1 _
              have n4 : Nw w1 w4 := hn.grew HS.out hgrow1 (Nat.le_refl _)
              have o4 : Own w4 w1.heap.size 5 .u8 v1 (es.map dch ++ [45]) := Own.cast hown1 (by simp) (by simp)
              obtain ⟨g4, cap4, e4⟩ := o4.some' (by simp)
              have e5 : v1 = .slice (some ⟨g4, 0, none⟩) (es.length + 1) cap4 := by rw [e4]; simp
              subst e5
              clear e4
              have O4 := Lib.hid o4
              clear o4 hown1 hgrow1
              go_wp2_with (go_at_call 98; refine (reverse_c O4.out (by simp)).mono ?_; rintro e w5 ⟨rfl, o5, hb5⟩; obtain ⟨s, hcv, hst⟩ := own_string o5 (by simp) (fun z hz => by rw [List.mem_reverse, List.mem_append, List.mem_singleton] at hz; rcases hz with hz | rfl; exact HBD.out z hz; omega))
              go_ret2
              exact ⟨_, rfl, ⟨_, _, rfl, ⟨s, rfl, Txt.neg (by omega) de Z.out (by rw [HE.out, hxp]; omega) hst⟩, rfl⟩, Below.trans (nw2.trans n4) (Below.mono hb5 nw2.size)⟩
end Go.Proofs.Ytcgkgcciogibkaa
