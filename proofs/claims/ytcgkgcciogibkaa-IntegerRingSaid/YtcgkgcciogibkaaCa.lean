/- Words for the laws: bounds, what came in; a region by its number. -/
import Derived.Test.YtcgkgcciogibkaaC9
import Derived.IntWalk
import Derived.Deep.CutRange
import Derived.Deep.DeepCutAuto
set_option linter.unusedVariables false
set_option linter.unusedSimpArgs false
namespace Go.Proofs.Ytcgkgcciogibkaa
open Go.RowKit Ma

/-- What came in: an integer as plain data. -/
def In (w : World) (A : Option Addr) (l c : Nat) (xs : List Int) : Prop := l = xs.length ∧ l ≤ c ∧ Rd w .u32 A xs ∧ dg b32 xs
theorem In.nw {w W : World} {A : Option Addr} {l c : Nat} {xs : List Int} (h : In w A l c xs) (k : Nw w W) : In W A l c xs := ⟨h.1, h.2.1, h.2.2.1.kept k.kept, h.2.2.2⟩

theorem short_l {b l c : Nat} {m : Int} (most : Nat) (ns : List Nn) {w : World} (e1 : m = most) (e2 : l = ns.length) (hn : Ns w b ns) (hm : most ≤ 1000) (hl : ns.length ≤ 1000) (hL : ∀ x ∈ ns, x.2.2.1 ≤ 9223372036854775807) :
    Calls Try.prog 14 #[.int .i64 m, .slice (some ⟨b, 0, none⟩) l c] w (Ret w (KV (.bool (shB most ns)))) := by
  subst e1 e2; exact short_c hn hm hl hL
theorem mades_l {b l c : Nat} (ns : List Nn) (zs : List Int) {w : World} (e : l = ns.length) (hn : Ns w b ns) (hz : Ins w ns zs) (hl : ns.length ≤ 1000) (h0 : 0 < ns.length) :
    Calls Try.prog 22 #[.slice (some ⟨b, 0, none⟩) l c] w (Ret w (KM zs)) := by
  subst e; exact mades_c hn hz hl h0
/-- A bound for a number of so many limbs. -/
def bd (k : Nat) (z : Int) : Prop := -(b32 ^ k) < z ∧ z < b32 ^ k
theorem bd.neg {k : Nat} {x : Int} (h : bd k x) : bd k (-x) := by unfold bd at *; omega
theorem bd.mono {k j : Nat} {x : Int} (h : bd k x) (hj : k ≤ j) : bd j x := by
  have := pow_le (b := b32) (by decide) hj
  unfold bd at *; omega
theorem bd.add {a b : Nat} {x y : Int} (h : bd a x) (k : bd b y) : bd (max a b + 1) (x + y) := by
  have h1 := h.mono (Nat.le_max_left a b)
  have h2 := k.mono (Nat.le_max_right a b)
  unfold bd at *
  rw [Int.pow_succ]
  have := pos_pow (b := b32) (by decide) (max a b)
  have e : b32 ^ max a b * b32 = b32 ^ max a b * 4294967296 := rfl
  omega
theorem bd.sub {a b : Nat} {x y : Int} (h : bd a x) (k : bd b y) : bd (max a b + 1) (x - y) := by
  rw [Int.sub_eq_add_neg]; exact h.add k.neg
theorem bd.natAbs {a : Nat} {x : Int} (h : bd a x) : (x.natAbs : Int) < b32 ^ a := by unfold bd at h; omega
theorem bd.of {a : Nat} {x : Int} (h : (x.natAbs : Int) < b32 ^ a) : bd a x := by unfold bd; omega
theorem bd.mul {a b : Nat} {x y : Int} (h : bd a x) (k : bd b y) : bd (a + b) (x * y) := by
  apply bd.of
  rw [Int.natAbs_mul, Int.natCast_mul, Int.pow_add]
  have h1 := h.natAbs
  have h2 := k.natAbs
  have p := pos_pow (b := b32) (by decide) b
  exact Int.lt_of_le_of_lt (Int.mul_le_mul_of_nonneg_left (Int.le_of_lt h2) (by omega)) (Int.mul_lt_mul_of_pos_right h1 p)
theorem RI.le {w : World} {n : Bool} {A : Option Addr} {l c k : Nat} {z : Int} (h : RI w n A l c z) (hb : bd k z) (hk : k ≤ 300000) : l ≤ 300000 := Nat.le_trans (h.len_le k hb.1 hb.2) hk
theorem RI.le5 {w : World} {n : Bool} {A : Option Addr} {l c k : Nat} {z : Int} (h : RI w n A l c z) (hb : bd k z) (hk : k ≤ 500000) : l ≤ 500000 := Nat.le_trans (h.len_le k hb.1 hb.2) hk
theorem bd_sg {n : Bool} {xs : List Int} {k : Nat} (d : dg b32 xs) (hl : xs.length ≤ k) : bd k (sg n (lv b32 xs)) := by
  have h1 := lv_lt (b := b32) (by decide) d
  have h2 := lv_nonneg (b := b32) (by decide) d
  have h3 := pow_le (b := b32) (by decide) hl
  unfold bd
  cases n <;> simp only [sg, if_true, if_false, Bool.false_eq_true] <;> omega
theorem KM.three {v : Value} {W : World} {z1 z2 z3 : Int} (h : KM [z1, z2, z3] v W) : ∃ g c m1 D1 l1 c1 m2 D2 l2 c2 m3 D3 l3 c3, v = .slice (some ⟨g, 0, none⟩) 3 c ∧ 3 ≤ c ∧
    (W.cell? ⟨g, 0, none⟩ = some (.bool m1) ∧ W.cell? ⟨g, 1, none⟩ = some (.slice D1 l1 c1) ∧ W.cell? ⟨g, 2, none⟩ = some (.bool m2) ∧ W.cell? ⟨g, 3, none⟩ = some (.slice D2 l2 c2) ∧ W.cell? ⟨g, 4, none⟩ = some (.bool m3) ∧ W.cell? ⟨g, 5, none⟩ = some (.slice D3 l3 c3)) ∧
    RI W m1 D1 l1 c1 z1 ∧ RI W m2 D2 l2 c2 z2 ∧ RI W m3 D3 l3 c3 z3 := by
  obtain ⟨g, c, rs, rfl, hc, hn, hl, hr⟩ := h
  match rs, hl, hn, hr with
  | [(m1, D1, l1, c1), (m2, D2, l2, c2), (m3, D3, l3, c3)], _, hn, hr =>
    have a := hn 0 _ _ _ _ rfl
    have b := hn 1 _ _ _ _ rfl
    have d := hn 2 _ _ _ _ rfl
    exact ⟨g, c, m1, D1, l1, c1, m2, D2, l2, c2, m3, D3, l3, c3, rfl, hc, ⟨a.1, a.2, b.1, b.2, d.1, d.2⟩, hr 0 _ _ _ _ rfl, hr 1 _ _ _ _ rfl, hr 2 _ _ _ _ rfl⟩
/-- A region of a function's text, by its number. -/
def regIn (k : Nat) : Code → Option Code
  | .region id ops d => if id = k then some (.region id ops d) else none
  | .seq a b => match regIn k a with
    | some c => some c
    | none => regIn k b
  | .block _ c => regIn k c
  | .scope c => regIn k c
  | .loop c => regIn k c
  | .cond _ a b => match regIn k a with
    | some c => some c
    | none => regIn k b
  | _ => none
noncomputable def regOf (k : Nat) (f : Func) : Code := (f.body.bind (regIn k)).getD .skip
end Go.Proofs.Ytcgkgcciogibkaa
