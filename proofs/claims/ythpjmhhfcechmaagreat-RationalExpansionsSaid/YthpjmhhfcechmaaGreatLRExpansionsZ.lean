/- The law RationalExpansions holds for every input: it returns true, and each argument reads behind the call as it read before. -/
import Derived.Test.YthpjmhhfcechmaaGreatRows
import Derived.WalkKit
import Derived.ProofKit
import Derived.OpenShut
import Derived.ShutString
import Derived.ChangeOld
import Derived.Below
import Derived.SizedLaws
import Derived.Lib.SmallJoins
import Derived.Test.YthpjmhhfcechmaaGreatLRExpansions13
/- The law RationalExpansions holds for every input: it returns true, and each argument reads behind the call as it read before. -/
set_option linter.unusedVariables false
set_option linter.unusedSimpArgs false
namespace Go.Proofs.YthpjmhhfcechmaaGreat
open Go.ChangeShapes Go.WideShapes Go.ChangeAt Go.RowKit Go.Joins
open Go.ChangeMaps (open_string shut_string)
namespace RationalExpansions
theorem own : ownKnob Tryz.prog.godebug = none := by kernel_rfl
theorem laidOut : laidOutB Tryz.prog = true := by kernel_rfl
set_option maxRecDepth 100000 in
theorem lifted (os : Os) (started : os.Started) (H : Type) (enc : TypeId × Value → H) :
  ReturnsInHanded {} Tryz.checked os 7 .any (Rows.rationalExpansionsSpec.pre6 enc Tryz.prog Tryz.f7 Rows.rationalExpansionsRow.domain false) (Rows.rationalExpansionsSpec.post enc Tryz.prog Tryz.f7 false true false false) := by
 refine returnsInHanded_of_change_sized (C := Tryz.checked) own started (by kernel_rfl) Tryz.func7
  (ChangeSpec.witness6 (enc := enc) (C := Tryz.checked) false ⟨#[], #[.agg #[.bool false, .slice none 0 0, .bool false, .slice none 0 0], .agg #[.bool false, .slice none 0 0, .bool false, .slice none 0 0], .agg #[.bool false, .slice none 0 0, .bool false, .slice none 0 0], .slice none 0 0], []⟩ 8 (by kernel_rfl) (by kernel_rfl) (by kernel_rfl) (by kernel_rfl)) ?_
 intro W base args ds gs before hval0 hW hcnd hsz0 _
 have hsz : (DataW.weightsEach Tryz.prog (Tryz.f7.params.toList ++ Rows.rationalExpansionsSpec.plain.varTypes Tryz.prog) (ds ++ gs)).all (· ≤ reachBytes) = true := hsz0
 have hval : ∀ (j : Nat) t v, Tryz.f7.params[j]? = some t → args[j]? = some v → Value.okWide Tryz.prog W .any base t v := hval0
 have hW' := hW
 obtain ⟨p, q, hA0, hV, rfl, hfz, hnd⟩ := hW
 have hA : DataW.TrodAll enc Tryz.prog W 0 (fun _ => true) true Tryz.f7.params.toList args.toList ds p := hA0
 rw [Tryz.params7] at hA hval hsz
 obtain ⟨v0, vs0, d0, ds0, p0, q0, hargs, rfl, rfl, h0, r0⟩ := trodAll_cons hA
 obtain ⟨v1, vs1, d1, ds1, p1, q1, rfl, rfl, rfl, h1, r1⟩ := trodAll_cons r0
 obtain ⟨v2, vs2, d2, ds2, p2, q2, rfl, rfl, rfl, h2, r2⟩ := trodAll_cons r1
 obtain ⟨v3, vs3, d3, ds3, p3, q3, rfl, rfl, rfl, h3, r3⟩ := trodAll_cons r2
 obtain ⟨rfl, rfl, rfl⟩ := trodAll_nil r3
 obtain rfl : args = #[v0, v1, v2, v3] := by cases args; simp_all
 obtain ⟨rfl, rfl⟩ := trodVars_none hV
 have k0 := h0
 have lt0 : ∀ x ∈ p0, x.block < W.heap.size := by obtain ⟨m, hm⟩ := k0; exact DataW.trod_lt m _ _ _ hm
 obtain ⟨n0, A0, l0, c0, xs0, n0b, A0b, l0b, c0b, xs0b, rfl, J0, J0b⟩ : ∃ (n : Bool) (A : Option Addr) (l c : Nat) (xs : List Int) (n2 : Bool) (A2 : Option Addr) (l2 c2 : Nat) (xs2 : List Int), v0 = .agg #[.bool n, .slice A l c, .bool n2, .slice A2 l2 c2] ∧ In W A l c xs ∧ In W A2 l2 c2 xs2 := by
  obtain ⟨q0, q1, q2, q3, y0, y1, y2, y3, n, m, rfl, hy0, hy1, hy2, hy3⟩ := open_Q (hval 0 26 v0 rfl rfl) h0
  obtain ⟨b0, e0, _⟩ := DataW.trod_bool Tryz.underlying4 hy0
  obtain rfl : q0 = .bool b0 := by simpa using e0
  have J0 : ∃ (A : Option Addr) (l c : Nat) (xs : List Int), q1 = .slice A l c ∧ In W A l c xs := by
   rcases open_ints Tryz.underlying22 Tryz.underlying140 (by kernel_rfl) hy1 with ⟨hcs, _⟩ | ⟨x, l, c, zs, hcs, _, hl, hm, hz, _, hcell, hwz⟩
   ·exact ⟨none, 0, 0, [], by simpa using hcs, In.nil W⟩
   ·exact ⟨some x, l, c, zs.take l, by simpa using hcs, In.of hl hm hz hcell hwz⟩
  obtain ⟨A0, l0, c0, xs0, rfl, J0⟩ := J0
  obtain ⟨b2, e2, _⟩ := DataW.trod_bool Tryz.underlying4 hy2
  obtain rfl : q2 = .bool b2 := by simpa using e2
  have J2 : ∃ (A : Option Addr) (l c : Nat) (xs : List Int), q3 = .slice A l c ∧ In W A l c xs := by
   rcases open_ints Tryz.underlying22 Tryz.underlying140 (by kernel_rfl) hy3 with ⟨hcs, _⟩ | ⟨x, l, c, zs, hcs, _, hl, hm, hz, _, hcell, hwz⟩
   ·exact ⟨none, 0, 0, [], by simpa using hcs, In.nil W⟩
   ·exact ⟨some x, l, c, zs.take l, by simpa using hcs, In.of hl hm hz hcell hwz⟩
  obtain ⟨A2, l2, c2, xs2, rfl, J2⟩ := J2
  exact ⟨_, _, _, _, _, _, _, _, _, _, rfl, J0, J2⟩
 have k1 := h1
 have lt1 : ∀ x ∈ p1, x.block < W.heap.size := by obtain ⟨m, hm⟩ := k1; exact DataW.trod_lt m _ _ _ hm
 obtain ⟨n1, A1, l1, c1, xs1, n1b, A1b, l1b, c1b, xs1b, rfl, J1, J1b⟩ : ∃ (n : Bool) (A : Option Addr) (l c : Nat) (xs : List Int) (n2 : Bool) (A2 : Option Addr) (l2 c2 : Nat) (xs2 : List Int), v1 = .agg #[.bool n, .slice A l c, .bool n2, .slice A2 l2 c2] ∧ In W A l c xs ∧ In W A2 l2 c2 xs2 := by
  obtain ⟨q0, q1, q2, q3, y0, y1, y2, y3, n, m, rfl, hy0, hy1, hy2, hy3⟩ := open_Q (hval 1 26 v1 rfl rfl) h1
  obtain ⟨b0, e0, _⟩ := DataW.trod_bool Tryz.underlying4 hy0
  obtain rfl : q0 = .bool b0 := by simpa using e0
  have J0 : ∃ (A : Option Addr) (l c : Nat) (xs : List Int), q1 = .slice A l c ∧ In W A l c xs := by
   rcases open_ints Tryz.underlying22 Tryz.underlying140 (by kernel_rfl) hy1 with ⟨hcs, _⟩ | ⟨x, l, c, zs, hcs, _, hl, hm, hz, _, hcell, hwz⟩
   ·exact ⟨none, 0, 0, [], by simpa using hcs, In.nil W⟩
   ·exact ⟨some x, l, c, zs.take l, by simpa using hcs, In.of hl hm hz hcell hwz⟩
  obtain ⟨A0, l0, c0, xs0, rfl, J0⟩ := J0
  obtain ⟨b2, e2, _⟩ := DataW.trod_bool Tryz.underlying4 hy2
  obtain rfl : q2 = .bool b2 := by simpa using e2
  have J2 : ∃ (A : Option Addr) (l c : Nat) (xs : List Int), q3 = .slice A l c ∧ In W A l c xs := by
   rcases open_ints Tryz.underlying22 Tryz.underlying140 (by kernel_rfl) hy3 with ⟨hcs, _⟩ | ⟨x, l, c, zs, hcs, _, hl, hm, hz, _, hcell, hwz⟩
   ·exact ⟨none, 0, 0, [], by simpa using hcs, In.nil W⟩
   ·exact ⟨some x, l, c, zs.take l, by simpa using hcs, In.of hl hm hz hcell hwz⟩
  obtain ⟨A2, l2, c2, xs2, rfl, J2⟩ := J2
  exact ⟨_, _, _, _, _, _, _, _, _, _, rfl, J0, J2⟩
 have k2 := h2
 have lt2 : ∀ x ∈ p2, x.block < W.heap.size := by obtain ⟨m, hm⟩ := k2; exact DataW.trod_lt m _ _ _ hm
 obtain ⟨n2, A2, l2, c2, xs2, n2b, A2b, l2b, c2b, xs2b, rfl, J2, J2b⟩ : ∃ (n : Bool) (A : Option Addr) (l c : Nat) (xs : List Int) (n2 : Bool) (A2 : Option Addr) (l2 c2 : Nat) (xs2 : List Int), v2 = .agg #[.bool n, .slice A l c, .bool n2, .slice A2 l2 c2] ∧ In W A l c xs ∧ In W A2 l2 c2 xs2 := by
  obtain ⟨q0, q1, q2, q3, y0, y1, y2, y3, n, m, rfl, hy0, hy1, hy2, hy3⟩ := open_Q (hval 2 26 v2 rfl rfl) h2
  obtain ⟨b0, e0, _⟩ := DataW.trod_bool Tryz.underlying4 hy0
  obtain rfl : q0 = .bool b0 := by simpa using e0
  have J0 : ∃ (A : Option Addr) (l c : Nat) (xs : List Int), q1 = .slice A l c ∧ In W A l c xs := by
   rcases open_ints Tryz.underlying22 Tryz.underlying140 (by kernel_rfl) hy1 with ⟨hcs, _⟩ | ⟨x, l, c, zs, hcs, _, hl, hm, hz, _, hcell, hwz⟩
   ·exact ⟨none, 0, 0, [], by simpa using hcs, In.nil W⟩
   ·exact ⟨some x, l, c, zs.take l, by simpa using hcs, In.of hl hm hz hcell hwz⟩
  obtain ⟨A0, l0, c0, xs0, rfl, J0⟩ := J0
  obtain ⟨b2, e2, _⟩ := DataW.trod_bool Tryz.underlying4 hy2
  obtain rfl : q2 = .bool b2 := by simpa using e2
  have J2 : ∃ (A : Option Addr) (l c : Nat) (xs : List Int), q3 = .slice A l c ∧ In W A l c xs := by
   rcases open_ints Tryz.underlying22 Tryz.underlying140 (by kernel_rfl) hy3 with ⟨hcs, _⟩ | ⟨x, l, c, zs, hcs, _, hl, hm, hz, _, hcell, hwz⟩
   ·exact ⟨none, 0, 0, [], by simpa using hcs, In.nil W⟩
   ·exact ⟨some x, l, c, zs.take l, by simpa using hcs, In.of hl hm hz hcell hwz⟩
  obtain ⟨A2, l2, c2, xs2, rfl, J2⟩ := J2
  exact ⟨_, _, _, _, _, _, _, _, _, _, rfl, J0, J2⟩
 have k3 := h3
 have lt3 : ∀ x ∈ p3, x.block < W.heap.size := by obtain ⟨m, hm⟩ := k3; exact DataW.trod_lt m _ _ _ hm
 obtain ⟨A3, c3, ns3, zs3, rfl, J3, J3b, J3c⟩ := open_Ns (fun _ => rfl) (hval 3 80 v3 rfl rfl) h3
 clear hA0 hval0 hsz0 hsz
 refine (rationalExpansions_walk J0 J0b J1 J1b J2 J2b J3 J3b J3c).mono fun e W' ⟨_, he, hk, bel⟩ => ?_
 subst he
 obtain rfl := hk
 exact ⟨_, rfl, _, _, _, [], _, [], hW', trodAll_mk1 (shut_bool Tryz.underlying4 _), (trodAll_cons_mk (Below.trod laidOut (by kernel_rfl) (of_decide_eq_true (by kernel_rfl)) k0 bel lt0) (trodAll_cons_mk (Below.trod laidOut (by kernel_rfl) (of_decide_eq_true (by kernel_rfl)) k1 bel lt1) (trodAll_cons_mk (Below.trod laidOut (by kernel_rfl) (of_decide_eq_true (by kernel_rfl)) k2 bel lt2) (trodAll_cons_mk (Below.trod laidOut (by kernel_rfl) (of_decide_eq_true (by kernel_rfl)) k3 bel lt3) trodAll_mk0)))), rfl, bel.frame _, fun h => by cases h⟩
theorem holds : Rows.RationalExpansionsSaid :=
 OpenClaim.holds_of_wide 7 Tryz.f7 rfl rfl rfl rfl rfl rfl rfl ⟨rfl, rfl, rfl, rfl, rfl⟩ rfl rfl rfl rfl rfl (by kernel_rfl) Tryz.func7 (by kernel_rfl)
  (of_decide_eq_true (by kernel_rfl)) (by unfold Func.isWrapper; first | (rw [if_pos (by decide +kernel)]; kernel_rfl) | (rw [if_neg (by decide +kernel)]; exact ⟨rfl, rfl⟩))
  (fun os started H enc _ => lifted os started H enc)
end RationalExpansions
theorem rationalExpansions_holds : Rows.RationalExpansionsSaid := RationalExpansions.holds
#print axioms rationalExpansions_holds
end Go.Proofs.YthpjmhhfcechmaaGreat
