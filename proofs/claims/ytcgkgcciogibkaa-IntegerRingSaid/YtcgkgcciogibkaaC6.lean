/- The contract of the law's Short: a closure handed to slices.ContainsFunc; made. -/
import Derived.Test.YtcgkgcciogibkaaC5
set_option linter.unusedVariables false
set_option linter.unusedSimpArgs false
namespace Go.Proofs.Ytcgkgcciogibkaa
open Go.RowKit Ma

/-- A sign and a slice, as they lie in memory. -/
abbrev Nn := Bool × Option Addr × Nat × Nat
/-- Such pairs lie in the block b. -/
def Ns (w : World) (b : Nat) (ns : List Nn) : Prop := ∀ i n A l c, ns[i]? = some (n, A, l, c) → w.cell? ⟨b, i * 2, none⟩ = some (.bool n) ∧ w.cell? ⟨b, i * 2 + 1, none⟩ = some (.slice A l c)
theorem Ns.nw {w W : World} {b : Nat} {ns : List Nn} (h : Ns w b ns) (k : Nw w W) : Ns W b ns := fun i n A l c e => ⟨k.c (h i n A l c e).1, k.c (h i n A l c e).2⟩
def shB (most : Nat) (ns : List Nn) : Bool := ns.all fun x => decide (x.2.2.1 ≤ most)
def KIx (b : Bool) : Rg.Know := fun v _ => ∃ r : Int, v = .int .i64 r ∧ (if b = true then r < 0 else 0 ≤ r)

set_option maxHeartbeats 1600000 in
set_option maxRecDepth 100000 in
theorem short1_c {n : Bool} {A : Option Addr} {l c p most : Nat} {w : World} (hc : w.cell? ⟨p, 0, none⟩ = some (.int .i64 most)) (hl : l ≤ 9223372036854775807) :
    Calls Try.prog 67 #[.agg #[.bool n, .slice A l c], .pointer (some ⟨p, 0, none⟩)] w (Ret w (KV (.bool (decide (most < l))))) := by
  have hc2 := (Nw.refl w).alloc (.cells #[.bool n, .slice A l c] 24) |>.c hc
  go_enter Try.func67, Try.ntmps67
  go_wp2
  go_ret
  exact Ret.Veq (by simp) ((Nw.refl w).alloc _)

set_option maxHeartbeats 1600000 in
set_option maxRecDepth 100000 in
theorem shortx_c {b c p most : Nat} {ns : List Nn} {w : World} (hc : w.cell? ⟨p, 0, none⟩ = some (.int .i64 most)) (hn : Ns w b ns) (hm : most ≤ 1000) (hl : ns.length ≤ 1000) (hL : ∀ x ∈ ns, x.2.2.1 ≤ 9223372036854775807) :
    Calls Try.prog 111 #[.slice (some ⟨b, 0, none⟩) ns.length c, .func (.func 67) #[] #[.pointer (some ⟨p, 0, none⟩)]] w (Ret w (KIx (shB most ns))) := by
  have HN := Lib.hid hn
  have HL := Lib.hid hL
  clear hn hL
  go_enter Try.func111, Try.ntmps111
  go_wp2
  go_loopw [5, 8] (fun _ ci wr => ∃ k : Nat, ci = .int .i64 k ∧ k ≤ ns.length ∧ shB most (ns.take k) = true ∧ Nw w wr)
    (fun _ ci _ => ns.length - (intOf ci).toNat)
  case atStart => exact ⟨0, rfl, by omega, rfl, Nw.refl w⟩
  case round =>
    obtain ⟨k, rfl, hk, hs, hn⟩ := hrel
    have HS := Lib.hid hs
    clear hs
    have hc2 := hn.c hc
    by_cases hlt : k < ns.length
    · obtain ⟨⟨n, A, l, cc⟩, he⟩ : ∃ x, ns[k]? = some x := ⟨_, List.getElem?_eq_getElem hlt⟩
      obtain ⟨h1, h2⟩ := (HN.out.nw hn) k n A l cc he
      have hll := HL.out _ (List.mem_of_getElem? he)
      simp only at hll
      have hk0 : (0 : Int) ≤ (k : Int) := by omega
      have hki : (k : Int) < (ns.length : Int) := by omega
      have ht : shB most (ns.take (k + 1)) = (shB most (ns.take k) && decide (l ≤ most)) := by
        unfold shB
        rw [List.take_add_one, he]
        simp
      have HE := Lib.hid he
      have HT := Lib.hid ht
      clear he ht
      by_cases hlm : most < l
      · have hb : decide (most < l) = true := by simpa using hlm
        go_wp2_with (go_at_call 67; refine (short1_c hc2 hll).mono ?_; rintro e w1 ⟨_, rfl, rfl, hb1⟩)
        go_ret
        have hf : shB most ns = false := by
          unfold shB
          rw [List.all_eq_false]
          exact ⟨_, List.mem_of_getElem? HE.out, by simpa using hlm⟩
        exact ⟨_, rfl, ⟨k, rfl, by rw [hf]; simp⟩, hn.trans hb1⟩
      · have hb : decide (most < l) = false := by simpa using hlm
        go_wp2_with (go_at_call 67; refine (short1_c hc2 hll).mono ?_; rintro e w1 ⟨_, rfl, rfl, hb1⟩)
        go_roundw
        case rel => exact ⟨k + 1, by go_num, by omega, by rw [HT.out, HS.out]; simp; omega, hn.trans hb1⟩
        case measure => simp [intOf]; omega
    · have hke : k = ns.length := by omega
      have hf : shB most ns = true := by
        have := HS.out
        rwa [hke, List.take_length] at this
      have HF := Lib.hid hf
      clear hke hf
      go_wp2
      go_ret
      exact ⟨_, rfl, ⟨-1, rfl, by rw [HF.out]; simp⟩, hn⟩

set_option maxHeartbeats 1600000 in
set_option maxRecDepth 100000 in
theorem shortc_c {b c p most : Nat} {ns : List Nn} {w : World} (hc : w.cell? ⟨p, 0, none⟩ = some (.int .i64 most)) (hn : Ns w b ns) (hm : most ≤ 1000) (hl : ns.length ≤ 1000) (hL : ∀ x ∈ ns, x.2.2.1 ≤ 9223372036854775807) :
    Calls Try.prog 66 #[.slice (some ⟨b, 0, none⟩) ns.length c, .func (.func 67) #[] #[.pointer (some ⟨p, 0, none⟩)]] w (Ret w (KV (.bool (!shB most ns)))) := by
  have HN := Lib.hid hn
  have HL := Lib.hid hL
  clear hn hL
  by_cases hs : shB most ns = true
  all_goals
    have HS := Lib.hid hs
    clear hs
    go_enter Try.func66, Try.ntmps66
    go_wp2_with (go_at_call 111; refine (shortx_c hc HN.out hm hl HL.out).mono ?_; rintro e w1 ⟨_, rfl, ⟨r, rfl, hr⟩, hb1⟩)
    go_ret
    have h1 := HS.out
    first
      | (rw [h1] at hr ⊢; exact Ret.Veq (by simp at hr ⊢; omega) hb1)
      | (have h1 : shB most ns = false := by simpa using h1
         rw [h1] at hr ⊢; exact Ret.Veq (by simp at hr ⊢; omega) hb1)

set_option maxHeartbeats 1600000 in
set_option maxRecDepth 100000 in
theorem short_c {b c most : Nat} {ns : List Nn} {w : World} (hn : Ns w b ns) (hm : most ≤ 1000) (hl : ns.length ≤ 1000) (hL : ∀ x ∈ ns, x.2.2.1 ≤ 9223372036854775807) :
    Calls Try.prog 14 #[.int .i64 most, .slice (some ⟨b, 0, none⟩) ns.length c] w (Ret w (KV (.bool (shB most ns)))) := by
  have nw1 : Nw w (w.alloc (.cells #[.int .i64 most] 3)) := (Nw.refl w).alloc _
  have hc : (w.alloc (.cells #[.int .i64 most] 3)).cell? ⟨w.heap.size, 0, none⟩ = some (.int .i64 most) := by go_simp
  have HN := Lib.hid (hn.nw nw1)
  have HL := Lib.hid hL
  clear hn hL
  go_enter Try.func14, Try.ntmps14
  go_wp2_with (go_at_call 66; refine (shortc_c hc HN.out hm hl HL.out).mono ?_; rintro e w1 ⟨_, rfl, rfl, hb1⟩)
  go_ret
  exact Ret.Veq (by simp) (nw1.trans hb1)
end Go.Proofs.Ytcgkgcciogibkaa
