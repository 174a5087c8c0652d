/- Parts D2, in one file. -/
import Derived.RowKit
import Derived.Test.YtcgkgcciogibkaaLFields4
/- How plain data that came in read. -/
set_option linter.unusedVariables false
set_option linter.unusedSimpArgs false
namespace Go.Proofs.Ytcgkgcciogibkaa
open Go.RowKit Ma
theorem In.nil (W : World) : In W none 0 0 [] := ⟨rfl, Nat.le_refl _, Rd.nil _ _ _, dg_nil _⟩
theorem In.of {W : World} {x : Addr} {l c : Nat} {zs : List Int} (hl : l ≤ c) (hm : c ≤ maxLen) (hz : zs.length = c) (hcell : ∀ i, i < zs.length → W.cell? (x.add i) = some (.int .u32 (zs.getD i 0))) (hw : ∀ n ∈ zs, (Lit.int .u32 n).wf = true) : In W (some x) l c (zs.take l) := by
  have h1 : (zs.take l).length = l := by rw [List.length_take]; omega
  refine ⟨h1.symm, hl, ⟨by rw [h1]; unfold maxLen at hm; omega, fun i hi => ⟨x, rfl, ?_⟩⟩, fun n hn => ?_⟩
  · rw [h1] at hi
    rw [hcell i (by omega)]
    simp only [at0, List.getD_eq_getElem?_getD, List.getElem?_take, hi, if_true]
  · have h2 := hw n (List.mem_of_mem_take hn)
    simp only [Lit.wf, Bool.and_eq_true, decide_eq_true_eq] at h2
    have hm : IntKind.u32.max = 4294967295 := by simp [IntKind.max, IntKind.bits, IntKind.signed]
    have hn : IntKind.u32.min = 0 := by simp [IntKind.min, IntKind.signed]
    rw [hm, hn] at h2
    rw [b32_eq]
    omega
end Go.Proofs.Ytcgkgcciogibkaa
