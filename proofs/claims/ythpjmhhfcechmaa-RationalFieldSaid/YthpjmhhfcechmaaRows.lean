/-
  No cell of these rows narrows 'for every input' (looked for: loops, veiled, ifaces, maps, wideKeys, modest, calm, conditions, laid).
  DERIVED. THE GIVEN ROWS OF THIS SEAT. 12 by the template 'for every input the law returns true; each argument reads behind the call as it read before'; 0 by the template 'total and deterministic' (their statements: YthpjmhhfcechmaaTotals.lean).
  GIVEN WITH THE SEED: the statements are not yours to turn. If you find one false, say at which input.
  Laid BY PROGRAM, IN A SANDBOX (cutbox-rows.mjs): the forced cells as the released guide's own fill.sh prints them over the translation 3afbbf2fddfbe665… (all of the seat's roots in one cut). By AI agents, Wed Nov 11 2026. No macro, syntax, notation, axiom, sorry.
-/
import Derived.Test.YthpjmhhfcechmaaChecked
import GoSem.Claim
import GoSem.ClaimJoined
import GoSem.ClaimMapViews
import Derived.JoinedTies
import Derived.KernelRfl
namespace Go.Proofs.Ythpjmhhfcechmaa
/- THE CELL 'sum', in the pinned program and in every row, IS THE sha256 OF THE DUMP (.gsa) THAT YthpjmhhfcechmaaProg.lean LOADS. Nothing in Lean hashes anything: it is a label: what it is worth is what the hold of that sum in a sandbox is worth. -/
noncomputable def Try.pinned : Pinned := { name := "ythpjmhhfcechmaa", sum := "3afbbf2fddfbe6659fccd1a4839be97c2d3bf99af3c5105e6afe9257975001f6", checked := Try.checked }
namespace Rows
def none {H : Type} : Left H := { results := [], args := [] }

/-- 'commonformlaw02.IntegerBits': WHATEVER THE INPUT: true; the input reads as it did. -/
def integerBitsSpec : ChangeSpec := { name := "integerBits", fn := fun _ => fun
  | [d1, d2, d3, d4] => { results := [.lit (.bool true)], args := [d1, d2, d3, d4] }
  | _ => none }
def integerBitsRow : OpenClaim := { program := "ythpjmhhfcechmaa", sum := "3afbbf2fddfbe6659fccd1a4839be97c2d3bf99af3c5105e6afe9257975001f6", func := "commonform/commonformlaw02.IntegerBits", spec := "integerBits", unfollowed := true, recurses := true, named := ["math/bits.overflowError"], apart := false }
def IntegerBitsSaid : Prop := integerBitsRow.holds Try.pinned (OpenSpec.ofChange integerBitsSpec)

/-- ITS FALSE NEIGHBOUR: 'it returns false'. Refute it at one input. -/
def integerBitsWrong : ChangeSpec := { name := "integerBits", fn := fun _ => fun
  | [d1, d2, d3, d4] => { results := [.lit (.bool false)], args := [d1, d2, d3, d4] }
  | _ => none }
def IntegerBitsWrongFalsely : Prop := integerBitsRow.holds Try.pinned (OpenSpec.ofChange integerBitsWrong)

/-- 'commonformlaw02.IntegerRing': WHATEVER THE INPUT: true; the input reads as it did. -/
def integerRingSpec : ChangeSpec := { name := "integerRing", fn := fun _ => fun
  | [d1, d2, d3] => { results := [.lit (.bool true)], args := [d1, d2, d3] }
  | _ => none }
def integerRingRow : OpenClaim := { program := "ythpjmhhfcechmaa", sum := "3afbbf2fddfbe6659fccd1a4839be97c2d3bf99af3c5105e6afe9257975001f6", func := "commonform/commonformlaw02.IntegerRing", spec := "integerRing", unfollowed := true, recurses := true, named := ["math/bits.overflowError"], apart := false }
def IntegerRingSaid : Prop := integerRingRow.holds Try.pinned (OpenSpec.ofChange integerRingSpec)

/-- ITS FALSE NEIGHBOUR: 'it returns false'. Refute it at one input. -/
def integerRingWrong : ChangeSpec := { name := "integerRing", fn := fun _ => fun
  | [d1, d2, d3] => { results := [.lit (.bool false)], args := [d1, d2, d3] }
  | _ => none }
def IntegerRingWrongFalsely : Prop := integerRingRow.holds Try.pinned (OpenSpec.ofChange integerRingWrong)

/-- 'commonformlaw02.IntegerActs': WHATEVER THE INPUT: true; the input reads as it did. -/
def integerActsSpec : ChangeSpec := { name := "integerActs", fn := fun _ => fun
  | [d1, d2] => { results := [.lit (.bool true)], args := [d1, d2] }
  | _ => none }
def integerActsRow : OpenClaim := { program := "ythpjmhhfcechmaa", sum := "3afbbf2fddfbe6659fccd1a4839be97c2d3bf99af3c5105e6afe9257975001f6", func := "commonform/commonformlaw02.IntegerActs", spec := "integerActs", unfollowed := true, recurses := true, named := ["math/bits.overflowError"], apart := false }
def IntegerActsSaid : Prop := integerActsRow.holds Try.pinned (OpenSpec.ofChange integerActsSpec)

/-- ITS FALSE NEIGHBOUR: 'it returns false'. Refute it at one input. -/
def integerActsWrong : ChangeSpec := { name := "integerActs", fn := fun _ => fun
  | [d1, d2] => { results := [.lit (.bool false)], args := [d1, d2] }
  | _ => none }
def IntegerActsWrongFalsely : Prop := integerActsRow.holds Try.pinned (OpenSpec.ofChange integerActsWrong)

/-- 'commonformlaw02.IntegerDivides': WHATEVER THE INPUT: true; the input reads as it did. -/
def integerDividesSpec : ChangeSpec := { name := "integerDivides", fn := fun _ => fun
  | [d1, d2, d3] => { results := [.lit (.bool true)], args := [d1, d2, d3] }
  | _ => none }
def integerDividesRow : OpenClaim := { program := "ythpjmhhfcechmaa", sum := "3afbbf2fddfbe6659fccd1a4839be97c2d3bf99af3c5105e6afe9257975001f6", func := "commonform/commonformlaw02.IntegerDivides", spec := "integerDivides", unfollowed := true, recurses := true, named := ["math/bits.overflowError"], apart := false }
def IntegerDividesSaid : Prop := integerDividesRow.holds Try.pinned (OpenSpec.ofChange integerDividesSpec)

/-- ITS FALSE NEIGHBOUR: 'it returns false'. Refute it at one input. -/
def integerDividesWrong : ChangeSpec := { name := "integerDivides", fn := fun _ => fun
  | [d1, d2, d3] => { results := [.lit (.bool false)], args := [d1, d2, d3] }
  | _ => none }
def IntegerDividesWrongFalsely : Prop := integerDividesRow.holds Try.pinned (OpenSpec.ofChange integerDividesWrong)

/-- 'commonformlaw02.IntegerNumbers': WHATEVER THE INPUT: true; the input reads as it did. -/
def integerNumbersSpec : ChangeSpec := { name := "integerNumbers", fn := fun _ => fun
  | [d1, d2] => { results := [.lit (.bool true)], args := [d1, d2] }
  | _ => none }
def integerNumbersRow : OpenClaim := { program := "ythpjmhhfcechmaa", sum := "3afbbf2fddfbe6659fccd1a4839be97c2d3bf99af3c5105e6afe9257975001f6", func := "commonform/commonformlaw02.IntegerNumbers", spec := "integerNumbers", unfollowed := true, recurses := true, named := ["math/bits.overflowError"], apart := false }
def IntegerNumbersSaid : Prop := integerNumbersRow.holds Try.pinned (OpenSpec.ofChange integerNumbersSpec)

/-- ITS FALSE NEIGHBOUR: 'it returns false'. Refute it at one input. -/
def integerNumbersWrong : ChangeSpec := { name := "integerNumbers", fn := fun _ => fun
  | [d1, d2] => { results := [.lit (.bool false)], args := [d1, d2] }
  | _ => none }
def IntegerNumbersWrongFalsely : Prop := integerNumbersRow.holds Try.pinned (OpenSpec.ofChange integerNumbersWrong)

/-- 'commonformlaw02.IntegerTexts': WHATEVER THE INPUT: true; the input reads as it did. -/
def integerTextsSpec : ChangeSpec := { name := "integerTexts", fn := fun _ => fun
  | [d1, d2, d3] => { results := [.lit (.bool true)], args := [d1, d2, d3] }
  | _ => none }
def integerTextsRow : OpenClaim := { program := "ythpjmhhfcechmaa", sum := "3afbbf2fddfbe6659fccd1a4839be97c2d3bf99af3c5105e6afe9257975001f6", func := "commonform/commonformlaw02.IntegerTexts", spec := "integerTexts", inPlace := ["internal/bytealg.IndexByteString"], unfollowed := true, recurses := true, named := ["math/bits.overflowError"], apart := false }
def IntegerTextsSaid : Prop := integerTextsRow.holds Try.pinned (OpenSpec.ofChange integerTextsSpec)

/-- ITS FALSE NEIGHBOUR: 'it returns false'. Refute it at one input. -/
def integerTextsWrong : ChangeSpec := { name := "integerTexts", fn := fun _ => fun
  | [d1, d2, d3] => { results := [.lit (.bool false)], args := [d1, d2, d3] }
  | _ => none }
def IntegerTextsWrongFalsely : Prop := integerTextsRow.holds Try.pinned (OpenSpec.ofChange integerTextsWrong)

/-- 'commonformlaw02.IntegerFields': WHATEVER THE INPUT: true; the input reads as it did. -/
def integerFieldsSpec : ChangeSpec := { name := "integerFields", fn := fun _ => fun
  | [d1, d2, d3, d4, d5] => { results := [.lit (.bool true)], args := [d1, d2, d3, d4, d5] }
  | _ => none }
def integerFieldsRow : OpenClaim := { program := "ythpjmhhfcechmaa", sum := "3afbbf2fddfbe6659fccd1a4839be97c2d3bf99af3c5105e6afe9257975001f6", func := "commonform/commonformlaw02.IntegerFields", spec := "integerFields", unfollowed := true, recurses := true, named := ["math/bits.overflowError"], apart := false }
def IntegerFieldsSaid : Prop := integerFieldsRow.holds Try.pinned (OpenSpec.ofChange integerFieldsSpec)

/-- ITS FALSE NEIGHBOUR: 'it returns false'. Refute it at one input. -/
def integerFieldsWrong : ChangeSpec := { name := "integerFields", fn := fun _ => fun
  | [d1, d2, d3, d4, d5] => { results := [.lit (.bool false)], args := [d1, d2, d3, d4, d5] }
  | _ => none }
def IntegerFieldsWrongFalsely : Prop := integerFieldsRow.holds Try.pinned (OpenSpec.ofChange integerFieldsWrong)

/-- 'commonformlaw02.IntegerLarge': WHATEVER THE INPUT: true; the input reads as it did. -/
def integerLargeSpec : ChangeSpec := { name := "integerLarge", fn := fun _ => fun
  | [d1, d2, d3] => { results := [.lit (.bool true)], args := [d1, d2, d3] }
  | _ => none }
def integerLargeRow : OpenClaim := { program := "ythpjmhhfcechmaa", sum := "3afbbf2fddfbe6659fccd1a4839be97c2d3bf99af3c5105e6afe9257975001f6", func := "commonform/commonformlaw02.IntegerLarge", spec := "integerLarge", unfollowed := true, recurses := true, named := ["math/bits.overflowError"], apart := false }
def IntegerLargeSaid : Prop := integerLargeRow.holds Try.pinned (OpenSpec.ofChange integerLargeSpec)

/-- ITS FALSE NEIGHBOUR: 'it returns false'. Refute it at one input. -/
def integerLargeWrong : ChangeSpec := { name := "integerLarge", fn := fun _ => fun
  | [d1, d2, d3] => { results := [.lit (.bool false)], args := [d1, d2, d3] }
  | _ => none }
def IntegerLargeWrongFalsely : Prop := integerLargeRow.holds Try.pinned (OpenSpec.ofChange integerLargeWrong)

/-- 'commonformlaw02.IntegerPatterns': WHATEVER THE INPUT: true; the input reads as it did. -/
def integerPatternsSpec : ChangeSpec := { name := "integerPatterns", fn := fun _ => fun
  | [d1, d2, d3, d4, d5, d6] => { results := [.lit (.bool true)], args := [d1, d2, d3, d4, d5, d6] }
  | _ => none }
def integerPatternsRow : OpenClaim := { program := "ythpjmhhfcechmaa", sum := "3afbbf2fddfbe6659fccd1a4839be97c2d3bf99af3c5105e6afe9257975001f6", func := "commonform/commonformlaw02.IntegerPatterns", spec := "integerPatterns", unfollowed := true, recurses := true, named := ["math/bits.overflowError"], apart := false }
def IntegerPatternsSaid : Prop := integerPatternsRow.holds Try.pinned (OpenSpec.ofChange integerPatternsSpec)

/-- ITS FALSE NEIGHBOUR: 'it returns false'. Refute it at one input. -/
def integerPatternsWrong : ChangeSpec := { name := "integerPatterns", fn := fun _ => fun
  | [d1, d2, d3, d4, d5, d6] => { results := [.lit (.bool false)], args := [d1, d2, d3, d4, d5, d6] }
  | _ => none }
def IntegerPatternsWrongFalsely : Prop := integerPatternsRow.holds Try.pinned (OpenSpec.ofChange integerPatternsWrong)

/-- 'commonformlaw02.IntegerPowers': WHATEVER THE INPUT: true; the input reads as it did. -/
def integerPowersSpec : ChangeSpec := { name := "integerPowers", fn := fun _ => fun
  | [d1, d2, d3] => { results := [.lit (.bool true)], args := [d1, d2, d3] }
  | _ => none }
def integerPowersRow : OpenClaim := { program := "ythpjmhhfcechmaa", sum := "3afbbf2fddfbe6659fccd1a4839be97c2d3bf99af3c5105e6afe9257975001f6", func := "commonform/commonformlaw02.IntegerPowers", spec := "integerPowers", unfollowed := true, recurses := true, named := ["math/bits.overflowError"], apart := false }
def IntegerPowersSaid : Prop := integerPowersRow.holds Try.pinned (OpenSpec.ofChange integerPowersSpec)

/-- ITS FALSE NEIGHBOUR: 'it returns false'. Refute it at one input. -/
def integerPowersWrong : ChangeSpec := { name := "integerPowers", fn := fun _ => fun
  | [d1, d2, d3] => { results := [.lit (.bool false)], args := [d1, d2, d3] }
  | _ => none }
def IntegerPowersWrongFalsely : Prop := integerPowersRow.holds Try.pinned (OpenSpec.ofChange integerPowersWrong)

/-- 'commonformlaw02.IntegerRoots': WHATEVER THE INPUT: true; the input reads as it did. -/
def integerRootsSpec : ChangeSpec := { name := "integerRoots", fn := fun _ => fun
  | [d1, d2, d3] => { results := [.lit (.bool true)], args := [d1, d2, d3] }
  | _ => none }
def integerRootsRow : OpenClaim := { program := "ythpjmhhfcechmaa", sum := "3afbbf2fddfbe6659fccd1a4839be97c2d3bf99af3c5105e6afe9257975001f6", func := "commonform/commonformlaw02.IntegerRoots", spec := "integerRoots", unfollowed := true, recurses := true, named := ["math/bits.overflowError"], apart := false }
def IntegerRootsSaid : Prop := integerRootsRow.holds Try.pinned (OpenSpec.ofChange integerRootsSpec)

/-- ITS FALSE NEIGHBOUR: 'it returns false'. Refute it at one input. -/
def integerRootsWrong : ChangeSpec := { name := "integerRoots", fn := fun _ => fun
  | [d1, d2, d3] => { results := [.lit (.bool false)], args := [d1, d2, d3] }
  | _ => none }
def IntegerRootsWrongFalsely : Prop := integerRootsRow.holds Try.pinned (OpenSpec.ofChange integerRootsWrong)

/-- 'commonformlaw03.RationalField': WHATEVER THE INPUT: true; the input reads as it did. -/
def rationalFieldSpec : ChangeSpec := { name := "rationalField", fn := fun _ => fun
  | [d1, d2, d3, d4] => { results := [.lit (.bool true)], args := [d1, d2, d3, d4] }
  | _ => none }
def rationalFieldRow : OpenClaim := { program := "ythpjmhhfcechmaa", sum := "3afbbf2fddfbe6659fccd1a4839be97c2d3bf99af3c5105e6afe9257975001f6", func := "commonform/commonformlaw03.RationalField", spec := "rationalField", inPlace := ["internal/bytealg.IndexByteString", "internal/bytealg.IndexString"], unfollowed := true, recurses := true, named := ["internal/bytealg.MaxLen", "math/bits.overflowError"], apart := false }
def RationalFieldSaid : Prop := rationalFieldRow.holds Try.pinned (OpenSpec.ofChange rationalFieldSpec)

/-- ITS FALSE NEIGHBOUR: 'it returns false'. Refute it at one input. -/
def rationalFieldWrong : ChangeSpec := { name := "rationalField", fn := fun _ => fun
  | [d1, d2, d3, d4] => { results := [.lit (.bool false)], args := [d1, d2, d3, d4] }
  | _ => none }
def RationalFieldWrongFalsely : Prop := rationalFieldRow.holds Try.pinned (OpenSpec.ofChange rationalFieldWrong)

/- THE SECOND FORM. 'bulk': how many values and letters a reading holds, each counted each time it is reached (what is shared counts as often as it is met; a slice's spare places count too). A statement '..UptoSaid' is the law's where the arguments, and the package variables that the reading takes, are together of bulk at most 1048576: NARROWER than '..Said'. Prove '..Said' where nothing that the law and all that it calls make is longer than what came in: it says more and counts as full. Else prove '..UptoSaid'. A law counts once. -/
mutual
def uptoBulk {H : Type} : DataW H → Nat
  | .lit (.string bytes) => bytes.length + 1
  | .lit _ => 1
  | .nil => 1
  | .ptr d => uptoBulk d + 1
  | .slice elems spare => uptoBulkAll elems + uptoBulkAll spare + 1
  | .agg parts => uptoBulkAll parts + 1
  | .iface _ d => uptoBulk d + 1
  | .map entries => uptoBulkEntries entries + 1
  | .held _ => 1
def uptoBulkAll {H : Type} : List (DataW H) → Nat
  | [] => 0
  | d :: r => uptoBulk d + uptoBulkAll r
def uptoBulkEntries {H : Type} : List (Lit × DataW H) → Nat
  | [] => 0
  | x :: r => uptoBulkEntry x + uptoBulkEntries r
def uptoBulkEntry {H : Type} : Lit × DataW H → Nat
  | (.string bytes, d) => bytes.length + uptoBulk d + 1
  | (_, d) => uptoBulk d + 1
 end
def uptoSmall : (H : Type) → List (DataW H) → Bool := fun _ ds => decide (uptoBulkAll ds ≤ 1048576)
def OpenSpec.upto (s : _root_.Go.ChangeSpec) : _root_.Go.OpenSpec := { _root_.Go.OpenSpec.ofChange s with cond := some uptoSmall }

/-- 'commonformlaw02.IntegerBits', WHERE WHAT IT READS IS OF BULK AT MOST 1048576: true; the input reads as it did. -/
def integerBitsUptoRow : OpenClaim := { program := "ythpjmhhfcechmaa", sum := "3afbbf2fddfbe6659fccd1a4839be97c2d3bf99af3c5105e6afe9257975001f6", func := "commonform/commonformlaw02.IntegerBits", spec := "integerBits", unfollowed := true, recurses := true, named := ["math/bits.overflowError"], apart := false, narrowed := true }
def IntegerBitsUptoSaid : Prop := integerBitsUptoRow.holds Try.pinned (OpenSpec.upto integerBitsSpec)

/-- 'commonformlaw02.IntegerRing', WHERE WHAT IT READS IS OF BULK AT MOST 1048576: true; the input reads as it did. -/
def integerRingUptoRow : OpenClaim := { program := "ythpjmhhfcechmaa", sum := "3afbbf2fddfbe6659fccd1a4839be97c2d3bf99af3c5105e6afe9257975001f6", func := "commonform/commonformlaw02.IntegerRing", spec := "integerRing", unfollowed := true, recurses := true, named := ["math/bits.overflowError"], apart := false, narrowed := true }
def IntegerRingUptoSaid : Prop := integerRingUptoRow.holds Try.pinned (OpenSpec.upto integerRingSpec)

/-- 'commonformlaw02.IntegerActs', WHERE WHAT IT READS IS OF BULK AT MOST 1048576: true; the input reads as it did. -/
def integerActsUptoRow : OpenClaim := { program := "ythpjmhhfcechmaa", sum := "3afbbf2fddfbe6659fccd1a4839be97c2d3bf99af3c5105e6afe9257975001f6", func := "commonform/commonformlaw02.IntegerActs", spec := "integerActs", unfollowed := true, recurses := true, named := ["math/bits.overflowError"], apart := false, narrowed := true }
def IntegerActsUptoSaid : Prop := integerActsUptoRow.holds Try.pinned (OpenSpec.upto integerActsSpec)

/-- 'commonformlaw02.IntegerDivides', WHERE WHAT IT READS IS OF BULK AT MOST 1048576: true; the input reads as it did. -/
def integerDividesUptoRow : OpenClaim := { program := "ythpjmhhfcechmaa", sum := "3afbbf2fddfbe6659fccd1a4839be97c2d3bf99af3c5105e6afe9257975001f6", func := "commonform/commonformlaw02.IntegerDivides", spec := "integerDivides", unfollowed := true, recurses := true, named := ["math/bits.overflowError"], apart := false, narrowed := true }
def IntegerDividesUptoSaid : Prop := integerDividesUptoRow.holds Try.pinned (OpenSpec.upto integerDividesSpec)

/-- 'commonformlaw02.IntegerNumbers', WHERE WHAT IT READS IS OF BULK AT MOST 1048576: true; the input reads as it did. -/
def integerNumbersUptoRow : OpenClaim := { program := "ythpjmhhfcechmaa", sum := "3afbbf2fddfbe6659fccd1a4839be97c2d3bf99af3c5105e6afe9257975001f6", func := "commonform/commonformlaw02.IntegerNumbers", spec := "integerNumbers", unfollowed := true, recurses := true, named := ["math/bits.overflowError"], apart := false, narrowed := true }
def IntegerNumbersUptoSaid : Prop := integerNumbersUptoRow.holds Try.pinned (OpenSpec.upto integerNumbersSpec)

/-- 'commonformlaw02.IntegerTexts', WHERE WHAT IT READS IS OF BULK AT MOST 1048576: true; the input reads as it did. -/
def integerTextsUptoRow : OpenClaim := { program := "ythpjmhhfcechmaa", sum := "3afbbf2fddfbe6659fccd1a4839be97c2d3bf99af3c5105e6afe9257975001f6", func := "commonform/commonformlaw02.IntegerTexts", spec := "integerTexts", inPlace := ["internal/bytealg.IndexByteString"], unfollowed := true, recurses := true, named := ["math/bits.overflowError"], apart := false, narrowed := true }
def IntegerTextsUptoSaid : Prop := integerTextsUptoRow.holds Try.pinned (OpenSpec.upto integerTextsSpec)

/-- 'commonformlaw02.IntegerFields', WHERE WHAT IT READS IS OF BULK AT MOST 1048576: true; the input reads as it did. -/
def integerFieldsUptoRow : OpenClaim := { program := "ythpjmhhfcechmaa", sum := "3afbbf2fddfbe6659fccd1a4839be97c2d3bf99af3c5105e6afe9257975001f6", func := "commonform/commonformlaw02.IntegerFields", spec := "integerFields", unfollowed := true, recurses := true, named := ["math/bits.overflowError"], apart := false, narrowed := true }
def IntegerFieldsUptoSaid : Prop := integerFieldsUptoRow.holds Try.pinned (OpenSpec.upto integerFieldsSpec)

/-- 'commonformlaw02.IntegerLarge', WHERE WHAT IT READS IS OF BULK AT MOST 1048576: true; the input reads as it did. -/
def integerLargeUptoRow : OpenClaim := { program := "ythpjmhhfcechmaa", sum := "3afbbf2fddfbe6659fccd1a4839be97c2d3bf99af3c5105e6afe9257975001f6", func := "commonform/commonformlaw02.IntegerLarge", spec := "integerLarge", unfollowed := true, recurses := true, named := ["math/bits.overflowError"], apart := false, narrowed := true }
def IntegerLargeUptoSaid : Prop := integerLargeUptoRow.holds Try.pinned (OpenSpec.upto integerLargeSpec)

/-- 'commonformlaw02.IntegerPatterns', WHERE WHAT IT READS IS OF BULK AT MOST 1048576: true; the input reads as it did. -/
def integerPatternsUptoRow : OpenClaim := { program := "ythpjmhhfcechmaa", sum := "3afbbf2fddfbe6659fccd1a4839be97c2d3bf99af3c5105e6afe9257975001f6", func := "commonform/commonformlaw02.IntegerPatterns", spec := "integerPatterns", unfollowed := true, recurses := true, named := ["math/bits.overflowError"], apart := false, narrowed := true }
def IntegerPatternsUptoSaid : Prop := integerPatternsUptoRow.holds Try.pinned (OpenSpec.upto integerPatternsSpec)

/-- 'commonformlaw02.IntegerPowers', WHERE WHAT IT READS IS OF BULK AT MOST 1048576: true; the input reads as it did. -/
def integerPowersUptoRow : OpenClaim := { program := "ythpjmhhfcechmaa", sum := "3afbbf2fddfbe6659fccd1a4839be97c2d3bf99af3c5105e6afe9257975001f6", func := "commonform/commonformlaw02.IntegerPowers", spec := "integerPowers", unfollowed := true, recurses := true, named := ["math/bits.overflowError"], apart := false, narrowed := true }
def IntegerPowersUptoSaid : Prop := integerPowersUptoRow.holds Try.pinned (OpenSpec.upto integerPowersSpec)

/-- 'commonformlaw02.IntegerRoots', WHERE WHAT IT READS IS OF BULK AT MOST 1048576: true; the input reads as it did. -/
def integerRootsUptoRow : OpenClaim := { program := "ythpjmhhfcechmaa", sum := "3afbbf2fddfbe6659fccd1a4839be97c2d3bf99af3c5105e6afe9257975001f6", func := "commonform/commonformlaw02.IntegerRoots", spec := "integerRoots", unfollowed := true, recurses := true, named := ["math/bits.overflowError"], apart := false, narrowed := true }
def IntegerRootsUptoSaid : Prop := integerRootsUptoRow.holds Try.pinned (OpenSpec.upto integerRootsSpec)

/-- 'commonformlaw03.RationalField', WHERE WHAT IT READS IS OF BULK AT MOST 1048576: true; the input reads as it did. -/
def rationalFieldUptoRow : OpenClaim := { program := "ythpjmhhfcechmaa", sum := "3afbbf2fddfbe6659fccd1a4839be97c2d3bf99af3c5105e6afe9257975001f6", func := "commonform/commonformlaw03.RationalField", spec := "rationalField", inPlace := ["internal/bytealg.IndexByteString", "internal/bytealg.IndexString"], unfollowed := true, recurses := true, named := ["internal/bytealg.MaxLen", "math/bits.overflowError"], apart := false, narrowed := true }
def RationalFieldUptoSaid : Prop := rationalFieldUptoRow.holds Try.pinned (OpenSpec.upto rationalFieldSpec)

end Rows
end Go.Proofs.Ythpjmhhfcechmaa
