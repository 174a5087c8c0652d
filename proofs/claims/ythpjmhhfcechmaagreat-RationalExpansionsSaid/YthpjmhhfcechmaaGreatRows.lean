/-
  No cell of these rows narrows 'for every input' (looked for: loops, veiled, ifaces, maps, wideKeys, modest, calm, conditions, laid).
  DERIVED. THE GIVEN ROWS OF THIS SEAT. 8 by the template 'for every input the law returns true; each argument reads behind the call as it read before'; 0 by the template 'total and deterministic' (their statements: YthpjmhhfcechmaaGreatTotals.lean).
  GIVEN WITH THE SEED: the statements are not yours to turn. If you find one false, say at which input.
  Laid BY PROGRAM, IN A SANDBOX (cutbox-rows.mjs): the forced cells as the released guide's own fill.sh prints them over the translation 2db1604049f29251… (all of the seat's roots in one cut). By AI agents, Wed Nov 11 2026. No macro, syntax, notation, axiom, sorry.
-/
import Derived.Test.YthpjmhhfcechmaaGreatChecked
import GoSem.Claim
import GoSem.ClaimJoined
import GoSem.ClaimMapViews
import Derived.JoinedTies
import Derived.KernelRfl
namespace Go.Proofs.YthpjmhhfcechmaaGreat
/- THE CELL 'sum', in the pinned program and in every row, IS THE sha256 OF THE DUMP (.gsa) THAT YthpjmhhfcechmaaGreatProg.lean LOADS. Nothing in Lean hashes anything: it is a label: what it is worth is what the hold of that sum in a sandbox is worth. -/
noncomputable def Tryz.pinned : Pinned := { name := "ythpjmhhfcechmaagreat", sum := "2db1604049f292514c3b6a732e696b9a718a63adffabda12653a39473c0c38fe", checked := Tryz.checked }
namespace Rows
def none {H : Type} : Left H := { results := [], args := [] }

/-- 'commonformlaw03.RationalNumbers': WHATEVER THE INPUT: true; the input reads as it did. -/
def rationalNumbersSpec : ChangeSpec := { name := "rationalNumbers", fn := fun _ => fun
  | [d1, d2, d3] => { results := [.lit (.bool true)], args := [d1, d2, d3] }
  | _ => none }
def rationalNumbersRow : OpenClaim := { program := "ythpjmhhfcechmaagreat", sum := "2db1604049f292514c3b6a732e696b9a718a63adffabda12653a39473c0c38fe", func := "commonform/commonformlaw03.RationalNumbers", spec := "rationalNumbers", inPlace := ["internal/bytealg.IndexByteString", "internal/bytealg.IndexString"], unfollowed := true, recurses := true, named := ["internal/bytealg.MaxLen", "math/bits.overflowError"], apart := false }
def RationalNumbersSaid : Prop := rationalNumbersRow.holds Tryz.pinned (OpenSpec.ofChange rationalNumbersSpec)

/-- ITS FALSE NEIGHBOUR: 'it returns false'. Refute it at one input. -/
def rationalNumbersWrong : ChangeSpec := { name := "rationalNumbers", fn := fun _ => fun
  | [d1, d2, d3] => { results := [.lit (.bool false)], args := [d1, d2, d3] }
  | _ => none }
def RationalNumbersWrongFalsely : Prop := rationalNumbersRow.holds Tryz.pinned (OpenSpec.ofChange rationalNumbersWrong)

/-- 'commonformlaw03.RationalTexts': WHATEVER THE INPUT: true; the input reads as it did. -/
def rationalTextsSpec : ChangeSpec := { name := "rationalTexts", fn := fun _ => fun
  | [d1, d2, d3] => { results := [.lit (.bool true)], args := [d1, d2, d3] }
  | _ => none }
def rationalTextsRow : OpenClaim := { program := "ythpjmhhfcechmaagreat", sum := "2db1604049f292514c3b6a732e696b9a718a63adffabda12653a39473c0c38fe", func := "commonform/commonformlaw03.RationalTexts", spec := "rationalTexts", inPlace := ["internal/bytealg.IndexByteString", "internal/bytealg.IndexString"], unfollowed := true, recurses := true, named := ["internal/bytealg.MaxLen", "math/bits.overflowError"], apart := false }
def RationalTextsSaid : Prop := rationalTextsRow.holds Tryz.pinned (OpenSpec.ofChange rationalTextsSpec)

/-- ITS FALSE NEIGHBOUR: 'it returns false'. Refute it at one input. -/
def rationalTextsWrong : ChangeSpec := { name := "rationalTexts", fn := fun _ => fun
  | [d1, d2, d3] => { results := [.lit (.bool false)], args := [d1, d2, d3] }
  | _ => none }
def RationalTextsWrongFalsely : Prop := rationalTextsRow.holds Tryz.pinned (OpenSpec.ofChange rationalTextsWrong)

/-- 'commonformlaw03.RationalSimple': WHATEVER THE INPUT: true; the input reads as it did. -/
def rationalSimpleSpec : ChangeSpec := { name := "rationalSimple", fn := fun _ => fun
  | [d1, d2, d3, d4] => { results := [.lit (.bool true)], args := [d1, d2, d3, d4] }
  | _ => none }
def rationalSimpleRow : OpenClaim := { program := "ythpjmhhfcechmaagreat", sum := "2db1604049f292514c3b6a732e696b9a718a63adffabda12653a39473c0c38fe", func := "commonform/commonformlaw03.RationalSimple", spec := "rationalSimple", inPlace := ["internal/bytealg.IndexByteString", "internal/bytealg.IndexString"], unfollowed := true, recurses := true, named := ["internal/bytealg.MaxLen", "math/bits.overflowError"], apart := false }
def RationalSimpleSaid : Prop := rationalSimpleRow.holds Tryz.pinned (OpenSpec.ofChange rationalSimpleSpec)

/-- ITS FALSE NEIGHBOUR: 'it returns false'. Refute it at one input. -/
def rationalSimpleWrong : ChangeSpec := { name := "rationalSimple", fn := fun _ => fun
  | [d1, d2, d3, d4] => { results := [.lit (.bool false)], args := [d1, d2, d3, d4] }
  | _ => none }
def RationalSimpleWrongFalsely : Prop := rationalSimpleRow.holds Tryz.pinned (OpenSpec.ofChange rationalSimpleWrong)

/-- 'commonformlaw03.RationalRounds': WHATEVER THE INPUT: true; the input reads as it did. -/
def rationalRoundsSpec : ChangeSpec := { name := "rationalRounds", fn := fun _ => fun
  | [d1, d2] => { results := [.lit (.bool true)], args := [d1, d2] }
  | _ => none }
def rationalRoundsRow : OpenClaim := { program := "ythpjmhhfcechmaagreat", sum := "2db1604049f292514c3b6a732e696b9a718a63adffabda12653a39473c0c38fe", func := "commonform/commonformlaw03.RationalRounds", spec := "rationalRounds", inPlace := ["internal/bytealg.IndexByteString", "internal/bytealg.IndexString"], unfollowed := true, recurses := true, named := ["internal/bytealg.MaxLen", "math/bits.overflowError"], apart := false }
def RationalRoundsSaid : Prop := rationalRoundsRow.holds Tryz.pinned (OpenSpec.ofChange rationalRoundsSpec)

/-- ITS FALSE NEIGHBOUR: 'it returns false'. Refute it at one input. -/
def rationalRoundsWrong : ChangeSpec := { name := "rationalRounds", fn := fun _ => fun
  | [d1, d2] => { results := [.lit (.bool false)], args := [d1, d2] }
  | _ => none }
def RationalRoundsWrongFalsely : Prop := rationalRoundsRow.holds Tryz.pinned (OpenSpec.ofChange rationalRoundsWrong)

/-- 'commonformlaw03.RationalExpansions': WHATEVER THE INPUT: true; the input reads as it did. -/
def rationalExpansionsSpec : ChangeSpec := { name := "rationalExpansions", fn := fun _ => fun
  | [d1, d2, d3, d4] => { results := [.lit (.bool true)], args := [d1, d2, d3, d4] }
  | _ => none }
def rationalExpansionsRow : OpenClaim := { program := "ythpjmhhfcechmaagreat", sum := "2db1604049f292514c3b6a732e696b9a718a63adffabda12653a39473c0c38fe", func := "commonform/commonformlaw03.RationalExpansions", spec := "rationalExpansions", inPlace := ["internal/bytealg.IndexByteString", "internal/bytealg.IndexString"], unfollowed := true, recurses := true, named := ["internal/bytealg.MaxLen", "math/bits.overflowError"], apart := false }
def RationalExpansionsSaid : Prop := rationalExpansionsRow.holds Tryz.pinned (OpenSpec.ofChange rationalExpansionsSpec)

/-- ITS FALSE NEIGHBOUR: 'it returns false'. Refute it at one input. -/
def rationalExpansionsWrong : ChangeSpec := { name := "rationalExpansions", fn := fun _ => fun
  | [d1, d2, d3, d4] => { results := [.lit (.bool false)], args := [d1, d2, d3, d4] }
  | _ => none }
def RationalExpansionsWrongFalsely : Prop := rationalExpansionsRow.holds Tryz.pinned (OpenSpec.ofChange rationalExpansionsWrong)

/-- 'commonformlaw03.RationalQuotients': WHATEVER THE INPUT: true; the input reads as it did. -/
def rationalQuotientsSpec : ChangeSpec := { name := "rationalQuotients", fn := fun _ => fun
  | [d1, d2, d3] => { results := [.lit (.bool true)], args := [d1, d2, d3] }
  | _ => none }
def rationalQuotientsRow : OpenClaim := { program := "ythpjmhhfcechmaagreat", sum := "2db1604049f292514c3b6a732e696b9a718a63adffabda12653a39473c0c38fe", func := "commonform/commonformlaw03.RationalQuotients", spec := "rationalQuotients", inPlace := ["internal/bytealg.IndexByteString", "internal/bytealg.IndexString"], unfollowed := true, recurses := true, named := ["internal/bytealg.MaxLen", "math/bits.overflowError"], apart := false }
def RationalQuotientsSaid : Prop := rationalQuotientsRow.holds Tryz.pinned (OpenSpec.ofChange rationalQuotientsSpec)

/-- ITS FALSE NEIGHBOUR: 'it returns false'. Refute it at one input. -/
def rationalQuotientsWrong : ChangeSpec := { name := "rationalQuotients", fn := fun _ => fun
  | [d1, d2, d3] => { results := [.lit (.bool false)], args := [d1, d2, d3] }
  | _ => none }
def RationalQuotientsWrongFalsely : Prop := rationalQuotientsRow.holds Tryz.pinned (OpenSpec.ofChange rationalQuotientsWrong)

/-- 'commonformlaw03.RationalPowers': WHATEVER THE INPUT: true; the input reads as it did. -/
def rationalPowersSpec : ChangeSpec := { name := "rationalPowers", fn := fun _ => fun
  | [d1, d2, d3] => { results := [.lit (.bool true)], args := [d1, d2, d3] }
  | _ => none }
def rationalPowersRow : OpenClaim := { program := "ythpjmhhfcechmaagreat", sum := "2db1604049f292514c3b6a732e696b9a718a63adffabda12653a39473c0c38fe", func := "commonform/commonformlaw03.RationalPowers", spec := "rationalPowers", inPlace := ["internal/bytealg.IndexByteString", "internal/bytealg.IndexString"], unfollowed := true, recurses := true, named := ["internal/bytealg.MaxLen", "math/bits.overflowError"], apart := false }
def RationalPowersSaid : Prop := rationalPowersRow.holds Tryz.pinned (OpenSpec.ofChange rationalPowersSpec)

/-- ITS FALSE NEIGHBOUR: 'it returns false'. Refute it at one input. -/
def rationalPowersWrong : ChangeSpec := { name := "rationalPowers", fn := fun _ => fun
  | [d1, d2, d3] => { results := [.lit (.bool false)], args := [d1, d2, d3] }
  | _ => none }
def RationalPowersWrongFalsely : Prop := rationalPowersRow.holds Tryz.pinned (OpenSpec.ofChange rationalPowersWrong)

/-- 'commonformlaw03.RationalActs': WHATEVER THE INPUT: true; the input reads as it did. -/
def rationalActsSpec : ChangeSpec := { name := "rationalActs", fn := fun _ => fun
  | [d1, d2, d3] => { results := [.lit (.bool true)], args := [d1, d2, d3] }
  | _ => none }
def rationalActsRow : OpenClaim := { program := "ythpjmhhfcechmaagreat", sum := "2db1604049f292514c3b6a732e696b9a718a63adffabda12653a39473c0c38fe", func := "commonform/commonformlaw03.RationalActs", spec := "rationalActs", inPlace := ["internal/bytealg.IndexByteString", "internal/bytealg.IndexString"], unfollowed := true, recurses := true, named := ["internal/bytealg.MaxLen", "math/bits.overflowError"], apart := false }
def RationalActsSaid : Prop := rationalActsRow.holds Tryz.pinned (OpenSpec.ofChange rationalActsSpec)

/-- ITS FALSE NEIGHBOUR: 'it returns false'. Refute it at one input. -/
def rationalActsWrong : ChangeSpec := { name := "rationalActs", fn := fun _ => fun
  | [d1, d2, d3] => { results := [.lit (.bool false)], args := [d1, d2, d3] }
  | _ => none }
def RationalActsWrongFalsely : Prop := rationalActsRow.holds Tryz.pinned (OpenSpec.ofChange rationalActsWrong)

/- THE SECOND FORM. 'bulk': how many values and letters a reading holds, each counted each time it is reached (what is shared counts as often as it is met; a slice's spare places count too). A statement '..UptoSaid' is the law's where the arguments, and the package variables that the reading takes, are together of bulk at most 1048576: NARROWER than '..Said'. Prove '..Said' where nothing that the law and all that it calls make is longer than what came in: it says more and counts as full. Else prove '..UptoSaid'. A law counts once. -/
mutual
def uptoBulk {H : Type} : DataW H → Nat
  | .lit (.string bytes) => bytes.length + 1
  | .lit _ => 1
  | .nil => 1
  | .ptr d => uptoBulk d + 1
  | .slice elems spare => uptoBulkAll elems + uptoBulkAll spare + 1
  | .agg parts => uptoBulkAll parts + 1
  | .iface _ d => uptoBulk d + 1
  | .map entries => uptoBulkEntries entries + 1
  | .held _ => 1
def uptoBulkAll {H : Type} : List (DataW H) → Nat
  | [] => 0
  | d :: r => uptoBulk d + uptoBulkAll r
def uptoBulkEntries {H : Type} : List (Lit × DataW H) → Nat
  | [] => 0
  | x :: r => uptoBulkEntry x + uptoBulkEntries r
def uptoBulkEntry {H : Type} : Lit × DataW H → Nat
  | (.string bytes, d) => bytes.length + uptoBulk d + 1
  | (_, d) => uptoBulk d + 1
 end
def uptoSmall : (H : Type) → List (DataW H) → Bool := fun _ ds => decide (uptoBulkAll ds ≤ 1048576)
def OpenSpec.upto (s : _root_.Go.ChangeSpec) : _root_.Go.OpenSpec := { _root_.Go.OpenSpec.ofChange s with cond := some uptoSmall }

/-- 'commonformlaw03.RationalNumbers', WHERE WHAT IT READS IS OF BULK AT MOST 1048576: true; the input reads as it did. -/
def rationalNumbersUptoRow : OpenClaim := { program := "ythpjmhhfcechmaagreat", sum := "2db1604049f292514c3b6a732e696b9a718a63adffabda12653a39473c0c38fe", func := "commonform/commonformlaw03.RationalNumbers", spec := "rationalNumbers", inPlace := ["internal/bytealg.IndexByteString", "internal/bytealg.IndexString"], unfollowed := true, recurses := true, named := ["internal/bytealg.MaxLen", "math/bits.overflowError"], apart := false, narrowed := true }
def RationalNumbersUptoSaid : Prop := rationalNumbersUptoRow.holds Tryz.pinned (OpenSpec.upto rationalNumbersSpec)

/-- 'commonformlaw03.RationalTexts', WHERE WHAT IT READS IS OF BULK AT MOST 1048576: true; the input reads as it did. -/
def rationalTextsUptoRow : OpenClaim := { program := "ythpjmhhfcechmaagreat", sum := "2db1604049f292514c3b6a732e696b9a718a63adffabda12653a39473c0c38fe", func := "commonform/commonformlaw03.RationalTexts", spec := "rationalTexts", inPlace := ["internal/bytealg.IndexByteString", "internal/bytealg.IndexString"], unfollowed := true, recurses := true, named := ["internal/bytealg.MaxLen", "math/bits.overflowError"], apart := false, narrowed := true }
def RationalTextsUptoSaid : Prop := rationalTextsUptoRow.holds Tryz.pinned (OpenSpec.upto rationalTextsSpec)

/-- 'commonformlaw03.RationalSimple', WHERE WHAT IT READS IS OF BULK AT MOST 1048576: true; the input reads as it did. -/
def rationalSimpleUptoRow : OpenClaim := { program := "ythpjmhhfcechmaagreat", sum := "2db1604049f292514c3b6a732e696b9a718a63adffabda12653a39473c0c38fe", func := "commonform/commonformlaw03.RationalSimple", spec := "rationalSimple", inPlace := ["internal/bytealg.IndexByteString", "internal/bytealg.IndexString"], unfollowed := true, recurses := true, named := ["internal/bytealg.MaxLen", "math/bits.overflowError"], apart := false, narrowed := true }
def RationalSimpleUptoSaid : Prop := rationalSimpleUptoRow.holds Tryz.pinned (OpenSpec.upto rationalSimpleSpec)

/-- 'commonformlaw03.RationalRounds', WHERE WHAT IT READS IS OF BULK AT MOST 1048576: true; the input reads as it did. -/
def rationalRoundsUptoRow : OpenClaim := { program := "ythpjmhhfcechmaagreat", sum := "2db1604049f292514c3b6a732e696b9a718a63adffabda12653a39473c0c38fe", func := "commonform/commonformlaw03.RationalRounds", spec := "rationalRounds", inPlace := ["internal/bytealg.IndexByteString", "internal/bytealg.IndexString"], unfollowed := true, recurses := true, named := ["internal/bytealg.MaxLen", "math/bits.overflowError"], apart := false, narrowed := true }
def RationalRoundsUptoSaid : Prop := rationalRoundsUptoRow.holds Tryz.pinned (OpenSpec.upto rationalRoundsSpec)

/-- 'commonformlaw03.RationalExpansions', WHERE WHAT IT READS IS OF BULK AT MOST 1048576: true; the input reads as it did. -/
def rationalExpansionsUptoRow : OpenClaim := { program := "ythpjmhhfcechmaagreat", sum := "2db1604049f292514c3b6a732e696b9a718a63adffabda12653a39473c0c38fe", func := "commonform/commonformlaw03.RationalExpansions", spec := "rationalExpansions", inPlace := ["internal/bytealg.IndexByteString", "internal/bytealg.IndexString"], unfollowed := true, recurses := true, named := ["internal/bytealg.MaxLen", "math/bits.overflowError"], apart := false, narrowed := true }
def RationalExpansionsUptoSaid : Prop := rationalExpansionsUptoRow.holds Tryz.pinned (OpenSpec.upto rationalExpansionsSpec)

/-- 'commonformlaw03.RationalQuotients', WHERE WHAT IT READS IS OF BULK AT MOST 1048576: true; the input reads as it did. -/
def rationalQuotientsUptoRow : OpenClaim := { program := "ythpjmhhfcechmaagreat", sum := "2db1604049f292514c3b6a732e696b9a718a63adffabda12653a39473c0c38fe", func := "commonform/commonformlaw03.RationalQuotients", spec := "rationalQuotients", inPlace := ["internal/bytealg.IndexByteString", "internal/bytealg.IndexString"], unfollowed := true, recurses := true, named := ["internal/bytealg.MaxLen", "math/bits.overflowError"], apart := false, narrowed := true }
def RationalQuotientsUptoSaid : Prop := rationalQuotientsUptoRow.holds Tryz.pinned (OpenSpec.upto rationalQuotientsSpec)

/-- 'commonformlaw03.RationalPowers', WHERE WHAT IT READS IS OF BULK AT MOST 1048576: true; the input reads as it did. -/
def rationalPowersUptoRow : OpenClaim := { program := "ythpjmhhfcechmaagreat", sum := "2db1604049f292514c3b6a732e696b9a718a63adffabda12653a39473c0c38fe", func := "commonform/commonformlaw03.RationalPowers", spec := "rationalPowers", inPlace := ["internal/bytealg.IndexByteString", "internal/bytealg.IndexString"], unfollowed := true, recurses := true, named := ["internal/bytealg.MaxLen", "math/bits.overflowError"], apart := false, narrowed := true }
def RationalPowersUptoSaid : Prop := rationalPowersUptoRow.holds Tryz.pinned (OpenSpec.upto rationalPowersSpec)

/-- 'commonformlaw03.RationalActs', WHERE WHAT IT READS IS OF BULK AT MOST 1048576: true; the input reads as it did. -/
def rationalActsUptoRow : OpenClaim := { program := "ythpjmhhfcechmaagreat", sum := "2db1604049f292514c3b6a732e696b9a718a63adffabda12653a39473c0c38fe", func := "commonform/commonformlaw03.RationalActs", spec := "rationalActs", inPlace := ["internal/bytealg.IndexByteString", "internal/bytealg.IndexString"], unfollowed := true, recurses := true, named := ["internal/bytealg.MaxLen", "math/bits.overflowError"], apart := false, narrowed := true }
def RationalActsUptoSaid : Prop := rationalActsUptoRow.holds Tryz.pinned (OpenSpec.upto rationalActsSpec)

end Rows
end Go.Proofs.YthpjmhhfcechmaaGreat
