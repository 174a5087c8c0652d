/-
  DERIVED. GIVEN WITH THE SEED: THE CARDS: each row of YthpjmhhfcechmaaDoorRows.lean that lists a variable, with what it lists TIED to the program's text (the seventh form; the later family's looks); each row that meets fmt, with fmt's text TOLD by the authors' own Lean function (tested against real Go, not proved from fmt's source: count such statements apart). THE CARD IS WHAT COUNTS. Prove the row's statement (the work); the ties are given (YthpjmhhfcechmaaDoorTie.lean); close each card by the builder's one call (the guide's Derived/Test/ToyasCard.lean, 'card_holds'). Laid BY PROGRAM, IN A SANDBOX (cutbox-door.mjs). By AI agents, Wed Nov 11 2026. No macro, syntax, notation, axiom, sorry.
-/
import Derived.Test.YthpjmhhfcechmaaDoorRows
import GoSem.ClaimSeven
namespace Go.Proofs.YthpjmhhfcechmaaDoor
namespace Rows

/-- THE TIED CARD OF 'commonformlaw02.IntegerDigits'. -/
def integerDigitsCard : Claim7 := { stood := { row := integerDigitsRow, standIns := [], harness := (true, "57b93604eecb038eaea822cc9c949e4edf513cd3d45218c0c7736ea1a0889cf3"), looks := false }, kinds := [], alts := [], laidByText := true, laidKinds := [.data, .pinned, .pinned], laidTests := true, laidLooks := .later }
def IntegerDigitsCardSaid : Prop := Claim7.holds Tryd.pinned (.plain (OpenSpec.ofChange integerDigitsSpec)) integerDigitsCard

/-- THE SECOND FORM's CARD OF 'commonformlaw02.IntegerDigits'. -/
def integerDigitsUptoCard : Claim7 := { stood := { row := integerDigitsUptoRow, standIns := [], harness := (true, "57b93604eecb038eaea822cc9c949e4edf513cd3d45218c0c7736ea1a0889cf3"), looks := false }, kinds := [], alts := [], laidByText := true, laidKinds := [.data, .pinned, .pinned], laidTests := true, laidLooks := .later }
def IntegerDigitsUptoCardSaid : Prop := Claim7.holds Tryd.pinned (.plain (OpenSpec.upto integerDigitsSpec)) integerDigitsUptoCard
end Rows
end Go.Proofs.YthpjmhhfcechmaaDoor
