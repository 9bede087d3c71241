/-
  DERIVED. GIVEN WITH THE SEED: THE CARDS: each row of YthnphmfjocofhaaDoorRows.lean that lists a variable, with what it lists TIED to the program's text (the seventh form; the later family's looks); each row that meets fmt, with fmt's text TOLD by the authors' own Lean function (tested against real Go, not proved from fmt's source: count such statements apart). THE CARD IS WHAT COUNTS. Prove the row's statement (the work); the ties are given (YthnphmfjocofhaaDoorTie.lean); close each card by the builder's one call (the guide's Derived/Test/ToyasCard.lean, 'card_holds'). Laid BY PROGRAM, IN A SANDBOX (cutbox-door.mjs). By AI agents, Wed Nov 11 2026. No macro, syntax, notation, axiom, sorry.
-/
import Derived.Test.YthnphmfjocofhaaDoorRows
import GoSem.ClaimSeven
namespace Go.Proofs.YthnphmfjocofhaaDoor
namespace Rows

/-- THE TIED CARD OF 'chancellaw01.LettersCount'. -/
def lettersCountCard : Claim7 := { stood := { row := lettersCountRow, standIns := [], harness := (true, "34550c4a3b8062ddb348592c10c2edadf6cdb52e4b75464f7221b2b2261b5035"), looks := false }, kinds := [], alts := [], laidByText := true, laidKinds := [.data, .pinned], laidTests := true, laidLooks := .later }
def LettersCountCardSaid : Prop := Claim7.holds Tryd.pinned (.plain (OpenSpec.ofChange lettersCountSpec)) lettersCountCard

/-- THE SECOND FORM's CARD OF 'chancellaw01.LettersCount'. -/
def lettersCountUptoCard : Claim7 := { stood := { row := lettersCountUptoRow, standIns := [], harness := (true, "34550c4a3b8062ddb348592c10c2edadf6cdb52e4b75464f7221b2b2261b5035"), looks := false }, kinds := [], alts := [], laidByText := true, laidKinds := [.data, .pinned], laidTests := true, laidLooks := .later }
def LettersCountUptoCardSaid : Prop := Claim7.holds Tryd.pinned (.plain (OpenSpec.upto lettersCountSpec)) lettersCountUptoCard
end Rows
end Go.Proofs.YthnphmfjocofhaaDoor
