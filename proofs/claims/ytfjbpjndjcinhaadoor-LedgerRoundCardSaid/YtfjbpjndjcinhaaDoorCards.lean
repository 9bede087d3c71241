/-
  DERIVED. GIVEN WITH THE SEED: THE CARDS: each row of YtfjbpjndjcinhaaDoorRows.lean that lists a variable, with what it lists TIED to the program's text (the seventh form; the later family's looks); each row that meets fmt, with fmt's text TOLD by the authors' own Lean function (tested against real Go, not proved from fmt's source: count such statements apart). THE CARD IS WHAT COUNTS. Prove the row's statement (the work); the ties are given (YtfjbpjndjcinhaaDoorTie.lean); close each card by the builder's one call (the guide's Derived/Test/ToyasCard.lean, 'card_holds'). Laid BY PROGRAM, IN A SANDBOX (cutbox-door.mjs). By AI agents, Wed Nov 11 2026. No macro, syntax, notation, axiom, sorry.
-/
import Derived.Test.YtfjbpjndjcinhaaDoorRows
import GoSem.ClaimSeven
namespace Go.Proofs.YtfjbpjndjcinhaaDoor
namespace Rows

/-- THE TIED CARD OF 'chancellaw17.LedgerReads'. -/
def ledgerReadsCard : Claim7 := { stood := { row := ledgerReadsRow, standIns := [], harness := (true, "bd090499dee8b60b85eed373234250a3b7f7a0303759a18f793df4678c063410"), looks := false }, kinds := [], alts := [], laidByText := true, laidKinds := [.data, .pinned], laidTests := true, laidLooks := .later }
def LedgerReadsCardSaid : Prop := Claim7.holds Tryd.pinned (.plain (OpenSpec.ofChange ledgerReadsSpec)) ledgerReadsCard

/-- THE TIED CARD OF 'chancellaw17.LedgerRound'. -/
def ledgerRoundCard : Claim7 := { stood := { row := ledgerRoundRow, standIns := [], harness := (true, "bd090499dee8b60b85eed373234250a3b7f7a0303759a18f793df4678c063410"), looks := false }, kinds := [], alts := [], laidByText := true, laidKinds := [.data, .pinned], laidTests := true, laidLooks := .later }
def LedgerRoundCardSaid : Prop := Claim7.holds Tryd.pinned (.plain (OpenSpec.ofChange ledgerRoundSpec)) ledgerRoundCard

/-- THE SECOND FORM's CARD OF 'chancellaw17.LedgerReads'. -/
def ledgerReadsUptoCard : Claim7 := { stood := { row := ledgerReadsUptoRow, standIns := [], harness := (true, "bd090499dee8b60b85eed373234250a3b7f7a0303759a18f793df4678c063410"), looks := false }, kinds := [], alts := [], laidByText := true, laidKinds := [.data, .pinned], laidTests := true, laidLooks := .later }
def LedgerReadsUptoCardSaid : Prop := Claim7.holds Tryd.pinned (.plain (OpenSpec.upto ledgerReadsSpec)) ledgerReadsUptoCard

/-- THE SECOND FORM's CARD OF 'chancellaw17.LedgerRound'. -/
def ledgerRoundUptoCard : Claim7 := { stood := { row := ledgerRoundUptoRow, standIns := [], harness := (true, "bd090499dee8b60b85eed373234250a3b7f7a0303759a18f793df4678c063410"), looks := false }, kinds := [], alts := [], laidByText := true, laidKinds := [.data, .pinned], laidTests := true, laidLooks := .later }
def LedgerRoundUptoCardSaid : Prop := Claim7.holds Tryd.pinned (.plain (OpenSpec.upto ledgerRoundSpec)) ledgerRoundUptoCard
end Rows
end Go.Proofs.YtfjbpjndjcinhaaDoor
