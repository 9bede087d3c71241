/-
  No cell of these rows narrows 'for every input' (looked for: loops, veiled, ifaces, maps, wideKeys, modest, calm, conditions, laid).
  DERIVED. THE GIVEN ROWS OF THIS SEAT. 3 by the template 'for every input the law returns true; each argument reads behind the call as it read before'; 0 by the template 'total and deterministic' (their statements: YtfjbpjndjcinhaaTotals.lean).
  GIVEN WITH THE SEED: the statements are not yours to turn. If you find one false, say at which input.
  Laid BY PROGRAM, IN A SANDBOX (cutbox-rows.mjs): the forced cells as the released guide's own fill.sh prints them over the translation 256ec4bc8b034c8f… (all of the seat's roots in one cut). By AI agents, Wed Nov 11 2026. No macro, syntax, notation, axiom, sorry.
-/
import Derived.Test.YtfjbpjndjcinhaaChecked
import GoSem.Claim
import GoSem.ClaimJoined
import GoSem.ClaimMapViews
import Derived.JoinedTies
import Derived.KernelRfl
namespace Go.Proofs.Ytfjbpjndjcinhaa
/- THE CELL 'sum', in the pinned program and in every row, IS THE sha256 OF THE DUMP (.gsa) THAT YtfjbpjndjcinhaaProg.lean LOADS. Nothing in Lean hashes anything: it is a label: what it is worth is what the hold of that sum in a sandbox is worth. -/
noncomputable def Try.pinned : Pinned := { name := "ytfjbpjndjcinhaa", sum := "256ec4bc8b034c8fb06aa1503d8e3c388ab1bca2175c4722a9ec8d3308e8de80", checked := Try.checked }
namespace Rows
def none {H : Type} : Left H := { results := [], args := [] }

/-- 'chancellaw17.LedgerPlates': WHATEVER THE INPUT: true; the input reads as it did. -/
def ledgerPlatesSpec : ChangeSpec := { name := "ledgerPlates", fn := fun _ => fun
  | [d] => { results := [.lit (.bool true)], args := [d] }
  | _ => none }
def ledgerPlatesRow : OpenClaim := { program := "ytfjbpjndjcinhaa", sum := "256ec4bc8b034c8fb06aa1503d8e3c388ab1bca2175c4722a9ec8d3308e8de80", func := "chancel/chancellaw17.LedgerPlates", spec := "ledgerPlates", apart := false }
def LedgerPlatesSaid : Prop := ledgerPlatesRow.holds Try.pinned (OpenSpec.ofChange ledgerPlatesSpec)

/-- ITS FALSE NEIGHBOUR: 'it returns false'. Refute it at one input. -/
def ledgerPlatesWrong : ChangeSpec := { name := "ledgerPlates", fn := fun _ => fun
  | [d] => { results := [.lit (.bool false)], args := [d] }
  | _ => none }
def LedgerPlatesWrongFalsely : Prop := ledgerPlatesRow.holds Try.pinned (OpenSpec.ofChange ledgerPlatesWrong)

/-- 'chancellaw16.PlateRuns': WHATEVER THE INPUT: true; the input reads as it did. -/
def plateRunsSpec : ChangeSpec := { name := "plateRuns", fn := fun _ => fun
  | [d1, d2] => { results := [.lit (.bool true)], args := [d1, d2] }
  | _ => none }
def plateRunsRow : OpenClaim := { program := "ytfjbpjndjcinhaa", sum := "256ec4bc8b034c8fb06aa1503d8e3c388ab1bca2175c4722a9ec8d3308e8de80", func := "chancel/chancellaw16.PlateRuns", spec := "plateRuns", inPlace := ["internal/abi.NoEscape", "internal/bytealg.MakeNoZero"], unfollowed := true, recurses := true, apart := false }
def PlateRunsSaid : Prop := plateRunsRow.holds Try.pinned (OpenSpec.ofChange plateRunsSpec)

/-- ITS FALSE NEIGHBOUR: 'it returns false'. Refute it at one input. -/
def plateRunsWrong : ChangeSpec := { name := "plateRuns", fn := fun _ => fun
  | [d1, d2] => { results := [.lit (.bool false)], args := [d1, d2] }
  | _ => none }
def PlateRunsWrongFalsely : Prop := plateRunsRow.holds Try.pinned (OpenSpec.ofChange plateRunsWrong)

/-- 'chancellaw16.PlateFirm': WHATEVER THE INPUT: true; the input reads as it did. -/
def plateFirmSpec : ChangeSpec := { name := "plateFirm", fn := fun _ => fun
  | [d] => { results := [.lit (.bool true)], args := [d] }
  | _ => none }
def plateFirmRow : OpenClaim := { program := "ytfjbpjndjcinhaa", sum := "256ec4bc8b034c8fb06aa1503d8e3c388ab1bca2175c4722a9ec8d3308e8de80", func := "chancel/chancellaw16.PlateFirm", spec := "plateFirm", inPlace := ["internal/abi.NoEscape", "internal/bytealg.MakeNoZero"], unfollowed := true, recurses := true, apart := false }
def PlateFirmSaid : Prop := plateFirmRow.holds Try.pinned (OpenSpec.ofChange plateFirmSpec)

/-- ITS FALSE NEIGHBOUR: 'it returns false'. Refute it at one input. -/
def plateFirmWrong : ChangeSpec := { name := "plateFirm", fn := fun _ => fun
  | [d] => { results := [.lit (.bool false)], args := [d] }
  | _ => none }
def PlateFirmWrongFalsely : Prop := plateFirmRow.holds Try.pinned (OpenSpec.ofChange plateFirmWrong)

/- THE SECOND FORM. 'bulk': how many values and letters a reading holds, each counted each time it is reached (what is shared counts as often as it is met; a slice's spare places count too). A statement '..UptoSaid' is the law's where the arguments, and the package variables that the reading takes, are together of bulk at most 1048576: NARROWER than '..Said'. Prove '..Said' where nothing that the law and all that it calls make is longer than what came in: it says more and counts as full. Else prove '..UptoSaid'. A law counts once. -/
mutual
def uptoBulk {H : Type} : DataW H → Nat
  | .lit (.string bytes) => bytes.length + 1
  | .lit _ => 1
  | .nil => 1
  | .ptr d => uptoBulk d + 1
  | .slice elems spare => uptoBulkAll elems + uptoBulkAll spare + 1
  | .agg parts => uptoBulkAll parts + 1
  | .iface _ d => uptoBulk d + 1
  | .map entries => uptoBulkEntries entries + 1
  | .held _ => 1
def uptoBulkAll {H : Type} : List (DataW H) → Nat
  | [] => 0
  | d :: r => uptoBulk d + uptoBulkAll r
def uptoBulkEntries {H : Type} : List (Lit × DataW H) → Nat
  | [] => 0
  | x :: r => uptoBulkEntry x + uptoBulkEntries r
def uptoBulkEntry {H : Type} : Lit × DataW H → Nat
  | (.string bytes, d) => bytes.length + uptoBulk d + 1
  | (_, d) => uptoBulk d + 1
 end
def uptoSmall : (H : Type) → List (DataW H) → Bool := fun _ ds => decide (uptoBulkAll ds ≤ 1048576)
def OpenSpec.upto (s : _root_.Go.ChangeSpec) : _root_.Go.OpenSpec := { _root_.Go.OpenSpec.ofChange s with cond := some uptoSmall }

/-- 'chancellaw17.LedgerPlates', WHERE WHAT IT READS IS OF BULK AT MOST 1048576: true; the input reads as it did. -/
def ledgerPlatesUptoRow : OpenClaim := { program := "ytfjbpjndjcinhaa", sum := "256ec4bc8b034c8fb06aa1503d8e3c388ab1bca2175c4722a9ec8d3308e8de80", func := "chancel/chancellaw17.LedgerPlates", spec := "ledgerPlates", apart := false, narrowed := true }
def LedgerPlatesUptoSaid : Prop := ledgerPlatesUptoRow.holds Try.pinned (OpenSpec.upto ledgerPlatesSpec)

/-- 'chancellaw16.PlateRuns', WHERE WHAT IT READS IS OF BULK AT MOST 1048576: true; the input reads as it did. -/
def plateRunsUptoRow : OpenClaim := { program := "ytfjbpjndjcinhaa", sum := "256ec4bc8b034c8fb06aa1503d8e3c388ab1bca2175c4722a9ec8d3308e8de80", func := "chancel/chancellaw16.PlateRuns", spec := "plateRuns", inPlace := ["internal/abi.NoEscape", "internal/bytealg.MakeNoZero"], unfollowed := true, recurses := true, apart := false, narrowed := true }
def PlateRunsUptoSaid : Prop := plateRunsUptoRow.holds Try.pinned (OpenSpec.upto plateRunsSpec)

/-- 'chancellaw16.PlateFirm', WHERE WHAT IT READS IS OF BULK AT MOST 1048576: true; the input reads as it did. -/
def plateFirmUptoRow : OpenClaim := { program := "ytfjbpjndjcinhaa", sum := "256ec4bc8b034c8fb06aa1503d8e3c388ab1bca2175c4722a9ec8d3308e8de80", func := "chancel/chancellaw16.PlateFirm", spec := "plateFirm", inPlace := ["internal/abi.NoEscape", "internal/bytealg.MakeNoZero"], unfollowed := true, recurses := true, apart := false, narrowed := true }
def PlateFirmUptoSaid : Prop := plateFirmUptoRow.holds Try.pinned (OpenSpec.upto plateFirmSpec)

end Rows
end Go.Proofs.Ytfjbpjndjcinhaa
