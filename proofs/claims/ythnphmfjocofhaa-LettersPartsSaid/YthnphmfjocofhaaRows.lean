/-
  No cell of these rows narrows 'for every input' (looked for: loops, veiled, ifaces, maps, wideKeys, modest, calm, conditions, laid).
  DERIVED. THE GIVEN ROWS OF THIS SEAT. 5 by the template 'for every input the law returns true; each argument reads behind the call as it read before'; 0 by the template 'total and deterministic' (their statements: YthnphmfjocofhaaTotals.lean).
  GIVEN WITH THE SEED: the statements are not yours to turn. If you find one false, say at which input.
  Laid BY PROGRAM, IN A SANDBOX (cutbox-rows.mjs): the forced cells as the released guide's own fill.sh prints them over the translation b85670d30104807a… (all of the seat's roots in one cut). By AI agents, Wed Nov 11 2026. No macro, syntax, notation, axiom, sorry.
-/
import Derived.Test.YthnphmfjocofhaaChecked
import GoSem.Claim
import GoSem.ClaimJoined
import GoSem.ClaimMapViews
import Derived.JoinedTies
import Derived.KernelRfl
namespace Go.Proofs.Ythnphmfjocofhaa
/- THE CELL 'sum', in the pinned program and in every row, IS THE sha256 OF THE DUMP (.gsa) THAT YthnphmfjocofhaaProg.lean LOADS. Nothing in Lean hashes anything: it is a label: what it is worth is what the hold of that sum in a sandbox is worth. -/
noncomputable def Try.pinned : Pinned := { name := "ythnphmfjocofhaa", sum := "b85670d30104807ac280ce5cbc0e905fcb0dd94b08ea20be9239142f88cbceb6", checked := Try.checked }
namespace Rows
def none {H : Type} : Left H := { results := [], args := [] }

/-- 'chancellaw01.LettersAll': WHATEVER THE INPUT: true; the input reads as it did. -/
def lettersAllSpec : ChangeSpec := { name := "lettersAll", fn := fun _ => fun
  | [d] => { results := [.lit (.bool true)], args := [d] }
  | _ => none }
def lettersAllRow : OpenClaim := { program := "ythnphmfjocofhaa", sum := "b85670d30104807ac280ce5cbc0e905fcb0dd94b08ea20be9239142f88cbceb6", func := "chancel/chancellaw01.LettersAll", spec := "lettersAll", apart := false }
def LettersAllSaid : Prop := lettersAllRow.holds Try.pinned (OpenSpec.ofChange lettersAllSpec)

/-- ITS FALSE NEIGHBOUR: 'it returns false'. Refute it at one input. -/
def lettersAllWrong : ChangeSpec := { name := "lettersAll", fn := fun _ => fun
  | [d] => { results := [.lit (.bool false)], args := [d] }
  | _ => none }
def LettersAllWrongFalsely : Prop := lettersAllRow.holds Try.pinned (OpenSpec.ofChange lettersAllWrong)

/-- 'chancellaw01.LettersByte': WHATEVER THE INPUT: true; the input reads as it did. -/
def lettersByteSpec : ChangeSpec := { name := "lettersByte", fn := fun _ => fun
  | [d1, d2] => { results := [.lit (.bool true)], args := [d1, d2] }
  | _ => none }
def lettersByteRow : OpenClaim := { program := "ythnphmfjocofhaa", sum := "b85670d30104807ac280ce5cbc0e905fcb0dd94b08ea20be9239142f88cbceb6", func := "chancel/chancellaw01.LettersByte", spec := "lettersByte", apart := false }
def LettersByteSaid : Prop := lettersByteRow.holds Try.pinned (OpenSpec.ofChange lettersByteSpec)

/-- ITS FALSE NEIGHBOUR: 'it returns false'. Refute it at one input. -/
def lettersByteWrong : ChangeSpec := { name := "lettersByte", fn := fun _ => fun
  | [d1, d2] => { results := [.lit (.bool false)], args := [d1, d2] }
  | _ => none }
def LettersByteWrongFalsely : Prop := lettersByteRow.holds Try.pinned (OpenSpec.ofChange lettersByteWrong)

/-- 'chancellaw01.LettersCut': WHATEVER THE INPUT: true; the input reads as it did. -/
def lettersCutSpec : ChangeSpec := { name := "lettersCut", fn := fun _ => fun
  | [d1, d2, d3] => { results := [.lit (.bool true)], args := [d1, d2, d3] }
  | _ => none }
def lettersCutRow : OpenClaim := { program := "ythnphmfjocofhaa", sum := "b85670d30104807ac280ce5cbc0e905fcb0dd94b08ea20be9239142f88cbceb6", func := "chancel/chancellaw01.LettersCut", spec := "lettersCut", apart := false }
def LettersCutSaid : Prop := lettersCutRow.holds Try.pinned (OpenSpec.ofChange lettersCutSpec)

/-- ITS FALSE NEIGHBOUR: 'it returns false'. Refute it at one input. -/
def lettersCutWrong : ChangeSpec := { name := "lettersCut", fn := fun _ => fun
  | [d1, d2, d3] => { results := [.lit (.bool false)], args := [d1, d2, d3] }
  | _ => none }
def LettersCutWrongFalsely : Prop := lettersCutRow.holds Try.pinned (OpenSpec.ofChange lettersCutWrong)

/-- 'chancellaw01.LettersParts': WHATEVER THE INPUT: true; the input reads as it did. -/
def lettersPartsSpec : ChangeSpec := { name := "lettersParts", fn := fun _ => fun
  | [d1, d2] => { results := [.lit (.bool true)], args := [d1, d2] }
  | _ => none }
def lettersPartsRow : OpenClaim := { program := "ythnphmfjocofhaa", sum := "b85670d30104807ac280ce5cbc0e905fcb0dd94b08ea20be9239142f88cbceb6", func := "chancel/chancellaw01.LettersParts", spec := "lettersParts", apart := false }
def LettersPartsSaid : Prop := lettersPartsRow.holds Try.pinned (OpenSpec.ofChange lettersPartsSpec)

/-- ITS FALSE NEIGHBOUR: 'it returns false'. Refute it at one input. -/
def lettersPartsWrong : ChangeSpec := { name := "lettersParts", fn := fun _ => fun
  | [d1, d2] => { results := [.lit (.bool false)], args := [d1, d2] }
  | _ => none }
def LettersPartsWrongFalsely : Prop := lettersPartsRow.holds Try.pinned (OpenSpec.ofChange lettersPartsWrong)

/-- 'chancellaw01.LettersPut': WHATEVER THE INPUT: true; the input reads as it did. -/
def lettersPutSpec : ChangeSpec := { name := "lettersPut", fn := fun _ => fun
  | [d1, d2, d3] => { results := [.lit (.bool true)], args := [d1, d2, d3] }
  | _ => none }
def lettersPutRow : OpenClaim := { program := "ythnphmfjocofhaa", sum := "b85670d30104807ac280ce5cbc0e905fcb0dd94b08ea20be9239142f88cbceb6", func := "chancel/chancellaw01.LettersPut", spec := "lettersPut", apart := false }
def LettersPutSaid : Prop := lettersPutRow.holds Try.pinned (OpenSpec.ofChange lettersPutSpec)

/-- ITS FALSE NEIGHBOUR: 'it returns false'. Refute it at one input. -/
def lettersPutWrong : ChangeSpec := { name := "lettersPut", fn := fun _ => fun
  | [d1, d2, d3] => { results := [.lit (.bool false)], args := [d1, d2, d3] }
  | _ => none }
def LettersPutWrongFalsely : Prop := lettersPutRow.holds Try.pinned (OpenSpec.ofChange lettersPutWrong)

/- THE SECOND FORM. 'bulk': how many values and letters a reading holds, each counted each time it is reached (what is shared counts as often as it is met; a slice's spare places count too). A statement '..UptoSaid' is the law's where the arguments, and the package variables that the reading takes, are together of bulk at most 1048576: NARROWER than '..Said'. Prove '..Said' where nothing that the law and all that it calls make is longer than what came in: it says more and counts as full. Else prove '..UptoSaid'. A law counts once. -/
mutual
def uptoBulk {H : Type} : DataW H → Nat
  | .lit (.string bytes) => bytes.length + 1
  | .lit _ => 1
  | .nil => 1
  | .ptr d => uptoBulk d + 1
  | .slice elems spare => uptoBulkAll elems + uptoBulkAll spare + 1
  | .agg parts => uptoBulkAll parts + 1
  | .iface _ d => uptoBulk d + 1
  | .map entries => uptoBulkEntries entries + 1
  | .held _ => 1
def uptoBulkAll {H : Type} : List (DataW H) → Nat
  | [] => 0
  | d :: r => uptoBulk d + uptoBulkAll r
def uptoBulkEntries {H : Type} : List (Lit × DataW H) → Nat
  | [] => 0
  | x :: r => uptoBulkEntry x + uptoBulkEntries r
def uptoBulkEntry {H : Type} : Lit × DataW H → Nat
  | (.string bytes, d) => bytes.length + uptoBulk d + 1
  | (_, d) => uptoBulk d + 1
 end
def uptoSmall : (H : Type) → List (DataW H) → Bool := fun _ ds => decide (uptoBulkAll ds ≤ 1048576)
def OpenSpec.upto (s : _root_.Go.ChangeSpec) : _root_.Go.OpenSpec := { _root_.Go.OpenSpec.ofChange s with cond := some uptoSmall }

/-- 'chancellaw01.LettersAll', WHERE WHAT IT READS IS OF BULK AT MOST 1048576: true; the input reads as it did. -/
def lettersAllUptoRow : OpenClaim := { program := "ythnphmfjocofhaa", sum := "b85670d30104807ac280ce5cbc0e905fcb0dd94b08ea20be9239142f88cbceb6", func := "chancel/chancellaw01.LettersAll", spec := "lettersAll", apart := false, narrowed := true }
def LettersAllUptoSaid : Prop := lettersAllUptoRow.holds Try.pinned (OpenSpec.upto lettersAllSpec)

/-- 'chancellaw01.LettersByte', WHERE WHAT IT READS IS OF BULK AT MOST 1048576: true; the input reads as it did. -/
def lettersByteUptoRow : OpenClaim := { program := "ythnphmfjocofhaa", sum := "b85670d30104807ac280ce5cbc0e905fcb0dd94b08ea20be9239142f88cbceb6", func := "chancel/chancellaw01.LettersByte", spec := "lettersByte", apart := false, narrowed := true }
def LettersByteUptoSaid : Prop := lettersByteUptoRow.holds Try.pinned (OpenSpec.upto lettersByteSpec)

/-- 'chancellaw01.LettersCut', WHERE WHAT IT READS IS OF BULK AT MOST 1048576: true; the input reads as it did. -/
def lettersCutUptoRow : OpenClaim := { program := "ythnphmfjocofhaa", sum := "b85670d30104807ac280ce5cbc0e905fcb0dd94b08ea20be9239142f88cbceb6", func := "chancel/chancellaw01.LettersCut", spec := "lettersCut", apart := false, narrowed := true }
def LettersCutUptoSaid : Prop := lettersCutUptoRow.holds Try.pinned (OpenSpec.upto lettersCutSpec)

/-- 'chancellaw01.LettersParts', WHERE WHAT IT READS IS OF BULK AT MOST 1048576: true; the input reads as it did. -/
def lettersPartsUptoRow : OpenClaim := { program := "ythnphmfjocofhaa", sum := "b85670d30104807ac280ce5cbc0e905fcb0dd94b08ea20be9239142f88cbceb6", func := "chancel/chancellaw01.LettersParts", spec := "lettersParts", apart := false, narrowed := true }
def LettersPartsUptoSaid : Prop := lettersPartsUptoRow.holds Try.pinned (OpenSpec.upto lettersPartsSpec)

/-- 'chancellaw01.LettersPut', WHERE WHAT IT READS IS OF BULK AT MOST 1048576: true; the input reads as it did. -/
def lettersPutUptoRow : OpenClaim := { program := "ythnphmfjocofhaa", sum := "b85670d30104807ac280ce5cbc0e905fcb0dd94b08ea20be9239142f88cbceb6", func := "chancel/chancellaw01.LettersPut", spec := "lettersPut", apart := false, narrowed := true }
def LettersPutUptoSaid : Prop := lettersPutUptoRow.holds Try.pinned (OpenSpec.upto lettersPutSpec)

end Rows
end Go.Proofs.Ythnphmfjocofhaa
