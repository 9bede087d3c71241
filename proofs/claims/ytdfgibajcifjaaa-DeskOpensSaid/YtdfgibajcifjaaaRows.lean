/-
  No cell of these rows narrows 'for every input' (looked for: loops, veiled, ifaces, maps, wideKeys, modest, calm, conditions, laid).
  DERIVED. THE GIVEN ROWS OF THIS SEAT. 4 by the template 'for every input the law returns true; each argument reads behind the call as it read before'; 0 by the template 'total and deterministic' (their statements: YtdfgibajcifjaaaTotals.lean).
  GIVEN WITH THE SEED: the statements are not yours to turn. If you find one false, say at which input.
  Laid BY PROGRAM, IN A SANDBOX (cutbox-rows.mjs): the forced cells as the released guide's own fill.sh prints them over the translation 023ab90edb472904… (all of the seat's roots in one cut). By AI agents, Wed Nov 11 2026. No macro, syntax, notation, axiom, sorry.
-/
import Derived.Test.YtdfgibajcifjaaaChecked
import GoSem.Claim
import GoSem.ClaimJoined
import GoSem.ClaimMapViews
import Derived.JoinedTies
import Derived.KernelRfl
namespace Go.Proofs.Ytdfgibajcifjaaa
/- THE CELL 'sum', in the pinned program and in every row, IS THE sha256 OF THE DUMP (.gsa) THAT YtdfgibajcifjaaaProg.lean LOADS. Nothing in Lean hashes anything: it is a label: what it is worth is what the hold of that sum in a sandbox is worth. -/
noncomputable def Try.pinned : Pinned := { name := "ytdfgibajcifjaaa", sum := "023ab90edb472904ae600015bc16e2c7582def0c5ab01a178419b571b5e655f1", checked := Try.checked }
namespace Rows
def none {H : Type} : Left H := { results := [], args := [] }

/-- 'chancellaw11.DeskTells': WHATEVER THE INPUT: true; the input reads as it did. -/
def deskTellsSpec : ChangeSpec := { name := "deskTells", fn := fun _ => fun
  | [d] => { results := [.lit (.bool true)], args := [d] }
  | _ => none }
def deskTellsRow : OpenClaim := { program := "ytdfgibajcifjaaa", sum := "023ab90edb472904ae600015bc16e2c7582def0c5ab01a178419b571b5e655f1", func := "chancel/chancellaw11.DeskTells", spec := "deskTells", unfollowed := true, recurses := true, apart := false }
def DeskTellsSaid : Prop := deskTellsRow.holds Try.pinned (OpenSpec.ofChange deskTellsSpec)

/-- ITS FALSE NEIGHBOUR: 'it returns false'. Refute it at one input. -/
def deskTellsWrong : ChangeSpec := { name := "deskTells", fn := fun _ => fun
  | [d] => { results := [.lit (.bool false)], args := [d] }
  | _ => none }
def DeskTellsWrongFalsely : Prop := deskTellsRow.holds Try.pinned (OpenSpec.ofChange deskTellsWrong)

/-- 'chancellaw11.DeskDone': WHATEVER THE INPUT: true; the input reads as it did. -/
def deskDoneSpec : ChangeSpec := { name := "deskDone", fn := fun _ => fun
  | [d] => { results := [.lit (.bool true)], args := [d] }
  | _ => none }
def deskDoneRow : OpenClaim := { program := "ytdfgibajcifjaaa", sum := "023ab90edb472904ae600015bc16e2c7582def0c5ab01a178419b571b5e655f1", func := "chancel/chancellaw11.DeskDone", spec := "deskDone", unfollowed := true, recurses := true, apart := false }
def DeskDoneSaid : Prop := deskDoneRow.holds Try.pinned (OpenSpec.ofChange deskDoneSpec)

/-- ITS FALSE NEIGHBOUR: 'it returns false'. Refute it at one input. -/
def deskDoneWrong : ChangeSpec := { name := "deskDone", fn := fun _ => fun
  | [d] => { results := [.lit (.bool false)], args := [d] }
  | _ => none }
def DeskDoneWrongFalsely : Prop := deskDoneRow.holds Try.pinned (OpenSpec.ofChange deskDoneWrong)

/-- 'chancellaw11.DeskOpens': WHATEVER THE INPUT: true; the input reads as it did. -/
def deskOpensSpec : ChangeSpec := { name := "deskOpens", fn := fun _ => fun
  | [d] => { results := [.lit (.bool true)], args := [d] }
  | _ => none }
def deskOpensRow : OpenClaim := { program := "ytdfgibajcifjaaa", sum := "023ab90edb472904ae600015bc16e2c7582def0c5ab01a178419b571b5e655f1", func := "chancel/chancellaw11.DeskOpens", spec := "deskOpens", unfollowed := true, recurses := true, apart := false }
def DeskOpensSaid : Prop := deskOpensRow.holds Try.pinned (OpenSpec.ofChange deskOpensSpec)

/-- ITS FALSE NEIGHBOUR: 'it returns false'. Refute it at one input. -/
def deskOpensWrong : ChangeSpec := { name := "deskOpens", fn := fun _ => fun
  | [d] => { results := [.lit (.bool false)], args := [d] }
  | _ => none }
def DeskOpensWrongFalsely : Prop := deskOpensRow.holds Try.pinned (OpenSpec.ofChange deskOpensWrong)

/-- 'chancellaw11.DeskOnce': WHATEVER THE INPUT: true; the input reads as it did. -/
def deskOnceSpec : ChangeSpec := { name := "deskOnce", fn := fun _ => fun
  | [d1, d2] => { results := [.lit (.bool true)], args := [d1, d2] }
  | _ => none }
def deskOnceRow : OpenClaim := { program := "ytdfgibajcifjaaa", sum := "023ab90edb472904ae600015bc16e2c7582def0c5ab01a178419b571b5e655f1", func := "chancel/chancellaw11.DeskOnce", spec := "deskOnce", unfollowed := true, recurses := true, apart := false }
def DeskOnceSaid : Prop := deskOnceRow.holds Try.pinned (OpenSpec.ofChange deskOnceSpec)

/-- ITS FALSE NEIGHBOUR: 'it returns false'. Refute it at one input. -/
def deskOnceWrong : ChangeSpec := { name := "deskOnce", fn := fun _ => fun
  | [d1, d2] => { results := [.lit (.bool false)], args := [d1, d2] }
  | _ => none }
def DeskOnceWrongFalsely : Prop := deskOnceRow.holds Try.pinned (OpenSpec.ofChange deskOnceWrong)

/- THE SECOND FORM. 'bulk': how many values and letters a reading holds, each counted each time it is reached (what is shared counts as often as it is met; a slice's spare places count too). A statement '..UptoSaid' is the law's where the arguments, and the package variables that the reading takes, are together of bulk at most 1048576: NARROWER than '..Said'. Prove '..Said' where nothing that the law and all that it calls make is longer than what came in: it says more and counts as full. Else prove '..UptoSaid'. A law counts once. -/
mutual
def uptoBulk {H : Type} : DataW H → Nat
  | .lit (.string bytes) => bytes.length + 1
  | .lit _ => 1
  | .nil => 1
  | .ptr d => uptoBulk d + 1
  | .slice elems spare => uptoBulkAll elems + uptoBulkAll spare + 1
  | .agg parts => uptoBulkAll parts + 1
  | .iface _ d => uptoBulk d + 1
  | .map entries => uptoBulkEntries entries + 1
  | .held _ => 1
def uptoBulkAll {H : Type} : List (DataW H) → Nat
  | [] => 0
  | d :: r => uptoBulk d + uptoBulkAll r
def uptoBulkEntries {H : Type} : List (Lit × DataW H) → Nat
  | [] => 0
  | x :: r => uptoBulkEntry x + uptoBulkEntries r
def uptoBulkEntry {H : Type} : Lit × DataW H → Nat
  | (.string bytes, d) => bytes.length + uptoBulk d + 1
  | (_, d) => uptoBulk d + 1
 end
def uptoSmall : (H : Type) → List (DataW H) → Bool := fun _ ds => decide (uptoBulkAll ds ≤ 1048576)
def OpenSpec.upto (s : _root_.Go.ChangeSpec) : _root_.Go.OpenSpec := { _root_.Go.OpenSpec.ofChange s with cond := some uptoSmall }

/-- 'chancellaw11.DeskTells', WHERE WHAT IT READS IS OF BULK AT MOST 1048576: true; the input reads as it did. -/
def deskTellsUptoRow : OpenClaim := { program := "ytdfgibajcifjaaa", sum := "023ab90edb472904ae600015bc16e2c7582def0c5ab01a178419b571b5e655f1", func := "chancel/chancellaw11.DeskTells", spec := "deskTells", unfollowed := true, recurses := true, apart := false, narrowed := true }
def DeskTellsUptoSaid : Prop := deskTellsUptoRow.holds Try.pinned (OpenSpec.upto deskTellsSpec)

/-- 'chancellaw11.DeskDone', WHERE WHAT IT READS IS OF BULK AT MOST 1048576: true; the input reads as it did. -/
def deskDoneUptoRow : OpenClaim := { program := "ytdfgibajcifjaaa", sum := "023ab90edb472904ae600015bc16e2c7582def0c5ab01a178419b571b5e655f1", func := "chancel/chancellaw11.DeskDone", spec := "deskDone", unfollowed := true, recurses := true, apart := false, narrowed := true }
def DeskDoneUptoSaid : Prop := deskDoneUptoRow.holds Try.pinned (OpenSpec.upto deskDoneSpec)

/-- 'chancellaw11.DeskOpens', WHERE WHAT IT READS IS OF BULK AT MOST 1048576: true; the input reads as it did. -/
def deskOpensUptoRow : OpenClaim := { program := "ytdfgibajcifjaaa", sum := "023ab90edb472904ae600015bc16e2c7582def0c5ab01a178419b571b5e655f1", func := "chancel/chancellaw11.DeskOpens", spec := "deskOpens", unfollowed := true, recurses := true, apart := false, narrowed := true }
def DeskOpensUptoSaid : Prop := deskOpensUptoRow.holds Try.pinned (OpenSpec.upto deskOpensSpec)

/-- 'chancellaw11.DeskOnce', WHERE WHAT IT READS IS OF BULK AT MOST 1048576: true; the input reads as it did. -/
def deskOnceUptoRow : OpenClaim := { program := "ytdfgibajcifjaaa", sum := "023ab90edb472904ae600015bc16e2c7582def0c5ab01a178419b571b5e655f1", func := "chancel/chancellaw11.DeskOnce", spec := "deskOnce", unfollowed := true, recurses := true, apart := false, narrowed := true }
def DeskOnceUptoSaid : Prop := deskOnceUptoRow.holds Try.pinned (OpenSpec.upto deskOnceSpec)

end Rows
end Go.Proofs.Ytdfgibajcifjaaa
