/-
  No cell of these rows narrows 'for every input' (looked for: loops, veiled, ifaces, maps, wideKeys, modest, calm, conditions, laid).
  DERIVED. THE GIVEN ROWS OF THIS SEAT. 6 by the template 'for every input the law returns true; each argument reads behind the call as it read before'; 0 by the template 'total and deterministic' (their statements: YtgjlnjjgpddcnaaTotals.lean).
  GIVEN WITH THE SEED: the statements are not yours to turn. If you find one false, say at which input.
  Laid BY PROGRAM, IN A SANDBOX (cutbox-rows.mjs): the forced cells as the released guide's own fill.sh prints them over the translation b6d369b8e4f2f016… (all of the seat's roots in one cut). By AI agents, Wed Nov 11 2026. No macro, syntax, notation, axiom, sorry.
-/
import Derived.Test.YtgjlnjjgpddcnaaChecked
import GoSem.Claim
import GoSem.ClaimJoined
import GoSem.ClaimMapViews
import Derived.JoinedTies
import Derived.KernelRfl
namespace Go.Proofs.Ytgjlnjjgpddcnaa
/- THE CELL 'sum', in the pinned program and in every row, IS THE sha256 OF THE DUMP (.gsa) THAT YtgjlnjjgpddcnaaProg.lean LOADS. Nothing in Lean hashes anything: it is a label: what it is worth is what the hold of that sum in a sandbox is worth. -/
noncomputable def Try.pinned : Pinned := { name := "ytgjlnjjgpddcnaa", sum := "b6d369b8e4f2f016d055e2c6e295d6e0e85aabaecf663b15809ecd7c8b2d3340", checked := Try.checked }
namespace Rows
def none {H : Type} : Left H := { results := [], args := [] }

/-- 'chancellaw03.RightsRight': WHATEVER THE INPUT: true; the input reads as it did. -/
def rightsRightSpec : ChangeSpec := { name := "rightsRight", fn := fun _ => fun
  | [d1, d2] => { results := [.lit (.bool true)], args := [d1, d2] }
  | _ => none }
def rightsRightRow : OpenClaim := { program := "ytgjlnjjgpddcnaa", sum := "b6d369b8e4f2f016d055e2c6e295d6e0e85aabaecf663b15809ecd7c8b2d3340", func := "chancel/chancellaw03.RightsRight", spec := "rightsRight", apart := false }
def RightsRightSaid : Prop := rightsRightRow.holds Try.pinned (OpenSpec.ofChange rightsRightSpec)

/-- ITS FALSE NEIGHBOUR: 'it returns false'. Refute it at one input. -/
def rightsRightWrong : ChangeSpec := { name := "rightsRight", fn := fun _ => fun
  | [d1, d2] => { results := [.lit (.bool false)], args := [d1, d2] }
  | _ => none }
def RightsRightWrongFalsely : Prop := rightsRightRow.holds Try.pinned (OpenSpec.ofChange rightsRightWrong)

/-- 'chancellaw03.RightsChildren': WHATEVER THE INPUT: true; the input reads as it did. -/
def rightsChildrenSpec : ChangeSpec := { name := "rightsChildren", fn := fun _ => fun
  | [d1, d2, d3] => { results := [.lit (.bool true)], args := [d1, d2, d3] }
  | _ => none }
def rightsChildrenRow : OpenClaim := { program := "ytgjlnjjgpddcnaa", sum := "b6d369b8e4f2f016d055e2c6e295d6e0e85aabaecf663b15809ecd7c8b2d3340", func := "chancel/chancellaw03.RightsChildren", spec := "rightsChildren", apart := false }
def RightsChildrenSaid : Prop := rightsChildrenRow.holds Try.pinned (OpenSpec.ofChange rightsChildrenSpec)

/-- ITS FALSE NEIGHBOUR: 'it returns false'. Refute it at one input. -/
def rightsChildrenWrong : ChangeSpec := { name := "rightsChildren", fn := fun _ => fun
  | [d1, d2, d3] => { results := [.lit (.bool false)], args := [d1, d2, d3] }
  | _ => none }
def RightsChildrenWrongFalsely : Prop := rightsChildrenRow.holds Try.pinned (OpenSpec.ofChange rightsChildrenWrong)

/-- 'chancellaw03.RightsMay': WHATEVER THE INPUT: true; the input reads as it did. -/
def rightsMaySpec : ChangeSpec := { name := "rightsMay", fn := fun _ => fun
  | [d1, d2, d3] => { results := [.lit (.bool true)], args := [d1, d2, d3] }
  | _ => none }
def rightsMayRow : OpenClaim := { program := "ytgjlnjjgpddcnaa", sum := "b6d369b8e4f2f016d055e2c6e295d6e0e85aabaecf663b15809ecd7c8b2d3340", func := "chancel/chancellaw03.RightsMay", spec := "rightsMay", recurses := true, apart := false }
def RightsMaySaid : Prop := rightsMayRow.holds Try.pinned (OpenSpec.ofChange rightsMaySpec)

/-- ITS FALSE NEIGHBOUR: 'it returns false'. Refute it at one input. -/
def rightsMayWrong : ChangeSpec := { name := "rightsMay", fn := fun _ => fun
  | [d1, d2, d3] => { results := [.lit (.bool false)], args := [d1, d2, d3] }
  | _ => none }
def RightsMayWrongFalsely : Prop := rightsMayRow.holds Try.pinned (OpenSpec.ofChange rightsMayWrong)

/-- 'chancellaw03.RightsApart': WHATEVER THE INPUT: true; the input reads as it did. -/
def rightsApartSpec : ChangeSpec := { name := "rightsApart", fn := fun _ => fun
  | [d1, d2, d3] => { results := [.lit (.bool true)], args := [d1, d2, d3] }
  | _ => none }
def rightsApartRow : OpenClaim := { program := "ytgjlnjjgpddcnaa", sum := "b6d369b8e4f2f016d055e2c6e295d6e0e85aabaecf663b15809ecd7c8b2d3340", func := "chancel/chancellaw03.RightsApart", spec := "rightsApart", inPlace := ["slices.overlaps[int]"], apart := false }
def RightsApartSaid : Prop := rightsApartRow.holds Try.pinned (OpenSpec.ofChange rightsApartSpec)

/-- ITS FALSE NEIGHBOUR: 'it returns false'. Refute it at one input. -/
def rightsApartWrong : ChangeSpec := { name := "rightsApart", fn := fun _ => fun
  | [d1, d2, d3] => { results := [.lit (.bool false)], args := [d1, d2, d3] }
  | _ => none }
def RightsApartWrongFalsely : Prop := rightsApartRow.holds Try.pinned (OpenSpec.ofChange rightsApartWrong)

/-- 'chancellaw03.RightsBack': WHATEVER THE INPUT: true; the input reads as it did. -/
def rightsBackSpec : ChangeSpec := { name := "rightsBack", fn := fun _ => fun
  | [d1, d2] => { results := [.lit (.bool true)], args := [d1, d2] }
  | _ => none }
def rightsBackRow : OpenClaim := { program := "ytgjlnjjgpddcnaa", sum := "b6d369b8e4f2f016d055e2c6e295d6e0e85aabaecf663b15809ecd7c8b2d3340", func := "chancel/chancellaw03.RightsBack", spec := "rightsBack", inPlace := ["slices.overlaps[int]"], apart := false }
def RightsBackSaid : Prop := rightsBackRow.holds Try.pinned (OpenSpec.ofChange rightsBackSpec)

/-- ITS FALSE NEIGHBOUR: 'it returns false'. Refute it at one input. -/
def rightsBackWrong : ChangeSpec := { name := "rightsBack", fn := fun _ => fun
  | [d1, d2] => { results := [.lit (.bool false)], args := [d1, d2] }
  | _ => none }
def RightsBackWrongFalsely : Prop := rightsBackRow.holds Try.pinned (OpenSpec.ofChange rightsBackWrong)

/-- 'chancellaw03.RightsGrant': WHATEVER THE INPUT: true; the input reads as it did. -/
def rightsGrantSpec : ChangeSpec := { name := "rightsGrant", fn := fun _ => fun
  | [d1, d2] => { results := [.lit (.bool true)], args := [d1, d2] }
  | _ => none }
def rightsGrantRow : OpenClaim := { program := "ytgjlnjjgpddcnaa", sum := "b6d369b8e4f2f016d055e2c6e295d6e0e85aabaecf663b15809ecd7c8b2d3340", func := "chancel/chancellaw03.RightsGrant", spec := "rightsGrant", inPlace := ["slices.overlaps[int]"], apart := false }
def RightsGrantSaid : Prop := rightsGrantRow.holds Try.pinned (OpenSpec.ofChange rightsGrantSpec)

/-- ITS FALSE NEIGHBOUR: 'it returns false'. Refute it at one input. -/
def rightsGrantWrong : ChangeSpec := { name := "rightsGrant", fn := fun _ => fun
  | [d1, d2] => { results := [.lit (.bool false)], args := [d1, d2] }
  | _ => none }
def RightsGrantWrongFalsely : Prop := rightsGrantRow.holds Try.pinned (OpenSpec.ofChange rightsGrantWrong)

/- THE SECOND FORM. 'bulk': how many values and letters a reading holds, each counted each time it is reached (what is shared counts as often as it is met; a slice's spare places count too). A statement '..UptoSaid' is the law's where the arguments, and the package variables that the reading takes, are together of bulk at most 1048576: NARROWER than '..Said'. Prove '..Said' where nothing that the law and all that it calls make is longer than what came in: it says more and counts as full. Else prove '..UptoSaid'. A law counts once. -/
mutual
def uptoBulk {H : Type} : DataW H → Nat
  | .lit (.string bytes) => bytes.length + 1
  | .lit _ => 1
  | .nil => 1
  | .ptr d => uptoBulk d + 1
  | .slice elems spare => uptoBulkAll elems + uptoBulkAll spare + 1
  | .agg parts => uptoBulkAll parts + 1
  | .iface _ d => uptoBulk d + 1
  | .map entries => uptoBulkEntries entries + 1
  | .held _ => 1
def uptoBulkAll {H : Type} : List (DataW H) → Nat
  | [] => 0
  | d :: r => uptoBulk d + uptoBulkAll r
def uptoBulkEntries {H : Type} : List (Lit × DataW H) → Nat
  | [] => 0
  | x :: r => uptoBulkEntry x + uptoBulkEntries r
def uptoBulkEntry {H : Type} : Lit × DataW H → Nat
  | (.string bytes, d) => bytes.length + uptoBulk d + 1
  | (_, d) => uptoBulk d + 1
 end
def uptoSmall : (H : Type) → List (DataW H) → Bool := fun _ ds => decide (uptoBulkAll ds ≤ 1048576)
def OpenSpec.upto (s : _root_.Go.ChangeSpec) : _root_.Go.OpenSpec := { _root_.Go.OpenSpec.ofChange s with cond := some uptoSmall }

/-- 'chancellaw03.RightsRight', WHERE WHAT IT READS IS OF BULK AT MOST 1048576: true; the input reads as it did. -/
def rightsRightUptoRow : OpenClaim := { program := "ytgjlnjjgpddcnaa", sum := "b6d369b8e4f2f016d055e2c6e295d6e0e85aabaecf663b15809ecd7c8b2d3340", func := "chancel/chancellaw03.RightsRight", spec := "rightsRight", apart := false, narrowed := true }
def RightsRightUptoSaid : Prop := rightsRightUptoRow.holds Try.pinned (OpenSpec.upto rightsRightSpec)

/-- 'chancellaw03.RightsChildren', WHERE WHAT IT READS IS OF BULK AT MOST 1048576: true; the input reads as it did. -/
def rightsChildrenUptoRow : OpenClaim := { program := "ytgjlnjjgpddcnaa", sum := "b6d369b8e4f2f016d055e2c6e295d6e0e85aabaecf663b15809ecd7c8b2d3340", func := "chancel/chancellaw03.RightsChildren", spec := "rightsChildren", apart := false, narrowed := true }
def RightsChildrenUptoSaid : Prop := rightsChildrenUptoRow.holds Try.pinned (OpenSpec.upto rightsChildrenSpec)

/-- 'chancellaw03.RightsMay', WHERE WHAT IT READS IS OF BULK AT MOST 1048576: true; the input reads as it did. -/
def rightsMayUptoRow : OpenClaim := { program := "ytgjlnjjgpddcnaa", sum := "b6d369b8e4f2f016d055e2c6e295d6e0e85aabaecf663b15809ecd7c8b2d3340", func := "chancel/chancellaw03.RightsMay", spec := "rightsMay", recurses := true, apart := false, narrowed := true }
def RightsMayUptoSaid : Prop := rightsMayUptoRow.holds Try.pinned (OpenSpec.upto rightsMaySpec)

/-- 'chancellaw03.RightsApart', WHERE WHAT IT READS IS OF BULK AT MOST 1048576: true; the input reads as it did. -/
def rightsApartUptoRow : OpenClaim := { program := "ytgjlnjjgpddcnaa", sum := "b6d369b8e4f2f016d055e2c6e295d6e0e85aabaecf663b15809ecd7c8b2d3340", func := "chancel/chancellaw03.RightsApart", spec := "rightsApart", inPlace := ["slices.overlaps[int]"], apart := false, narrowed := true }
def RightsApartUptoSaid : Prop := rightsApartUptoRow.holds Try.pinned (OpenSpec.upto rightsApartSpec)

/-- 'chancellaw03.RightsBack', WHERE WHAT IT READS IS OF BULK AT MOST 1048576: true; the input reads as it did. -/
def rightsBackUptoRow : OpenClaim := { program := "ytgjlnjjgpddcnaa", sum := "b6d369b8e4f2f016d055e2c6e295d6e0e85aabaecf663b15809ecd7c8b2d3340", func := "chancel/chancellaw03.RightsBack", spec := "rightsBack", inPlace := ["slices.overlaps[int]"], apart := false, narrowed := true }
def RightsBackUptoSaid : Prop := rightsBackUptoRow.holds Try.pinned (OpenSpec.upto rightsBackSpec)

/-- 'chancellaw03.RightsGrant', WHERE WHAT IT READS IS OF BULK AT MOST 1048576: true; the input reads as it did. -/
def rightsGrantUptoRow : OpenClaim := { program := "ytgjlnjjgpddcnaa", sum := "b6d369b8e4f2f016d055e2c6e295d6e0e85aabaecf663b15809ecd7c8b2d3340", func := "chancel/chancellaw03.RightsGrant", spec := "rightsGrant", inPlace := ["slices.overlaps[int]"], apart := false, narrowed := true }
def RightsGrantUptoSaid : Prop := rightsGrantUptoRow.holds Try.pinned (OpenSpec.upto rightsGrantSpec)

end Rows
end Go.Proofs.Ytgjlnjjgpddcnaa
