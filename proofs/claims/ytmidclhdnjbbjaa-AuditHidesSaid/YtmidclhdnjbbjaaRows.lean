/-
  No cell of these rows narrows 'for every input' (looked for: loops, veiled, ifaces, maps, wideKeys, modest, calm, conditions, laid).
  DERIVED. THE GIVEN ROWS OF THIS SEAT. 4 by the template 'for every input the law returns true; each argument reads behind the call as it read before'; 0 by the template 'total and deterministic' (their statements: YtmidclhdnjbbjaaTotals.lean).
  GIVEN WITH THE SEED: the statements are not yours to turn. If you find one false, say at which input.
  Laid BY PROGRAM, IN A SANDBOX (cutbox-rows.mjs): the forced cells as the released guide's own fill.sh prints them over the translation bb65c842da6b5342… (all of the seat's roots in one cut). By AI agents, Wed Nov 11 2026. No macro, syntax, notation, axiom, sorry.
-/
import Derived.Test.YtmidclhdnjbbjaaChecked
import GoSem.Claim
import GoSem.ClaimJoined
import GoSem.ClaimMapViews
import Derived.JoinedTies
import Derived.KernelRfl
namespace Go.Proofs.Ytmidclhdnjbbjaa
/- THE CELL 'sum', in the pinned program and in every row, IS THE sha256 OF THE DUMP (.gsa) THAT YtmidclhdnjbbjaaProg.lean LOADS. Nothing in Lean hashes anything: it is a label: what it is worth is what the hold of that sum in a sandbox is worth. -/
noncomputable def Try.pinned : Pinned := { name := "ytmidclhdnjbbjaa", sum := "bb65c842da6b5342a7425468a3f707b62ffa80862af666b6096ca42bcfc21e5f", checked := Try.checked }
namespace Rows
def none {H : Type} : Left H := { results := [], args := [] }

/-- 'chancellaw09.AuditAdds': WHATEVER THE INPUT: true; the input reads as it did. -/
def auditAddsSpec : ChangeSpec := { name := "auditAdds", fn := fun _ => fun
  | [d1, d2, d3] => { results := [.lit (.bool true)], args := [d1, d2, d3] }
  | _ => none }
def auditAddsRow : OpenClaim := { program := "ytmidclhdnjbbjaa", sum := "bb65c842da6b5342a7425468a3f707b62ffa80862af666b6096ca42bcfc21e5f", func := "chancel/chancellaw09.AuditAdds", spec := "auditAdds", apart := false }
def AuditAddsSaid : Prop := auditAddsRow.holds Try.pinned (OpenSpec.ofChange auditAddsSpec)

/-- ITS FALSE NEIGHBOUR: 'it returns false'. Refute it at one input. -/
def auditAddsWrong : ChangeSpec := { name := "auditAdds", fn := fun _ => fun
  | [d1, d2, d3] => { results := [.lit (.bool false)], args := [d1, d2, d3] }
  | _ => none }
def AuditAddsWrongFalsely : Prop := auditAddsRow.holds Try.pinned (OpenSpec.ofChange auditAddsWrong)

/-- 'chancellaw09.AuditSees': WHATEVER THE INPUT: true; the input reads as it did. -/
def auditSeesSpec : ChangeSpec := { name := "auditSees", fn := fun _ => fun
  | [d1, d2, d3] => { results := [.lit (.bool true)], args := [d1, d2, d3] }
  | _ => none }
def auditSeesRow : OpenClaim := { program := "ytmidclhdnjbbjaa", sum := "bb65c842da6b5342a7425468a3f707b62ffa80862af666b6096ca42bcfc21e5f", func := "chancel/chancellaw09.AuditSees", spec := "auditSees", unfollowed := true, recurses := true, apart := false }
def AuditSeesSaid : Prop := auditSeesRow.holds Try.pinned (OpenSpec.ofChange auditSeesSpec)

/-- ITS FALSE NEIGHBOUR: 'it returns false'. Refute it at one input. -/
def auditSeesWrong : ChangeSpec := { name := "auditSees", fn := fun _ => fun
  | [d1, d2, d3] => { results := [.lit (.bool false)], args := [d1, d2, d3] }
  | _ => none }
def AuditSeesWrongFalsely : Prop := auditSeesRow.holds Try.pinned (OpenSpec.ofChange auditSeesWrong)

/-- 'chancellaw09.AuditHides': WHATEVER THE INPUT: true; the input reads as it did. -/
def auditHidesSpec : ChangeSpec := { name := "auditHides", fn := fun _ => fun
  | [d1, d2, d3] => { results := [.lit (.bool true)], args := [d1, d2, d3] }
  | _ => none }
def auditHidesRow : OpenClaim := { program := "ytmidclhdnjbbjaa", sum := "bb65c842da6b5342a7425468a3f707b62ffa80862af666b6096ca42bcfc21e5f", func := "chancel/chancellaw09.AuditHides", spec := "auditHides", unfollowed := true, recurses := true, apart := false }
def AuditHidesSaid : Prop := auditHidesRow.holds Try.pinned (OpenSpec.ofChange auditHidesSpec)

/-- ITS FALSE NEIGHBOUR: 'it returns false'. Refute it at one input. -/
def auditHidesWrong : ChangeSpec := { name := "auditHides", fn := fun _ => fun
  | [d1, d2, d3] => { results := [.lit (.bool false)], args := [d1, d2, d3] }
  | _ => none }
def AuditHidesWrongFalsely : Prop := auditHidesRow.holds Try.pinned (OpenSpec.ofChange auditHidesWrong)

/-- 'chancellaw09.AuditPages': WHATEVER THE INPUT: true; the input reads as it did. -/
def auditPagesSpec : ChangeSpec := { name := "auditPages", fn := fun _ => fun
  | [d1, d2, d3] => { results := [.lit (.bool true)], args := [d1, d2, d3] }
  | _ => none }
def auditPagesRow : OpenClaim := { program := "ytmidclhdnjbbjaa", sum := "bb65c842da6b5342a7425468a3f707b62ffa80862af666b6096ca42bcfc21e5f", func := "chancel/chancellaw09.AuditPages", spec := "auditPages", unfollowed := true, recurses := true, apart := false }
def AuditPagesSaid : Prop := auditPagesRow.holds Try.pinned (OpenSpec.ofChange auditPagesSpec)

/-- ITS FALSE NEIGHBOUR: 'it returns false'. Refute it at one input. -/
def auditPagesWrong : ChangeSpec := { name := "auditPages", fn := fun _ => fun
  | [d1, d2, d3] => { results := [.lit (.bool false)], args := [d1, d2, d3] }
  | _ => none }
def AuditPagesWrongFalsely : Prop := auditPagesRow.holds Try.pinned (OpenSpec.ofChange auditPagesWrong)

/- THE SECOND FORM. 'bulk': how many values and letters a reading holds, each counted each time it is reached (what is shared counts as often as it is met; a slice's spare places count too). A statement '..UptoSaid' is the law's where the arguments, and the package variables that the reading takes, are together of bulk at most 1048576: NARROWER than '..Said'. Prove '..Said' where nothing that the law and all that it calls make is longer than what came in: it says more and counts as full. Else prove '..UptoSaid'. A law counts once. -/
mutual
def uptoBulk {H : Type} : DataW H → Nat
  | .lit (.string bytes) => bytes.length + 1
  | .lit _ => 1
  | .nil => 1
  | .ptr d => uptoBulk d + 1
  | .slice elems spare => uptoBulkAll elems + uptoBulkAll spare + 1
  | .agg parts => uptoBulkAll parts + 1
  | .iface _ d => uptoBulk d + 1
  | .map entries => uptoBulkEntries entries + 1
  | .held _ => 1
def uptoBulkAll {H : Type} : List (DataW H) → Nat
  | [] => 0
  | d :: r => uptoBulk d + uptoBulkAll r
def uptoBulkEntries {H : Type} : List (Lit × DataW H) → Nat
  | [] => 0
  | x :: r => uptoBulkEntry x + uptoBulkEntries r
def uptoBulkEntry {H : Type} : Lit × DataW H → Nat
  | (.string bytes, d) => bytes.length + uptoBulk d + 1
  | (_, d) => uptoBulk d + 1
 end
def uptoSmall : (H : Type) → List (DataW H) → Bool := fun _ ds => decide (uptoBulkAll ds ≤ 1048576)
def OpenSpec.upto (s : _root_.Go.ChangeSpec) : _root_.Go.OpenSpec := { _root_.Go.OpenSpec.ofChange s with cond := some uptoSmall }

/-- 'chancellaw09.AuditAdds', WHERE WHAT IT READS IS OF BULK AT MOST 1048576: true; the input reads as it did. -/
def auditAddsUptoRow : OpenClaim := { program := "ytmidclhdnjbbjaa", sum := "bb65c842da6b5342a7425468a3f707b62ffa80862af666b6096ca42bcfc21e5f", func := "chancel/chancellaw09.AuditAdds", spec := "auditAdds", apart := false, narrowed := true }
def AuditAddsUptoSaid : Prop := auditAddsUptoRow.holds Try.pinned (OpenSpec.upto auditAddsSpec)

/-- 'chancellaw09.AuditSees', WHERE WHAT IT READS IS OF BULK AT MOST 1048576: true; the input reads as it did. -/
def auditSeesUptoRow : OpenClaim := { program := "ytmidclhdnjbbjaa", sum := "bb65c842da6b5342a7425468a3f707b62ffa80862af666b6096ca42bcfc21e5f", func := "chancel/chancellaw09.AuditSees", spec := "auditSees", unfollowed := true, recurses := true, apart := false, narrowed := true }
def AuditSeesUptoSaid : Prop := auditSeesUptoRow.holds Try.pinned (OpenSpec.upto auditSeesSpec)

/-- 'chancellaw09.AuditHides', WHERE WHAT IT READS IS OF BULK AT MOST 1048576: true; the input reads as it did. -/
def auditHidesUptoRow : OpenClaim := { program := "ytmidclhdnjbbjaa", sum := "bb65c842da6b5342a7425468a3f707b62ffa80862af666b6096ca42bcfc21e5f", func := "chancel/chancellaw09.AuditHides", spec := "auditHides", unfollowed := true, recurses := true, apart := false, narrowed := true }
def AuditHidesUptoSaid : Prop := auditHidesUptoRow.holds Try.pinned (OpenSpec.upto auditHidesSpec)

/-- 'chancellaw09.AuditPages', WHERE WHAT IT READS IS OF BULK AT MOST 1048576: true; the input reads as it did. -/
def auditPagesUptoRow : OpenClaim := { program := "ytmidclhdnjbbjaa", sum := "bb65c842da6b5342a7425468a3f707b62ffa80862af666b6096ca42bcfc21e5f", func := "chancel/chancellaw09.AuditPages", spec := "auditPages", unfollowed := true, recurses := true, apart := false, narrowed := true }
def AuditPagesUptoSaid : Prop := auditPagesUptoRow.holds Try.pinned (OpenSpec.upto auditPagesSpec)

end Rows
end Go.Proofs.Ytmidclhdnjbbjaa
