/-
  No cell of these rows narrows 'for every input' (looked for: loops, veiled, ifaces, maps, wideKeys, modest, calm, conditions, laid).
  DERIVED. THE GIVEN ROWS OF THIS SEAT. 5 by the template 'for every input the law returns true; each argument reads behind the call as it read before'; 0 by the template 'total and deterministic' (their statements: YtibfbdfoiboanaaTotals.lean).
  GIVEN WITH THE SEED: the statements are not yours to turn. If you find one false, say at which input.
  Laid BY PROGRAM, IN A SANDBOX (cutbox-rows.mjs): the forced cells as the released guide's own fill.sh prints them over the translation 4fcff5f212a608b5… (all of the seat's roots in one cut). By AI agents, Wed Nov 11 2026. No macro, syntax, notation, axiom, sorry.
-/
import Derived.Test.YtibfbdfoiboanaaChecked
import GoSem.Claim
import GoSem.ClaimJoined
import GoSem.ClaimMapViews
import Derived.JoinedTies
import Derived.KernelRfl
namespace Go.Proofs.Ytibfbdfoiboanaa
/- THE CELL 'sum', in the pinned program and in every row, IS THE sha256 OF THE DUMP (.gsa) THAT YtibfbdfoiboanaaProg.lean LOADS. Nothing in Lean hashes anything: it is a label: what it is worth is what the hold of that sum in a sandbox is worth. -/
noncomputable def Try.pinned : Pinned := { name := "ytibfbdfoiboanaa", sum := "4fcff5f212a608b589d881d1aca3dc0b12e823797e9940c7ee3929bbb13dd5c9", checked := Try.checked }
namespace Rows
def none {H : Type} : Left H := { results := [], args := [] }

/-- 'chancellaw13.WordsAnswers': WHATEVER THE INPUT: true; the input reads as it did. -/
def wordsAnswersSpec : ChangeSpec := { name := "wordsAnswers", fn := fun _ => fun
  | [d] => { results := [.lit (.bool true)], args := [d] }
  | _ => none }
def wordsAnswersRow : OpenClaim := { program := "ytibfbdfoiboanaa", sum := "4fcff5f212a608b589d881d1aca3dc0b12e823797e9940c7ee3929bbb13dd5c9", func := "chancel/chancellaw13.WordsAnswers", spec := "wordsAnswers", unfollowed := true, recurses := true, apart := false }
def WordsAnswersSaid : Prop := wordsAnswersRow.holds Try.pinned (OpenSpec.ofChange wordsAnswersSpec)

/-- ITS FALSE NEIGHBOUR: 'it returns false'. Refute it at one input. -/
def wordsAnswersWrong : ChangeSpec := { name := "wordsAnswers", fn := fun _ => fun
  | [d] => { results := [.lit (.bool false)], args := [d] }
  | _ => none }
def WordsAnswersWrongFalsely : Prop := wordsAnswersRow.holds Try.pinned (OpenSpec.ofChange wordsAnswersWrong)

/-- 'chancellaw13.WordsTold': WHATEVER THE INPUT: true; the input reads as it did. -/
def wordsToldSpec : ChangeSpec := { name := "wordsTold", fn := fun _ => fun
  | [d] => { results := [.lit (.bool true)], args := [d] }
  | _ => none }
def wordsToldRow : OpenClaim := { program := "ytibfbdfoiboanaa", sum := "4fcff5f212a608b589d881d1aca3dc0b12e823797e9940c7ee3929bbb13dd5c9", func := "chancel/chancellaw13.WordsTold", spec := "wordsTold", unfollowed := true, recurses := true, apart := false }
def WordsToldSaid : Prop := wordsToldRow.holds Try.pinned (OpenSpec.ofChange wordsToldSpec)

/-- ITS FALSE NEIGHBOUR: 'it returns false'. Refute it at one input. -/
def wordsToldWrong : ChangeSpec := { name := "wordsTold", fn := fun _ => fun
  | [d] => { results := [.lit (.bool false)], args := [d] }
  | _ => none }
def WordsToldWrongFalsely : Prop := wordsToldRow.holds Try.pinned (OpenSpec.ofChange wordsToldWrong)

/-- 'chancellaw13.WordsCut': WHATEVER THE INPUT: true; the input reads as it did. -/
def wordsCutSpec : ChangeSpec := { name := "wordsCut", fn := fun _ => fun
  | [d1, d2, d3] => { results := [.lit (.bool true)], args := [d1, d2, d3] }
  | _ => none }
def wordsCutRow : OpenClaim := { program := "ytibfbdfoiboanaa", sum := "4fcff5f212a608b589d881d1aca3dc0b12e823797e9940c7ee3929bbb13dd5c9", func := "chancel/chancellaw13.WordsCut", spec := "wordsCut", unfollowed := true, recurses := true, apart := false }
def WordsCutSaid : Prop := wordsCutRow.holds Try.pinned (OpenSpec.ofChange wordsCutSpec)

/-- ITS FALSE NEIGHBOUR: 'it returns false'. Refute it at one input. -/
def wordsCutWrong : ChangeSpec := { name := "wordsCut", fn := fun _ => fun
  | [d1, d2, d3] => { results := [.lit (.bool false)], args := [d1, d2, d3] }
  | _ => none }
def WordsCutWrongFalsely : Prop := wordsCutRow.holds Try.pinned (OpenSpec.ofChange wordsCutWrong)

/-- 'chancellaw13.WordsCalls': WHATEVER THE INPUT: true; the input reads as it did. -/
def wordsCallsSpec : ChangeSpec := { name := "wordsCalls", fn := fun _ => fun
  | [d] => { results := [.lit (.bool true)], args := [d] }
  | _ => none }
def wordsCallsRow : OpenClaim := { program := "ytibfbdfoiboanaa", sum := "4fcff5f212a608b589d881d1aca3dc0b12e823797e9940c7ee3929bbb13dd5c9", func := "chancel/chancellaw13.WordsCalls", spec := "wordsCalls", unfollowed := true, recurses := true, apart := false }
def WordsCallsSaid : Prop := wordsCallsRow.holds Try.pinned (OpenSpec.ofChange wordsCallsSpec)

/-- ITS FALSE NEIGHBOUR: 'it returns false'. Refute it at one input. -/
def wordsCallsWrong : ChangeSpec := { name := "wordsCalls", fn := fun _ => fun
  | [d] => { results := [.lit (.bool false)], args := [d] }
  | _ => none }
def WordsCallsWrongFalsely : Prop := wordsCallsRow.holds Try.pinned (OpenSpec.ofChange wordsCallsWrong)

/-- 'chancellaw13.WordsAsks': WHATEVER THE INPUT: true; the input reads as it did. -/
def wordsAsksSpec : ChangeSpec := { name := "wordsAsks", fn := fun _ => fun
  | [d] => { results := [.lit (.bool true)], args := [d] }
  | _ => none }
def wordsAsksRow : OpenClaim := { program := "ytibfbdfoiboanaa", sum := "4fcff5f212a608b589d881d1aca3dc0b12e823797e9940c7ee3929bbb13dd5c9", func := "chancel/chancellaw13.WordsAsks", spec := "wordsAsks", unfollowed := true, recurses := true, apart := false }
def WordsAsksSaid : Prop := wordsAsksRow.holds Try.pinned (OpenSpec.ofChange wordsAsksSpec)

/-- ITS FALSE NEIGHBOUR: 'it returns false'. Refute it at one input. -/
def wordsAsksWrong : ChangeSpec := { name := "wordsAsks", fn := fun _ => fun
  | [d] => { results := [.lit (.bool false)], args := [d] }
  | _ => none }
def WordsAsksWrongFalsely : Prop := wordsAsksRow.holds Try.pinned (OpenSpec.ofChange wordsAsksWrong)

/- THE SECOND FORM. 'bulk': how many values and letters a reading holds, each counted each time it is reached (what is shared counts as often as it is met; a slice's spare places count too). A statement '..UptoSaid' is the law's where the arguments, and the package variables that the reading takes, are together of bulk at most 1048576: NARROWER than '..Said'. Prove '..Said' where nothing that the law and all that it calls make is longer than what came in: it says more and counts as full. Else prove '..UptoSaid'. A law counts once. -/
mutual
def uptoBulk {H : Type} : DataW H → Nat
  | .lit (.string bytes) => bytes.length + 1
  | .lit _ => 1
  | .nil => 1
  | .ptr d => uptoBulk d + 1
  | .slice elems spare => uptoBulkAll elems + uptoBulkAll spare + 1
  | .agg parts => uptoBulkAll parts + 1
  | .iface _ d => uptoBulk d + 1
  | .map entries => uptoBulkEntries entries + 1
  | .held _ => 1
def uptoBulkAll {H : Type} : List (DataW H) → Nat
  | [] => 0
  | d :: r => uptoBulk d + uptoBulkAll r
def uptoBulkEntries {H : Type} : List (Lit × DataW H) → Nat
  | [] => 0
  | x :: r => uptoBulkEntry x + uptoBulkEntries r
def uptoBulkEntry {H : Type} : Lit × DataW H → Nat
  | (.string bytes, d) => bytes.length + uptoBulk d + 1
  | (_, d) => uptoBulk d + 1
 end
def uptoSmall : (H : Type) → List (DataW H) → Bool := fun _ ds => decide (uptoBulkAll ds ≤ 1048576)
def OpenSpec.upto (s : _root_.Go.ChangeSpec) : _root_.Go.OpenSpec := { _root_.Go.OpenSpec.ofChange s with cond := some uptoSmall }

/-- 'chancellaw13.WordsAnswers', WHERE WHAT IT READS IS OF BULK AT MOST 1048576: true; the input reads as it did. -/
def wordsAnswersUptoRow : OpenClaim := { program := "ytibfbdfoiboanaa", sum := "4fcff5f212a608b589d881d1aca3dc0b12e823797e9940c7ee3929bbb13dd5c9", func := "chancel/chancellaw13.WordsAnswers", spec := "wordsAnswers", unfollowed := true, recurses := true, apart := false, narrowed := true }
def WordsAnswersUptoSaid : Prop := wordsAnswersUptoRow.holds Try.pinned (OpenSpec.upto wordsAnswersSpec)

/-- 'chancellaw13.WordsTold', WHERE WHAT IT READS IS OF BULK AT MOST 1048576: true; the input reads as it did. -/
def wordsToldUptoRow : OpenClaim := { program := "ytibfbdfoiboanaa", sum := "4fcff5f212a608b589d881d1aca3dc0b12e823797e9940c7ee3929bbb13dd5c9", func := "chancel/chancellaw13.WordsTold", spec := "wordsTold", unfollowed := true, recurses := true, apart := false, narrowed := true }
def WordsToldUptoSaid : Prop := wordsToldUptoRow.holds Try.pinned (OpenSpec.upto wordsToldSpec)

/-- 'chancellaw13.WordsCut', WHERE WHAT IT READS IS OF BULK AT MOST 1048576: true; the input reads as it did. -/
def wordsCutUptoRow : OpenClaim := { program := "ytibfbdfoiboanaa", sum := "4fcff5f212a608b589d881d1aca3dc0b12e823797e9940c7ee3929bbb13dd5c9", func := "chancel/chancellaw13.WordsCut", spec := "wordsCut", unfollowed := true, recurses := true, apart := false, narrowed := true }
def WordsCutUptoSaid : Prop := wordsCutUptoRow.holds Try.pinned (OpenSpec.upto wordsCutSpec)

/-- 'chancellaw13.WordsCalls', WHERE WHAT IT READS IS OF BULK AT MOST 1048576: true; the input reads as it did. -/
def wordsCallsUptoRow : OpenClaim := { program := "ytibfbdfoiboanaa", sum := "4fcff5f212a608b589d881d1aca3dc0b12e823797e9940c7ee3929bbb13dd5c9", func := "chancel/chancellaw13.WordsCalls", spec := "wordsCalls", unfollowed := true, recurses := true, apart := false, narrowed := true }
def WordsCallsUptoSaid : Prop := wordsCallsUptoRow.holds Try.pinned (OpenSpec.upto wordsCallsSpec)

/-- 'chancellaw13.WordsAsks', WHERE WHAT IT READS IS OF BULK AT MOST 1048576: true; the input reads as it did. -/
def wordsAsksUptoRow : OpenClaim := { program := "ytibfbdfoiboanaa", sum := "4fcff5f212a608b589d881d1aca3dc0b12e823797e9940c7ee3929bbb13dd5c9", func := "chancel/chancellaw13.WordsAsks", spec := "wordsAsks", unfollowed := true, recurses := true, apart := false, narrowed := true }
def WordsAsksUptoSaid : Prop := wordsAsksUptoRow.holds Try.pinned (OpenSpec.upto wordsAsksSpec)

end Rows
end Go.Proofs.Ytibfbdfoiboanaa
