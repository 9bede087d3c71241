/- words: the call that is known, and how worlds grow. Over the program alone. -/
import Derived.Test.YtibfbdfoiboanaaRd5
namespace Go.Proofs.Ytibfbdfoiboanaa.Rd
open Go.RowKit Go.Proofs.YtibfbdfoiboanaaW.PrintWords Go.Proofs.YtibfbdfoiboanaaW.PrintMore
set_option linter.unusedVariables false
def known : ByteArray := ⟨#[2, 0, 1, 116, 0, 0, 0, 0, 0, 0, 0, 1]⟩
theorem pAsk_known : pAsk known = some ((2, ⟨#[116]⟩, 1, ⟨2, [], ⟨#[]⟩, ⟨#[]⟩, false, false⟩), ⟨#[]⟩) := by kernel_rfl
theorem ask_known (w : World) : Calls Try.prog 14 #[.string ⟨#[2, 0, 1, 116, 0, 0, 0, 0, 0, 0, 0, 1]⟩] w fun e w' => e = .returned (.tuple #[.agg #[.string ⟨#[116]⟩, .int .i64 1, .iface 44 (.agg #[])], .bool true]) ∧ w.grownBy w' none := by
  have h := ask_calls known w (by decide)
  rw [pAsk_known] at h
  exact h
structure Blk2 (w W : World) (b : Nat) (cs : Array Value) (T : TypeId) : Prop where
  blk : W.heap[b]? = some (.cells cs T (0, 0))
  below : Below w.heap.size w W
theorem grown_step {w W W' : World} (h : Below w.heap.size w W) (k : W.grownBy W' none) : Below w.heap.size w W' :=
  ⟨k.os.trans h.os, k.tape.trans h.tape, k.output.trans h.output, Nat.le_trans h.size k.size, fun q hq => (k.block q (Nat.lt_of_lt_of_le hq h.size) (by simp)).trans (h.block q hq)⟩
theorem blk_keep {W W' : World} {b : Nat} {o : Obj} (h : W.heap[b]? = some o) (k : W.grownBy W' none) : W'.heap[b]? = some o := (k.block b (blk_lt h) (by simp)).trans h
end Go.Proofs.Ytibfbdfoiboanaa.Rd
