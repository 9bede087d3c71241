/- words.Call: what it answers: the call's bytes, or that there are none. Over the program alone. -/
import Derived.Test.YtibfbdfoiboanaaTWl
namespace Go.Proofs.Ytibfbdfoiboanaa.Rd
open Go.RowKit Go.Proofs.YtibfbdfoiboanaaW.PrintWords Go.Proofs.YtibfbdfoiboanaaW.PrintMore
set_option linter.unusedVariables false
set_option linter.unusedSimpArgs false
structure BegunC (w w2 : World) (C : Array Value) (tc : TypeId) (s b : Value) : Prop where
  box : w2.heap[w.heap.size]? = some (.cells C tc (0, 0))
  res : w2.heap[w.heap.size + 1]? = some (.cells #[s] 9 (0, 0))
  ok : w2.heap[w.heap.size + 1 + 1]? = some (.cells #[b] 4 (0, 0))
  rest : ∀ q, q < w.heap.size → w2.heap[q]? = w.heap[q]?
  os : w2.os = w.os
  tape : w2.tape = w.tape
  output : w2.output = w.output
  size : w.heap.size + 3 ≤ w2.heap.size
theorem begunC (w : World) (C : Array Value) (tc : TypeId) (s b : Value) : BegunC w (((w.alloc (.cells C tc)).alloc (.cells #[s] 9)).alloc (.cells #[b] 4)) C tc s b := by
  have hH : (((w.alloc (.cells C tc)).alloc (.cells #[s] 9)).alloc (.cells #[b] 4)).heap = ((w.heap.push (.cells C tc (0, 0))).push (.cells #[s] 9 (0, 0))).push (.cells #[b] 4 (0, 0)) := rfl
  refine ⟨?_, ?_, ?_, fun q hq => ?_, rfl, rfl, rfl, by rw [hH]; simp⟩
  · rw [hH, Array.getElem?_push, if_neg (by simp; omega), Array.getElem?_push, if_neg (by simp), Array.getElem?_push, if_pos rfl]
  · rw [hH, Array.getElem?_push, if_neg (by simp), Array.getElem?_push, if_pos (by simp)]
  · rw [hH, Array.getElem?_push, if_pos (by simp)]
  · rw [hH, Array.getElem?_push, if_neg (by simp; omega), Array.getElem?_push, if_neg (by simp; omega), Array.getElem?_push, if_neg (by omega)]
theorem begunC_grown {w w2 w3 : World} {C : Array Value} {tc : TypeId} {s b : Value} (h : BegunC w w2 C tc s b) (k : w2.grownBy w3 none) : BegunC w w3 C tc s b := by
  have hs := h.size
  exact ⟨(k.block _ (by omega) (by simp)).trans h.box, (k.block _ (by omega) (by simp)).trans h.res, (k.block _ (by omega) (by simp)).trans h.ok, fun q hq => (k.block q (by omega) (by simp)).trans (h.rest q hq), k.os.trans h.os, k.tape.trans h.tape, k.output.trans h.output, Nat.le_trans hs k.size⟩
theorem begunC_below {w w2 w3 : World} {C : Array Value} {tc : TypeId} {s b : Value} (h : BegunC w w2 C tc s b) (k : Below w2.heap.size w2 w3) : BegunC w w3 C tc s b := begunC_grown h ⟨k.os, k.tape, k.output, k.size, fun q hq _ => k.block q hq⟩
theorem begunC_wrote {w w2 w3 : World} {C : Array Value} {tc : TypeId} {s b : Value} {g base : Nat} (h : BegunC w w2 C tc s b) (k : Wrote w2 w3 g base) (hg : w.heap.size + 3 ≤ g) (hb : w.heap.size + 3 ≤ base) : BegunC w w3 C tc s b := by
  have hs := h.size
  exact ⟨(k.old _ (by omega) (by omega) (by omega)).trans h.box, (k.old _ (by omega) (by omega) (by omega)).trans h.res, (k.old _ (by omega) (by omega) (by omega)).trans h.ok, fun q hq => (k.old q (by omega) (by omega) (by omega)).trans (h.rest q hq), k.os.trans h.os, k.tape.trans h.tape, k.output.trans h.output, Nat.le_trans hs k.size⟩
theorem begunC_res {w w2 : World} {C : Array Value} {tc : TypeId} {s b : Value} (h : BegunC w w2 C tc s b) (u : Value) : BegunC w (w2.setCell ⟨w.heap.size + 1, 0, none⟩ u) C tc u b :=
  ⟨(Below.heap_setCell w2 _ u _ (by simp)).trans h.box, (blk_set h.res 0 u).trans rfl, (Below.heap_setCell w2 _ u _ (by simp)).trans h.ok, fun q hq => (Below.heap_setCell w2 _ u q (by simp; omega)).trans (h.rest q hq), h.os, h.tape, h.output, by simpa [World.setCell] using h.size⟩
theorem begunC_ok {w w2 : World} {C : Array Value} {tc : TypeId} {s b : Value} (h : BegunC w w2 C tc s b) (u : Value) : BegunC w (w2.setCell ⟨w.heap.size + 1 + 1, 0, none⟩ u) C tc s u :=
  ⟨(Below.heap_setCell w2 _ u _ (by simp; omega)).trans h.box, (Below.heap_setCell w2 _ u _ (by simp)).trans h.res, (blk_set h.ok 0 u).trans rfl, fun q hq => (Below.heap_setCell w2 _ u q (by simp; omega)).trans (h.rest q hq), h.os, h.tape, h.output, by simpa [World.setCell] using h.size⟩
theorem begunC_all {w w2 : World} {C : Array Value} {tc : TypeId} {s b : Value} (h : BegunC w w2 C tc s b) : w.grownBy w2 none := ⟨h.os, h.tape, h.output, by have := h.size; omega, fun q hq _ => h.rest q hq⟩
/-- The writer's first state: one byte. -/
theorem wr_start (W : World) (b : Int) : Wr ((W.alloc (.cells #[.int .u8 b] 5)).alloc (.cells #[.slice (some ⟨W.heap.size, 0, none⟩) 1 1] 58)) (W.heap.size + 1) W.heap.size [b] := by
  have ho := World.ownsRow_lit (base := W.heap.size) (e := 5) (size := 1) W #[.int .u8 b] 1 (Nat.le_refl _) (by decide) (by simp)
  have hR : Kd.R (Kd.int .u8) 5 (W.alloc (.cells #[.int .u8 b] 5)) W.heap.size (fun _ => True) (.slice (some ⟨W.heap.size, 0, none⟩) 1 1) [b] := Kd.R_of_own (by simpa [encs] using ho) (fun _ _ => trivial)
  refine ⟨⟨_, ?_, Kd.R_alloc hR _⟩, ?_⟩
  · have h := heap_alloc_new (W.alloc (.cells #[.int .u8 b] 5)) (.cells #[.slice (some ⟨W.heap.size, 0, none⟩) 1 1] 58)
    rw [alloc_size] at h
    exact h
  · rw [alloc_size, alloc_size]; omega
def callR : Option (List Int) → Value
  | some l => .tuple #[.string (strOfNums l), .bool true]
  | none => .tuple #[.string ⟨#[]⟩, .bool false]
end Go.Proofs.Ytibfbdfoiboanaa.Rd
