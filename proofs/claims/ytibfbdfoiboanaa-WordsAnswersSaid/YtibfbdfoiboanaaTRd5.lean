/- words.Ask: what it answers, at every text: the call that is read, or none. Over the program alone. -/
import Derived.Test.YtibfbdfoiboanaaTRd3
namespace Go.Proofs.Ytibfbdfoiboanaa.Rd
open Go.RowKit Go.Proofs.YtibfbdfoiboanaaW.PrintWords Go.Proofs.YtibfbdfoiboanaaW.PrintMore
set_option linter.unusedVariables false
structure Begun (w w2 : World) (C0 B0 : Array Value) (tc : TypeId) : Prop where
  res : w2.heap[w.heap.size]? = some (.cells C0 tc (0, 0))
  ok : w2.heap[w.heap.size + 1]? = some (.cells B0 4 (0, 0))
  rest : ∀ q, q < w.heap.size → w2.heap[q]? = w.heap[q]?
  os : w2.os = w.os
  tape : w2.tape = w.tape
  output : w2.output = w.output
  size : w.heap.size + 3 ≤ w2.heap.size
theorem begun (w w2 : World) (C0 B0 : Array Value) (tc : TypeId) (s : ByteArray)
    (h : (((w.alloc (.cells C0 tc)).alloc (.cells B0 4)).alloc (.cells #[.string s] 75)).grownBy w2 (some (w.heap.size + 1 + 1))) : Begun w w2 C0 B0 tc := by
  obtain ⟨W, hW⟩ : ∃ W, W = (((w.alloc (.cells C0 tc)).alloc (.cells B0 4)).alloc (.cells #[.string s] 75)) := ⟨_, rfl⟩
  have hH : W.heap = ((w.heap.push (.cells C0 tc (0, 0))).push (.cells B0 4 (0, 0))).push (.cells #[.string s] 75 (0, 0)) := by rw [hW]; rfl
  have hS : W.heap.size = w.heap.size + 3 := by rw [hH]; simp
  have ho : W.os = w.os ∧ W.tape = w.tape ∧ W.output = w.output := by rw [hW]; exact ⟨rfl, rfl, rfl⟩
  rw [← hW] at h
  clear hW
  have g : ∀ q, q < w.heap.size + 2 → w2.heap[q]? = W.heap[q]? := fun q hq => h.block q (by omega) (fun e => by injection e with e; omega)
  refine ⟨?_, ?_, fun q hq => ?_, h.os.trans ho.1, h.tape.trans ho.2.1, h.output.trans ho.2.2, by have := h.size; omega⟩
  · rw [g _ (by omega), hH, Array.getElem?_push, if_neg (by simp; omega), Array.getElem?_push, if_neg (by simp), Array.getElem?_push, if_pos rfl]
  · rw [g _ (by omega), hH, Array.getElem?_push, if_neg (by simp), Array.getElem?_push, if_pos (by simp)]
  · rw [g _ (by omega), hH, Array.getElem?_push, if_neg (by simp; omega), Array.getElem?_push, if_neg (by simp; omega), Array.getElem?_push, if_neg (by omega)]
theorem begun_grown {w w2 w3 : World} {C0 B0 : Array Value} {tc : TypeId} (h : Begun w w2 C0 B0 tc) (k : w2.grownBy w3 (some (w.heap.size + 1 + 1))) : Begun w w3 C0 B0 tc := by
  have hs := h.size
  refine ⟨(k.block _ (by omega) (fun e => by injection e with e; omega)).trans h.res, (k.block _ (by omega) (fun e => by injection e with e; omega)).trans h.ok, fun q hq => (k.block q (by omega) (fun e => by injection e with e; omega)).trans (h.rest q hq), k.os.trans h.os, k.tape.trans h.tape, k.output.trans h.output, Nat.le_trans hs k.size⟩
theorem begun_set {w w2 : World} {C0 B0 : Array Value} {tc : TypeId} (h : Begun w w2 C0 B0 tc) (j : Nat) (u : Value) : Begun w (w2.setCell ⟨w.heap.size, j, none⟩ u) (C0.setIfInBounds j u) B0 tc := by
  refine ⟨blk_set h.res j u, (Below.heap_setCell w2 ⟨w.heap.size, j, none⟩ u _ (by simp)).trans h.ok, fun q hq => (Below.heap_setCell w2 ⟨w.heap.size, j, none⟩ u q (by simp; omega)).trans (h.rest q hq), h.os, h.tape, h.output, by simpa [World.setCell] using h.size⟩
theorem begun_setok {w w2 : World} {C0 B0 : Array Value} {tc : TypeId} (h : Begun w w2 C0 B0 tc) (j : Nat) (u : Value) : Begun w (w2.setCell ⟨w.heap.size + 1, j, none⟩ u) C0 (B0.setIfInBounds j u) tc := by
  refine ⟨(Below.heap_setCell w2 ⟨w.heap.size + 1, j, none⟩ u _ (by simp)).trans h.res, blk_set h.ok j u, fun q hq => (Below.heap_setCell w2 ⟨w.heap.size + 1, j, none⟩ u q (by simp; omega)).trans (h.rest q hq), h.os, h.tape, h.output, by simpa [World.setCell] using h.size⟩
theorem left_setc {w : World} {g c j : Nat} {s : ByteArray} {u : Value} (hL : Left w g s) (hg : g ≠ c) : Left (w.setCell ⟨c, j, none⟩ u) g s :=
  (Below.heap_setCell w ⟨c, j, none⟩ u g (by simpa using hg)).trans hL
theorem begun_all {w w2 : World} {C0 B0 : Array Value} {tc : TypeId} (h : Begun w w2 C0 B0 tc) : w.grownBy w2 none :=
  ⟨h.os, h.tape, h.output, by have := h.size; omega, fun q hq _ => h.rest q hq⟩
theorem left_new (w : World) (A B : Obj) (s : ByteArray) : Left (((w.alloc A).alloc B).alloc (.cells #[.string s] 75)) (w.heap.size + 1 + 1) s := by
  show (((w.heap.push A).push B).push (.cells #[.string s] 75 (0, 0)))[w.heap.size + 1 + 1]? = _
  rw [Array.getElem?_push, if_pos (by simp)]
theorem pNums_size : ∀ (k : Nat) {s t : ByteArray} {xs : List Int}, pNums k s = some (xs, t) → t.size ≤ s.size ∧ xs.length = k
  | 0, s, t, xs, h => by
    unfold pNums at h
    injection h with h
    injection h with h1 h2
    subst h1; subst h2
    exact ⟨Nat.le_refl _, rfl⟩
  | k + 1, s, t, xs, h => by
    unfold pNums at h
    cases hp : pNum s with
    | none => rw [hp] at h; cases h
    | some a =>
      rw [hp, Option.bind_some] at h
      cases hq : pNums k a.2 with
      | none => rw [hq] at h; cases h
      | some b =>
        rw [hq] at h
        simp only [Option.map_some, Option.some.injEq, Prod.mk.injEq] at h
        have e1 := pNum_size (y := a.1) (t := a.2) hp
        have e2 := pNums_size k (xs := b.1) (t := b.2) hq
        rw [← h.1, ← h.2]
        exact ⟨Nat.le_trans e2.1 e1, by simp [e2.2]⟩
end Go.Proofs.Ytibfbdfoiboanaa.Rd
