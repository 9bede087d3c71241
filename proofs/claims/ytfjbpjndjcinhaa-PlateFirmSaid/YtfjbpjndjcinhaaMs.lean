/- Maps from texts to true: which texts are in. Over the kit alone. -/
import Derived.Test.YtfjbpjndjcinhaaMp
import Derived.Maps.Views
import Derived.StringKeys
namespace Go.Proofs.Ytfjbpjndjcinhaa.Mp
open Go Go.RowKit Go.Maps Go.MapKept Go.WideShapes Go.WideMaps
set_option linter.unusedVariables false
/-- Block b is a map of at most n entries in which the texts of M are true. -/
def MapS (P : Program) (k : TypeId) (w : World) (b n : Nat) (M : List ByteArray) : Prop :=
  ∃ D : DataW Value, IsMap D ∧ w.ownsMap P k rawR b n D ∧ ∀ x ∈ M, ∀ z, D.atKey (.string x.data.toList) z = .held (.bool true)
section
variable {P : Program} {k t e : TypeId} {w : World} {b n : Nat} {M : List ByteArray}
theorem MapS.made (w : World) (P : Program) (k : TypeId) : MapS P k (w.alloc (.map #[] 0)) w.heap.size 0 [] := ⟨_, isMap_empty, World.ownsMap_made w P k rawR, fun x hx => by cases hx⟩
theorem MapS.lt (h : MapS P k w b n M) : b < w.heap.size := by obtain ⟨_, _, h, _⟩ := h; exact h.lt
theorem MapS.move {w' : World} (h : MapS P k w b n M) (hm : w'.heap[b]? = w.heap[b]?) : MapS P k w' b n M := by
  obtain ⟨D, h1, ⟨es, clock, hb, r⟩, h3⟩ := h
  exact ⟨D, h1, ⟨es, clock, hm.trans hb, r⟩, h3⟩
theorem MapS.is_map (h : MapS P k w b n M) : ∃ es clock, w.heap[b]? = some (.map es clock) := by
  obtain ⟨D, h1, ⟨es, clock, hb, r⟩, h3⟩ := h
  exact ⟨es, clock, hb⟩
theorem MapS.mono (h : MapS P k w b n M) {n' : Nat} (hn : n ≤ n') : MapS P k w b n' M := by
  obtain ⟨D, h1, h2, h3⟩ := h
  exact ⟨D, h1, h2.mono hn, h3⟩
theorem MapS.look (h : MapS P k w b n M) (hk : P.underlying k = some .string) (ht : P.underlying t = some (.map k e)) {z : Value} (hz : (zeroValue e).run P w = .ok z w) {x : ByteArray} (hx : x ∈ M) (hs : x.size ≤ maxLen) :
    (Instr.lookup t (.map (some b)) (.string x) false).run P w = .ok (.bool true) w := by
  obtain ⟨D, h1, h2, h3⟩ := h
  obtain ⟨v, ps, hrun, hv⟩ := h2.lookup (string_keyed hk) ht hz (zd := .held z) (zp := []) rfl (keyOf_string_mk hk hs)
  rw [h3 x hx] at hv
  have : v = .bool true := by
    simp only [rawR, Option.some.injEq, Prod.mk.injEq] at hv
    injection hv.1
  rw [hrun, this]
theorem MapS.store (h : MapS P k w b n M) (hk : P.underlying k = some .string) (ht : P.underlying t = some (.map k e)) (hn : n < 9223372036854775807) {x : ByteArray} (hs : x.size ≤ maxLen) :
    ∃ w', (Instr.mapUpdate t (.map (some b)) (.string x) (.bool true)).run P w = .ok () w' ∧ MapS P k w' b (n + 1) (M ++ [x]) ∧ w.grownBy w' (some b) ∧ w'.heap.size = w.heap.size := by
  obtain ⟨D, h1, h2, h3⟩ := h
  obtain ⟨w', hrun, ho, ht⟩ := h2.store (string_keyed hk) ht (by simpa [maxLen] using hn) (keyOf_string_mk hk hs) (d := .held (.bool true)) (ps := []) (val := .bool true) rfl
  refine ⟨w', hrun, ⟨_, h1.put _ _, ho, fun y hy z => ?_⟩, ht.grown, ?_⟩
  · by_cases e : y = x
    · subst e
      exact atKey_put_same h1 (show WideAt.IsKeyLit (.string y.data.toList) from trivial) _ _
    · rw [atKey_put_other (fun h => e (by
        injection h with h
        have h2 : y.data = x.data := by rw [← Array.toArray_toList (xs := y.data), ← Array.toArray_toList (xs := x.data), h]
        cases y; cases x; simp at h2; rw [h2])) _ _]
      rcases List.mem_append.1 hy with hy | hy
      · exact h3 y hy z
      · exact absurd (by simpa using hy) e
  · obtain ⟨es, clock, es', clock', _, rfl⟩ := ht
    simp [ChangeMaps.setBlock]
end
end Go.Proofs.Ytfjbpjndjcinhaa.Mp
