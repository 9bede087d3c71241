/- PlateFirm's three tables in memory: what is firm, what was laid last, what was held; the disk beside them. Over the program alone. -/
import Derived.Test.YtfjbpjndjcinhaaAc
import Derived.Test.YtfjbpjndjcinhaaFp
import Derived.Test.YtfjbpjndjcinhaaMs
namespace Go.Proofs.Ytfjbpjndjcinhaa.Dk
open Go Go.RowKit Go.Proofs.Ytfjbpjndjcinhaa.Mp Go.Proofs.Ytfjbpjndjcinhaa.Rg Go.Proofs.YtfjbpjndjcinhaaW.PrintWords Go.Proofs.YtfjbpjndjcinhaaW.PrintMore Go.Proofs.YtfjbpjndjcinhaaW.PrintLast
set_option linter.unusedVariables false
set_option linter.unusedSimpArgs false
structure Tabs (fb lb hb : Nat) (w : World) (F L : List ByteArray) (H : List (Option Nat)) : Prop where
  f : w.heap[fb]? = some (.cells (F.map Value.string).toArray 48 (0, 0))
  l : w.heap[lb]? = some (.cells (L.map Value.string).toArray 48 (0, 0))
  h : w.heap[hb]? = some (.cells (H.map Value.map).toArray 50 (0, 0))
  fl : F.length = 9
  ll : L.length = 9
  hl : H.length = 9
  fne : fb < lb
  lne : lb < hb
section
variable {fb lb hb : Nat} {w w' : World} {F L : List ByteArray} {H : List (Option Nat)}
theorem Tabs.move (t : Tabs fb lb hb w F L H) (h : ∀ k, fb ≤ k → k ≤ hb → w'.heap[k]? = w.heap[k]?) : Tabs fb lb hb w' F L H := by
  have h1 := t.fne
  have h2 := t.lne
  exact ⟨(h fb (by omega) (by omega)).trans t.f, (h lb (by omega) (by omega)).trans t.l, (h hb (by omega) (by omega)).trans t.h, t.fl, t.ll, t.hl, t.fne, t.lne⟩
theorem Tabs.lt (t : Tabs fb lb hb w F L H) : hb < w.heap.size := blk_lt t.h
theorem Tabs.cell_f (t : Tabs fb lb hb w F L H) {k : Nat} {x : ByteArray} (hk : F[k]? = some x) : w.cell? ⟨fb, k, none⟩ = some (.string x) := by
  rw [blk_cell t.f k]
  simp [hk]
theorem Tabs.cell_l (t : Tabs fb lb hb w F L H) {k : Nat} {x : ByteArray} (hk : L[k]? = some x) : w.cell? ⟨lb, k, none⟩ = some (.string x) := by
  rw [blk_cell t.l k]
  simp [hk]
theorem Tabs.cell_h (t : Tabs fb lb hb w F L H) {k : Nat} {x : Option Nat} (hk : H[k]? = some x) : w.cell? ⟨hb, k, none⟩ = some (.map x) := by
  rw [blk_cell t.h k]
  simp [hk]
theorem Tabs.set_f (t : Tabs fb lb hb w F L H) (k : Nat) (x : ByteArray) : Tabs fb lb hb (w.setCell ⟨fb, k, none⟩ (.string x)) (F.set k x) L H := by
  have h1 := t.fne
  have h2 := t.lne
  refine ⟨?_, (Below.heap_setCell w _ _ lb (by simp; omega)).trans t.l, (Below.heap_setCell w _ _ hb (by simp; omega)).trans t.h, by simp [t.fl], t.ll, t.hl, t.fne, t.lne⟩
  exact blk_put t.f k _ (set_strings _ k x)
theorem Tabs.set_l (t : Tabs fb lb hb w F L H) (k : Nat) (x : ByteArray) : Tabs fb lb hb (w.setCell ⟨lb, k, none⟩ (.string x)) F (L.set k x) H := by
  have h1 := t.fne
  have h2 := t.lne
  refine ⟨(Below.heap_setCell w _ _ fb (by simp; omega)).trans t.f, ?_, (Below.heap_setCell w _ _ hb (by simp; omega)).trans t.h, t.fl, by simp [t.ll], t.hl, t.fne, t.lne⟩
  exact blk_put t.l k _ (set_strings _ k x)
theorem set_maps (H : List (Option Nat)) (k : Nat) (m : Option Nat) : (H.map Value.map).toArray.setIfInBounds k (.map m) = ((H.set k m).map Value.map).toArray := by
  apply Array.ext'
  simp [List.map_set]
theorem Tabs.set_h (t : Tabs fb lb hb w F L H) (k : Nat) (m : Option Nat) : Tabs fb lb hb (w.setCell ⟨hb, k, none⟩ (.map m)) F L (H.set k m) := by
  have h1 := t.fne
  have h2 := t.lne
  refine ⟨(Below.heap_setCell w _ _ fb (by simp; omega)).trans t.f, (Below.heap_setCell w _ _ lb (by simp; omega)).trans t.l, ?_, t.fl, t.ll, by simp [t.hl], t.fne, t.lne⟩
  exact blk_put t.h k _ (set_maps _ k m)
/-- The first k plates' entries are made. -/
def Made (w : World) (hb k : Nat) (F L : List ByteArray) (H : List (Option Nat)) : Prop :=
  ∀ j, j < k → F[j]? = some (fi (St.new 9) j) ∧ L[j]? = some (fi (St.new 9) j) ∧ ∃ m, H[j]? = some (some m) ∧ hb < m ∧ MapS Try.prog 9 w m 1 [fi (St.new 9) j] ∧ ∀ i, i < j → H[i]? ≠ some (some m)
theorem new_get9 {k : Nat} (hk : k < 9) : (St.new 9).get (k : Int) = (fi (St.new 9) k, true) := by
  have ht : (St.new 9).there (k : Int) = true := by
    show (!false && (decide (0 ≤ (k : Int)) && decide ((k : Int) < ((List.replicate 9 (⟨#[]⟩ : ByteArray)).length : Int)))) = true
    simp
    omega
  unfold St.get
  rw [if_pos ht, now_eq]
  rfl
theorem fi_new (k : Nat) : (fi (St.new 9) k).size = 128 := by
  unfold fi
  have : (St.new 9).firm.getD k ⟨#[]⟩ = ⟨#[]⟩ := by
    show (List.replicate 9 (⟨#[]⟩ : ByteArray)).getD k ⟨#[]⟩ = _
    rw [List.getD_eq_getElem?_getD, List.getElem?_replicate]
    split <;> rfl
  rw [this]
  exact full_size (by decide)
/-- Another entry is made. -/
theorem Made.next {k m : Nat} {W : World} (t : Tabs fb lb hb w F L H) (h : Made w hb k F L H) (hk : k < 9) (hm : w.heap.size ≤ m) (hM : MapS Try.prog 9 W m 1 [fi (St.new 9) k]) (hW : ∀ j, hb < j → j < w.heap.size → W.heap[j]? = w.heap[j]?) :
    Made W hb (k + 1) (F.set k (fi (St.new 9) k)) (L.set k (fi (St.new 9) k)) (H.set k (some m)) := by
  have hlt := t.lt
  have f9 := t.fl
  have l9 := t.ll
  have h9 := t.hl
  intro j hj
  by_cases e : j = k
  · subst e
    refine ⟨?_, ?_, m, ?_, by omega, hM, fun i hi => ?_⟩
    · rw [List.getElem?_set_self (by omega)]
    · rw [List.getElem?_set_self (by omega)]
    · rw [List.getElem?_set_self (by omega)]
    · rw [List.getElem?_set_ne (by omega)]
      obtain ⟨_, _, m', hm', _, hM', _⟩ := h i hi
      rw [hm']
      intro e
      injection e with e
      injection e with e
      have := hM'.lt
      omega
  · obtain ⟨h1, h2, m', h3, h4, h5, h6⟩ := h j (by omega)
    refine ⟨?_, ?_, m', ?_, h4, h5.move (hW m' h4 h5.lt), fun i hi => ?_⟩
    · rw [List.getElem?_set_ne (by omega)]; exact h1
    · rw [List.getElem?_set_ne (by omega)]; exact h2
    · rw [List.getElem?_set_ne (by omega)]; exact h3
    · rw [List.getElem?_set_ne (by omega)]
      exact h6 i hi
theorem three_far (W : World) (k1 k2 k3 : Nat) (v1 v2 v3 : Value) {a1 a2 a3 j : Nat} (h1 : j ≠ a1) (h2 : j ≠ a2) (h3 : j ≠ a3) : (((W.setCell ⟨a1, k1, none⟩ v1).setCell ⟨a2, k2, none⟩ v2).setCell ⟨a3, k3, none⟩ v3).heap[j]? = W.heap[j]? := by
  rw [Below.heap_setCell _ _ _ j (by simpa using h3), Below.heap_setCell _ _ _ j (by simpa using h2), Below.heap_setCell _ _ _ j (by simpa using h1)]
/-- The worlds that a round of the first loop goes through. -/
theorem round_old {wr Z1 w4 : World} {j : Nat} (h1 : Below wr.heap.size wr Z1) (h2 : (Z1.alloc (.map #[] 0)).grownBy w4 (some Z1.heap.size)) (hj : j < wr.heap.size) : w4.heap[j]? = wr.heap[j]? := by
  have hs := h1.size
  rw [h2.block j (by simp; omega) (by simp; omega)]
  exact ((below_alloc (Below.refl _ Z1) (.map #[] 0)).block j (by omega)).trans (h1.block j hj)
theorem round_below {w2 wr Z1 w4 : World} (h0 : Below fb w2 wr) (hlt : fb + 1 + 1 < wr.heap.size) (h1 : Below wr.heap.size wr Z1) (h2 : (Z1.alloc (.map #[] 0)).grownBy w4 (some Z1.heap.size)) (hs4 : w4.heap.size = (Z1.alloc (.map #[] 0)).heap.size) (k : Nat) (v1 v2 v3 : Value) :
    Below fb w2 (((w4.setCell ⟨fb, k, none⟩ v1).setCell ⟨fb + 1, k, none⟩ v2).setCell ⟨fb + 1 + 1, k, none⟩ v3) := by
  refine ⟨?_, ?_, ?_, ?_, fun j hj => ?_⟩
  · show w4.os = w2.os
    exact h2.os.trans (h1.os.trans h0.os)
  · show w4.tape = w2.tape
    exact h2.tape.trans (h1.tape.trans h0.tape)
  · show w4.output = w2.output
    exact h2.output.trans (h1.output.trans h0.output)
  · rw [World.size_setCell, World.size_setCell, World.size_setCell, hs4]
    have := h0.size
    have := h1.size
    simp
    omega
  · rw [three_far _ _ _ _ _ _ _ (by omega) (by omega) (by omega), round_old h1 h2 (by omega)]
    exact h0.block j hj
end
end Go.Proofs.Ytfjbpjndjcinhaa.Dk
