/- words.Op and the writer's fields: what each answers, kind by kind. Over the program alone. -/
import Derived.Test.YtibfbdfoiboanaaTWr
namespace Go.Proofs.Ytibfbdfoiboanaa.Rd
open Go.RowKit Go.Proofs.YtibfbdfoiboanaaW.PrintWords Go.Proofs.YtibfbdfoiboanaaW.PrintMore
set_option linter.unusedVariables false
set_option linter.unusedSimpArgs false
theorem below_setnew {w W : World} {b j : Nat} {u : Value} (h : Below w.heap.size w W) (hb : w.heap.size ≤ b) : Below w.heap.size w (W.setCell ⟨b, j, none⟩ u) :=
  ⟨h.os, h.tape, h.output, by simpa [World.setCell] using h.size, fun q hq => (Below.heap_setCell W ⟨b, j, none⟩ u q (by simp; omega)).trans (h.block q hq)⟩
theorem wr_below {w W : World} {g base : Nat} {xs : List Int} (hW : Wr w g base xs) (h : Below w.heap.size w W) : Wr W g base xs := by
  obtain ⟨⟨v, hb, hR⟩, hs⟩ := hW
  exact ⟨⟨v, (h.block g (blk_lt hb)).trans hb, Kd.R_below hR h⟩, Nat.le_trans hs h.size⟩
/-- A literal list of numbers in its block. -/
def Lit3 (W : World) (b : Nat) (ns : List Int) : Prop := W.heap[b]? = some (.cells (nums .i64 ns).toArray 3 (0, 0))
theorem lit_reads {W : World} {b g base : Nat} {ns : List Int} (h : Lit3 W b ns) (hne : b ≠ g) (hs : ns.length ≤ 9223372036854775807) : ∀ W', Wrote W W' g base → Kd.C (Kd.int .i64) W' (some ⟨b, 0, none⟩) ns.length ns := fun W' hW => by
  have hb : W'.heap[b]? = some (.cells (nums .i64 ns).toArray 3 (0, 0)) := (hW.typed b _ 3 h (by decide) hne).trans h
  refine ⟨rfl, hs, fun _ => ⟨_, rfl, fun j p hp => ⟨[.int .i64 p], rfl, rfl, fun i u hu => ?_⟩⟩⟩
  match i, hu with
  | 0, hu =>
    obtain rfl := Option.some.inj hu
    have hc := blk_cell hb j
    have e : (nums .i64 ns).toArray[j]? = some (.int .i64 p) := by simp [nums, hp]
    have hj : j * (Kd.int .i64).sz + 0 = j := by show j * 1 + 0 = j; omega
    have ha : (⟨b, 0, none⟩ : Addr).add j = ⟨b, j, none⟩ := by
      simp [Addr.add]
      omega
    rw [hj, ha, hc, e]
  | _ + 1, hu => simp at hu
theorem lit_new (W : World) (b : Nat) (ns : List Int) (cs : Array Value) (h : W.heap.size = b) (hc : cs = (nums .i64 ns).toArray) : Lit3 (W.alloc (.cells cs 3)) b ns := by
  subst h; subst hc
  exact heap_alloc_new W _
theorem alloc_size (w : World) (o : Obj) : (w.alloc o).heap.size = w.heap.size + 1 := by
  show (w.heap.push _).size = _
  rw [Array.size_push]
theorem wrote_two {w w2 : World} {A B : Obj} {g base : Nat} (h : Wrote ((w.alloc A).alloc B) w2 g base) : Wrote w w2 g base := (wrote_below (below_alloc (below_alloc (Below.refl _ _) _) _)).trans h
theorem wrote_one {w w2 : World} {A : Obj} {g base : Nat} (h : Wrote (w.alloc A) w2 g base) : Wrote w w2 g base := (wrote_below (below_alloc (Below.refl _ _) _)).trans h
theorem wrote_g {w w2 : World} {g base : Nat} (h : w.grownBy w2 none) : Wrote w w2 g base := ⟨h.os, h.tape, h.output, h.size, fun q _ _ hl => h.block q hl (by simp), fun q _ _ hc _ _ => h.block q (blk_lt hc) (by simp)⟩
theorem two_old (w : World) (cs : Array Value) (T : TypeId) (o : Obj) : ((w.alloc (.cells cs T)).alloc o).heap[w.heap.size]? = some (.cells cs T (0, 0)) := by
  have h := (below_alloc (Below.refl (w.alloc (.cells cs T)).heap.size (w.alloc (.cells cs T))) o).block w.heap.size (by rw [alloc_size]; omega)
  exact h.trans (heap_alloc_new w _)
theorem wr_lt {w : World} {g base : Nat} {xs : List Int} (h : Wr w g base xs) : g < w.heap.size := by
  obtain ⟨⟨v, hb, _⟩, _⟩ := h
  exact blk_lt hb
end Go.Proofs.Ytibfbdfoiboanaa.Rd
