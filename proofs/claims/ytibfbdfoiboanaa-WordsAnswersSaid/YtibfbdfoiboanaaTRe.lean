/- the reference's Answer: the plain part. Over the program alone. -/
import Derived.Test.YtibfbdfoiboanaaTX3
import Derived.Test.YtibfbdfoiboanaaTAn
import Derived.Test.YtibfbdfoiboanaaTRi
namespace Go.Proofs.Ytibfbdfoiboanaa.Rd
open Go.RowKit Go.Proofs.YtibfbdfoiboanaaW.PrintWords Go.Proofs.YtibfbdfoiboanaaW.PrintMore Go.Proofs.YtibfbdfoiboanaaW.PrintLast Go.Proofs.Ytibfbdfoiboanaa.PWordsAsks
set_option linter.unusedVariables false
set_option linter.unusedSimpArgs false
theorem number_f (n : Int) : chancelref13_number.f 9 n = some (strOfNums (numB n)) := by
  simp [chancelref13_number.f, chancelref13_number.l0, wrap64, numB, byteAt]
theorem strOf_bytesOf (t : ByteArray) : strOfNums (bytesOf t) = t := by
  have h : bytesOf t = t.data.toList.map fun b => (b.toNat : Int) := rfl
  rw [h]
  unfold strOfNums
  rw [List.map_map]
  have e : ((fun n : Int => UInt8.ofNat n.toNat) ∘ fun b : UInt8 => (b.toNat : Int)) = id := by
    funext b
    simp
  rw [e, List.map_id]
theorem strOf_append (a b : List Int) : strOfNums (a ++ b) = strOfNums a ++ strOfNums b := by
  have : (strOfNums (a ++ b)).data = (strOfNums a ++ strOfNums b).data := by
    simp [strOfNums, ByteArray.data_append]
  exact ByteArray.ext this
theorem text_f (t : ByteArray) (h : t.size ≤ 65535) : chancelref13_text.f t = some (strOfNums (textB t)) := by
  unfold chancelref13_text.f
  rw [Option.bind_some, if_pos (by rw [strOfNums_size]; simp; omega)]
  unfold textB
  rw [strOf_append, strOf_bytesOf]
theorem wnumber_ge : ∀ (k : Nat) (n : Int), chancelref13_number.f (k + 9) n = some (strOfNums (numB n))
  | 0, n => number_f n
  | k + 1, n => by
    have h := chancelref13_number.mono n (k + 9)
    have ih := wnumber_ge k n
    rw [ih] at h
    exact h _ rfl
theorem wflag_f (b : Bool) : chancelref13_flag.f b = some (strOfNums [if b then (1 : Int) else 0]) := by
  cases b <;> rfl
theorem numB_size (n : Int) : (strOfNums (numB n)).size = 8 := by rw [strOfNums_size]; rfl
theorem numbers_l0 (l : List Int) (hl : l.length ≤ 1000000000) : ∀ (j m : Nat) (i : Int) (acc : List Int), 0 ≤ i → i + j = l.length → acc.length = 8 * i.toNat → chancelref13_numbers.l0 (j + 10 + m) l (strOfNums acc) i = some (strOfNums (acc ++ numsB (l.drop i.toNat)))
  | 0, m, i, acc, h0, hj, ha => by
    rw [show 0 + 10 + m = (9 + m) + 1 by omega]
    unfold chancelref13_numbers.l0
    rw [if_neg (by omega), List.drop_eq_nil_of_le (by omega)]
    simp [numsB]
  | j + 1, m, i, acc, h0, hj, ha => by
    rw [show j + 1 + 10 + m = (j + 10 + m) + 1 by omega]
    unfold chancelref13_numbers.l0
    have hi : i.toNat < l.length := by omega
    have hr : rd l i = l[i.toNat] := by
      unfold rd
      rw [List.getD_eq_getElem?_getD, List.getElem?_eq_getElem hi]
      rfl
    rw [if_pos (by omega), if_pos (by omega), show j + 10 + m = (j + m + 1) + 9 by omega, wnumber_ge, Option.bind_some, if_pos (by rw [strOfNums_size, numB_size]; omega)]
    rw [← strOf_append, show wrap64 (i + 1) = i + 1 by unfold wrap64; omega, show j + m + 1 + 9 = j + 10 + m by omega]
    rw [numbers_l0 l hl j m (i + 1) (acc ++ numB (rd l i)) (by omega) (by omega) (by rw [List.length_append, ha]; show 8 * i.toNat + 8 = _; omega)]
    rw [List.drop_eq_getElem_cons hi, show (i + 1).toNat = i.toNat + 1 by omega, hr, List.append_assoc]
    rfl
theorem numbers_f (l : List Int) (hl : l.length ≤ 1000000000) (m : Nat) : chancelref13_numbers.f (l.length + 10 + m) l = some (strOfNums (numsB l)) := by
  unfold chancelref13_numbers.f
  have h := numbers_l0 l hl l.length m 0 [] (by omega) (by omega) rfl
  rw [show strOfNums [] = ⟨#[]⟩ from rfl] at h
  simpa using h
theorem wlist_f (l : List Int) (hl : l.length ≤ 255) : chancelref13_list.f 265 l = some (strOfNums ((l.length : Int) :: numsB l)) := by
  unfold chancelref13_list.f
  have h := numbers_f l (by omega) (255 - l.length)
  rw [show l.length + 10 + (255 - l.length) = 265 by omega] at h
  rw [Option.bind_some, h, Option.bind_some, if_pos (by rw [strOfNums_size, strOfNums_size, numsB_length]; simp; omega)]
  rw [← strOf_append, show ((l.length : Int)) % 256 = (l.length : Int) by omega]
  rfl
theorem below_of_grownA {w w1 : World} (h : w.grownBy w1 none) : Below w.heap.size w w1 := ⟨h.os, h.tape, h.output, h.size, fun q hq => h.block q hq (by simp)⟩
theorem blk_below' {W W' : World} {b : Nat} {o : Obj} (h : W.heap[b]? = some o) (k : Below W.heap.size W W') : W'.heap[b]? = some o := (k.block b (blk_lt h)).trans h
theorem cell_al {W : World} {o : Obj} {b j t : Nat} {C : Array Value} {v : Value} (h : W.heap[b]? = some (.cells C t (0, 0))) (hj : C[j]? = some v) : (W.alloc o).cell? ⟨b, j, none⟩ = some v := (blk_cell (blk_below' h (below_alloc (Below.refl _ _) o)) j).trans hj
structure BX (w W : World) (C : Array Value) : Prop where
  blk : W.heap[w.heap.size]? = some (.cells C 25 (0, 0))
  below : Below w.heap.size w W
  size : w.heap.size + 1 ≤ W.heap.size
theorem bx_new (w : World) (C : Array Value) : BX w (w.alloc (.cells C 25)) C := ⟨heap_alloc_new w _, below_alloc (Below.refl _ _) _, by rw [alloc_size]; omega⟩
theorem bx_below {w W W' : World} {C : Array Value} (h : BX w W C) (k : Below W.heap.size W W') : BX w W' C :=
  ⟨(k.block _ (blk_lt h.blk)).trans h.blk, ⟨k.os.trans h.below.os, k.tape.trans h.below.tape, k.output.trans h.below.output, Nat.le_trans h.below.size k.size, fun q hq => (k.block q (Nat.lt_of_lt_of_le hq h.below.size)).trans (h.below.block q hq)⟩, Nat.le_trans h.size k.size⟩
end Go.Proofs.Ytibfbdfoiboanaa.Rd
