/- words: what is read by the reference is what the parser reads. Over the program alone. -/
import Derived.Test.YtibfbdfoiboanaaTRa
namespace Go.Proofs.Ytibfbdfoiboanaa.Rd
open Go.RowKit Go.Proofs.YtibfbdfoiboanaaW.PrintWords Go.Proofs.YtibfbdfoiboanaaW.PrintMore Go.Proofs.YtibfbdfoiboanaaW.PrintLast Go.Proofs.Ytibfbdfoiboanaa.PWordsAsks
set_option linter.unusedVariables false
set_option linter.unusedSimpArgs false
/-- The reference's step says what the parser says. -/
def Rel {α : Type} (p : Option (α × ByteArray)) (r : α × ByteArray × Bool) : Prop :=
  match p with
  | some (v, t) => r = (v, t, false)
  | none => r.2.2 = true
theorem take_bad_ (n : Nat) (s : ByteArray) : (rTake n (s, true)).2.2 = true := by simp [rTake]
theorem take_rel (n : Nat) (s : ByteArray) : Rel (pTake n s) (rTake n (s, false)) := by
  unfold pTake rTake
  by_cases h : n ≤ s.size
  · rw [if_pos h, if_neg (by simp; omega)]; rfl
  · rw [if_neg h, if_pos (Or.inr (show s.size < n by omega))]; rfl
theorem bt_first (s : ByteArray) (n : Nat) (k : Nat) (hk : k < n) (hn : n ≤ s.size) : bt (s.extract 0 n) k = bt s k := by
  have hz : (s.extract 0 n).size = n := by simp; omega
  unfold bt
  rw [dif_pos (show (k : Int).toNat < (s.extract 0 n).size by rw [hz]; simpa using hk), dif_pos (show (k : Int).toNat < s.size by simp; omega)]
  simp [ByteArray.getElem_extract]
theorem len_rel (s : ByteArray) : Rel (pLen s) (bt (rTake 1 (s, false)).1 0, (rTake 1 (s, false)).2) := by
  have h := take_rel 1 s
  unfold pLen
  unfold pTake at h
  by_cases hs : 0 < s.size
  · rw [if_pos (show 1 ≤ s.size from hs)] at h
    rw [if_pos hs]
    have h' : rTake 1 (s, false) = (s.extract 0 1, s.extract 1 s.size, false) := h
    rw [h']
    have e := bt_first s 1 0 (by omega) hs
    show (bt (s.extract 0 1) 0, s.extract 1 s.size, false) = (bt s 0, s.extract 1 s.size, false)
    rw [show bt (s.extract 0 1) 0 = bt s 0 from e]
  · rw [if_neg (show ¬ 1 ≤ s.size by omega)] at h
    rw [if_neg hs]
    exact h
theorem bt_tail (s : ByteArray) (n k : Nat) (h : n + k < s.size) : bt (s.extract n s.size) k = bt s (n + k : Nat) := by
  have hz : (s.extract n s.size).size = s.size - n := by simp
  unfold bt
  rw [dif_pos (show (k : Int).toNat < (s.extract n s.size).size by rw [hz]; simp; omega), dif_pos (show ((n + k : Nat) : Int).toNat < s.size by rw [Int.toNat_natCast]; exact h)]
  have e : ((n : Int) + (k : Int)).toNat = n + k := by omega
  simp [ByteArray.getElem_extract, e]
theorem extract_extract (s : ByteArray) (a b : Nat) (h : a + b ≤ s.size) : (s.extract a s.size).extract b (s.extract a s.size).size = s.extract (a + b) s.size := by
  apply ByteArray.ext
  simp [ByteArray.data_extract, Array.extract_extract]
  congr 1
  omega
theorem text_rel (s : ByteArray) : Rel (pText s) (rText (s, false)) := by
  unfold pText rText
  have h2 := take_rel 2 s
  unfold pTake at h2
  by_cases hs : 2 ≤ s.size
  · rw [if_pos hs] at h2
    have h2' : rTake 2 (s, false) = (s.extract 0 2, s.extract 2 s.size, false) := h2
    rw [h2']
    have p1 : pLen s = some (bt s 0, s.extract 1 s.size) := by unfold pLen; rw [if_pos (by omega)]
    have hz : (s.extract 1 s.size).size = s.size - 1 := by simp
    have p2 : pLen (s.extract 1 s.size) = some (bt s 1, s.extract 2 s.size) := by
      unfold pLen
      rw [if_pos (by rw [hz]; omega)]
      have e1 := bt_tail s 1 0 (by omega)
      have e2 := extract_extract s 1 1 (by omega)
      rw [e2]
      simpa using e1
    have b0 := bt_first s 2 0 (by omega) hs
    have b1 := bt_first s 2 1 (by omega) hs
    simp only [p1, p2, Option.bind_some]
    rw [show bt (s.extract 0 2) 0 = bt s 0 from b0, show bt (s.extract 0 2) 1 = bt s 1 from b1]
    rw [if_neg (by simp)]
    have ht := take_rel (bt s 0 * 256 + bt s 1).toNat (s.extract 2 s.size)
    by_cases hn : (bt s 0 * 256 + bt s 1).toNat ≤ (s.extract 2 s.size).size
    · rw [if_neg (by omega)]; exact ht
    · rw [if_pos (by omega)]
      unfold pTake
      rw [if_neg hn]
      rfl
  · rw [if_neg hs] at h2
    have h2' : (rTake 2 (s, false)).2.2 = true := h2
    rw [if_pos h2']
    cases hp : pLen s with
    | none => rfl
    | some a =>
      rw [Option.bind_some]
      have : pLen a.2 = none := by
        unfold pLen at hp ⊢
        by_cases h0 : 0 < s.size
        · rw [if_pos h0] at hp
          injection hp with hp
          rw [← hp]
          rw [if_neg (by simp; omega)]
        · rw [if_neg h0] at hp; cases hp
      rw [this]
      rfl
theorem text_bad_ (s : ByteArray) : (rText (s, true)).2.2 = true := by
  unfold rText
  rw [if_pos (take_bad_ 2 s)]
theorem num_rel (s : ByteArray) : Rel (pNum s) (rNum (s, false)) := by
  unfold pNum rNum
  have h := take_rel 8 s
  cases hp : pTake 8 s with
  | none => rw [hp] at h; exact h
  | some a =>
    obtain ⟨t, u⟩ := a
    rw [hp] at h
    have h' : rTake 8 (s, false) = (t, u, false) := h
    rw [h']
    rfl
theorem num_bad_ (s : ByteArray) : (rNum (s, true)).2.2 = true := take_bad_ 8 s
theorem flag_bad_ (s : ByteArray) : (rFlag (s, true)).2.2 = true := by
  unfold rFlag
  simp only [take_bad_]
  split <;> rfl
theorem flag_rel (s : ByteArray) : Rel (pFlag s) (rFlag (s, false)) := by
  unfold pFlag rFlag
  have h := len_rel s
  cases hp : pLen s with
  | none =>
    rw [hp] at h
    have h' : (rTake 1 (s, false)).2.2 = true := h
    show (if bt (rTake 1 (s, false)).1 0 > 1 then true else (rTake 1 (s, false)).2.2) = true
    rw [h']
    split <;> rfl
  | some a =>
    obtain ⟨o, t⟩ := a
    rw [hp] at h
    have h' : (bt (rTake 1 (s, false)).1 0, (rTake 1 (s, false)).2) = (o, t, false) := h
    simp only [Prod.mk.injEq] at h'
    rw [h'.1, h'.2]
    rw [Option.bind_some]
    by_cases h1 : o > 1
    · rw [if_pos h1, if_pos h1]; rfl
    · rw [if_neg h1, if_neg h1]; rfl
/-! What is read is written as just these bytes. -/
theorem bytes_empty (s : ByteArray) (h : s.size = 0) : bytesOf s = [] := by
  have := bytesOf_length s
  rw [h] at this
  exact List.eq_nil_of_length_eq_zero this
theorem bytes_drop (s : ByteArray) (n : Nat) : bytesOf (s.extract n s.size) = (bytesOf s).drop n := by
  unfold bytesOf
  rw [← List.map_drop]
  congr 1
  simp [ByteArray.data_extract]
  rw [List.take_of_length_le]
  simp
theorem bytes_take (s : ByteArray) (n : Nat) : bytesOf (s.extract 0 n) = (bytesOf s).take n := by
  unfold bytesOf
  rw [← List.map_take]
  congr 1
  simp [ByteArray.data_extract]
theorem bytes_at (s : ByteArray) (k : Nat) (hk : k < s.size) : (bytesOf s)[k]? = some (bt s k) := by
  have hk' : k < s.data.toList.length := by rw [data_length]; exact hk
  unfold bytesOf bt
  rw [List.getElem?_map, List.getElem?_eq_getElem hk', dif_pos (show (k : Int).toNat < s.size by simpa using hk)]
  rfl
theorem len_written {s t : ByteArray} {o : Int} (h : pLen s = some (o, t)) : bytesOf s = o :: bytesOf t := by
  unfold pLen at h
  split at h
  · rename_i hs
    injection h with h
    injection h with h1 h2
    rw [← h1, ← h2, bytes_drop]
    have e := bytes_at s 0 hs
    cases hb : bytesOf s with
    | nil => rw [hb] at e; cases e
    | cons a l =>
      rw [hb] at e
      have : a = bt s 0 := by simpa using e
      rw [this]
      rfl
  · cases h
theorem take_written {n : Nat} {s t u : ByteArray} (h : pTake n s = some (t, u)) : bytesOf s = bytesOf t ++ bytesOf u ∧ t.size = n := by
  have hz := pTake_size h
  unfold pTake at h
  split at h
  · injection h with h
    injection h with h1 h2
    rw [← h1, ← h2, bytes_drop, bytes_take]
    exact ⟨(List.take_append_drop n _).symm, by rw [h1]; exact hz.1⟩
  · cases h
theorem text_written {s t u : ByteArray} (h : pText s = some (u, t)) : bytesOf s = textB u ++ bytesOf t ∧ u.size ≤ 65535 := by
  unfold pText at h
  cases h1 : pLen s with
  | none => rw [h1] at h; cases h
  | some a =>
    rw [h1, Option.bind_some] at h
    cases h2 : pLen a.2 with
    | none => rw [h2] at h; cases h
    | some b =>
      rw [h2, Option.bind_some] at h
      have r1 := pLen_range (a := a.1) (t := a.2) h1
      have r2 := pLen_range (a := b.1) (t := b.2) h2
      have w1 := len_written (o := a.1) (t := a.2) h1
      have w2 := len_written (o := b.1) (t := b.2) h2
      have w3 := take_written h
      rw [w1, w2, w3.1]
      have hu := w3.2
      have hi : (u.size : Int) = a.1 * 256 + b.1 := by omega
      refine ⟨?_, by omega⟩
      unfold textB
      rw [show (u.size : Int) / 256 % 256 = a.1 by omega, show (u.size : Int) % 256 = b.1 by omega]
      rfl
theorem byteAt_eq (n : Int) (i : Nat) (hi : i ≤ 64) : byteAt n i = n % 18446744073709551616 / 2 ^ i % 256 := by
  unfold byteAt shr
  rw [IntKind.wrap_u64]
  simp only [Int.toNat_natCast]
  rw [show min i (IntKind.bits .u64) = i by show min i 64 = i; omega]
theorem num_written {s t : ByteArray} {y : Int} (h : pNum s = some (y, t)) : bytesOf s = numB y ++ bytesOf t ∧ -9223372036854775808 ≤ y ∧ y ≤ 9223372036854775807 := by
  unfold pNum at h
  cases h1 : pTake 8 s with
  | none => rw [h1] at h; cases h
  | some a =>
    obtain ⟨c, u⟩ := a
    rw [h1] at h
    simp only [Option.map_some, Option.some.injEq, Prod.mk.injEq] at h
    have w := take_written h1
    rw [w.1, ← h.1, ← h.2]
    have hl : (bytesOf c).length = 8 := by rw [bytesOf_length]; exact w.2
    have r : ∀ k, 0 ≤ bt c k ∧ bt c k ≤ 255 := fun k => bt_range c k
    have hb : be c 8 = (((((((bt c 0 * 256 + bt c 1) * 256 + bt c 2) * 256 + bt c 3) * 256 + bt c 4) * 256 + bt c 5) * 256 + bt c 6) * 256 + bt c 7) := by
      simp [be]
    have hx : (wrap64 (be c 8)) % 18446744073709551616 = be c 8 := by
      have := be_lt c 8
      unfold wrap64
      simp only [Int.reducePow] at this
      omega
    have e : bytesOf c = [bt c 0, bt c 1, bt c 2, bt c 3, bt c 4, bt c 5, bt c 6, bt c 7] := by
      apply List.ext_getElem?
      intro k
      by_cases hk : k < 8
      · rw [bytes_at c k (by omega)]
        rcases (show k = 0 ∨ k = 1 ∨ k = 2 ∨ k = 3 ∨ k = 4 ∨ k = 5 ∨ k = 6 ∨ k = 7 by omega) with rfl | rfl | rfl | rfl | rfl | rfl | rfl | rfl <;> rfl
      · rw [List.getElem?_eq_none (by omega), List.getElem?_eq_none (by simp; omega)]
    refine ⟨?_, by unfold wrap64; omega, by unfold wrap64; omega⟩
    congr 1
    rw [e]
    unfold numB
    have b : ∀ i : Nat, i ≤ 64 → byteAt (wrap64 (be c 8)) i = be c 8 / 2 ^ i % 256 := fun i hi => by rw [byteAt_eq _ i hi, hx]
    have q0 : byteAt (wrap64 (be c 8)) 56 = be c 8 / 2 ^ 56 % 256 := b 56 (by omega)
    have q1 : byteAt (wrap64 (be c 8)) 48 = be c 8 / 2 ^ 48 % 256 := b 48 (by omega)
    have q2 : byteAt (wrap64 (be c 8)) 40 = be c 8 / 2 ^ 40 % 256 := b 40 (by omega)
    have q3 : byteAt (wrap64 (be c 8)) 32 = be c 8 / 2 ^ 32 % 256 := b 32 (by omega)
    have q4 : byteAt (wrap64 (be c 8)) 24 = be c 8 / 2 ^ 24 % 256 := b 24 (by omega)
    have q5 : byteAt (wrap64 (be c 8)) 16 = be c 8 / 2 ^ 16 % 256 := b 16 (by omega)
    have q6 : byteAt (wrap64 (be c 8)) 8 = be c 8 / 2 ^ 8 % 256 := b 8 (by omega)
    have q7 : byteAt (wrap64 (be c 8)) 0 = be c 8 / 2 ^ 0 % 256 := b 0 (by omega)
    have r0 := r 0
    have r1 := r 1
    have r2 := r 2
    have r3 := r 3
    have r4 := r 4
    have r5 := r 5
    have r6 := r 6
    have r7 := r 7
    rw [q0, q1, q2, q3, q4, q5, q6, q7, hb]
    clear q0 q1 q2 q3 q4 q5 q6 q7 hx b e hb r hl w h1 h
    simp only [Int.reducePow]
    generalize bt c 0 = c0 at *
    generalize bt c 1 = c1 at *
    generalize bt c 2 = c2 at *
    generalize bt c 3 = c3 at *
    generalize bt c 4 = c4 at *
    generalize bt c 5 = c5 at *
    generalize bt c 6 = c6 at *
    generalize bt c 7 = c7 at *
    have d0 : c0 = (((((((c0 * 256 + c1) * 256 + c2) * 256 + c3) * 256 + c4) * 256 + c5) * 256 + c6) * 256 + c7) / 72057594037927936 % 256 := by omega
    have d1 : c1 = (((((((c0 * 256 + c1) * 256 + c2) * 256 + c3) * 256 + c4) * 256 + c5) * 256 + c6) * 256 + c7) / 281474976710656 % 256 := by omega
    have d2 : c2 = (((((((c0 * 256 + c1) * 256 + c2) * 256 + c3) * 256 + c4) * 256 + c5) * 256 + c6) * 256 + c7) / 1099511627776 % 256 := by omega
    have d3 : c3 = (((((((c0 * 256 + c1) * 256 + c2) * 256 + c3) * 256 + c4) * 256 + c5) * 256 + c6) * 256 + c7) / 4294967296 % 256 := by omega
    have d4 : c4 = (((((((c0 * 256 + c1) * 256 + c2) * 256 + c3) * 256 + c4) * 256 + c5) * 256 + c6) * 256 + c7) / 16777216 % 256 := by omega
    have d5 : c5 = (((((((c0 * 256 + c1) * 256 + c2) * 256 + c3) * 256 + c4) * 256 + c5) * 256 + c6) * 256 + c7) / 65536 % 256 := by omega
    have d6 : c6 = (((((((c0 * 256 + c1) * 256 + c2) * 256 + c3) * 256 + c4) * 256 + c5) * 256 + c6) * 256 + c7) / 256 % 256 := by omega
    have d7 : c7 = (((((((c0 * 256 + c1) * 256 + c2) * 256 + c3) * 256 + c4) * 256 + c5) * 256 + c6) * 256 + c7) / 1 % 256 := by omega
    rw [← d0, ← d1, ← d2, ← d3, ← d4, ← d5, ← d6, ← d7]
end Go.Proofs.Ytibfbdfoiboanaa.Rd
