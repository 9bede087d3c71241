/- words: what is written as a call is read as that call. Over the program alone. -/
import Derived.Test.YtibfbdfoiboanaaTRe
import Derived.Test.YtibfbdfoiboanaaTRd5
namespace Go.Proofs.Ytibfbdfoiboanaa.Rd
open Go.RowKit Go.Proofs.YtibfbdfoiboanaaW.PrintWords Go.Proofs.YtibfbdfoiboanaaW.PrintMore Go.Proofs.YtibfbdfoiboanaaW.PrintLast Go.Proofs.Ytibfbdfoiboanaa.PWordsAsks
set_option linter.unusedVariables false
set_option linter.unusedSimpArgs false
theorem byteAt_eq (n : Int) (i : Nat) (hi : i ≤ 64) : byteAt n i = n % 18446744073709551616 / 2 ^ i % 256 := by
  unfold byteAt shr
  rw [IntKind.wrap_u64]
  simp only [Int.toNat_natCast]
  rw [show min i (IntKind.bits .u64) = i by show min i 64 = i; omega]
theorem str_at (l : List Int) (k : Nat) (hk : k < l.length) (x : Int) (hx : l[k]? = some x) (h0 : 0 ≤ x) (h1 : x ≤ 255) : bt (strOfNums l) k = x := by
  unfold bt
  rw [dif_pos (show (k : Int).toNat < (strOfNums l).size by rw [strOfNums_size]; simpa using hk)]
  have e : l[k] = x := by rw [List.getElem?_eq_getElem hk] at hx; exact Option.some.inj hx
  have : (strOfNums l)[(k : Int).toNat]'(by rw [strOfNums_size]; simpa using hk) = UInt8.ofNat x.toNat := by
    simp [strOfNums, ByteArray.getElem_eq_getElem_data, e]
  rw [this]
  simp
  omega
theorem str_extract (a b : List Int) : (strOfNums (a ++ b)).extract 0 a.length = strOfNums a ∧ (strOfNums (a ++ b)).extract a.length (strOfNums (a ++ b)).size = strOfNums b := by
  rw [strOf_append]
  constructor
  · apply ByteArray.ext
    simp [ByteArray.data_extract, strOfNums]
  · apply ByteArray.ext
    simp [ByteArray.data_extract, strOfNums, ByteArray.size]
    rw [List.take_of_length_le (by simp)]
theorem take_w (a b : List Int) : pTake a.length (strOfNums (a ++ b)) = some (strOfNums a, strOfNums b) := by
  unfold pTake
  rw [if_pos (by rw [strOfNums_size, List.length_append]; omega), (str_extract a b).1, (str_extract a b).2]
theorem len_w (o : Int) (l : List Int) (h0 : 0 ≤ o) (h1 : o ≤ 255) : pLen (strOfNums (o :: l)) = some (o, strOfNums l) := by
  unfold pLen
  rw [if_pos (by rw [strOfNums_size]; simp)]
  have e := str_at (o :: l) 0 (by simp) o rfl h0 h1
  have e2 := (str_extract [o] l).2
  simp only [List.length_singleton, List.singleton_append] at e2
  rw [show bt (strOfNums (o :: l)) 0 = o from e, e2]
theorem text_w (u : ByteArray) (l : List Int) (hu : u.size ≤ 65535) : pText (strOfNums (textB u ++ l)) = some (u, strOfNums l) := by
  unfold pText textB
  have e1 : (u.size : Int) / 256 % 256 = (u.size : Int) / 256 := by omega
  have hl : ((u.size : Int) / 256 * 256 + (u.size : Int) % 256).toNat = (bytesOf u).length := by rw [bytesOf_length]; omega
  rw [e1]
  simp only [List.cons_append, List.nil_append]
  rw [len_w _ _ (by omega) (by omega), Option.bind_some]
  simp only
  rw [len_w _ _ (by omega) (by omega), Option.bind_some]
  simp only
  rw [hl, take_w, strOf_bytesOf]
theorem num_w (y : Int) (l : List Int) (h0 : -9223372036854775808 ≤ y) (h1 : y ≤ 9223372036854775807) : pNum (strOfNums (numB y ++ l)) = some (y, strOfNums l) := by
  unfold pNum
  have ht := take_w (numB y) l
  rw [show (numB y).length = 8 from rfl] at ht
  rw [ht, Option.map_some]
  have hr : ∀ i : Nat, i ≤ 64 → 0 ≤ byteAt y i ∧ byteAt y i ≤ 255 := fun i hi => by rw [byteAt_eq y i hi]; omega
  obtain ⟨X, hX⟩ : ∃ X, X = y % 18446744073709551616 := ⟨_, rfl⟩
  have hx0 : 0 ≤ X := by omega
  have hx1 : X < 18446744073709551616 := by omega
  have b : ∀ i : Nat, i ≤ 64 → byteAt y i = X / 2 ^ i % 256 := fun i hi => by rw [byteAt_eq y i hi, hX]
  have q0 : byteAt y 56 = X / 2 ^ 56 % 256 := b 56 (by omega)
  have q1 : byteAt y 48 = X / 2 ^ 48 % 256 := b 48 (by omega)
  have q2 : byteAt y 40 = X / 2 ^ 40 % 256 := b 40 (by omega)
  have q3 : byteAt y 32 = X / 2 ^ 32 % 256 := b 32 (by omega)
  have q4 : byteAt y 24 = X / 2 ^ 24 % 256 := b 24 (by omega)
  have q5 : byteAt y 16 = X / 2 ^ 16 % 256 := b 16 (by omega)
  have q6 : byteAt y 8 = X / 2 ^ 8 % 256 := b 8 (by omega)
  have q7 : byteAt y 0 = X / 2 ^ 0 % 256 := b 0 (by omega)
  simp only [Int.reducePow] at q0 q1 q2 q3 q4 q5 q6 q7
  have c0 : bt (strOfNums (numB y)) 0 = byteAt y 56 := str_at (numB y) 0 (by simp [numB]) _ rfl (hr 56 (by omega)).1 (hr 56 (by omega)).2
  have c1 : bt (strOfNums (numB y)) 1 = byteAt y 48 := str_at (numB y) 1 (by simp [numB]) _ rfl (hr 48 (by omega)).1 (hr 48 (by omega)).2
  have c2 : bt (strOfNums (numB y)) 2 = byteAt y 40 := str_at (numB y) 2 (by simp [numB]) _ rfl (hr 40 (by omega)).1 (hr 40 (by omega)).2
  have c3 : bt (strOfNums (numB y)) 3 = byteAt y 32 := str_at (numB y) 3 (by simp [numB]) _ rfl (hr 32 (by omega)).1 (hr 32 (by omega)).2
  have c4 : bt (strOfNums (numB y)) 4 = byteAt y 24 := str_at (numB y) 4 (by simp [numB]) _ rfl (hr 24 (by omega)).1 (hr 24 (by omega)).2
  have c5 : bt (strOfNums (numB y)) 5 = byteAt y 16 := str_at (numB y) 5 (by simp [numB]) _ rfl (hr 16 (by omega)).1 (hr 16 (by omega)).2
  have c6 : bt (strOfNums (numB y)) 6 = byteAt y 8 := str_at (numB y) 6 (by simp [numB]) _ rfl (hr 8 (by omega)).1 (hr 8 (by omega)).2
  have c7 : bt (strOfNums (numB y)) 7 = byteAt y 0 := str_at (numB y) 7 (by simp [numB]) _ rfl (hr 0 (by omega)).1 (hr 0 (by omega)).2
  have s0 : X / 72057594037927936 % 256 = X / 72057594037927936 := by omega
  have s1 : X / 72057594037927936 * 256 + X / 281474976710656 % 256 = X / 281474976710656 := by omega
  have s2 : X / 281474976710656 * 256 + X / 1099511627776 % 256 = X / 1099511627776 := by omega
  have s3 : X / 1099511627776 * 256 + X / 4294967296 % 256 = X / 4294967296 := by omega
  have s4 : X / 4294967296 * 256 + X / 16777216 % 256 = X / 16777216 := by omega
  have s5 : X / 16777216 * 256 + X / 65536 % 256 = X / 65536 := by omega
  have s6 : X / 65536 * 256 + X / 256 % 256 = X / 256 := by omega
  have s7 : X / 256 * 256 + X / 1 % 256 = X := by omega
  have hb : be (strOfNums (numB y)) 8 = X := by
    simp only [be]
    have k0 : bt (strOfNums (numB y)) ((0 : Nat) : Int) = byteAt y 56 := c0
    have k1 : bt (strOfNums (numB y)) ((1 : Nat) : Int) = byteAt y 48 := c1
    have k2 : bt (strOfNums (numB y)) ((2 : Nat) : Int) = byteAt y 40 := c2
    have k3 : bt (strOfNums (numB y)) ((3 : Nat) : Int) = byteAt y 32 := c3
    have k4 : bt (strOfNums (numB y)) ((4 : Nat) : Int) = byteAt y 24 := c4
    have k5 : bt (strOfNums (numB y)) ((5 : Nat) : Int) = byteAt y 16 := c5
    have k6 : bt (strOfNums (numB y)) ((6 : Nat) : Int) = byteAt y 8 := c6
    have k7 : bt (strOfNums (numB y)) ((7 : Nat) : Int) = byteAt y 0 := c7
    rw [k0, k1, k2, k3, k4, k5, k6, k7, q0, q1, q2, q3, q4, q5, q6, q7, s0]
    rw [show (0 : Int) * 256 + X / 72057594037927936 = X / 72057594037927936 by omega, s1, s2, s3, s4, s5, s6, s7]
  simp only [hb]
  have : wrap64 X = y := by unfold wrap64; omega
  rw [this]
theorem nums_w : ∀ (xs l : List Int), (∀ y ∈ xs, -9223372036854775808 ≤ y ∧ y ≤ 9223372036854775807) → pNums xs.length (strOfNums (numsB xs ++ l)) = some (xs, strOfNums l)
  | [], l, _ => rfl
  | y :: xs, l, h => by
    show (pNum (strOfNums ((numB y ++ numsB xs) ++ l))).bind _ = _
    rw [List.append_assoc, num_w y _ (h y (by simp)).1 (h y (by simp)).2, Option.bind_some]
    simp only
    rw [nums_w xs l (fun z hz => h z (by simp [hz]))]
    rfl
theorem flag_w (b : Bool) (l : List Int) : pFlag (strOfNums ([if b then (1 : Int) else 0] ++ l)) = some (b, strOfNums l) := by
  unfold pFlag
  simp only [List.singleton_append]
  cases b
  · rw [show (if false = true then (1 : Int) else 0) = 0 from rfl, len_w 0 l (by omega) (by omega)]; rfl
  · rw [show (if true = true then (1 : Int) else 0) = 1 from rfl, len_w 1 l (by omega) (by omega)]; rfl
end Go.Proofs.Ytibfbdfoiboanaa.Rd
