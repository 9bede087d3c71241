/- Frames, plainly: what splitting a list of bytes into frames gives, and its laws (no program in sight). -/
import Derived.Test.YtiipapndmjbciaaWWords
import Derived.Laws.BitsLemmas
namespace Go.Proofs.Ytiipapndmjbciaa.Split
open Go.RowKit Go.Proofs.YtiipapndmjbciaaW.PrintWords

/-- Bytes as a string. -/
def BA (l : List UInt8) : ByteArray := ⟨l.toArray⟩
/-- A string's bytes. -/
def L (s : ByteArray) : List UInt8 := s.data.toList
theorem L_BA (l : List UInt8) : L (BA l) = l := by simp [L, BA]
theorem BA_L (s : ByteArray) : BA (L s) = s := by cases s; simp [L, BA]
theorem L_toList (s : ByteArray) : s.toList = L s := ByteArray.toList_eq s
theorem L_size (s : ByteArray) : (L s).length = s.size := by simp [L]
theorem size_BA (l : List UInt8) : (BA l).size = l.length := by rw [← L_size, L_BA]
theorem L_append (a b : ByteArray) : L (a ++ b) = L a ++ L b := by simp [L]
theorem L_extract (s : ByteArray) (a b : Nat) : L (s.extract a b) = ((L s).take b).drop a := by
  simp [L, ByteArray.data_extract, List.extract_eq_take_drop, List.drop_take]
theorem L_inj {a b : ByteArray} (h : L a = L b) : a = b := by rw [← BA_L a, h, BA_L]
theorem bt_L (s : ByteArray) (i : Int) : bt s i = (((L s).getD i.toNat 0).toNat : Int) := by
  unfold bt
  split
  · rename_i h
    have h2 : i.toNat < (L s).length := by rw [L_size]; exact h
    rw [List.getD_eq_getElem?_getD, List.getElem?_eq_getElem h2]
    simp [L]; rfl
  · rename_i h
    have h2 : (L s).length ≤ i.toNat := by rw [L_size]; omega
    rw [List.getD_eq_getElem?_getD, List.getElem?_eq_none h2]
    rfl
theorem or_bytes (a b : Nat) (ha : a < 256) (hb : b < 256) : bits .or .i64 (wrap64 (wrap64 (a : Int) * 256)) (wrap64 (b : Int)) = (a : Int) * 256 + b := by
  have e1 : wrap64 (a : Int) = a := by unfold wrap64; omega
  have e2 : wrap64 ((a : Int) * 256) = a * 256 := by unfold wrap64; omega
  have e3 : wrap64 (b : Int) = b := by unfold wrap64; omega
  rw [e1, e2, e3]
  exact bits_join .i64 63 (by decide) (fun n h0 h1 => by rw [IntKind.wrap_i64]; omega) 8 _ _ (by omega) (by omega) (by omega) (by omega) (by omega) (by omega)

/-- The frames that bytes begin with: their bodies, what is left, and whether that may be. -/
def go (most : Int) : Nat → List UInt8 → List (List UInt8) × List UInt8 × Bool
  | 0, s => ([], s, true)
  | _ + 1, [] => ([], [], true)
  | _ + 1, [a] => ([], [a], true)
  | f + 1, a :: b :: t =>
    if a.toNat * 256 + b.toNat = 0 ∨ most < (a.toNat * 256 + b.toNat : Nat) then ([], [], false)
    else if t.length < a.toNat * 256 + b.toNat then ([], a :: b :: t, true)
    else (t.take (a.toNat * 256 + b.toNat) :: (go most f (t.drop (a.toNat * 256 + b.toNat))).1, (go most f (t.drop (a.toNat * 256 + b.toNat))).2)
def split (most : Int) (s : List UInt8) := go most s.length s

theorem go_fuel (most : Int) : ∀ (f g : Nat) (s : List UInt8), s.length ≤ f → s.length ≤ g → go most f s = go most g s
  | 0, 0, _, _, _ => rfl
  | 0, g + 1, s, h, _ => by
    obtain rfl : s = [] := List.eq_nil_of_length_eq_zero (by omega)
    rfl
  | f + 1, 0, s, _, h => by
    obtain rfl : s = [] := List.eq_nil_of_length_eq_zero (by omega)
    rfl
  | f + 1, g + 1, [], _, _ => rfl
  | f + 1, g + 1, [a], _, _ => rfl
  | f + 1, g + 1, a :: b :: t, hf, hg => by
    simp only [List.length_cons] at hf hg
    unfold go
    rw [go_fuel most f g (t.drop (a.toNat * 256 + b.toNat)) (by simp; omega) (by simp; omega)]
theorem split_nil (most : Int) : split most [] = ([], [], true) := rfl
theorem split_one (most : Int) (a : UInt8) : split most [a] = ([], [a], true) := rfl
theorem split_two (most : Int) (a b : UInt8) (t : List UInt8) : split most (a :: b :: t) =
    if a.toNat * 256 + b.toNat = 0 ∨ most < (a.toNat * 256 + b.toNat : Nat) then ([], [], false)
    else if t.length < a.toNat * 256 + b.toNat then ([], a :: b :: t, true)
    else (t.take (a.toNat * 256 + b.toNat) :: (split most (t.drop (a.toNat * 256 + b.toNat))).1, (split most (t.drop (a.toNat * 256 + b.toNat))).2) := by
  unfold split
  simp only [List.length_cons]
  rw [go]
  rw [go_fuel most (t.length + 1) (t.drop (a.toNat * 256 + b.toNat)).length _ (by simp; omega) (Nat.le_refl _)]

/-- A list of bytes is empty, of one, or of two and more. -/
theorem bytes_cases (s : List UInt8) : s.length < 2 ∨ ∃ a b t, s = a :: b :: t := by
  match s with
  | [] => exact .inl (by simp)
  | [a] => exact .inl (by simp)
  | a :: b :: t => exact .inr ⟨a, b, t, rfl⟩
theorem split_short (most : Int) (s : List UInt8) (h : s.length < 2) : split most s = ([], s, true) := by
  match s, h with
  | [], _ => rfl
  | [a], _ => rfl
  | a :: b :: t, h => simp only [List.length_cons] at h; omega

end Go.Proofs.Ytiipapndmjbciaa.Split
