/- Frames, plainly, a second part: a body's frame is split to that body; a stream that is cut. -/
import Derived.Test.YtiipapndmjbciaaSplit
namespace Go.Proofs.Ytiipapndmjbciaa.Split
open Go.RowKit Go.Proofs.YtiipapndmjbciaaW.PrintWords

theorem L_nums (xs : List Int) : L (strOfNums xs) = xs.map fun x => UInt8.ofNat x.toNat := by
  simp [strOfNums, L]
/-- A body's frame. -/
def frameOf (l : List UInt8) : List UInt8 := UInt8.ofNat (l.length / 256) :: UInt8.ofNat (l.length % 256) :: l
theorem frame_len (n : Nat) (h : n ≤ 65535) : (UInt8.ofNat (n / 256)).toNat * 256 + (UInt8.ofNat (n % 256)).toNat = n := by
  rw [UInt8.toNat_ofNat', UInt8.toNat_ofNat']
  omega
theorem split_frame (most : Int) (l rest : List UInt8) (h1 : 1 ≤ l.length) (h2 : l.length ≤ 65535) (h3 : (l.length : Int) ≤ most) :
    split most (frameOf l ++ rest) = (l :: (split most rest).1, (split most rest).2) := by
  show split most (UInt8.ofNat (l.length / 256) :: UInt8.ofNat (l.length % 256) :: (l ++ rest)) = _
  rw [split_two, frame_len _ h2, if_neg (by omega), if_neg (by simp), List.take_left, List.drop_left]
/-- What is left of a stream that may be goes on; of one that may not be nothing is left. -/
theorem split_goes (most : Int) : ∀ (d : Nat) (s t : List UInt8), s.length ≤ d →
    ((split most s).2.2 = true → split most (s ++ t) = ((split most s).1 ++ (split most ((split most s).2.1 ++ t)).1, (split most ((split most s).2.1 ++ t)).2)) ∧
    ((split most s).2.2 = false → (split most s).2.1 = [] ∧ split most (s ++ t) = ((split most s).1, [], false)) := by
  intro d
  induction d with
  | zero =>
    intro s t hs
    obtain rfl : s = [] := List.eq_nil_of_length_eq_zero (by omega)
    simp [split_nil]
  | succ d ih =>
    intro s t hs
    rcases bytes_cases s with h | ⟨a, b, u, rfl⟩
    · rw [split_short _ _ h]; simp
    · rw [List.cons_append, List.cons_append, split_two most a b u, split_two most a b (u ++ t)]
      simp only [List.length_cons] at hs
      generalize hn : a.toNat * 256 + b.toNat = n
      by_cases hbad : n = 0 ∨ most < (n : Int)
      · rw [if_pos hbad, if_pos hbad]; simp
      · rw [if_neg hbad, if_neg hbad]
        by_cases hshort : u.length < n
        · rw [if_pos hshort]
          simp only [List.cons_append, List.nil_append, forall_const, Bool.true_eq_false, false_implies, and_true]
          rw [split_two most a b (u ++ t), hn, if_neg hbad]
        · rw [if_neg hshort, if_neg (by simp; omega)]
          have e1 : (u ++ t).take n = u.take n := List.take_append_of_le_length (by omega)
          have e2 : (u ++ t).drop n = u.drop n ++ t := List.drop_append_of_le_length (by omega)
          obtain ⟨i1, i2⟩ := ih (u.drop n) t (by simp; omega)
          rw [e1, e2]
          constructor
          · intro ho
            rw [i1 ho]; simp
          · intro ho
            obtain ⟨j1, j2⟩ := i2 ho
            exact ⟨j1, by rw [j2]⟩

end Go.Proofs.Ytiipapndmjbciaa.Split
