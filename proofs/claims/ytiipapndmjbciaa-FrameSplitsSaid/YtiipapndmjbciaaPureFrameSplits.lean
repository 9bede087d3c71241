/- The bodies of a stream, what is left, and whether it may be, are the document's: for every stream and every bound, the program's answer equals the reference's; no condition. -/
import Derived.Test.YtiipapndmjbciaaAFrameSplitsx1
namespace Go.Proofs.Ytiipapndmjbciaa.Pure
open Go.RowKit Go.Proofs.Ytiipapndmjbciaa.AFrameSplits Go.Proofs.YtiipapndmjbciaaW.PrintWords Go.Proofs.YtiipapndmjbciaaW.PrintLast Go.Proofs.Ytiipapndmjbciaa.Split

theorem sum_bytes (a b : Nat) (ha : a < 256) (hb : b < 256) : wrap64 (wrap64 (wrap64 (a : Int) * 256) + wrap64 (b : Int)) = ((a * 256 + b : Nat) : Int) := by
  unfold wrap64; omega

/-- What the reference's loop answers. -/
theorem ref_loop (most : Int) : ∀ (d : Nat) (k : Nat) (acc : List ByteArray) (s : ByteArray),
    s.size ≤ d → 2 * d + 2 ≤ k → acc.length + d < 8796093022208 →
    chancelref12_Split.l0 k s most acc = some (acc ++ (split most (L s)).1.map BA, BA (split most (L s)).2.1, (split most (L s)).2.2) := by
  intro d
  induction d with
  | zero =>
    intro k acc s hd hk _
    obtain ⟨k, rfl⟩ : ∃ m, k = m + 1 := ⟨k - 1, by omega⟩
    simp only [chancelref12_Split.l0]
    rw [if_neg (by omega), split_short _ _ (by rw [L_size]; omega)]
    simp [BA_L]
  | succ d ih =>
    intro k acc s hd hk hacc
    obtain ⟨k, rfl⟩ : ∃ m, k = m + 2 := ⟨k - 2, by omega⟩
    simp only [chancelref12_Split.l0]
    rcases Nat.lt_or_ge s.size 2 with h2 | h2
    · rw [if_neg (by omega), split_short _ _ (by rw [L_size]; exact h2)]
      simp [BA_L]
    · rw [if_pos (by omega), if_pos (by omega), if_pos (by omega)]
      obtain ⟨a, b, t, e, ea, eb, ht⟩ := frame_Split.two h2
      have ha := a.toNat_lt; have hb := b.toNat_lt
      rw [ea, eb, sum_bytes _ _ (by omega) (by omega), e, split_two]
      have hn : a.toNat * 256 + b.toNat ≤ 65535 := by omega
      generalize a.toNat * 256 + b.toNat = n at *
      have step : ∀ x : Bool, (x = true ↔ (n = 0 ∨ most < (n : Int))) → chancelref12_Split.j1 (k + 1) s most acc (n : Int) x =
          some (acc ++ (if n = 0 ∨ most < (n : Int) then (([], [], false) : List (List UInt8) × List UInt8 × Bool) else if t.length < n then ([], a :: b :: t, true) else (t.take n :: (split most (t.drop n)).1, (split most (t.drop n)).2)).1.map BA,
            BA (if n = 0 ∨ most < (n : Int) then (([], [], false) : List (List UInt8) × List UInt8 × Bool) else if t.length < n then ([], a :: b :: t, true) else (t.take n :: (split most (t.drop n)).1, (split most (t.drop n)).2)).2.1,
            (if n = 0 ∨ most < (n : Int) then (([], [], false) : List (List UInt8) × List UInt8 × Bool) else if t.length < n then ([], a :: b :: t, true) else (t.take n :: (split most (t.drop n)).1, (split most (t.drop n)).2)).2.2) := by
        intro x hx
        simp only [chancelref12_Split.j1]
        by_cases hbad : n = 0 ∨ most < (n : Int)
        · rw [if_pos (hx.2 hbad), if_pos hbad]
          simp [BA]
        · rw [if_neg (fun h => hbad (hx.1 h)), if_neg hbad]
          have e2 : wrap64 ((n : Int) + 2) = ((n + 2 : Nat) : Int) := by unfold wrap64; omega
          rw [e2]
          clear e2
          by_cases hshort : t.length < n
          · have c1 : (s.size : Int) < ((n + 2 : Nat) : Int) := by omega
            rw [if_pos c1, if_pos hshort]
            simp only [List.map_nil, List.append_nil, ← e, BA_L]
          · have c1 : ¬ (s.size : Int) < ((n + 2 : Nat) : Int) := by omega
            have c2 : (2 : Int) ≤ ((n + 2 : Nat) : Int) := by omega
            have c3 : ((n + 2 : Nat) : Int) ≤ (s.size : Int) := by omega
            have c4 : acc.length < 8796093022208 := by omega
            have c5 : (0 : Int) ≤ ((n + 2 : Nat) : Int) := by omega
            rw [if_neg c1, if_neg hshort, if_pos c2, if_pos c3, if_pos c4, if_pos c5]
            have e4 : L (s.extract 2 (n + 2)) = t.take n := by rw [L_extract, e]; simp
            have e5 : L (s.extract (n + 2) s.size) = t.drop n := by rw [L_extract, ← L_size s, List.take_length, e]; simp
            rw [Int.toNat_natCast, ih k _ (s.extract (n + 2) s.size) (by simp; omega) (by omega) (by simp; omega), e5]
            simp only [List.map_cons, List.append_assoc, List.cons_append, List.nil_append]
            rw [← e4, BA_L]
      by_cases h0 : (n : Int) = 0
      · rw [if_pos h0, step true ⟨fun _ => .inl (by omega), fun _ => rfl⟩]
      · rw [if_neg h0, step (decide ((n : Int) > most)) ⟨fun h => .inr (by simpa using h), fun h => by simp; omega⟩]
theorem ref_split (s : ByteArray) (most : Int) (hs : s.size < 8796093022208) (k : Nat) (hk : 2 * s.size + 2 ≤ k) :
    chancelref12_Split.f k s most = some ((split most (L s)).1.map BA, BA (split most (L s)).2.1, (split most (L s)).2.2) := by
  have := ref_loop most s.size k [] s (Nat.le_refl _) hk (by simp; omega)
  simpa [chancelref12_Split.f] using this
/-- The same lists are the same. -/
theorem same_loop (l : List ByteArray) (hl : l.length ≤ 140737488351232) : ∀ (d k i : Nat), l.length - i = d → d < k → i ≤ l.length → chancelref12_Same.l0 k l l (i : Int) = some true := by
  intro d
  induction d with
  | zero =>
    intro k i hd hk hi
    obtain ⟨k, rfl⟩ : ∃ m, k = m + 1 := ⟨k - 1, by omega⟩
    simp only [chancelref12_Same.l0]
    rw [if_neg (by omega)]
  | succ d ih =>
    intro k i hd hk hi
    obtain ⟨k, rfl⟩ : ∃ m, k = m + 1 := ⟨k - 1, by omega⟩
    simp only [chancelref12_Same.l0]
    rw [if_pos (by omega), if_pos (by omega), if_pos (by omega), if_pos trivial, show wrap64 ((i : Int) + 1) = ((i + 1 : Nat) : Int) by unfold wrap64; omega, ih k (i + 1) (by omega) (by omega) (by omega)]
theorem same_tells (l : List ByteArray) (hl : l.length ≤ 140737488351232) (k : Nat) (hk : l.length < k) : chancelref12_Same.f k l l = some true := by
  unfold chancelref12_Same.f
  rw [if_pos rfl]
  exact same_loop l hl l.length k 0 (by omega) hk (by omega)
theorem split_count (most : Int) : ∀ (d : Nat) (s : List UInt8), s.length ≤ d → (split most s).1.length ≤ s.length := by
  intro d
  induction d with
  | zero =>
    intro s hs
    obtain rfl : s = [] := List.eq_nil_of_length_eq_zero (by omega)
    simp [split_nil]
  | succ d ih =>
    intro s hs
    rcases bytes_cases s with h | ⟨a, b, t, rfl⟩
    · rw [split_short _ _ h]; simp
    · rw [split_two]
      simp only [List.length_cons] at hs
      split
      · simp
      · split
        · simp
        · have := ih (t.drop (a.toNat * 256 + b.toNat)) (by simp; omega)
          simp at this ⊢
          omega
theorem example_split : frame_Split.f (⟨#[0, 2, 97, 98, 0]⟩ : ByteArray) 9 = some ([BA [97, 98]], BA [0], true) := by
  have hL : L (⟨#[0, 2, 97, 98, 0]⟩ : ByteArray) = [0, 2, 97, 98, 0] := rfl
  unfold frame_Split.f
  rw [hL, if_pos (by decide)]
  rfl
theorem FrameSplits : chancellaw12_FrameSplits.Pure := by
  intro s most hs hm
  refine ⟨2 * s.size + 10, ?_⟩
  unfold chancellaw12_FrameSplits.f
  rw [example_split]
  simp only [Option.bind_some]
  rw [if_pos (by rfl), if_pos (by rw [L_toList, L_BA])]
  obtain ⟨k, hk⟩ : ∃ m, 2 * s.size + 10 = m + 1 := ⟨2 * s.size + 9, by omega⟩
  rw [hk]
  simp only [chancellaw12_FrameSplits.j0, Bool.not_true, Bool.false_eq_true, if_false]
  by_cases h : (s.size : Int) > 20000
  · rw [if_pos h]
  · rw [if_neg h]
    have hf : frame_Split.f s most = some ((split most (L s)).1.map BA, BA (split most (L s)).2.1, (split most (L s)).2.2) := by unfold frame_Split.f; rw [if_pos (by omega)]
    have hc := split_count most _ (L s) (Nat.le_refl _)
    rw [L_size] at hc
    rw [hf, ref_split s most (by omega) k (by omega)]
    simp only [Option.bind_some]
    rw [same_tells _ (by simp; omega) k (by simp; omega)]
    simp

end Go.Proofs.Ytiipapndmjbciaa.Pure
