/- What the reference's size tells: the first letter's width, and the letter, as the model's decoder has them (over the printed functions of the law LettersCount). -/
import Derived.Test.YthnphmfjocofhaaDoorALettersCountx
import Derived.Test.YthnphmfjocofhaaDoorRunes
namespace Go.Proofs.YthnphmfjocofhaaDoor.RefLettersCount
open Go.RowKit Go.Proofs.YthnphmfjocofhaaDoor.ALettersCount Go.Proofs.YthnphmfjocofhaaDoorW.PrintWords Go.Proofs.YthnphmfjocofhaaDoorW.PrintLast Go.Proofs.YthnphmfjocofhaaDoor.Runes

theorem wb (s : ByteArray) (i : Int) : wrap64 (bt s i) = bt s i := by
  have := bt_range s i
  unfold wrap64; omega
/-- A byte as the decoder reads it. -/
theorem get_bt (s : ByteArray) (i : Nat) (j : Int) (hj : (i : Int) = j) (h : i < s.size) : (s.get! (0 + i)).toNat = (bt s j).toNat := by
  subst hj
  rw [Nat.zero_add]
  unfold bt
  rw [dif_pos (by simpa using h)]
  simp [ByteArray.get!, h]
  rfl
/-- The decoder, in numbers. -/
def dec (n : Nat) (c d1 d2 d3 : Nat) : Nat × Nat :=
  if c < 128 then (c, 1)
  else if c / 32 = 6 ∧ 1 < n ∧ d1 / 64 = 2 then (if (c % 32) * 64 + d1 % 64 ≥ 128 then ((c % 32) * 64 + d1 % 64, 2) else (65533, 1))
  else if c / 16 = 14 ∧ 1 < n ∧ d1 / 64 = 2 ∧ 2 < n ∧ d2 / 64 = 2 then
    (if (c % 16) * 4096 + (d1 % 64) * 64 + d2 % 64 ≥ 2048 ∧ ((c % 16) * 4096 + (d1 % 64) * 64 + d2 % 64 < 55296 ∨ 57344 ≤ (c % 16) * 4096 + (d1 % 64) * 64 + d2 % 64) then ((c % 16) * 4096 + (d1 % 64) * 64 + d2 % 64, 3) else (65533, 1))
  else if c / 8 = 30 ∧ 1 < n ∧ d1 / 64 = 2 ∧ 2 < n ∧ d2 / 64 = 2 ∧ 3 < n ∧ d3 / 64 = 2 then
    (if (c % 8) * 262144 + (d1 % 64) * 4096 + (d2 % 64) * 64 + d3 % 64 ≥ 65536 ∧ (c % 8) * 262144 + (d1 % 64) * 4096 + (d2 % 64) * 64 + d3 % 64 ≤ 1114111 then ((c % 8) * 262144 + (d1 % 64) * 4096 + (d2 % 64) * 64 + d3 % 64, 4) else (65533, 1))
  else (65533, 1)
theorem dec_tells (s : ByteArray) (h : 0 < s.size) : Utf8.decode s 0 = dec s.size (bt s 0).toNat (bt s 1).toNat (bt s 2).toNat (bt s 3).toNat := by
  have h0 := get_bt s 0 0 rfl h
  have h1 := get_bt s 1 1 rfl
  have h2 := get_bt s 2 2 rfl
  have h3 := get_bt s 3 3 rfl
  unfold dec
  simp only [Utf8.decode, h0]
  generalize (bt s 0).toNat = c at *
  generalize (bt s 1).toNat = d1 at *
  generalize (bt s 2).toNat = d2 at *
  generalize (bt s 3).toNat = d3 at *
  have e1 : (decide (0 + 1 < s.size) && (s.get! (0 + 1)).toNat / 64 == 2) = decide (1 < s.size ∧ d1 / 64 = 2) := by
    by_cases g : 1 < s.size
    · rw [h1 g]; simp [g]; rfl
    · simp [g]
  have e2 : (decide (0 + 2 < s.size) && (s.get! (0 + 2)).toNat / 64 == 2) = decide (2 < s.size ∧ d2 / 64 = 2) := by
    by_cases g : 2 < s.size
    · rw [h2 g]; simp [g]; rfl
    · simp [g]
  have e3 : (decide (0 + 3 < s.size) && (s.get! (0 + 3)).toNat / 64 == 2) = decide (3 < s.size ∧ d3 / 64 = 2) := by
    by_cases g : 3 < s.size
    · rw [h3 g]; simp [g]; rfl
    · simp [g]
  simp only [e1, e2, e3]
  by_cases a1 : c < 128
  · rw [if_pos a1, if_pos a1]
  rw [if_neg a1, if_neg a1]
  by_cases g1 : 1 < s.size ∧ d1 / 64 = 2
  · rw [h1 g1.1]
    by_cases a2 : c / 32 = 6
    · simp [a2, g1, Utf8.runeError]
    · by_cases g2 : 2 < s.size ∧ d2 / 64 = 2
      · rw [h2 g2.1]
        by_cases a3 : c / 16 = 14
        · have hv : ((c % 16 * 4096 + d1 % 64 * 64 + d2 % 64 ≥ 2048 : Bool) && Utf8.valid ((c % 16 * 4096 + d1 % 64 * 64 + d2 % 64 : Nat) : Int)) =
              decide (c % 16 * 4096 + d1 % 64 * 64 + d2 % 64 ≥ 2048 ∧ (c % 16 * 4096 + d1 % 64 * 64 + d2 % 64 < 55296 ∨ 57344 ≤ c % 16 * 4096 + d1 % 64 * 64 + d2 % 64)) := by
            rw [Bool.eq_iff_iff]
            simp only [Utf8.valid, Bool.and_eq_true, Bool.or_eq_true, decide_eq_true_eq]
            omega
          simp only [a2, a3, g1, g2, hv, Utf8.runeError]
          simp [a2]
        · by_cases g3 : 3 < s.size ∧ d3 / 64 = 2
          · rw [h3 g3.1]
            by_cases a4 : c / 8 = 30
            · have hv : ((c % 8 * 262144 + d1 % 64 * 4096 + d2 % 64 * 64 + d3 % 64 ≥ 65536 : Bool) && Utf8.valid ((c % 8 * 262144 + d1 % 64 * 4096 + d2 % 64 * 64 + d3 % 64 : Nat) : Int)) =
                  decide (c % 8 * 262144 + d1 % 64 * 4096 + d2 % 64 * 64 + d3 % 64 ≥ 65536 ∧ c % 8 * 262144 + d1 % 64 * 4096 + d2 % 64 * 64 + d3 % 64 ≤ 1114111) := by
                rw [Bool.eq_iff_iff]
                simp only [Utf8.valid, Bool.and_eq_true, Bool.or_eq_true, decide_eq_true_eq]
                omega
              simp only [a2, a3, a4, g1, g2, g3, hv, Utf8.runeError]
              simp [a2, a3]
            · simp [a2, a3, a4, Utf8.runeError]
          · have g3' : ¬ (1 < s.size ∧ d1 / 64 = 2 ∧ 2 < s.size ∧ d2 / 64 = 2 ∧ 3 < s.size ∧ d3 / 64 = 2) := fun h => g3 ⟨h.2.2.2.2.1, h.2.2.2.2.2⟩
            simp only [a2, a3, g1, g2, g3, Utf8.runeError]
            simp [a2, a3]
      · have n1 : ¬ (c / 16 = 14 ∧ 1 < s.size ∧ d1 / 64 = 2 ∧ 2 < s.size ∧ d2 / 64 = 2) := fun h => g2 ⟨h.2.2.2.1, h.2.2.2.2⟩
        have n2 : ¬ (c / 8 = 30 ∧ 1 < s.size ∧ d1 / 64 = 2 ∧ 2 < s.size ∧ d2 / 64 = 2 ∧ 3 < s.size ∧ d3 / 64 = 2) := fun h => g2 ⟨h.2.2.2.1, h.2.2.2.2.1⟩
        rw [if_neg n1, if_neg n2]
        simp [a2, g2, Utf8.runeError]
  · have n0 : ¬ (c / 32 = 6 ∧ 1 < s.size ∧ d1 / 64 = 2) := fun h => g1 h.2
    have n1 : ¬ (c / 16 = 14 ∧ 1 < s.size ∧ d1 / 64 = 2 ∧ 2 < s.size ∧ d2 / 64 = 2) := fun h => g1 ⟨h.2.1, h.2.2.1⟩
    have n2 : ¬ (c / 8 = 30 ∧ 1 < s.size ∧ d1 / 64 = 2 ∧ 2 < s.size ∧ d2 / 64 = 2 ∧ 3 < s.size ∧ d3 / 64 = 2) := fun h => g1 ⟨h.2.1, h.2.2.1⟩
    rw [if_neg n0, if_neg n1, if_neg n2]
    simp [g1, Utf8.runeError]

/-- One more byte of a letter. -/
theorem size_step (s : ByteArray) (n low v i : Int) (k : Nat) (hi : 0 ≤ i) (hn : i < n) (hs : i < (s.size : Int)) (hv0 : 0 ≤ v) (hv : v ≤ 4294967296) (hi2 : i ≤ 100) :
    chancelref01_size.l0 (k + 1) s n low v i = if 128 ≤ bt s i ∧ bt s i < 192 then chancelref01_size.l0 k s n low (v * 64 + bt s i - 128) (i + 1) else some (1, 65533) := by
  have hb := bt_range s i
  simp only [chancelref01_size.l0]
  rw [if_pos hn, if_pos hi, if_pos hs, wb]
  by_cases h1 : bt s i < 128
  · rw [if_pos h1, if_neg (fun h => absurd h.1 (by omega))]
  · rw [if_neg h1]
    by_cases h2 : bt s i ≥ 192
    · rw [if_pos h2, if_neg (fun h => absurd h.2 (by omega))]
    · rw [if_neg h2, if_pos ⟨by omega, by omega⟩]
      rw [show wrap64 (wrap64 (wrap64 (v * 64) + bt s i) - 128) = v * 64 + bt s i - 128 by unfold wrap64; omega, show wrap64 (i + 1) = i + 1 by unfold wrap64; omega]
/-- All bytes are read. -/
theorem size_end (s : ByteArray) (n low v i : Int) (k : Nat) (hn : ¬ i < n) (hv0 : 0 ≤ v) (hv : v ≤ 4294967296) :
    chancelref01_size.l0 (k + 1) s n low v i = if low ≤ v ∧ v ≤ 1114111 ∧ (v < 55296 ∨ 57344 ≤ v) then some (n, v) else some (1, 65533) := by
  simp only [chancelref01_size.l0]
  rw [if_neg hn]
  by_cases h1 : v < low
  · rw [if_pos h1, if_neg (fun h => absurd h.1 (by omega))]
  rw [if_neg h1]
  by_cases h2 : v > 1114111
  · rw [if_pos h2, if_neg (fun h => absurd h.2.1 (by omega))]
  rw [if_neg h2]
  by_cases h3 : v ≥ 55296
  · rw [if_pos h3]
    by_cases h4 : v < 57344
    · rw [if_pos h4, if_neg (fun h => absurd h.2.2 (by omega))]
    · rw [if_neg h4, if_pos ⟨by omega, by omega, by omega⟩, show wrap32 v = v by unfold wrap32; omega]
  · rw [if_neg h3, if_pos ⟨by omega, by omega, by omega⟩, show wrap32 v = v by unfold wrap32; omega]
theorem bad_eq : (some (1, 65533) : Option (Int × Int)) = some ((((65533, 1) : Nat × Nat).2 : Int), (((65533, 1) : Nat × Nat).1 : Int)) := by simp
theorem size_tells (s : ByteArray) (h : 0 < s.size) (k : Nat) (hk : 12 ≤ k) : chancelref01_size.f k s = some ((wid s 0 : Int), (rune s 0 : Int)) := by
  obtain ⟨k, rfl⟩ : ∃ m, k = m + 8 := ⟨k - 8, by omega⟩
  unfold wid rune
  rw [dec_tells s h]
  obtain ⟨c, hc⟩ : ∃ c : Nat, bt s 0 = (c : Int) := ⟨(bt s 0).toNat, by have := bt_range s 0; omega⟩
  obtain ⟨d1, hd1⟩ : ∃ c : Nat, bt s 1 = (c : Int) := ⟨(bt s 1).toNat, by have := bt_range s 1; omega⟩
  obtain ⟨d2, hd2⟩ : ∃ c : Nat, bt s 2 = (c : Int) := ⟨(bt s 2).toNat, by have := bt_range s 2; omega⟩
  obtain ⟨d3, hd3⟩ : ∃ c : Nat, bt s 3 = (c : Int) := ⟨(bt s 3).toNat, by have := bt_range s 3; omega⟩
  have rc := bt_range s 0
  rw [hc] at rc
  unfold chancelref01_size.f
  rw [if_pos (by omega), wb, hc, hd1, hd2, hd3]
  simp only [Int.toNat_natCast]
  by_cases c1 : c < 128
  · rw [if_pos (show (c : Int) < 128 by omega), show wrap32 (c : Int) = (c : Int) by unfold wrap32; omega]
    simp [dec, c1]
  rw [if_neg (by omega)]
  have bad : ∀ n, ¬ (c / 32 = 6) → ¬ (c / 16 = 14) → ¬ (c / 8 = 30) → dec n c d1 d2 d3 = (65533, 1) := by
    intro n n1 n2 n3
    unfold dec
    rw [if_neg c1, if_neg (fun h => n1 h.1), if_neg (fun h => n2 h.1), if_neg (fun h => n3 h.1)]
  by_cases c2 : c < 192
  · rw [if_neg (by omega)]
    simp only [chancelref01_size.j0, Bool.false_eq_true, if_false]
    rw [if_neg (by omega)]
    simp only [chancelref01_size.j1, Bool.false_eq_true, if_false]
    rw [if_neg (by omega), bad _ (by omega) (by omega) (by omega)]
    exact bad_eq
  rw [if_pos (by omega)]
  by_cases c3 : c < 224
  · rw [show decide ((c : Int) < 224) = true from decide_eq_true (by omega)]
    rw [chancelref01_size.j0, if_pos rfl, chancelref01_size.j2, show wrap64 ((c : Int) - 192) = (c : Int) - 192 by unfold wrap64; omega]
    unfold dec
    rw [if_neg c1]
    by_cases s2 : s.size < 2
    · rw [if_pos (by omega), if_neg (fun h => absurd h.2.1 (by omega)), if_neg (fun h => absurd h.2.1 (by omega)), if_neg (fun h => absurd h.2.1 (by omega))]
      exact bad_eq
    rw [if_neg (by omega), size_step _ _ _ _ _ _ (by omega) (by omega) (by omega) (by omega) (by omega) (by omega), hd1]
    by_cases g1 : d1 / 64 = 2
    · rw [if_pos ⟨by omega, by omega⟩, size_end _ _ _ _ _ _ (by omega) (by omega) (by omega), if_pos (show c / 32 = 6 ∧ 1 < s.size ∧ d1 / 64 = 2 from ⟨by omega, by omega, g1⟩)]
      by_cases g : c % 32 * 64 + d1 % 64 ≥ 128
      · rw [if_pos ⟨by omega, by omega, by omega⟩, if_pos g]
        simp only [Option.some.injEq, Prod.mk.injEq]
        omega
      · rw [if_neg (fun h => absurd h.1 (by omega)), if_neg g]
        exact bad_eq
    · rw [if_neg (fun h => absurd h (by omega)), if_neg (fun h => absurd h.2.2 (by omega)), if_neg (fun h => absurd h.1 (by omega)), if_neg (fun h => absurd h.1 (by omega))]
      exact bad_eq
  rw [show decide ((c : Int) < 224) = false from decide_eq_false (by omega)]
  simp only [chancelref01_size.j0, Bool.false_eq_true, if_false]
  rw [if_pos (by omega)]
  by_cases c4 : c < 240
  · rw [show decide ((c : Int) < 240) = true from decide_eq_true (by omega)]
    rw [chancelref01_size.j1, if_pos rfl, chancelref01_size.j2, show wrap64 ((c : Int) - 224) = (c : Int) - 224 by unfold wrap64; omega]
    unfold dec
    have n6 : ∀ P : Prop, ¬ (c / 32 = 6 ∧ P) := fun P h => absurd h.1 (by omega)
    rw [if_neg c1, if_neg (n6 (1 < s.size ∧ d1 / 64 = 2))]
    have n3 : ∀ P : Prop, ¬ (c / 8 = 30 ∧ P) := fun P h => absurd h.1 (by omega)
    by_cases s2 : s.size < 3
    · rw [if_pos (by omega), if_neg (fun h => absurd h.2.2.2.1 (by omega)), if_neg (n3 _)]
      exact bad_eq
    rw [if_neg (by omega), size_step _ _ _ _ _ _ (by omega) (by omega) (by omega) (by omega) (by omega) (by omega), hd1]
    by_cases g1 : d1 / 64 = 2
    · rw [if_pos ⟨by omega, by omega⟩, show (1 : Int) + 1 = 2 from rfl, size_step _ _ _ _ _ _ (by omega) (by omega) (by omega) (by omega) (by omega) (by omega), hd2]
      by_cases g2 : d2 / 64 = 2
      · rw [if_pos ⟨by omega, by omega⟩, size_end _ _ _ _ _ _ (by omega) (by omega) (by omega), if_pos (show c / 16 = 14 ∧ 1 < s.size ∧ d1 / 64 = 2 ∧ 2 < s.size ∧ d2 / 64 = 2 from ⟨by omega, by omega, g1, by omega, g2⟩)]
        by_cases g : c % 16 * 4096 + d1 % 64 * 64 + d2 % 64 ≥ 2048 ∧ (c % 16 * 4096 + d1 % 64 * 64 + d2 % 64 < 55296 ∨ 57344 ≤ c % 16 * 4096 + d1 % 64 * 64 + d2 % 64)
        · rw [if_pos (by omega), if_pos g]
          simp only [Option.some.injEq, Prod.mk.injEq]
          omega
        · rw [if_neg (by omega), if_neg g]
          exact bad_eq
      · rw [if_neg (fun h => absurd h (by omega)), if_neg (fun h => absurd h.2.2.2.2 (by omega)), if_neg (n3 _)]
        exact bad_eq
    · rw [if_neg (fun h => absurd h (by omega)), if_neg (fun h => absurd h.2.2.1 (by omega)), if_neg (n3 _)]
      exact bad_eq
  rw [show decide ((c : Int) < 240) = false from decide_eq_false (by omega)]
  simp only [chancelref01_size.j1, Bool.false_eq_true, if_false]
  rw [if_pos (show (c : Int) ≥ 240 by omega)]
  by_cases c5 : c < 248
  · rw [if_pos (show (c : Int) < 248 by omega), chancelref01_size.j2, show wrap64 ((c : Int) - 240) = (c : Int) - 240 by unfold wrap64; omega]
    unfold dec
    have n6 : ∀ P : Prop, ¬ (c / 32 = 6 ∧ P) := fun P h => absurd h.1 (by omega)
    have n7 : ∀ P : Prop, ¬ (c / 16 = 14 ∧ P) := fun P h => absurd h.1 (by omega)
    rw [if_neg c1, if_neg (n6 (1 < s.size ∧ d1 / 64 = 2)), if_neg (n7 (1 < s.size ∧ d1 / 64 = 2 ∧ 2 < s.size ∧ d2 / 64 = 2))]
    by_cases s2 : s.size < 4
    · rw [if_pos (by omega), if_neg (fun h => absurd h.2.2.2.2.2.1 (by omega))]
      exact bad_eq
    rw [if_neg (by omega), size_step _ _ _ _ _ _ (by omega) (by omega) (by omega) (by omega) (by omega) (by omega), hd1]
    by_cases g1 : d1 / 64 = 2
    · rw [if_pos ⟨by omega, by omega⟩, show (1 : Int) + 1 = 2 from rfl, size_step _ _ _ _ _ _ (by omega) (by omega) (by omega) (by omega) (by omega) (by omega), hd2]
      by_cases g2 : d2 / 64 = 2
      · rw [if_pos ⟨by omega, by omega⟩, show (2 : Int) + 1 = 3 from rfl, size_step _ _ _ _ _ _ (by omega) (by omega) (by omega) (by omega) (by omega) (by omega), hd3]
        by_cases g3 : d3 / 64 = 2
        · rw [if_pos ⟨by omega, by omega⟩, size_end _ _ _ _ _ _ (by omega) (by omega) (by omega), if_pos (show c / 8 = 30 ∧ 1 < s.size ∧ d1 / 64 = 2 ∧ 2 < s.size ∧ d2 / 64 = 2 ∧ 3 < s.size ∧ d3 / 64 = 2 from ⟨by omega, by omega, g1, by omega, g2, by omega, g3⟩)]
          by_cases g : c % 8 * 262144 + d1 % 64 * 4096 + d2 % 64 * 64 + d3 % 64 ≥ 65536 ∧ c % 8 * 262144 + d1 % 64 * 4096 + d2 % 64 * 64 + d3 % 64 ≤ 1114111
          · rw [if_pos (by omega), if_pos g]
            simp only [Option.some.injEq, Prod.mk.injEq]
            omega
          · rw [if_neg (by omega), if_neg g]
            exact bad_eq
        · rw [if_neg (fun h => absurd h (by omega)), if_neg (fun h => absurd h.2.2.2.2.2.2 (by omega))]
          exact bad_eq
      · rw [if_neg (fun h => absurd h (by omega)), if_neg (fun h => absurd h.2.2.2.2.1 (by omega))]
        exact bad_eq
    · rw [if_neg (fun h => absurd h (by omega)), if_neg (fun h => absurd h.2.2.1 (by omega))]
      exact bad_eq
  · rw [if_neg (show ¬ (c : Int) < 248 by omega), bad _ (by omega) (by omega) (by omega)]
    exact bad_eq

end Go.Proofs.YthnphmfjocofhaaDoor.RefLettersCount
