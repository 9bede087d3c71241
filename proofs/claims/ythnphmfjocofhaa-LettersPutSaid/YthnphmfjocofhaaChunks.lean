/- Right texts as lists of letters: each letter a few bytes; what is put between letters parts none (plain laws over the decoder). -/
import Derived.Test.YthnphmfjocofhaaRefLettersPut
namespace Go.Proofs.Ythnphmfjocofhaa.RefLettersPut
open Go.RowKit Go.Proofs.Ythnphmfjocofhaa.ALettersPut Go.Proofs.YthnphmfjocofhaaW.PrintWords Go.Proofs.YthnphmfjocofhaaW.PrintLast Go.Proofs.Ythnphmfjocofhaa.Runes

def L (s : ByteArray) : List UInt8 := s.data.toList
theorem L_size (s : ByteArray) : (L s).length = s.size := by simp [L]
theorem L_append (a b : ByteArray) : L (a ++ b) = L a ++ L b := by simp [L]
theorem L_extract (s : ByteArray) (a b : Nat) : L (s.extract a b) = ((L s).take b).drop a := by
  simp [L, ByteArray.data_extract, List.extract_eq_take_drop, List.drop_take]
theorem L_inj {a b : ByteArray} (h : L a = L b) : a = b := by
  cases a; cases b
  simp only [L] at h
  congr 1
  exact Array.toList_inj.1 h
theorem L_toList (s : ByteArray) : s.toList = L s := ByteArray.toList_eq s
theorem bt_L (s : ByteArray) (i : Nat) (j : Int) (hj : (i : Int) = j) : (bt s j).toNat = ((L s).getD i 0).toNat := by
  subst hj
  unfold bt
  split
  · rename_i h
    have h2 : i < (L s).length := by rw [L_size]; simpa using h
    rw [List.getD_eq_getElem?_getD, List.getElem?_eq_getElem h2]
    simp [L]; rfl
  · rename_i h
    have h2 : (L s).length ≤ i := by rw [L_size]; simp at h; omega
    rw [List.getD_eq_getElem?_getD, List.getElem?_eq_none h2]
    rfl
/-- The decoder over lists of bytes. -/
def decL (l : List UInt8) : Nat × Nat := dec l.length (l.getD 0 0).toNat (l.getD 1 0).toNat (l.getD 2 0).toNat (l.getD 3 0).toNat
theorem decode_L (s : ByteArray) (p : Nat) (h : p < s.size) : Utf8.decode s p = decL ((L s).drop p) := by
  have hz : (s.extract p s.size).size = s.size - p := by simp
  rw [← decode_extract s p (by omega), dec_tells _ (by omega), bt_L _ 0 0 rfl, bt_L _ 1 1 rfl, bt_L _ 2 2 rfl, bt_L _ 3 3 rfl, L_extract, ← L_size s, List.take_length, ← L_size, L_extract, List.take_length]
  rfl
theorem dec_cases (n c d1 d2 d3 : Nat) :
    (c < 128 ∧ dec n c d1 d2 d3 = (c, 1)) ∨
    (c / 32 = 6 ∧ 1 < n ∧ d1 / 64 = 2 ∧ c % 32 * 64 + d1 % 64 ≥ 128 ∧ dec n c d1 d2 d3 = (c % 32 * 64 + d1 % 64, 2)) ∨
    (c / 16 = 14 ∧ 1 < n ∧ d1 / 64 = 2 ∧ 2 < n ∧ d2 / 64 = 2 ∧ (c % 16 * 4096 + d1 % 64 * 64 + d2 % 64 ≥ 2048 ∧ (c % 16 * 4096 + d1 % 64 * 64 + d2 % 64 < 55296 ∨ 57344 ≤ c % 16 * 4096 + d1 % 64 * 64 + d2 % 64)) ∧ dec n c d1 d2 d3 = (c % 16 * 4096 + d1 % 64 * 64 + d2 % 64, 3)) ∨
    (c / 8 = 30 ∧ 1 < n ∧ d1 / 64 = 2 ∧ 2 < n ∧ d2 / 64 = 2 ∧ 3 < n ∧ d3 / 64 = 2 ∧ (c % 8 * 262144 + d1 % 64 * 4096 + d2 % 64 * 64 + d3 % 64 ≥ 65536 ∧ c % 8 * 262144 + d1 % 64 * 4096 + d2 % 64 * 64 + d3 % 64 ≤ 1114111) ∧ dec n c d1 d2 d3 = (c % 8 * 262144 + d1 % 64 * 4096 + d2 % 64 * 64 + d3 % 64, 4)) ∨
    dec n c d1 d2 d3 = (65533, 1) := by
  unfold dec
  by_cases h1 : c < 128
  · exact .inl ⟨h1, if_pos h1⟩
  rw [if_neg h1]
  by_cases h2 : c / 32 = 6 ∧ 1 < n ∧ d1 / 64 = 2
  · rw [if_pos h2]
    by_cases g : c % 32 * 64 + d1 % 64 ≥ 128
    · exact .inr (.inl ⟨h2.1, h2.2.1, h2.2.2, g, if_pos g⟩)
    · exact .inr (.inr (.inr (.inr (if_neg g))))
  rw [if_neg h2]
  by_cases h3 : c / 16 = 14 ∧ 1 < n ∧ d1 / 64 = 2 ∧ 2 < n ∧ d2 / 64 = 2
  · rw [if_pos h3]
    by_cases g : c % 16 * 4096 + d1 % 64 * 64 + d2 % 64 ≥ 2048 ∧ (c % 16 * 4096 + d1 % 64 * 64 + d2 % 64 < 55296 ∨ 57344 ≤ c % 16 * 4096 + d1 % 64 * 64 + d2 % 64)
    · exact .inr (.inr (.inl ⟨h3.1, h3.2.1, h3.2.2.1, h3.2.2.2.1, h3.2.2.2.2, g, if_pos g⟩))
    · exact .inr (.inr (.inr (.inr (if_neg g))))
  rw [if_neg h3]
  by_cases h4 : c / 8 = 30 ∧ 1 < n ∧ d1 / 64 = 2 ∧ 2 < n ∧ d2 / 64 = 2 ∧ 3 < n ∧ d3 / 64 = 2
  · rw [if_pos h4]
    by_cases g : c % 8 * 262144 + d1 % 64 * 4096 + d2 % 64 * 64 + d3 % 64 ≥ 65536 ∧ c % 8 * 262144 + d1 % 64 * 4096 + d2 % 64 * 64 + d3 % 64 ≤ 1114111
    · exact .inr (.inr (.inr (.inl ⟨h4.1, h4.2.1, h4.2.2.1, h4.2.2.2.1, h4.2.2.2.2.1, h4.2.2.2.2.2.1, h4.2.2.2.2.2.2, g, if_pos g⟩)))
    · exact .inr (.inr (.inr (.inr (if_neg g))))
  rw [if_neg h4]
  exact .inr (.inr (.inr (.inr rfl)))
/-- A letter that stands whole is the same, whatever comes behind. -/
theorem decL_local (a x y : List UInt8) (hg : decL (a ++ x) ≠ (65533, 1)) (hw : (decL (a ++ x)).2 = a.length) : (decL (a ++ y)).2 = a.length := by
  unfold decL at *
  match a, hw with
  | [], hw =>
    exfalso
    rcases dec_cases ([] ++ x : List UInt8).length (([] ++ x : List UInt8).getD 0 0).toNat (([] ++ x : List UInt8).getD 1 0).toNat (([] ++ x : List UInt8).getD 2 0).toNat (([] ++ x : List UInt8).getD 3 0).toNat with ⟨_, e⟩ | ⟨_, _, _, _, e⟩ | ⟨_, _, _, _, _, _, e⟩ | ⟨_, _, _, _, _, _, _, _, e⟩ | e <;> rw [e] at hw <;> simp at hw
  | [c0], hw =>
    simp only [List.cons_append, List.nil_append, List.length_cons, List.getD_cons_zero] at *
    rcases dec_cases (x.length + 1) c0.toNat ((c0 :: x).getD 1 0).toNat ((c0 :: x).getD 2 0).toNat ((c0 :: x).getD 3 0).toNat with ⟨h, e⟩ | ⟨_, _, _, _, e⟩ | ⟨_, _, _, _, _, _, e⟩ | ⟨_, _, _, _, _, _, _, _, e⟩ | e
    · unfold dec; rw [if_pos h]; rfl
    · rw [e] at hw; simp at hw
    · rw [e] at hw; simp at hw
    · rw [e] at hw; simp at hw
    · exact absurd e hg
  | [c0, c1], hw =>
    simp only [List.cons_append, List.nil_append, List.length_cons, List.getD_cons_zero, List.getD_cons_succ] at *
    rcases dec_cases (x.length + 1 + 1) c0.toNat c1.toNat (x.getD 0 0).toNat (x.getD 1 0).toNat with ⟨_, e⟩ | ⟨h0, _, h1, g, e⟩ | ⟨_, _, _, _, _, _, e⟩ | ⟨_, _, _, _, _, _, _, _, e⟩ | e
    · rw [e] at hw; simp at hw
    · unfold dec; rw [if_neg (by omega), if_pos ⟨h0, by omega, h1⟩, if_pos g]; rfl
    · rw [e] at hw; simp at hw
    · rw [e] at hw; simp at hw
    · exact absurd e hg
  | [c0, c1, c2], hw =>
    simp only [List.cons_append, List.nil_append, List.length_cons, List.getD_cons_zero, List.getD_cons_succ] at *
    rcases dec_cases (x.length + 1 + 1 + 1) c0.toNat c1.toNat c2.toNat (x.getD 0 0).toNat with ⟨_, e⟩ | ⟨_, _, _, _, e⟩ | ⟨h0, _, h1, _, h2, g, e⟩ | ⟨_, _, _, _, _, _, _, _, e⟩ | e
    · rw [e] at hw; simp at hw
    · rw [e] at hw; simp at hw
    · unfold dec; rw [if_neg (by omega), if_neg (by omega), if_pos ⟨h0, by omega, h1, by omega, h2⟩, if_pos g]; rfl
    · rw [e] at hw; simp at hw
    · exact absurd e hg
  | [c0, c1, c2, c3], hw =>
    simp only [List.cons_append, List.nil_append, List.length_cons, List.getD_cons_zero, List.getD_cons_succ] at *
    rcases dec_cases (x.length + 1 + 1 + 1 + 1) c0.toNat c1.toNat c2.toNat c3.toNat with ⟨_, e⟩ | ⟨_, _, _, _, e⟩ | ⟨_, _, _, _, _, _, e⟩ | ⟨h0, _, h1, _, h2, _, h3, g, e⟩ | e
    · rw [e] at hw; simp at hw
    · rw [e] at hw; simp at hw
    · rw [e] at hw; simp at hw
    · unfold dec; rw [if_neg (by omega), if_neg (by omega), if_neg (by omega), if_pos ⟨h0, by omega, h1, by omega, h2, by omega, h3⟩, if_pos g]; rfl
    · exact absurd e hg
  | c0 :: c1 :: c2 :: c3 :: c4 :: r, hw =>
    exfalso
    rcases dec_cases ((c0 :: c1 :: c2 :: c3 :: c4 :: r) ++ x).length (((c0 :: c1 :: c2 :: c3 :: c4 :: r) ++ x).getD 0 0).toNat (((c0 :: c1 :: c2 :: c3 :: c4 :: r) ++ x).getD 1 0).toNat (((c0 :: c1 :: c2 :: c3 :: c4 :: r) ++ x).getD 2 0).toNat (((c0 :: c1 :: c2 :: c3 :: c4 :: r) ++ x).getD 3 0).toNat with ⟨_, e⟩ | ⟨_, _, _, _, e⟩ | ⟨_, _, _, _, _, _, e⟩ | ⟨_, _, _, _, _, _, _, _, e⟩ | e <;> rw [e] at hw <;> simp at hw
/-- A letter's bytes. -/
def Letter (a : List UInt8) : Prop := a ≠ [] ∧ ∀ y, (decL (a ++ y)).2 = a.length
theorem letter_at (s : ByteArray) (p : Nat) (h : p < s.size) (hg : ¬ (wid s p = 1 ∧ rune s p = 65533)) : Letter (((L s).drop p).take (wid s p)) := by
  have w1 := wid_pos s p h
  have w2 := wid_le s p h
  have hl := L_size s
  have hlen : (((L s).drop p).take (wid s p)).length = wid s p := by simp; omega
  refine ⟨fun e => by rw [e] at hlen; simp at hlen; omega, fun y => ?_⟩
  have e : decL ((((L s).drop p).take (wid s p)) ++ (((L s).drop p).drop (wid s p))) = Utf8.decode s p := by rw [List.take_append_drop, decode_L s p h]
  refine decL_local _ (((L s).drop p).drop (wid s p)) y ?_ ?_
  · rw [e]
    intro h2
    exact hg ⟨by unfold wid; rw [h2], by unfold rune; rw [h2]⟩
  · rw [e, hlen]; rfl

end Go.Proofs.Ythnphmfjocofhaa.RefLettersPut
