/- A text's letters are the document's: for every text, the program's list equals the reference's; no condition. -/
import Derived.Test.YthnphmfjocofhaaRefLettersAll
namespace Go.Proofs.Ythnphmfjocofhaa.Pure
open Go.RowKit Go.Proofs.Ythnphmfjocofhaa.ALettersAll Go.Proofs.YthnphmfjocofhaaW.PrintWords Go.Proofs.YthnphmfjocofhaaW.PrintLast Go.Proofs.Ythnphmfjocofhaa.Runes Go.Proofs.Ythnphmfjocofhaa.RefLettersAll

theorem same_loop (l : List Int) (hl : l.length ≤ 140737488351232) : ∀ (d k i : Nat), l.length - i = d → d < k → i ≤ l.length → chancelref01_Same.l0 k l l (i : Int) = some true := by
  intro d
  induction d with
  | zero =>
    intro k i hd hk hi
    obtain ⟨k, rfl⟩ : ∃ m, k = m + 1 := ⟨k - 1, by omega⟩
    simp only [chancelref01_Same.l0]
    rw [if_neg (by omega)]
  | succ d ih =>
    intro k i hd hk hi
    obtain ⟨k, rfl⟩ : ∃ m, k = m + 1 := ⟨k - 1, by omega⟩
    simp only [chancelref01_Same.l0]
    rw [if_pos (by omega), if_pos (by omega), if_pos (by omega), if_pos trivial, show wrap64 ((i : Int) + 1) = ((i + 1 : Nat) : Int) by unfold wrap64; omega, ih k (i + 1) (by omega) (by omega) (by omega)]
theorem same_tells (l : List Int) (hl : l.length ≤ 140737488351232) (k : Nat) (hk : l.length < k) : chancelref01_Same.f k l l = some true := by
  unfold chancelref01_Same.f
  rw [if_pos rfl]
  exact same_loop l hl l.length k 0 (by omega) hk (by omega)
theorem own_letters (s : ByteArray) (hs : s.size ≤ 17592186044416) : letters_Letters.f s = some (rs s 0) := by
  unfold letters_Letters.f; rw [if_pos hs]
theorem LettersAll : chancellaw01_LettersAll.Pure := by
  intro s hs
  refine ⟨s.size + 20, ?_⟩
  unfold chancellaw01_LettersAll.f
  have e1 : rs (⟨#[97, 226, 130, 172]⟩ : ByteArray) 0 = [97, 8364] := by decide
  rw [own_letters _ (by decide), e1]
  simp only [Option.bind_some]
  rw [if_pos (by rfl), if_pos (by decide)]
  have e2 : (rd [97, 8364] 1 != 8364) = false := by decide
  rw [e2]
  obtain ⟨k, hk⟩ : ∃ m, s.size + 20 = m + 1 := ⟨s.size + 19, by omega⟩
  rw [hk]
  simp only [chancellaw01_LettersAll.j0, Bool.false_eq_true, if_false]
  by_cases h : (s.size : Int) > 5000
  · rw [if_pos h]
  · have hl := rs_len s 0
    rw [if_neg h, own_letters s (by omega), letters_tells s (by omega) k (by omega)]
    simp only [Option.bind_some]
    rw [same_tells _ (by omega) k (by omega)]
    rfl

end Go.Proofs.Ythnphmfjocofhaa.Pure
