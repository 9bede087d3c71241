/- The letters of a range are the document's, whatever the numbers: for every text and any two numbers; no condition. -/
import Derived.Test.YthnphmfjocofhaaRefLettersCut
namespace Go.Proofs.Ythnphmfjocofhaa.Pure
open Go.RowKit Go.Proofs.Ythnphmfjocofhaa.ALettersCut Go.Proofs.YthnphmfjocofhaaW.PrintWords Go.Proofs.YthnphmfjocofhaaW.PrintLast Go.Proofs.Ythnphmfjocofhaa.Runes Go.Proofs.Ythnphmfjocofhaa.RefLettersCut

theorem own_cut (s : ByteArray) (a b : Int) (hs : s.size ≤ 140737488351232) : letters_Cut.f s a b = some (s.extract (skip s a.toNat 0) (max (skip s a.toNat 0) (skip s b.toNat 0))) := by
  have h1 := skip_le s a.toNat 0 (by omega)
  have h2 := skip_le s b.toNat 0 (by omega)
  unfold letters_Cut.f
  rw [own_byte s a hs, own_byte s b hs]
  simp only [Option.bind_some]
  have hm : mx ((skip s a.toNat 0 : Nat) : Int) ((skip s b.toNat 0 : Nat) : Int) = ((max (skip s a.toNat 0) (skip s b.toNat 0) : Nat) : Int) := by unfold mx; split <;> omega
  rw [hm, if_pos (by omega), if_pos (by omega), if_pos (by omega), Int.toNat_natCast, Int.toNat_natCast]
theorem extract_none (s : ByteArray) (a b : Nat) (h : b ≤ a) : s.extract a b = (⟨#[]⟩ : ByteArray) := by
  apply ByteArray.ext
  simp only [ByteArray.data_extract]
  apply Array.eq_empty_of_size_eq_zero
  simp; omega
theorem LettersCut : chancellaw01_LettersCut.Pure := by
  intro s a b hs ha hb
  refine ⟨s.size + 20, ?_⟩
  unfold chancellaw01_LettersCut.f
  have e1 : skip (⟨#[97, 195, 164, 226, 130, 172]⟩ : ByteArray) (1 : Int).toNat 0 = 1 := by decide
  have e2 : skip (⟨#[97, 195, 164, 226, 130, 172]⟩ : ByteArray) (9 : Int).toNat 0 = 6 := by decide
  rw [own_cut _ _ _ (by decide), e1, e2]
  simp only [Option.bind_some]
  rw [if_pos (by rw [ByteArray.toList_eq]; rfl)]
  by_cases h : (s.size : Int) > 5000
  · rw [if_pos h]
  · rw [if_neg h, own_cut s a b (by omega)]
    have h1 := skip_le s a.toNat 0 (by omega)
    have h2 := skip_le s b.toNat 0 (by omega)
    unfold chancelref01_Cut.f
    rw [byte_tells s a (by omega) _ (by omega), byte_tells s b (by omega) _ (by omega)]
    simp only [Option.bind_some]
    by_cases hle : skip s b.toNat 0 ≤ skip s a.toNat 0
    · rw [if_pos (by omega)]
      simp only [Option.bind_some]
      rw [extract_none _ _ _ (by omega)]
      simp
    · rw [if_neg (by omega), if_pos (by omega), if_pos (by omega), if_pos (by omega), Nat.max_eq_right (by omega)]
      simp

end Go.Proofs.Ythnphmfjocofhaa.Pure
