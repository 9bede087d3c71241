/- How many bytes are ahead of a place is the document's, whatever the number: for every text and every number; no condition. -/
import Derived.Test.YthnphmfjocofhaaRefLettersByte
namespace Go.Proofs.Ythnphmfjocofhaa.Pure
open Go.RowKit Go.Proofs.Ythnphmfjocofhaa.ALettersByte Go.Proofs.YthnphmfjocofhaaW.PrintWords Go.Proofs.YthnphmfjocofhaaW.PrintLast Go.Proofs.Ythnphmfjocofhaa.Runes Go.Proofs.Ythnphmfjocofhaa.RefLettersByte

theorem LettersByte : chancellaw01_LettersByte.Pure := by
  intro s at_ hs ha
  refine ⟨s.size + 20, ?_⟩
  unfold chancellaw01_LettersByte.f
  have e1 : skip (⟨#[97, 195, 164, 226, 130, 172]⟩ : ByteArray) (2 : Int).toNat 0 = 3 := by decide
  rw [own_byte _ _ (by decide), e1]
  simp only [Option.bind_some]
  rw [if_pos (by rfl)]
  by_cases h : (s.size : Int) > 5000
  · rw [if_pos h]
  · have hk := skip_le s at_.toNat 0 (by omega)
    rw [if_neg h, own_byte s at_ (by omega), byte_tells s at_ (by omega) _ (by omega)]
    simp only [Option.bind_some, if_true]
    rw [if_pos (by omega), decide_eq_true (by omega)]

end Go.Proofs.Ythnphmfjocofhaa.Pure
