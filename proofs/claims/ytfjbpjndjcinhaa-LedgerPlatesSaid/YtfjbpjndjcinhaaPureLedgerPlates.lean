/- How many plates a record takes is the document's: for every text, the program's count equals the reference's; no condition. -/
import Derived.Test.YtfjbpjndjcinhaaPLedgerPlatesx1
namespace Go.Proofs.Ytfjbpjndjcinhaa.Pure
open Go.RowKit Go.Proofs.Ytfjbpjndjcinhaa.PLedgerPlates Go.Proofs.YtfjbpjndjcinhaaW.PrintWords Go.Proofs.YtfjbpjndjcinhaaW.PrintLast

theorem empty_size {s : ByteArray} : s.toList = ([] : List UInt8) ↔ s.size = 0 := by
  have h : s.toList = s.data.toList := ByteArray.toList_eq s
  rw [h]
  constructor
  · intro e
    have : s.data.toList.length = 0 := by rw [e]; rfl
    simpa using this
  · intro e
    exact List.eq_nil_of_length_eq_zero (by simpa using e)

theorem LedgerPlates : chancellaw17_LedgerPlates.Pure := by
  intro s hs
  unfold chancellaw17_LedgerPlates.f
  have h1 : ledger_Plates.f (⟨#[120]⟩ : ByteArray) = some 2 := by
    unfold ledger_Plates.f
    rw [show ((⟨#[120]⟩ : ByteArray).size : Int) = 1 from rfl]
    simp [wrap64]
  rw [h1]; simp only [Option.bind_some, if_true]
  unfold ledger_Plates.f chancelref17_Plates.f
  by_cases h0 : s.size = 0
  · rw [if_pos (by omega), if_pos (empty_size.2 h0)]; rfl
  · rw [if_neg (by omega), if_neg (fun e => h0 (empty_size.1 e))]
    by_cases h2 : (s.size : Int) > 65535
    · rw [if_pos h2, if_pos h2]; rfl
    · rw [if_neg h2, if_neg h2]
      have e1 : wrap64 (wrap64 ((s.size : Int) + 127) - 1) = (s.size : Int) + 126 := by unfold wrap64; omega
      have e2 : wrap64 ((s.size : Int) + 126) = (s.size : Int) + 126 := by unfold wrap64; omega
      simp only [Option.bind_some, e1, e2]
      simp

end Go.Proofs.Ytfjbpjndjcinhaa.Pure
