/- words' reader, third part: fields. Over the program alone. -/
import Derived.Test.YtibfbdfoiboanaaRd2
import Derived.Deep.RegionHeld3
namespace Go.Proofs.Ytibfbdfoiboanaa.Rd
open Go.RowKit Go.Proofs.YtibfbdfoiboanaaW.PrintWords Go.Proofs.YtibfbdfoiboanaaW.PrintMore
set_option linter.unusedVariables false
theorem pText_size {s t y : ByteArray} (h : pText s = some (y, t)) : t.size ≤ s.size := by
  unfold pText at h
  cases h1 : pLen s with
  | none => rw [h1] at h; cases h
  | some a =>
    rw [h1] at h
    rw [Option.bind_some] at h
    cases h2 : pLen a.2 with
    | none => rw [h2] at h; cases h
    | some b =>
      rw [h2, Option.bind_some] at h
      have e1 := (pLen_range (a := a.1) (t := a.2) h1).2.2
      have e2 := (pLen_range (a := b.1) (t := b.2) h2).2.2
      have := (pTake_size h).2
      omega
theorem pFlag_size {s t : ByteArray} {y : Bool} (h : pFlag s = some (y, t)) : t.size ≤ s.size := by
  unfold pFlag at h
  cases h1 : pLen s with
  | none => rw [h1] at h; cases h
  | some a =>
    rw [h1, Option.bind_some] at h
    have e1 := (pLen_range (a := a.1) (t := a.2) h1).2.2
    by_cases hc : a.1 > 1
    · rw [if_pos hc] at h; cases h
    · rw [if_neg hc] at h
      injection h with h
      injection h with _ h
      rw [← h]
      exact e1
end Go.Proofs.Ytibfbdfoiboanaa.Rd
