/- Who may read, write and edit a label in effect is the document's: for every list of labels, user and label; no condition. -/
import Derived.Test.YtgjlnjjgpddcnaaARightsMayx
namespace Go.Proofs.Ytgjlnjjgpddcnaa.Pure
open Go.RowKit Go.Proofs.Ytgjlnjjgpddcnaa.ARightsMay Go.Proofs.YtgjlnjjgpddcnaaW.PrintWords Go.Proofs.YtgjlnjjgpddcnaaW.PrintLast

theorem small_loop (m : List S29) (l : List S29) (hl : l.length ≤ 9223372036854775807) : ∀ (d k i : Nat), l.length - i = d → d < k → i ≤ l.length → ∃ b, chancellaw03_Small.l0 k m l (l.length : Int) (i : Int) = some b := by
  intro d
  induction d with
  | zero =>
    intro k i hd hk hi
    obtain ⟨k, rfl⟩ : ∃ m, k = m + 1 := ⟨k - 1, by omega⟩
    exact ⟨_, by simp only [chancellaw03_Small.l0]; rw [if_neg (by omega)]⟩
  | succ d ih =>
    intro k i hd hk hi
    obtain ⟨k, rfl⟩ : ∃ m, k = m + 1 := ⟨k - 1, by omega⟩
    simp only [chancellaw03_Small.l0]
    rw [if_pos (by omega), if_pos (by omega), if_pos (by omega)]
    split
    · exact ⟨false, rfl⟩
    split
    · exact ⟨false, rfl⟩
    rw [show wrap64 ((i : Int) + 1) = ((i + 1 : Nat) : Int) by unfold wrap64; omega]
    exact ih k (i + 1) (by omega) (by omega) (by omega)
theorem RightsMay : chancellaw03_RightsMay.Pure := by
  intro l u label hl hu hlab
  have hlen : l.length ≤ 9223372036854775807 := hl.1
  refine ⟨l.length + 2, ?_⟩
  unfold chancellaw03_RightsMay.f chancellaw03_two.f
  simp only [Option.bind_some, rights_May.f, rights_Edits.f]
  have e1 : may [(⟨(-1), 0, (([0] : List Int)), (([0] : List Int))⟩ : S29), (⟨0, 0, (([0, 2] : List Int)), (([0] : List Int))⟩ : S29)] 2 1 false = false := by decide
  have e2 : may [(⟨(-1), 0, (([0] : List Int)), (([0] : List Int))⟩ : S29), (⟨0, 0, (([0, 2] : List Int)), (([0] : List Int))⟩ : S29)] 0 1 false = true := by decide
  have e3 : may [(⟨(-1), 0, (([0] : List Int)), (([0] : List Int))⟩ : S29), (⟨0, 0, (([0, 2] : List Int)), (([0] : List Int))⟩ : S29)] 0 1 true = true := by decide
  rw [e1, e2, e3]
  simp only [Bool.false_eq_true, if_false, if_true, Option.bind_some, Bool.not_true, chancellaw03_RightsMay.j0]
  obtain ⟨b, hb⟩ := small_loop l l hlen l.length (l.length + 1) 0 (by omega) (by omega) (by omega)
  rw [show ((0 : Nat) : Int) = 0 from rfl] at hb
  unfold chancellaw03_Small.f
  rw [hb]
  simp only [Option.bind_some, rights_May.f, chancelref03_May.f, rights_Edits.f]
  cases may l u label false <;> cases may l u label true <;> cases b <;> rfl

end Go.Proofs.Ytgjlnjjgpddcnaa.Pure
