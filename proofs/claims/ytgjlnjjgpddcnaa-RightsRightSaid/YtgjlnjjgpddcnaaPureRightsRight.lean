/- Which labels are right for so many users is the document's: for every list of labels and every number of users, the program's answer equals the reference's; no condition. -/
import Derived.Test.YtgjlnjjgpddcnaaARightsRightx
namespace Go.Proofs.Ytgjlnjjgpddcnaa.Pure
open Go.RowKit Go.Proofs.Ytgjlnjjgpddcnaa.ARightsRight Go.Proofs.YtgjlnjjgpddcnaaW.PrintWords Go.Proofs.YtgjlnjjgpddcnaaW.PrintLast

theorem up (i : Nat) (h : i < 9223372036854775807) : wrap64 ((i : Int) + 1) = ((i + 1 : Nat) : Int) := by unfold wrap64; omega
theorem down (i : Nat) (h : i < 9223372036854775807) (h0 : 0 < i) : wrap64 ((i : Int) - 1) = ((i - 1 : Nat) : Int) := by unfold wrap64; omega
theorem rd_at (l : List Int) (i : Nat) (h : i < l.length) : rd l (i : Int) = l[i] := by simp [rd, h]
theorem rdT_at (l : List S29) (i : Nat) (h : i < l.length) : rd_T29 l (i : Int) = l[i] := by simp [rd_T29, h]
/-- Users, each above the one ahead, behind 'last'. -/
def ris (users : Int) : Int → List Int → Bool
  | _, [] => true
  | last, x :: t => !decide (x ≤ last) && !decide (x ≥ users) && ris users x t
theorem own_rising (users : Int) (l : List Int) (hl : l.length < 9223372036854775807) : ∀ (d k i : Nat) (last : Int), l.length - i = d → d < k → i ≤ l.length → rights_rising.l0 k users last l (l.length : Int) (i : Int) = some (ris users last (l.drop i)) := by
  intro d
  induction d with
  | zero =>
    intro k i last hd hk hi
    obtain ⟨k, rfl⟩ : ∃ m, k = m + 1 := ⟨k - 1, by omega⟩
    simp only [rights_rising.l0]
    rw [if_neg (by omega), List.drop_eq_nil_of_le (by omega)]
    rfl
  | succ d ih =>
    intro k i last hd hk hi
    obtain ⟨k, rfl⟩ : ∃ m, k = m + 1 := ⟨k - 1, by omega⟩
    have hlt : i < l.length := by omega
    simp only [rights_rising.l0]
    rw [if_pos (by omega), if_pos (by omega), if_pos (by omega), rd_at l i hlt, List.drop_eq_getElem_cons hlt, ris]
    by_cases h1 : l[i] ≤ last
    · rw [if_pos h1]; simp [h1]
    · rw [if_neg h1]
      by_cases h2 : l[i] ≥ users
      · rw [if_pos h2]; simp [h2]
      · rw [if_neg h2, up i (by omega), ih k (i + 1) l[i] (by omega) (by omega) (by omega)]
        simp [h1, h2]
theorem ref_rising (users : Int) (l : List Int) (hl : l.length < 9223372036854775807) : ∀ (d k i : Nat) (last : Int), l.length - i = d → d < k → i ≤ l.length → -1 ≤ last → (i = 0 → last = -1) → (∀ _h : 0 < i, ∀ h' : i - 1 < l.length, last = l[i - 1]) →
    chancelref03_rising.l0 k l users (i : Int) = some (ris users last (l.drop i)) := by
  intro d
  induction d with
  | zero =>
    intro k i last hd hk hi _ _ _
    obtain ⟨k, rfl⟩ : ∃ m, k = m + 1 := ⟨k - 1, by omega⟩
    simp only [chancelref03_rising.l0]
    rw [if_neg (by omega), List.drop_eq_nil_of_le (by omega)]
    rfl
  | succ d ih =>
    intro k i last hd hk hi hm h0 h1
    obtain ⟨k, rfl⟩ : ∃ m, k = m + 1 := ⟨k - 1, by omega⟩
    have hlt : i < l.length := by omega
    simp only [chancelref03_rising.l0]
    rw [if_pos (by omega), if_pos (by omega), rd_at l i hlt, List.drop_eq_getElem_cons hlt, ris]
    have next : ¬ l[i] < 0 → ¬ l[i] ≥ users → ¬ l[i] ≤ last → chancelref03_rising.l0 k l users ((i + 1 : Nat) : Int) = some (!decide (l[i] ≤ last) && !decide (l[i] ≥ users) && ris users l[i] (l.drop (i + 1))) := by
      intro n1 n2 n3
      rw [ih k (i + 1) l[i] (by omega) (by omega) (by omega) (by omega) (by omega) (fun _ _ => rfl)]
      simp [n2, n3]
    by_cases hneg : l[i] < 0
    · rw [if_pos hneg]
      have : l[i] ≤ last := by omega
      simp [this]
    · rw [if_neg hneg]
      by_cases h2 : l[i] ≥ users
      · rw [if_pos h2]; simp [h2]
      · rw [if_neg h2, up i (by omega)]
        by_cases hi0 : i = 0
        · have hl0 := h0 hi0
          rw [if_neg (by omega)]
          exact next hneg h2 (by omega)
        · have hlast := h1 (by omega) (by omega)
          rw [if_pos (by omega), down i (by omega) (by omega), if_pos (by omega), if_pos (by omega), rd_at l (i - 1) (by omega), ← hlast]
          by_cases h3 : l[i] ≤ last
          · rw [if_pos h3]; simp [h3]
          · rw [if_neg h3]
            exact next hneg h2 h3
theorem own_ris (users : Int) (l : List Int) (hl : l.length < 9223372036854775807) (k : Nat) (hk : l.length < k) : rights_rising.f k l users = some (ris users (-1) l) := by
  have := own_rising users l hl l.length k 0 (-1) (by omega) hk (by omega)
  simpa [rights_rising.f] using this
theorem ref_ris (users : Int) (l : List Int) (hl : l.length < 9223372036854775807) (k : Nat) (hk : l.length < k) : chancelref03_rising.f k l users = some (ris users (-1) l) := by
  have := ref_rising users l hl l.length k 0 (-1) (by omega) hk (by omega) (by omega) (fun _ => rfl) (fun h => absurd h (by omega))
  simpa [chancelref03_rising.f] using this
/-- Is a label right at its place? -/
def labOk (users : Int) (i : Int) (x : S29) : Bool := !decide (x.f0 < -1) && !decide (x.f0 ≥ i) && !decide (x.f1 < 0) && !decide (x.f1 ≥ users) && ris users (-1) x.f2 && ris users (-1) x.f3
def labsOk (users : Int) : Nat → List S29 → Bool
  | _, [] => true
  | i, x :: t => labOk users i x && labsOk users (i + 1) t
theorem own_loop (users : Int) (l : List S29) (hl : l.length ≤ 12) (hs : ∀ x ∈ l, x.f2.length ≤ 100 ∧ x.f3.length ≤ 100) : ∀ (d k i : Nat), l.length - i = d → d + 102 < k → i ≤ l.length → rights_Right.l0 k users l (l.length : Int) (i : Int) = some (labsOk users i (l.drop i)) := by
  intro d
  induction d with
  | zero =>
    intro k i hd hk hi
    obtain ⟨k, rfl⟩ : ∃ m, k = m + 1 := ⟨k - 1, by omega⟩
    simp only [rights_Right.l0]
    rw [if_neg (by omega), List.drop_eq_nil_of_le (by omega)]
    rfl
  | succ d ih =>
    intro k i hd hk hi
    obtain ⟨k, rfl⟩ : ∃ m, k = m + 1 := ⟨k - 1, by omega⟩
    have hlt : i < l.length := by omega
    obtain ⟨s2, s3⟩ := hs l[i] (List.getElem_mem _)
    simp only [rights_Right.l0]
    rw [if_pos (by omega), if_pos (by omega), if_pos (by omega), rdT_at l i hlt, List.drop_eq_getElem_cons hlt, labsOk, labOk]
    by_cases h1 : l[i].f0 < -1
    · rw [if_pos h1]; simp [h1]
    rw [if_neg h1]
    by_cases h2 : l[i].f0 ≥ (i : Int)
    · rw [if_pos h2]; simp [h2]
    rw [if_neg h2]
    by_cases h3 : l[i].f1 < 0
    · rw [if_pos h3]; simp [h3]
    rw [if_neg h3]
    by_cases h4 : l[i].f1 ≥ users
    · rw [if_pos h4]; simp [h4]
    rw [if_neg h4, own_ris users _ (by omega) k (by omega), own_ris users _ (by omega) k (by omega), up i (by omega), ih k (i + 1) (by omega) (by omega) (by omega)]
    simp only [Option.bind_some]
    cases ris users (-1) l[i].f2 <;> cases ris users (-1) l[i].f3 <;> simp [h1, h2, h3, h4]
theorem ref_loop (users : Int) (l : List S29) (hl : l.length ≤ 12) (hs : ∀ x ∈ l, x.f2.length ≤ 100 ∧ x.f3.length ≤ 100) : ∀ (d k i : Nat), l.length - i = d → d + 102 < k → i ≤ l.length → chancelref03_Right.l0 k l users (i : Int) = some (labsOk users i (l.drop i)) := by
  intro d
  induction d with
  | zero =>
    intro k i hd hk hi
    obtain ⟨k, rfl⟩ : ∃ m, k = m + 1 := ⟨k - 1, by omega⟩
    simp only [chancelref03_Right.l0]
    rw [if_neg (by omega), List.drop_eq_nil_of_le (by omega)]
    rfl
  | succ d ih =>
    intro k i hd hk hi
    obtain ⟨k, rfl⟩ : ∃ m, k = m + 1 := ⟨k - 1, by omega⟩
    have hlt : i < l.length := by omega
    obtain ⟨s2, s3⟩ := hs l[i] (List.getElem_mem _)
    simp only [chancelref03_Right.l0]
    rw [if_pos (by omega), if_pos (by omega), rdT_at l i hlt, List.drop_eq_getElem_cons hlt, labsOk, labOk]
    by_cases h1 : l[i].f0 < -1
    · rw [if_pos h1]; simp [h1]
    rw [if_neg h1]
    by_cases h2 : l[i].f0 ≥ (i : Int)
    · rw [if_pos h2]; simp [h2]
    rw [if_neg h2]
    by_cases h3 : l[i].f1 < 0
    · rw [if_pos h3]; simp [h3]
    rw [if_neg h3]
    by_cases h4 : l[i].f1 ≥ users
    · rw [if_pos h4]; simp [h4]
    rw [if_neg h4, ref_ris users _ (by omega) k (by omega), ref_ris users _ (by omega) k (by omega), up i (by omega), ih k (i + 1) (by omega) (by omega) (by omega)]
    simp only [Option.bind_some]
    cases ris users (-1) l[i].f2 <;> cases ris users (-1) l[i].f3 <;> simp [h1, h2, h3, h4]
/-- Labels for so many users? -/
def right (users : Int) (l : List S29) : Bool := decide (1 ≤ l.length) && decide (l.length ≤ 12) && labsOk users 0 l
theorem own_right (users : Int) (l : List S29) (hs : ∀ x ∈ l, x.f2.length ≤ 100 ∧ x.f3.length ≤ 100) (k : Nat) (hk : 116 < k) : rights_Right.f k l users = some (right users l) := by
  unfold rights_Right.f right
  obtain ⟨k, rfl⟩ : ∃ m, k = m + 1 := ⟨k - 1, by omega⟩
  by_cases h1 : (l.length : Int) < 1
  · rw [if_pos h1]
    have : ¬ 1 ≤ l.length := by omega
    simp [rights_Right.j0, this]
  · rw [if_neg h1]
    have h1' : 1 ≤ l.length := by omega
    by_cases h2 : (l.length : Int) > 12
    · have : ¬ l.length ≤ 12 := by omega
      simp [rights_Right.j0, h2, this]
    · have h2' : l.length ≤ 12 := by omega
      have := own_loop users l h2' hs l.length k 0 (by omega) (by omega) (by omega)
      simp [rights_Right.j0, h2, h1', h2']
      simpa using this
theorem ref_right (users : Int) (l : List S29) (hs : ∀ x ∈ l, x.f2.length ≤ 100 ∧ x.f3.length ≤ 100) (k : Nat) (hk : 116 < k) : chancelref03_Right.f k l users = some (right users l) := by
  unfold chancelref03_Right.f right
  obtain ⟨k, rfl⟩ : ∃ m, k = m + 1 := ⟨k - 1, by omega⟩
  by_cases h1 : (l.length : Int) < 1
  · rw [if_pos h1]
    have : ¬ 1 ≤ l.length := by omega
    simp [chancelref03_Right.j0, this]
  · rw [if_neg h1]
    have h1' : 1 ≤ l.length := by omega
    by_cases h2 : (l.length : Int) > 12
    · have : ¬ l.length ≤ 12 := by omega
      simp [chancelref03_Right.j0, h2, this]
    · have h2' : l.length ≤ 12 := by omega
      have := ref_loop users l h2' hs l.length k 0 (by omega) (by omega) (by omega)
      simp [chancelref03_Right.j0, h2, h1', h2']
      simpa using this
/-- What 'Small' says. -/
theorem small_loop (m : List S29) (l : List S29) (hl : l.length ≤ 9223372036854775807) : ∀ (d k i : Nat), l.length - i = d → d < k → i ≤ l.length →
    ∃ b, chancellaw03_Small.l0 k m l (l.length : Int) (i : Int) = some b ∧ (b = true → m.length ≤ 100 ∧ ∀ x ∈ l.drop i, x.f2.length ≤ 100 ∧ x.f3.length ≤ 100) := by
  intro d
  induction d with
  | zero =>
    intro k i hd hk hi
    obtain ⟨k, rfl⟩ : ∃ m, k = m + 1 := ⟨k - 1, by omega⟩
    refine ⟨decide ((m.length : Int) ≤ 100), by simp only [chancellaw03_Small.l0]; rw [if_neg (by omega)], fun h => ⟨by have := of_decide_eq_true h; omega, ?_⟩⟩
    rw [List.drop_eq_nil_of_le (by omega)]
    intro x hx; cases hx
  | succ d ih =>
    intro k i hd hk hi
    obtain ⟨k, rfl⟩ : ∃ m, k = m + 1 := ⟨k - 1, by omega⟩
    have hlt : i < l.length := by omega
    simp only [chancellaw03_Small.l0]
    rw [if_pos (by omega), if_pos (by omega), if_pos (by omega), rdT_at l i hlt]
    by_cases h1 : (l[i].f2.length : Int) > 100
    · exact ⟨false, by rw [if_pos h1], fun h => by cases h⟩
    rw [if_neg h1]
    by_cases h2 : (l[i].f3.length : Int) > 100
    · exact ⟨false, by rw [if_pos h2], fun h => by cases h⟩
    rw [if_neg h2, up i (by omega)]
    obtain ⟨b, hb, hc⟩ := ih k (i + 1) (by omega) (by omega) (by omega)
    refine ⟨b, hb, fun h => ⟨(hc h).1, fun x hx => ?_⟩⟩
    rw [List.drop_eq_getElem_cons hlt] at hx
    rcases List.mem_cons.1 hx with rfl | hx
    · omega
    · exact (hc h).2 x hx
theorem small_tells (l : List S29) (hl : l.length ≤ 9223372036854775807) (k : Nat) (hk : l.length < k) : ∃ b, chancellaw03_Small.f k l = some b ∧ (b = true → l.length ≤ 100 ∧ ∀ x ∈ l, x.f2.length ≤ 100 ∧ x.f3.length ≤ 100) := by
  obtain ⟨b, h1, h2⟩ := small_loop l l hl l.length k 0 (by omega) hk (by omega)
  exact ⟨b, h1, by simpa using h2⟩
theorem RightsRight : chancellaw03_RightsRight.Pure := by
  intro l users hl hu
  have hlen : l.length ≤ 9223372036854775807 := hl.1
  refine ⟨l.length + 200, ?_⟩
  unfold chancellaw03_RightsRight.f chancellaw03_two.f
  simp only [Option.bind_some]
  rw [own_right 3 _ (by decide) _ (by omega), own_right 2 _ (by decide) _ (by omega)]
  have e3 : right 3 [(⟨(-1), 0, (([0] : List Int)), (([0] : List Int))⟩ : S29), (⟨0, 0, (([0, 2] : List Int)), (([0] : List Int))⟩ : S29)] = true := by decide
  have e2 : right 2 [(⟨(-1), 0, (([0] : List Int)), (([0] : List Int))⟩ : S29), (⟨0, 0, (([0, 2] : List Int)), (([0] : List Int))⟩ : S29)] = false := by decide
  rw [e3, e2]
  simp only [Option.bind_some, if_true]
  obtain ⟨k, hk⟩ : ∃ m, l.length + 200 = m + 1 := ⟨l.length + 199, by omega⟩
  rw [hk]
  simp only [chancellaw03_RightsRight.j0, Bool.false_eq_true, if_false]
  obtain ⟨b, hb, hs⟩ := small_tells l hlen k (by omega)
  rw [hb]
  simp only [Option.bind_some]
  cases b with
  | false => rfl
  | true =>
    rw [if_pos rfl, own_right users l (hs rfl).2 k (by omega), ref_right users l (hs rfl).2 k (by omega)]
    simp

end Go.Proofs.Ytgjlnjjgpddcnaa.Pure
