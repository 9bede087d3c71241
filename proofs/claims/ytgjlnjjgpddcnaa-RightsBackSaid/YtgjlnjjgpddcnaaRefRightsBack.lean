/- What the reference's Right says of labels (plain laws over the printed functions of the law RightsBack). -/
import Derived.Test.YtgjlnjjgpddcnaaARightsBackx
namespace Go.Proofs.Ytgjlnjjgpddcnaa.RefRightsBack
open Go.RowKit Go.Proofs.Ytgjlnjjgpddcnaa.ARightsBack Go.Proofs.YtgjlnjjgpddcnaaW.PrintWords Go.Proofs.YtgjlnjjgpddcnaaW.PrintLast

theorem up (i : Nat) (h : i < 9223372036854775807) : wrap64 ((i : Int) + 1) = ((i + 1 : Nat) : Int) := by unfold wrap64; omega
theorem down (i : Nat) (h : i < 9223372036854775807) (h0 : 0 < i) : wrap64 ((i : Int) - 1) = ((i - 1 : Nat) : Int) := by unfold wrap64; omega
theorem rd_at (l : List Int) (i : Nat) (h : i < l.length) : rd l (i : Int) = l[i] := by simp [rd, h]
theorem rdT_at (l : List S29) (i : Nat) (h : i < l.length) : rd_T29 l (i : Int) = l[i] := by simp [rd_T29, h]
/-- Users, each above the one ahead, behind 'last'. -/
def ris (users : Int) : Int → List Int → Bool
  | _, [] => true
  | last, x :: t => !decide (x ≤ last) && !decide (x ≥ users) && ris users x t
theorem ref_rising (users : Int) (l : List Int) (hl : l.length ≤ 9223372036854775807) : ∀ (d k i : Nat) (last : Int), l.length - i = d → d < k → i ≤ l.length → -1 ≤ last → (i = 0 → last = -1) → (∀ _h : 0 < i, ∀ h' : i - 1 < l.length, last = l[i - 1]) →
    chancelref03_rising.l0 k l users (i : Int) = some (ris users last (l.drop i)) := by
  intro d
  induction d with
  | zero =>
    intro k i last hd hk hi _ _ _
    obtain ⟨k, rfl⟩ : ∃ m, k = m + 1 := ⟨k - 1, by omega⟩
    simp only [chancelref03_rising.l0]
    rw [if_neg (by omega), List.drop_eq_nil_of_le (by omega)]
    rfl
  | succ d ih =>
    intro k i last hd hk hi hm h0 h1
    obtain ⟨k, rfl⟩ : ∃ m, k = m + 1 := ⟨k - 1, by omega⟩
    have hlt : i < l.length := by omega
    simp only [chancelref03_rising.l0]
    rw [if_pos (by omega), if_pos (by omega), rd_at l i hlt, List.drop_eq_getElem_cons hlt, ris]
    have next : ¬ l[i] < 0 → ¬ l[i] ≥ users → ¬ l[i] ≤ last → chancelref03_rising.l0 k l users ((i + 1 : Nat) : Int) = some (!decide (l[i] ≤ last) && !decide (l[i] ≥ users) && ris users l[i] (l.drop (i + 1))) := by
      intro n1 n2 n3
      rw [ih k (i + 1) l[i] (by omega) (by omega) (by omega) (by omega) (by omega) (fun _ _ => rfl)]
      simp [n2, n3]
    by_cases hneg : l[i] < 0
    · rw [if_pos hneg]
      have : l[i] ≤ last := by omega
      simp [this]
    · rw [if_neg hneg]
      by_cases h2 : l[i] ≥ users
      · rw [if_pos h2]; simp [h2]
      · rw [if_neg h2, up i (by omega)]
        by_cases hi0 : i = 0
        · have hl0 := h0 hi0
          rw [if_neg (by omega)]
          exact next hneg h2 (by omega)
        · have hlast := h1 (by omega) (by omega)
          rw [if_pos (by omega), down i (by omega) (by omega), if_pos (by omega), if_pos (by omega), rd_at l (i - 1) (by omega), ← hlast]
          by_cases h3 : l[i] ≤ last
          · rw [if_pos h3]; simp [h3]
          · rw [if_neg h3]
            exact next hneg h2 h3
theorem ref_ris (users : Int) (l : List Int) (hl : l.length ≤ 9223372036854775807) (k : Nat) (hk : l.length < k) : chancelref03_rising.f k l users = some (ris users (-1) l) := by
  have := ref_rising users l hl l.length k 0 (-1) (by omega) hk (by omega) (by omega) (fun _ => rfl) (fun h => absurd h (by omega))
  simpa [chancelref03_rising.f] using this
/-- Is a label right at its place? -/
def labOk (users : Int) (i : Int) (x : S29) : Bool := !decide (x.f0 < -1) && !decide (x.f0 ≥ i) && !decide (x.f1 < 0) && !decide (x.f1 ≥ users) && ris users (-1) x.f2 && ris users (-1) x.f3
def labsOk (users : Int) : Nat → List S29 → Bool
  | _, [] => true
  | i, x :: t => labOk users i x && labsOk users (i + 1) t
theorem ref_loop (B : Nat) (hB : B ≤ 9223372036854775807) (users : Int) (l : List S29) (hl : l.length ≤ 12) (hs : ∀ x ∈ l, x.f2.length ≤ B ∧ x.f3.length ≤ B) : ∀ (d k i : Nat), l.length - i = d → d + B + 2 < k → i ≤ l.length → chancelref03_Right.l0 k l users (i : Int) = some (labsOk users i (l.drop i)) := by
  intro d
  induction d with
  | zero =>
    intro k i hd hk hi
    obtain ⟨k, rfl⟩ : ∃ m, k = m + 1 := ⟨k - 1, by omega⟩
    simp only [chancelref03_Right.l0]
    rw [if_neg (by omega), List.drop_eq_nil_of_le (by omega)]
    rfl
  | succ d ih =>
    intro k i hd hk hi
    obtain ⟨k, rfl⟩ : ∃ m, k = m + 1 := ⟨k - 1, by omega⟩
    have hlt : i < l.length := by omega
    obtain ⟨s2, s3⟩ := hs l[i] (List.getElem_mem _)
    simp only [chancelref03_Right.l0]
    rw [if_pos (by omega), if_pos (by omega), rdT_at l i hlt, List.drop_eq_getElem_cons hlt, labsOk, labOk]
    by_cases h1 : l[i].f0 < -1
    · rw [if_pos h1]; simp [h1]
    rw [if_neg h1]
    by_cases h2 : l[i].f0 ≥ (i : Int)
    · rw [if_pos h2]; simp [h2]
    rw [if_neg h2]
    by_cases h3 : l[i].f1 < 0
    · rw [if_pos h3]; simp [h3]
    rw [if_neg h3]
    by_cases h4 : l[i].f1 ≥ users
    · rw [if_pos h4]; simp [h4]
    rw [if_neg h4, ref_ris users _ (by omega) k (by omega), ref_ris users _ (by omega) k (by omega), up i (by omega), ih k (i + 1) (by omega) (by omega) (by omega)]
    simp only [Option.bind_some]
    cases ris users (-1) l[i].f2 <;> cases ris users (-1) l[i].f3 <;> simp [h1, h2, h3, h4]
/-- Labels for so many users? -/
def right (users : Int) (l : List S29) : Bool := decide (1 ≤ l.length) && decide (l.length ≤ 12) && labsOk users 0 l
theorem ref_right (B : Nat) (hB : B ≤ 9223372036854775807) (users : Int) (l : List S29) (hs : ∀ x ∈ l, x.f2.length ≤ B ∧ x.f3.length ≤ B) (k : Nat) (hk : B + 16 < k) : chancelref03_Right.f k l users = some (right users l) := by
  unfold chancelref03_Right.f right
  obtain ⟨k, rfl⟩ : ∃ m, k = m + 1 := ⟨k - 1, by omega⟩
  by_cases h1 : (l.length : Int) < 1
  · rw [if_pos h1]
    have : ¬ 1 ≤ l.length := by omega
    simp [chancelref03_Right.j0, this]
  · rw [if_neg h1]
    have h1' : 1 ≤ l.length := by omega
    by_cases h2 : (l.length : Int) > 12
    · have : ¬ l.length ≤ 12 := by omega
      simp [chancelref03_Right.j0, h2, this]
    · have h2' : l.length ≤ 12 := by omega
      have := ref_loop B hB users l h2' hs l.length k 0 (by omega) (by omega) (by omega)
      simp [chancelref03_Right.j0, h2, h1', h2']
      simpa using this
theorem labs_at (users : Int) : ∀ (l : List S29) (j i : Nat) (h : i < l.length), labsOk users j l = true → labOk users ((j + i : Nat) : Int) l[i] = true
  | [], _, _, h, _ => by simp at h
  | x :: t, j, 0, _, hx => by
    rw [labsOk, Bool.and_eq_true] at hx
    exact hx.1
  | x :: t, j, i + 1, h, hx => by
    rw [labsOk, Bool.and_eq_true] at hx
    have := labs_at users t (j + 1) i (by simpa using h) hx.2
    rw [show j + (i + 1) = j + 1 + i by omega]
    exact this
/-- Of right labels: what each one is. -/
theorem right_at {users : Int} {l : List S29} (h : right users l = true) : 1 ≤ l.length ∧ l.length ≤ 12 ∧ ∀ (i : Nat) (hi : i < l.length), -1 ≤ l[i].f0 ∧ l[i].f0 < (i : Int) ∧ 0 ≤ l[i].f1 ∧ l[i].f1 < users ∧ ris users (-1) l[i].f2 = true ∧ ris users (-1) l[i].f3 = true := by
  unfold right at h
  simp only [Bool.and_eq_true, decide_eq_true_eq] at h
  refine ⟨h.1.1, h.1.2, fun i hi => ?_⟩
  have := labs_at users l 0 i hi h.2
  rw [Nat.zero_add] at this
  unfold labOk at this
  simp only [Bool.and_eq_true, Bool.not_eq_true', decide_eq_false_iff_not] at this
  obtain ⟨⟨⟨⟨⟨a, b⟩, c⟩, d⟩, e⟩, f⟩ := this
  exact ⟨by omega, by omega, by omega, by omega, e, f⟩
/-- A bound on the lists inside. -/
theorem bound : ∀ l : List S29, (∀ x ∈ l, x.f2.length ≤ 9223372036854775807 ∧ x.f3.length ≤ 9223372036854775807) → ∃ B : Nat, B ≤ 9223372036854775807 ∧ ∀ x ∈ l, x.f2.length ≤ B ∧ x.f3.length ≤ B
  | [], _ => ⟨0, by omega, fun x hx => by cases hx⟩
  | x :: t, h => by
    obtain ⟨B, h1, h2⟩ := bound t (fun y hy => h y (List.mem_cons_of_mem _ hy))
    have h3 := h x List.mem_cons_self
    refine ⟨max B (max x.f2.length x.f3.length), by omega, fun y hy => ?_⟩
    rcases List.mem_cons.1 hy with rfl | hy
    · omega
    · have := h2 y hy; omega

end Go.Proofs.Ytgjlnjjgpddcnaa.RefRightsBack
