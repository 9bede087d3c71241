/- What the acts do to a disk, plate by plate: what is firm, what was laid since, what was laid last. Plain. -/
import Derived.Test.YtfjbpjndjcinhaaDoorOne
namespace Go.Proofs.YtfjbpjndjcinhaaDoor.Dk
open Go Go.RowKit Go.Proofs.YtfjbpjndjcinhaaDoor.Mp
set_option linter.unusedVariables false
/-- What is firm on plate k. -/
def fi (s : St) (k : Nat) : ByteArray := full (s.firm.getD k ⟨#[]⟩)
/-- What was laid on plate k since. -/
def lo (s : St) (k : Nat) : List ByteArray := (Mp.get s.loose (k : Int)).getD []
theorem get_cons {α : Type} (q : Int × α) (r : List (Int × α)) (i : Int) : Mp.get (q :: r) i = if q.1 = i then some q.2 else Mp.get r i := by
  unfold Mp.get
  by_cases h : q.1 = i <;> simp [h]
theorem get_none_of {α : Type} {r : List (Int × α)} {i : Int} (h : ∀ p ∈ r, p.1 ≠ i) : Mp.get r i = none := by
  unfold Mp.get
  rw [List.find?_eq_none.2 (fun p hp => by simpa using h p hp)]
  rfl
theorem getD_set {f : List ByteArray} {i k : Nat} {v : ByteArray} (hk : k < f.length) : (f.set i v).getD k ⟨#[]⟩ = if i = k then v else f.getD k ⟨#[]⟩ := by
  rw [List.getD_eq_getElem?_getD, List.getElem?_set, List.getD_eq_getElem?_getD]
  by_cases h : i = k
  · subst h
    simp [hk]
  · simp [h]
theorem now_eq (s : St) (k : Nat) : s.now (k : Int) = match Mp.get s.loose (k : Int) with | some l => lastOf l | none => fi s k := by
  unfold St.now fi
  rw [Int.toNat_natCast]
  cases Mp.get s.loose (k : Int) <;> rfl
theorem now_mem {s : St} (h : s.Ok) (k : Nat) : s.now (k : Int) = fi s k ∨ s.now (k : Int) ∈ lo s k := by
  rw [now_eq]
  unfold lo
  cases hg : Mp.get s.loose (k : Int) with
  | none => exact .inl rfl
  | some l => exact .inr (lastOf_mem (h.loose _ (get_mem hg)).2.2.1)
theorem setAll_getD : ∀ (L : List (Int × List ByteArray)) (f : List ByteArray) (k : Nat), Rising L → (∀ q ∈ L, 0 ≤ q.1) → k < f.length → (setAll L f).getD k ⟨#[]⟩ = match Mp.get L (k : Int) with | some l => lastOf l | none => f.getD k ⟨#[]⟩
  | [], f, k, _, _, _ => rfl
  | q :: r, f, k, hR, h0, hk => by
    obtain ⟨hq, hr⟩ := List.pairwise_cons.1 hR
    have h00 := h0 q (by simp)
    rw [setAll, setAll_getD r _ k hr (fun p hp => h0 p (by simp [hp])) (by simpa using hk), get_cons]
    by_cases e : q.1 = (k : Int)
    · rw [if_pos e, get_none_of (fun p hp => by have := hq p hp; omega)]
      show (f.set q.1.toNat (lastOf q.2)).getD k ⟨#[]⟩ = lastOf q.2
      rw [getD_set hk, if_pos (by omega)]
    · rw [if_neg e]
      cases Mp.get r (k : Int) with
      | some l => rfl
      | none =>
        show (f.set q.1.toNat (lastOf q.2)).getD k ⟨#[]⟩ = f.getD k ⟨#[]⟩
        rw [getD_set hk, if_neg (by omega)]
theorem pickOf_or (l : List ByteArray) (v : Int) (old : ByteArray) : pickOf l v old = old ∨ pickOf l v old ∈ l := by
  unfold pickOf
  by_cases h : 0 < v % ((l.length : Int) + 1)
  · rw [if_pos h]
    have h3 := Int.emod_lt_of_pos v (show 0 < ((l.length : Int) + 1) by omega)
    refine .inr ?_
    rw [List.getD_eq_getElem?_getD, List.getElem?_eq_getElem (by omega)]
    exact List.getElem_mem _
  · rw [if_neg h]
    exact .inl rfl
theorem fallAll_or : ∀ (L : List (Int × List ByteArray)) (pick : List Int) (f : List ByteArray) (k : Nat), Rising L → (∀ q ∈ L, 0 ≤ q.1) → k < f.length → (fallAll L pick f).getD k ⟨#[]⟩ = f.getD k ⟨#[]⟩ ∨ ∃ l, Mp.get L (k : Int) = some l ∧ (fallAll L pick f).getD k ⟨#[]⟩ ∈ l
  | [], _, f, k, _, _, _ => .inl (by simp [fallAll])
  | _ :: _, [], f, k, _, _, _ => .inl (by simp [fallAll])
  | q :: r, v :: p, f, k, hR, h0, hk => by
    obtain ⟨hq, hr⟩ := List.pairwise_cons.1 hR
    have h00 := h0 q (by simp)
    have ih := fallAll_or r p (f.set q.1.toNat (pickOf q.2 v (f.getD q.1.toNat ⟨#[]⟩))) k hr (fun p hp => h0 p (by simp [hp])) (by simpa using hk)
    rw [fallAll, get_cons]
    by_cases e : q.1 = (k : Int)
    · rw [if_pos e]
      rw [get_none_of (fun p hp => by have := hq p hp; omega), getD_set hk, if_pos (by omega)] at ih
      rcases ih with ih | ⟨l, hl, _⟩
      · rw [ih, show q.1.toNat = k by omega]
        rcases pickOf_or q.2 v (f.getD k ⟨#[]⟩) with h | h
        · exact .inl h
        · exact .inr ⟨_, rfl, h⟩
      · cases hl
    · rw [if_neg e]
      rw [getD_set hk, if_neg (by omega)] at ih
      exact ih
section
variable {s : St}
theorem lay_true (h : s.Ok) {i : Int} {x : ByteArray} (ht : (s.lay i x).2 = true) : ∃ k : Nat, i = (k : Int) ∧ k < s.firm.length ∧ x.size ≤ 128 ∧ (s.lay i x).1.firm = s.firm ∧ (∀ j, lo (s.lay i x).1 j = if j = k then lo s k ++ [full x] else lo s j) ∧ (∀ j : Nat, (s.lay i x).1.now (j : Int) = if j = k then full x else s.now (j : Int)) ∧ (s.lay i x).1.get i = (full x, true) := by
  unfold St.lay at ht ⊢
  by_cases h1 : (s.there i && decide (x.size ≤ 128)) = true
  case neg => rw [if_neg h1] at ht; cases ht
  case pos =>
    rw [if_pos h1] at ht ⊢
    by_cases h2 : s.step.2 = true
    case neg => rw [if_neg h2] at ht; cases ht
    case pos =>
      rw [if_pos h2]
      rw [Bool.and_eq_true, decide_eq_true_eq] at h1
      obtain ⟨hoff, h0, hlt⟩ := there_iff h1.1
      obtain ⟨k, rfl⟩ := Int.eq_ofNat_of_zero_le h0
      have e2 : s.step.1 = { s with steps := max (s.steps - 1) (-1) } := by
        unfold St.step at h2 ⊢
        split at h2
        · cases h2
        · rename_i hh
          rw [if_neg hh]
      have hN : ∀ j : Nat, St.now { s.step.1 with loose := put s.loose (k : Int) ((Mp.get s.loose (k : Int)).getD [] ++ [full x]) } (j : Int) = if j = k then full x else s.now (j : Int) := fun j => by
        rw [now_eq, now_eq]
        by_cases hj : j = k
        · subst hj
          rw [if_pos rfl]
          show (match Mp.get (put s.loose _ _) _ with | some l => lastOf l | none => _) = _
          rw [get_put_same h.rising]
          show lastOf _ = _
          unfold lastOf
          simp
        · rw [if_neg hj]
          show (match Mp.get (put s.loose _ _) _ with | some l => lastOf l | none => _) = _
          rw [get_put_other h.rising (by omega)]
          unfold fi
          rw [e2]
      refine ⟨k, rfl, by omega, h1.2, by rw [e2], fun j => ?_, hN, ?_⟩
      · unfold lo
        show (Mp.get (put s.loose _ _) _).getD [] = _
        by_cases hj : j = k
        · subst hj
          rw [if_pos rfl, get_put_same h.rising]
          rfl
        · rw [if_neg hj, get_put_other h.rising (by omega)]
      · unfold St.get
        have ht2 : St.there { s.step.1 with loose := put s.loose (k : Int) ((Mp.get s.loose (k : Int)).getD [] ++ [full x]) } (k : Int) = true := by
          have := h1.1
          rw [e2]
          exact this
        rw [if_pos ht2, hN k, if_pos rfl]
theorem lay_false {i : Int} {x : ByteArray} (ht : (s.lay i x).2 = false) : (s.lay i x).1.firm = s.firm ∧ (s.lay i x).1.loose = s.loose := by
  unfold St.lay at ht ⊢
  split at ht
  · split at ht
    · cases ht
    · rename_i h1 h2
      rw [if_pos h1, if_neg h2]
      exact ⟨(step_loose s).2, (step_loose s).1⟩
  · rename_i h1
    rw [if_neg h1]
    exact ⟨rfl, rfl⟩
theorem barrier_true (h : s.Ok) (ht : s.barrier.2 = true) : s.barrier.1.loose = [] ∧ s.barrier.1.firm.length = s.firm.length ∧ ∀ k, k < s.firm.length → fi s.barrier.1 k = s.now (k : Int) := by
  unfold St.barrier at ht ⊢
  split at ht
  · cases ht
  · rename_i h1
    rw [if_neg h1]
    split at ht
    · rename_i h2
      rw [if_pos h2]
      refine ⟨rfl, setAll_len _ _, fun k hk => ?_⟩
      rw [now_eq]
      show full ((setAll s.loose s.firm).getD k ⟨#[]⟩) = _
      rw [setAll_getD _ _ _ h.rising (fun q hq => (h.loose q hq).1) hk]
      cases hg : Mp.get s.loose (k : Int) with
      | none => rfl
      | some l =>
        have hl := h.loose _ (get_mem hg)
        exact full_full (hl.2.2.2 _ (lastOf_mem hl.2.2.1))
    · cases ht
theorem barrier_false (ht : s.barrier.2 = false) : s.barrier.1.firm = s.firm ∧ s.barrier.1.loose = s.loose := by
  unfold St.barrier at ht ⊢
  split at ht
  · rename_i h1
    rw [if_pos h1]
    exact ⟨rfl, rfl⟩
  · rename_i h1
    rw [if_neg h1]
    split at ht
    · cases ht
    · rename_i h2
      rw [if_neg h2]
      exact ⟨(step_loose s).2, (step_loose s).1⟩
theorem fall_fi (h : s.Ok) (pick : List Int) {k : Nat} (hk : k < s.firm.length) : fi (s.fall pick) k = fi s k ∨ fi (s.fall pick) k ∈ lo s k := by
  unfold fi lo
  show full ((fallAll s.loose pick s.firm).getD k ⟨#[]⟩) = _ ∨ full ((fallAll s.loose pick s.firm).getD k ⟨#[]⟩) ∈ _
  rcases fallAll_or s.loose pick s.firm k h.rising (fun q hq => (h.loose q hq).1) hk with e | ⟨l, hl, hm⟩
  · rw [e]
    exact .inl rfl
  · rw [hl]
    have hs := (h.loose _ (get_mem hl)).2.2.2 _ hm
    rw [full_full hs]
    exact .inr hm
theorem fall_none (k : Nat) : fi (s.fall []) k = fi s k := by
  unfold fi
  show full ((fallAll s.loose [] s.firm).getD k ⟨#[]⟩) = _
  cases s.loose <;> rfl
theorem fall_len (pick : List Int) : (s.fall pick).firm.length = s.firm.length := fallAll_len _ _ _
theorem fall_get (pick : List Int) {k : Nat} (hk : k < s.firm.length) : (s.fall pick).get (k : Int) = (fi (s.fall pick) k, true) := by
  have ht : (s.fall pick).there (k : Int) = true := by
    show (!false && (decide (0 ≤ (k : Int)) && decide ((k : Int) < ((fallAll s.loose pick s.firm).length : Int)))) = true
    rw [fallAll_len]
    simp
    omega
  unfold St.get
  rw [if_pos ht, now_eq]
  rfl
theorem fall_lo (pick : List Int) (k : Nat) : lo (s.fall pick) k = [] := rfl
theorem fall_now (pick : List Int) (k : Nat) : (s.fall pick).now (k : Int) = fi (s.fall pick) k := by rw [now_eq]; rfl
end
end Go.Proofs.YtfjbpjndjcinhaaDoor.Dk
