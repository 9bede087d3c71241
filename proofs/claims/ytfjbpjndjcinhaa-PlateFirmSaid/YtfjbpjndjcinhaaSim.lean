/- The disk and the document's disk stand alike: what each call does to both. Plain. -/
import Derived.Test.YtfjbpjndjcinhaaRk6
namespace Go.Proofs.Ytfjbpjndjcinhaa.Dk
open Go Go.RowKit Go.Proofs.Ytfjbpjndjcinhaa.Mp
set_option linter.unusedVariables false
theorem full_full {x : ByteArray} (h : x.size = 128) : full x = x := by
  unfold full
  rw [h]
  show x ++ zeros 0 = x
  have : zeros 0 = ByteArray.empty := rfl
  rw [this, ByteArray.append_empty]
/-- The firm contents tell the same. -/
def SimF (n : Nat) (f : List ByteArray) (F : List (Int × ByteArray)) : Prop := f.length = n ∧ Rising F ∧ ∀ i : Nat, i < n → (Mp.get F (i : Int)).getD (full ⟨#[]⟩) = full (f.getD i ⟨#[]⟩)
structure Sim (s : St) (r : RSt) : Prop where
  n : r.n = s.firm.length
  left : r.left = s.steps
  off : r.off = s.off
  laid : r.laid = s.loose
  firm : SimF s.firm.length s.firm r.firm
theorem sim_new (n : Nat) : Sim (St.new n) (RSt.new n) := by
  have hl : (St.new n).firm.length = n := by simp [St.new]
  refine ⟨by rw [hl]; rfl, rfl, rfl, rfl, rfl, rising_nil, fun i hi => ?_⟩
  have : (St.new n).firm.getD i ⟨#[]⟩ = ⟨#[]⟩ := by
    rw [List.getD_eq_getElem?_getD, List.getElem?_eq_getElem hi]
    simp [St.new]
  rw [this]
  rfl
theorem sim_set {n : Nat} {f : List ByteArray} {F : List (Int × ByteArray)} (h : SimF n f F) {i : Int} (h0 : 0 ≤ i) (h1 : i < n) {x : ByteArray} (hx : x.size = 128) : SimF n (f.set i.toNat x) (put F i x) := by
  obtain ⟨h2, h3, h4⟩ := h
  refine ⟨by simp [h2], rising_put h3 _ _, fun j hj => ?_⟩
  by_cases hji : (j : Int) = i
  · rw [hji, get_put_same h3, List.getD_eq_getElem?_getD, show j = i.toNat by omega, List.getElem?_set_self (by omega)]
    show x = full x
    rw [full_full hx]
  · rw [get_put_other h3 hji, h4 j hj, List.getD_eq_getElem?_getD, List.getD_eq_getElem?_getD, List.getElem?_set_ne (by omega)]
theorem sim_same {n : Nat} {f : List ByteArray} {F : List (Int × ByteArray)} (h : SimF n f F) (i : Nat) : SimF n (f.set i (f.getD i ⟨#[]⟩)) F := by
  have e : f.set i (f.getD i ⟨#[]⟩) = f := by
    apply List.ext_getElem?
    intro j
    rw [List.getElem?_set]
    split
    · rename_i hj
      subst hj
      split
      · rename_i hlt
        rw [List.getD_eq_getElem?_getD, List.getElem?_eq_getElem hlt]
        rfl
      · rename_i hlt
        rw [List.getElem?_eq_none (by omega)]
    · rfl
  rw [e]
  exact h
theorem sim_putAll {n : Nat} : ∀ (L : List (Int × List ByteArray)) (f : List ByteArray) (F : List (Int × ByteArray)), SimF n f F → (∀ q ∈ L, 0 ≤ q.1 ∧ q.1 < n ∧ q.2 ≠ [] ∧ ∀ x ∈ q.2, x.size = 128) → SimF n (setAll L f) (putAll L F)
  | [], f, F, h, _ => h
  | q :: r, f, F, h, hL => by
    have hq := hL q (by simp)
    exact sim_putAll r _ _ (sim_set h hq.1 hq.2.1 (hq.2.2.2 _ (lastOf_mem hq.2.2.1))) (fun p hp => hL p (by simp [hp]))
theorem sim_fallAll {n : Nat} : ∀ (L : List (Int × List ByteArray)) (pick : List Int) (f : List ByteArray) (F : List (Int × ByteArray)), SimF n f F → (∀ q ∈ L, 0 ≤ q.1 ∧ q.1 < n ∧ q.2 ≠ [] ∧ ∀ x ∈ q.2, x.size = 128) → SimF n (fallAll L pick f) (rfallAll L pick F)
  | [], _, f, F, h, _ => by simpa [fallAll, rfallAll] using h
  | _ :: _, [], f, F, h, _ => by simpa [fallAll, rfallAll] using h
  | q :: r, v :: p, f, F, h, hL => by
    have hq := hL q (by simp)
    rw [fallAll, rfallAll]
    refine sim_fallAll r p _ _ ?_ (fun y hy => hL y (by simp [hy]))
    unfold pickOf putPick
    by_cases hv : 0 < v % ((q.2.length : Int) + 1)
    · rw [if_pos hv, if_pos hv]
      have h3 := Int.emod_lt_of_pos v (show 0 < ((q.2.length : Int) + 1) by omega)
      refine sim_set h hq.1 hq.2.1 (hq.2.2.2 _ ?_)
      rw [List.getD_eq_getElem?_getD, List.getElem?_eq_getElem (by omega)]
      exact List.getElem_mem _
    · rw [if_neg hv, if_neg hv]
      exact sim_same h _
section
variable {s : St} {r : RSt}
theorem Sim.in_ (h : Sim s r) (i : Int) : r.in_ i = s.there i := by
  unfold RSt.in_ St.there
  rw [h.off, h.n]
theorem Sim.get (h : Sim s r) (i : Int) : r.get i = s.get i := by
  unfold RSt.get St.get
  rw [h.in_]
  split
  · rename_i ht
    obtain ⟨_, h0, h1⟩ := there_iff ht
    congr 1
    unfold RSt.now St.now
    rw [h.laid]
    cases Mp.get s.loose i with
    | some l => rfl
    | none =>
      show r.firmAt i = _
      unfold RSt.firmAt
      have := h.firm.2.2 i.toNat (by omega)
      rw [Int.toNat_of_nonneg h0] at this
      exact this
  · rfl
theorem Sim.step (h : Sim s r) (hl : -1 ≤ s.steps) : r.step.2 = s.step.2 ∧ Sim s.step.1 r.step.1 := by
  unfold RSt.step St.step
  rw [h.left]
  by_cases h0 : s.steps = 0
  · rw [if_pos h0, if_pos h0]
    exact ⟨rfl, h.n, rfl, rfl, h.laid, h.firm⟩
  · rw [if_neg h0, if_neg h0]
    refine ⟨rfl, h.n, ?_, h.off, h.laid, h.firm⟩
    show (if 0 < s.steps then s.steps - 1 else s.steps) = max (s.steps - 1) (-1)
    split <;> omega
theorem step_loose (s : St) : s.step.1.loose = s.loose ∧ s.step.1.firm = s.firm := by
  unfold St.step
  split <;> exact ⟨rfl, rfl⟩
theorem rstep_laid (r : RSt) : r.step.1.laid = r.laid ∧ r.step.1.firm = r.firm ∧ r.step.1.n = r.n := by
  unfold RSt.step
  split <;> exact ⟨rfl, rfl, rfl⟩
theorem Sim.lay (h : Sim s r) (hl : -1 ≤ s.steps) (i : Int) (x : ByteArray) : (r.lay i x).2 = (s.lay i x).2 ∧ Sim (s.lay i x).1 (r.lay i x).1 := by
  unfold RSt.lay St.lay
  rw [h.in_]
  obtain ⟨h1, h2⟩ := h.step hl
  split
  · rw [h1]
    split
    · refine ⟨rfl, h2.n, h2.left, h2.off, ?_, h2.firm⟩
      show put r.laid i _ = put s.loose i _
      rw [h.laid]
    · exact ⟨rfl, h2⟩
  · exact ⟨rfl, h⟩
theorem Sim.barrier (h : Sim s r) (hok : s.Ok) : r.barrier.2 = s.barrier.2 ∧ Sim s.barrier.1 r.barrier.1 := by
  unfold RSt.barrier St.barrier
  rw [h.off]
  obtain ⟨h1, h2⟩ := h.step hok.lo
  split
  · exact ⟨rfl, h⟩
  · rw [h1]
    split
    · have hL : ∀ q ∈ s.loose, 0 ≤ q.1 ∧ q.1 < (s.firm.length : Int) ∧ q.2 ≠ [] ∧ ∀ x ∈ q.2, x.size = 128 := hok.loose
      have hs := sim_putAll s.loose _ _ h.firm hL
      refine ⟨rfl, ?_, h2.left, h2.off, rfl, ?_⟩
      · show r.step.1.n = (setAll s.loose s.firm).length
        rw [setAll_len, (rstep_laid r).2.2, h.n]
      · show SimF (setAll s.loose s.firm).length (setAll s.loose s.firm) (putAll r.laid r.firm)
        rw [setAll_len, h.laid]
        exact hs
    · exact ⟨rfl, h2⟩
theorem Sim.limit (h : Sim s r) (n : Int) : Sim (s.limit n) { r with left := max n (-1) } := ⟨h.n, rfl, h.off, h.laid, h.firm⟩
theorem Sim.fall (h : Sim s r) (hok : s.Ok) (pick : List Int) : Sim (s.fall pick) (r.fall pick) := by
  have hL : ∀ q ∈ s.loose, 0 ≤ q.1 ∧ q.1 < (s.firm.length : Int) ∧ q.2 ≠ [] ∧ ∀ x ∈ q.2, x.size = 128 := hok.loose
  have hs := sim_fallAll s.loose pick _ _ h.firm hL
  refine ⟨?_, rfl, rfl, rfl, ?_⟩
  · show r.n = (fallAll s.loose pick s.firm).length
    rw [fallAll_len, h.n]
  · show SimF (fallAll s.loose pick s.firm).length (fallAll s.loose pick s.firm) (rfallAll r.laid pick r.firm)
    rw [fallAll_len, h.laid]
    exact hs
theorem Sim.keys (h : Sim s r) : r.keys = s.keys := by
  unfold RSt.keys St.keys
  rw [h.laid]
end
/-- How long the rows of contents are. -/
def Short (s : St) (n : Nat) : Prop := ∀ q ∈ s.loose, q.2.length ≤ n
theorem short_lay {s : St} {n : Nat} (h : Short s n) (i : Int) (x : ByteArray) : Short (s.lay i x).1 (n + 1) := by
  have h' : Short s (n + 1) := fun q hq => Nat.le_succ_of_le (h q hq)
  unfold St.lay
  split
  · split
    · intro q hq
      rcases mem_put.1 hq with rfl | ⟨hq, _⟩
      · simp only [List.length_append, List.length_cons, List.length_nil]
        cases hg : Mp.get s.loose i with
        | none => simp
        | some l =>
          have := h _ (get_mem hg)
          simp only [Option.getD_some] at this ⊢
          omega
      · exact h' q hq
    · intro q hq
      rw [(step_loose s).1] at hq
      exact h' q hq
  · exact h'
theorem short_barrier {s : St} {n : Nat} (h : Short s n) : Short s.barrier.1 n := by
  unfold St.barrier
  split
  · exact h
  · split
    · intro q hq
      cases hq
    · intro q hq
      rw [(step_loose s).1] at hq
      exact h q hq
theorem short_limit {s : St} {n : Nat} (h : Short s n) (k : Int) : Short (s.limit k) n := h
theorem short_fall (s : St) (n : Nat) (pick : List Int) : Short (s.fall pick) n := fun q hq => by cases hq
theorem short_new (n k : Nat) : Short (St.new n) k := fun q hq => by cases hq
theorem short_mono {s : St} {n m : Nat} (h : Short s n) (hn : n ≤ m) : Short s m := fun q hq => Nat.le_trans (h q hq) hn
end Go.Proofs.Ytfjbpjndjcinhaa.Dk
