/- ledger's Append in plain words: what its lays and barriers leave on a disk that stays on. No program here. -/
import Derived.Test.YtfjbpjndjcinhaaDoorFp
import Derived.Test.YtfjbpjndjcinhaaDoorLr
namespace Go.Proofs.YtfjbpjndjcinhaaDoor.Lg
open Go Go.RowKit Go.Proofs.YtfjbpjndjcinhaaDoor.Mp Go.Proofs.YtfjbpjndjcinhaaDoor.Dk
set_option linter.unusedVariables false
/-- A disk that stays on. -/
structure Good (s : St) (N : Nat) : Prop where
  ok : s.Ok
  off : s.off = false
  steps : s.steps = -1
  len : s.firm.length = N
theorem good_there {s : St} {N : Nat} (h : Good s N) {i : Nat} (hi : i < N) : s.there (i : Int) = true := by
  unfold St.there
  rw [h.off, h.len]
  simp
  omega
theorem good_step {s : St} {N : Nat} (h : Good s N) : s.step = (s, true) := by
  unfold St.step
  rw [if_neg (by rw [h.steps]; decide), h.steps]
  have : max ((-1 : Int) - 1) (-1) = -1 := by decide
  rw [this, ← h.steps]
theorem good_lay {s : St} {N : Nat} (h : Good s N) {i : Nat} (hi : i < N) {x : ByteArray} (hx : x.size ≤ 128) : (s.lay (i : Int) x).2 = true ∧ (s.lay (i : Int) x).1.off = false ∧ (s.lay (i : Int) x).1.steps = -1 ∧ (s.lay (i : Int) x).1.firm.length = N := by
  unfold St.lay
  rw [good_there h hi, decide_eq_true hx]
  simp only [Bool.and_self, if_true, good_step h]
  exact ⟨trivial, h.off, h.steps, h.len⟩
theorem good_barrier {s : St} {N : Nat} (h : Good s N) : s.barrier.2 = true ∧ s.barrier.1.off = false ∧ s.barrier.1.steps = -1 ∧ s.barrier.1.firm.length = N ∧ s.barrier.1.loose = [] ∧ ∀ k : Nat, k < N → s.barrier.1.now (k : Int) = s.now (k : Int) := by
  have h2 : s.barrier.2 = true := by
    unfold St.barrier
    rw [h.off, good_step h]
    rfl
  obtain ⟨b1, b2, b3⟩ := barrier_true h.ok h2
  refine ⟨h2, ?_, ?_, by rw [b2, h.len], b1, fun k hk => ?_⟩
  · unfold St.barrier
    rw [h.off, good_step h]
    exact h.off
  · unfold St.barrier
    rw [h.off, good_step h]
    exact h.steps
  · rw [now_eq, b1]
    have : Mp.get ([] : List (Int × List ByteArray)) (k : Int) = none := rfl
    rw [this]
    exact b3 k (by rw [h.len]; exact hk)
theorem good_get {s : St} {N : Nat} (h : Good s N) {i : Nat} (hi : i < N) : (s.get (i : Int)).1 = s.now (i : Int) := by
  unfold St.get
  rw [good_there h hi]
  rfl
theorem good_now {s : St} {N : Nat} (h : Good s N) (i : Nat) : (s.now (i : Int)).size = 128 := by
  rw [now_eq]
  cases hg : Mp.get s.loose (i : Int) with
  | none =>
    unfold fi
    apply full_size
    rw [List.getD_eq_getElem?_getD]
    cases hf : s.firm[i]? with
    | none => exact (by decide : (⟨#[]⟩ : ByteArray).size ≤ 128)
    | some x => exact h.ok.firm x (List.mem_of_getElem? hf)
  | some l =>
    have := h.ok.loose _ (get_mem hg)
    exact this.2.2.2 _ (lastOf_mem this.2.2.1)
theorem bl_zeros (k : Nat) : bl (zeros k) = List.replicate k 0 := by unfold bl zeros; simp
theorem bl_append (x y : ByteArray) : bl (x ++ y) = bl x ++ bl y := by unfold bl; simp [ByteArray.data_append]
theorem bl_size (x : ByteArray) : (bl x).length = x.size := by unfold bl; simp
theorem bl_full {x : ByteArray} : bl (full x) = pad (bl x) := by
  unfold full pad
  rw [bl_append, bl_zeros, bl_size]
/-- Behind j of a record's body plates. -/
structure Mid (s t : St) (N first n a : Nat) (q : List UInt8) (j : Nat) : Prop where
  good : Good t N
  short : Short t j
  laid : ∀ i, 1 ≤ i → i ≤ j → bl (t.now ((first + (a + i) % n : Nat) : Int)) = plateB q i
  rest : ∀ k : Nat, k < N → (∀ i, 1 ≤ i → i ≤ j → k ≠ first + (a + i) % n) → t.now (k : Int) = s.now (k : Int)
theorem mid_start {s : St} {N first n a : Nat} {q : List UInt8} (h : Good s N) (hl : s.loose = []) : Mid s s N first n a q 0 :=
  ⟨h, fun p hp => by rw [hl] at hp; (cases hp), fun i h1 h2 => by omega, fun k _ _ => rfl⟩
theorem mod_ne {a n i j : Nat} (hi : i < n) (hj : j < n) (h : (a + i) % n = (a + j) % n) : i = j := by
  have h1 : (a % n + i) % n = (a % n + j) % n := by rw [Nat.mod_add_mod, Nat.mod_add_mod]; exact h
  have hr : a % n < n := Nat.mod_lt _ (by omega)
  have e : ∀ k, k < n → (a % n + k) % n = if a % n + k < n then a % n + k else a % n + k - n := fun k hk => by
    split
    · rename_i h
      exact Nat.mod_eq_of_lt h
    · rename_i h
      rw [Nat.mod_eq_sub_mod (by omega), Nat.mod_eq_of_lt (by omega)]
  rw [e i hi, e j hj] at h1
  split at h1 <;> split at h1 <;> omega
theorem mid_step {s t : St} {N first n a j : Nat} {q : List UInt8} (h : Mid s t N first n a q j) (hn : 0 < n) (hf : first + n ≤ N) (hj : j + 1 < n) {x : ByteArray} (hx : x.size ≤ 128) (hxp : bl (full x) = plateB q (j + 1)) (hok : (t.lay ((first + (a + (j + 1)) % n : Nat) : Int) x).1.Ok) :
    (t.lay ((first + (a + (j + 1)) % n : Nat) : Int) x).2 = true ∧ Mid s (t.lay ((first + (a + (j + 1)) % n : Nat) : Int) x).1 N first n a q (j + 1) := by
  have hlt : first + (a + (j + 1)) % n < N := by have := Nat.mod_lt (a + (j + 1)) hn; omega
  obtain ⟨g1, g2, g3, g4⟩ := good_lay h.good hlt hx
  obtain ⟨k, hk, _, _, _, _, hnow, _⟩ := lay_true h.good.ok g1
  have hk2 : first + (a + (j + 1)) % n = k := Int.ofNat.inj hk
  refine ⟨g1, ⟨hok, g2, g3, g4⟩, short_lay h.short _ _, fun i h1 h2 => ?_, fun k2 hk2' hne => ?_⟩
  · rw [hnow]
    by_cases e : i = j + 1
    · subst e
      rw [if_pos hk2]
      exact hxp
    · rw [if_neg (fun e2 => by
        have : (a + i) % n = (a + (j + 1)) % n := by omega
        exact e (mod_ne (by omega) hj this))]
      exact h.laid i h1 (by omega)
  · rw [hnow, if_neg (fun e2 => hne (j + 1) (by omega) (Nat.le_refl _) (by omega))]
    exact h.rest k2 hk2' (fun i h1 h2 => hne i h1 (by omega))
/-- Behind the barrier, the head, and the barrier behind it. -/
theorem mid_end {s t : St} {N first n a m : Nat} {q : List UInt8} (h : Mid s t N first n a q (kOf q.length - 1)) (hk1 : 1 ≤ q.length) (hn : 0 < n) (ha : a < n) (hf : first + n ≤ N) (hk : kOf q.length ≤ n) {H : ByteArray} (hH : H = toBA (headL m q.length)) (hok1 : t.barrier.1.Ok) (hok2 : (t.barrier.1.lay ((first + a : Nat) : Int) H).1.Ok) (hok3 : (t.barrier.1.lay ((first + a : Nat) : Int) H).1.barrier.1.Ok) :
    t.barrier.2 = true ∧ (t.barrier.1.lay ((first + a : Nat) : Int) H).2 = true ∧ (t.barrier.1.lay ((first + a : Nat) : Int) H).1.barrier.2 = true ∧ Good (t.barrier.1.lay ((first + a : Nat) : Int) H).1.barrier.1 N ∧ (t.barrier.1.lay ((first + a : Nat) : Int) H).1.barrier.1.loose = [] ∧
    Laid (fun i => s.now ((first + i : Nat) : Int)) (fun i => (t.barrier.1.lay ((first + a : Nat) : Int) H).1.barrier.1.now ((first + i : Nat) : Int)) n a m q := by
  obtain ⟨b1, b2, b3, b4, b5, b6⟩ := good_barrier h.good
  have G1 : Good t.barrier.1 N := ⟨hok1, b2, b3, b4⟩
  have hHs : H.size = 11 := by rw [hH]; rfl
  obtain ⟨g1, g2, g3, g4⟩ := good_lay G1 (i := first + a) (by omega) (x := H) (by omega)
  obtain ⟨k, hkk, _, _, _, _, hnow, _⟩ := lay_true G1.ok g1
  have hkk2 : first + a = k := Int.ofNat.inj hkk
  have G2 : Good (t.barrier.1.lay ((first + a : Nat) : Int) H).1 N := ⟨hok2, g2, g3, g4⟩
  obtain ⟨c1, c2, c3, c4, c5, c6⟩ := good_barrier G2
  have hmk : ∀ i, 1 ≤ i → i < kOf q.length → (a + i) % n ≠ a := fun i h1 h2 e => by
    have := mod_ne (a := a) (n := n) (i := i) (j := 0) (by omega) hn (by rw [e, Nat.add_zero, Nat.mod_eq_of_lt ha])
    omega
  refine ⟨b1, g1, c1, ⟨hok3, c2, c3, c4⟩, c5, ⟨fun i h1 h2 => ?_, ?_, fun p hp hne hni => ?_⟩⟩
  · have hlt := Nat.mod_lt (a + i) hn
    show bl (St.now _ ((first + (a + i) % n : Nat) : Int)) = _
    rw [c6 _ (by omega), hnow, if_neg (by have := hmk i h1 h2; omega), b6 _ (by omega)]
    exact h.laid i h1 (by omega)
  · show bl (St.now _ ((first + a : Nat) : Int)) = _
    rw [c6 _ (by omega), hnow, if_pos hkk2, bl_full, hH]
    rfl
  · show St.now _ ((first + p : Nat) : Int) = _
    rw [c6 _ (by omega), hnow, if_neg (by omega), b6 _ (by omega)]
    exact h.rest _ (by omega) (fun i h1 h2 e => hni i h1 (by omega) (by omega))
end Go.Proofs.YtfjbpjndjcinhaaDoor.Lg
