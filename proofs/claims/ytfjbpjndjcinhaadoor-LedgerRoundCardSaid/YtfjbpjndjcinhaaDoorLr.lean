/- ledger: a record that was laid in a ring is read again, and nothing behind it. No program here. -/
import Derived.Test.YtfjbpjndjcinhaaDoorLp
namespace Go.Proofs.YtfjbpjndjcinhaaDoor.Lg
set_option linter.unusedVariables false
def pad (l : List UInt8) : List UInt8 := l ++ List.replicate (128 - l.length) 0
def plateB (s : List UInt8) (i : Nat) : List UInt8 := pad (66 :: (s.drop (127 * (i - 1))).take 127)
def plateH (m size : Nat) : List UInt8 := pad (headL m size)
/-- What appending leaves: the ring's places ahead are g, behind g'. -/
structure Laid (g g' : Nat → ByteArray) (n a m : Nat) (s : List UInt8) : Prop where
  body : ∀ i, 1 ≤ i → i < kOf s.length → bl (g' ((a + i) % n)) = plateB s i
  head : bl (g' a) = plateH m s.length
  rest : ∀ p, p < n → p ≠ a → (∀ i, 1 ≤ i → i < kOf s.length → p ≠ (a + i) % n) → g' p = g p
/-- No head in the ring bears a number m or above. -/
structure Elder (g : Nat → ByteArray) (n m : Nat) : Prop where
  len : ∀ p, p < n → (bl (g p)).length = 128
  elder : ∀ p, p < n → (bl (g p)).head? = some 72 → ∃ q, q < m ∧ (bl (g p)).take 9 = 72 :: num8 q
theorem headL_len (m z : Nat) : (headL m z).length = 11 := rfl
theorem pad_len {l : List UInt8} (h : l.length ≤ 128) : (pad l).length = 128 := by
  unfold pad
  simp
  omega
theorem u8_inj {a b : Nat} (h : UInt8.ofNat a = UInt8.ofNat b) : a % 256 = b % 256 := by
  have := congrArg UInt8.toNat h
  simpa using this
theorem num8_inj {a b : Nat} (ha : a < 2 ^ 64) (hb : b < 2 ^ 64) (h : num8 a = num8 b) : a = b := by
  unfold num8 at h
  simp only [List.cons.injEq, and_true] at h
  obtain ⟨h0, h1, h2, h3, h4, h5, h6, h7⟩ := h
  have k0 := u8_inj h0
  have k1 := u8_inj h1
  have k2 := u8_inj h2
  have k3 := u8_inj h3
  have k4 := u8_inj h4
  have k5 := u8_inj h5
  have k6 := u8_inj h6
  have k7 := u8_inj h7
  clear h0 h1 h2 h3 h4 h5 h6 h7
  omega
theorem allZ_rep (k : Nat) : allZ (List.replicate k 0) = true := by
  unfold allZ
  simp
theorem head_ne (s : List UInt8) (i : Nat) : (plateB s i).head? = some 66 := rfl
theorem plateH_take (m z : Nat) : (plateH m z).take 11 = headL m z := by
  unfold plateH pad
  rw [List.take_append_of_le_length (by rw [headL_len]; exact Nat.le_refl _)]
  rfl
theorem plateH_take9 (m z : Nat) : (plateH m z).take 9 = 72 :: num8 m := rfl
theorem plateH_drop (m z : Nat) : allZ ((plateH m z).drop 11) = true := by
  unfold plateH pad
  rw [List.drop_append_of_le_length (by rw [headL_len]; exact Nat.le_refl _)]
  rw [List.drop_of_length_le (by rw [headL_len]; exact Nat.le_refl _)]
  exact allZ_rep _
theorem plateH_sz (m z : Nat) (hz : z < 65536) (h : ByteArray) (hh : bl h = plateH m z) : szOf h = z := by
  unfold szOf
  rw [hh]
  show (UInt8.ofNat (z / 256)).toNat * 256 + (UInt8.ofNat z).toNat = z
  simp
  omega
theorem plateB_tail (s : List UInt8) (i : Nat) (h1 : 1 ≤ i) (h2 : i < kOf s.length) : (plateB s i).tail = ((s ++ List.replicate 127 0).drop (127 * (i - 1))).take 127 := by
  unfold plateB pad
  have hk : 127 * (i - 1) < s.length := by unfold kOf at h2; omega
  rw [List.cons_append, List.tail_cons, List.drop_append_of_le_length (by omega), List.take_append, List.length_cons, List.length_take, List.length_drop, List.take_replicate]
  congr 2
  omega
section
variable {g g' : Nat → ByteArray} {n a m : Nat} {s : List UInt8}
theorem body_reads (h : Laid g g' n a m s) : ∀ k, k < kOf s.length → bodyOf (fun i => g' (i % n)) a k = some ((s ++ List.replicate 127 0).take (127 * k)) := by
  intro k
  induction k with
  | zero => intro _; rfl
  | succ k ih =>
    intro hk
    have hb := h.body (k + 1) (by omega) hk
    simp only [bodyOf, ih (by omega)]
    rw [if_pos (by unfold isB; rw [hb, head_ne]; rfl), hb, plateB_tail s (k + 1) (by omega) hk]
    rw [show 127 * (k + 1) = 127 * k + 127 by omega, List.take_add, show k + 1 - 1 = k by omega]
theorem rec_reads (h : Laid g g' n a m s) (ha : a < n) (h1 : 1 ≤ s.length) (h2 : s.length ≤ 65535) (hm : m < great) (hk : kOf s.length ≤ n) : recOf (fun i => g' (i % n)) a m n = some s := by
  have hmod : a % n = a := Nat.mod_eq_of_lt ha
  have hsz := plateH_sz m s.length (by omega) (g' a) h.head
  unfold recOf
  simp only [hmod, hsz]
  rw [if_neg (by
    rintro (e | e | e)
    · omega
    · omega
    · rw [h.head] at e
      exact e rfl), if_neg (by rintro (e | e) <;> omega), body_reads h _ (by unfold kOf; omega)]
  have hkk : s.length ≤ 127 * (kOf s.length - 1) := by unfold kOf; omega
  have hk2 : 127 * (kOf s.length - 1) ≤ s.length + 127 := by unfold kOf; omega
  have e1 : (s ++ List.replicate 127 (0 : UInt8)).take (127 * (kOf s.length - 1)) = s ++ List.replicate (127 * (kOf s.length - 1) - s.length) 0 := by
    rw [List.take_append, List.take_of_length_le hkk, List.take_replicate]
    congr 2
    omega
  simp only [e1, h.head, plateH_take, plateH_drop, beq_self_eq_true, Bool.and_true, Bool.and_self]
  rw [List.drop_append_of_le_length (Nat.le_refl _), List.drop_length, List.nil_append, allZ_rep, if_pos rfl, List.take_append_of_le_length (Nat.le_refl _), List.take_length]
theorem none_of (h : Elder g n m) (hn : 0 < n) (a r : Nat) (hm : m < 2 ^ 64) : recOf (fun i => g (i % n)) a m r = none := by
  unfold recOf
  split
  · rfl
  · rename_i c1
    split
    · rfl
    · split
      · rfl
      · split
        · rename_i c2
          exfalso
          simp only [Bool.and_eq_true, beq_iff_eq] at c2
          obtain ⟨q, hq, h9⟩ := h.elder (a % n) (Nat.mod_lt _ hn) (by
            have := fun e => c1 (.inr (.inr e))
            exact Classical.byContradiction this)
          have e := congrArg (List.take 9) c2.2.1
          rw [List.take_take, show min 9 11 = 9 from rfl, h9] at e
          have e2 : (72 : UInt8) :: num8 q = 72 :: num8 m := e
          have := num8_inj (a := q) (b := m) (by omega) hm (List.cons.inj e2).2
          omega
        · rfl
theorem elder_next (h : Elder g n m) (hL : Laid g g' n a m s) (ha : a < n) : Elder g' n (m + 1) := by
  have key : ∀ p, p < n → (p = a ∨ (∃ i, 1 ≤ i ∧ i < kOf s.length ∧ p = (a + i) % n)) ∨ g' p = g p := fun p hp => by
    by_cases h1 : p = a
    · exact .inl (.inl h1)
    · by_cases h2 : ∃ i, 1 ≤ i ∧ i < kOf s.length ∧ p = (a + i) % n
      · exact .inl (.inr h2)
      · exact .inr (hL.rest p hp h1 (fun i hi1 hi2 e => h2 ⟨i, hi1, hi2, e⟩))
  refine ⟨fun p hp => ?_, fun p hp hh => ?_⟩
  · rcases key p hp with (e | ⟨i, hi1, hi2, e⟩) | e
    · rw [e, hL.head]
      exact pad_len (by rw [headL_len]; omega)
    · rw [e, hL.body i hi1 hi2]
      exact pad_len (by simp; omega)
    · rw [e]
      exact h.len p hp
  · rcases key p hp with (e | ⟨i, hi1, hi2, e⟩) | e
    · rw [e, hL.head]
      exact ⟨m, by omega, rfl⟩
    · rw [e, hL.body i hi1 hi2, head_ne] at hh
      cases hh
    · rw [e] at hh ⊢
      obtain ⟨q, hq, h9⟩ := h.elder p hp hh
      exact ⟨q, by omega, h9⟩
/-- What Open tells behind an append to a ring without younger heads. -/
theorem opens_one (h : Elder g n m) (hL : Laid g g' n a m s) (ha : a < n) (h1 : 1 ≤ s.length) (h2 : s.length ≤ 65535) (hm : m < great) (hk : kOf s.length ≤ n) (f : Nat) : opens (fun i => g' (i % n)) n (f + 1) a m n = ([s], ((a + kOf s.length) % n, m + 1, n - kOf s.length)) := by
  rw [opens_go (rec_reads hL ha h1 h2 hm hk), opens_stop (none_of (elder_next h hL ha) (by omega) _ _ (by unfold great at hm; omega))]
end
end Go.Proofs.YtfjbpjndjcinhaaDoor.Lg
