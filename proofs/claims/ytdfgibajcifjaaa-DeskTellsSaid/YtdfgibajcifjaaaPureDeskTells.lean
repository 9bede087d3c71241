import Derived.Test.YtdfgibajcifjaaaADeskTellsx2
namespace Go.Proofs.Ytdfgibajcifjaaa.Pure
open Go.RowKit Go.Proofs.Ytdfgibajcifjaaa.ADeskTells Go.Proofs.YtdfgibajcifjaaaW.PrintWords Go.Proofs.YtdfgibajcifjaaaW.PrintLast
def tok (t : ByteArray) (s : S28) : Bool := decide (s.f0.toList = t.toList)
theorem ix_spec (p : S28 → Bool) : ∀ (l : List S28) (i : Nat),
    (ix p l i = -1 ∧ ∀ x ∈ l, p x = false) ∨ ∃ j, ∃ h : j < l.length, ix p l i = ((i + j : Nat) : Int) ∧ p l[j] = true ∧ ∀ j' (h' : j' < l.length), j' < j → p l[j'] = false
  | [], i => .inl ⟨rfl, fun x hx => by cases hx⟩
  | x :: xs, i => by
    rw [ix]
    by_cases hp : p x = true
    · rw [if_pos hp]
      exact .inr ⟨0, by simp, by simp, hp, fun j' _ h => by omega⟩
    · rw [if_neg hp]
      have hp' : p x = false := by simpa using hp
      rcases ix_spec p xs (i + 1) with ⟨h1, h2⟩ | ⟨j, hj, h1, h2, h3⟩
      · exact .inl ⟨h1, fun y hy => by
          rcases List.mem_cons.mp hy with rfl | hy
          · exact hp'
          · exact h2 y hy⟩
      · refine .inr ⟨j + 1, by simpa using hj, by rw [h1]; congr 1; omega, h2, fun j' h' hlt => ?_⟩
        cases j' with
        | zero => exact hp'
        | succ j' => exact h3 j' (by simpa using h') (by omega)
theorem ix_none (p : S28 → Bool) : ∀ (l : List S28) (i : Nat), (∀ x ∈ l, p x = false) → ix p l i = -1
  | [], i, _ => rfl
  | x :: xs, i, h => by
    rw [ix, if_neg (by rw [h x List.mem_cons_self]; decide)]
    exact ix_none p xs (i + 1) (fun y hy => h y (List.mem_cons_of_mem _ hy))
theorem ix_at (p : S28 → Bool) : ∀ (l : List S28) (i j : Nat) (h : j < l.length), p l[j] = true → (∀ j' (h' : j' < l.length), j' < j → p l[j'] = false) → ix p l i = ((i + j : Nat) : Int)
  | x :: xs, i, 0, h, hp, _ => by rw [ix, if_pos (show p x = true from hp)]; simp
  | x :: xs, i, j + 1, h, hp, hb => by
    rw [ix, if_neg (by have := hb 0 (by simp) (by omega); simp only [List.getElem_cons_zero] at this; rw [this]; decide)]
    rw [ix_at p xs (i + 1) j (by simpa using h) (by simpa using hp) (fun j' h' hlt => by have := hb (j' + 1) (by simpa using h') (by omega); simpa using this)]
    congr 1; omega
/-- Seats without a token twice: the first seat of the token that isn't past is the token's first seat, where that isn't past. -/
theorem find_live (l : List S28) (t : ByteArray) (now ttl : Int) (hr : ∀ i (h : i < l.length), ix (tok l[i].f0) l 0 = (i : Int)) :
    (ix (tok t) l 0 = -1 ∧ ix (seat t now ttl) l 0 = -1) ∨ ∃ j, ∃ h : j < l.length, ix (tok t) l 0 = (j : Int) ∧ ix (seat t now ttl) l 0 = if wrap64 (now - l[j].f2) > ttl then -1 else (j : Int) := by
  rcases ix_spec (tok t) l 0 with ⟨h1, h2⟩ | ⟨j, hj, h1, h2, h3⟩
  · refine .inl ⟨h1, ix_none _ _ _ fun x hx => ?_⟩
    have := h2 x hx
    unfold tok at this
    unfold seat
    rw [this, Bool.false_and]
  · rw [Nat.zero_add] at h1
    refine .inr ⟨j, hj, h1, ?_⟩
    by_cases hc : wrap64 (now - l[j].f2) > ttl
    · rw [if_pos hc]
      refine ix_none _ _ _ fun x hx => ?_
      obtain ⟨j', hj', rfl⟩ := List.getElem_of_mem hx
      unfold seat
      by_cases ht : l[j'].f0.toList = t.toList
      · have e : tok l[j'].f0 = tok t := by funext s; unfold tok; rw [ht]
        have hj2 := hr j' hj'
        rw [e, h1] at hj2
        have : j' = j := by omega
        subst this
        rw [decide_eq_false (show ¬ wrap64 (now - l[j'].f2) ≤ ttl by omega), Bool.and_false]
      · rw [decide_eq_false ht, Bool.false_and]
    · rw [if_neg hc]
      have := ix_at (seat t now ttl) l 0 j hj (by unfold tok at h2; unfold seat; rw [h2, decide_eq_true (show wrap64 (now - l[j].f2) ≤ ttl by omega)]; rfl)
        (fun j' h' hlt => by have := h3 j' h' hlt; unfold tok at this; unfold seat; rw [this, Bool.false_and])
      rw [Nat.zero_add] at this
      exact this
theorem wrapSucc (i n : Nat) (hi : i < n) (hn : n ≤ maxLen) : wrap64 ((i : Int) + 1) = ((i + 1 : Nat) : Int) := by
  have h : maxLen ≤ 9223372036854775807 := by decide +kernel
  unfold wrap64
  omega
theorem rd_at (xs : List S28) (i : Nat) (h : i < xs.length) : rd_T28 xs (i : Int) = xs[i] := by
  unfold rd_T28
  rw [Int.toNat_natCast, List.getD_eq_getElem?_getD, List.getElem?_eq_getElem h, Option.getD_some]
theorem place_l (l : List S28) (t : ByteArray) (hl : l.length ≤ maxLen) : ∀ (m i k : Nat), m = l.length - i → i ≤ l.length → m < k →
    chancelref11_place.l0 k l t (i : Int) = some (ix (tok t) (l.drop i) i)
  | 0, i, k + 1, hm, hi, hk => by
    rw [chancelref11_place.l0, if_neg (by omega), List.drop_eq_nil_of_le (by omega)]; rfl
  | m + 1, i, k + 1, hm, hi, hk => by
    have hlt : i < l.length := by omega
    rw [chancelref11_place.l0, if_pos (by omega), if_pos (by omega), rd_at l i hlt, List.drop_eq_getElem_cons hlt, ix, wrapSucc i l.length hlt hl]
    unfold tok
    by_cases h : l[i].f0.toList = t.toList
    · rw [if_pos h, decide_eq_true h, if_pos rfl]
    · rw [if_neg h, decide_eq_false h, if_neg (by decide)]
      exact place_l l t hl m (i + 1) k (by omega) (by omega) (by omega)
theorem place_f (l : List S28) (t : ByteArray) (hl : l.length ≤ maxLen) (k : Nat) (hk : l.length < k) : chancelref11_place.f k l t = some (ix (tok t) l 0) := by
  have := place_l l t hl _ 0 k rfl (by omega) (by omega)
  rw [List.drop_zero] at this
  exact this
theorem Right_l (l : List S28) (hl : l.length ≤ maxLen) : ∀ (m i : Nat), m = l.length - i → i ≤ l.length →
    ∃ b, ∀ k, m + l.length + 1 < k → chancelref11_Right.l0 k l (i : Int) = some b ∧ (b = true → ∀ j (h : j < l.length), i ≤ j → ix (tok l[j].f0) l 0 = (j : Int))
  | 0, i, hm, hi => by
    refine ⟨true, fun k hk => ?_⟩
    obtain ⟨k, rfl⟩ : ∃ j, k = j + 1 := ⟨k - 1, by omega⟩
    rw [chancelref11_Right.l0, if_neg (by omega)]
    exact ⟨rfl, fun _ j h h' => by omega⟩
  | m + 1, i, hm, hi => by
    obtain ⟨b, hb⟩ := Right_l l hl m (i + 1) (by omega) (by omega)
    have hlt : i < l.length := by omega
    by_cases h : ix (tok l[i].f0) l 0 = (i : Int)
    · refine ⟨b, fun k hk => ?_⟩
      obtain ⟨k, rfl⟩ : ∃ j, k = j + 1 := ⟨k - 1, by omega⟩
      rw [chancelref11_Right.l0, if_pos (by omega), if_pos (by omega), rd_at l i hlt, place_f l _ hl k (by omega), Option.bind_some, if_pos h, wrapSucc i l.length hlt hl]
      refine ⟨(hb k (by omega)).1, fun h1 j hj hij => ?_⟩
      by_cases e : j = i
      · subst e; exact h
      · exact (hb k (by omega)).2 h1 j hj (by omega)
    · refine ⟨false, fun k hk => ?_⟩
      obtain ⟨k, rfl⟩ : ∃ j, k = j + 1 := ⟨k - 1, by omega⟩
      rw [chancelref11_Right.l0, if_pos (by omega), if_pos (by omega), rd_at l i hlt, place_f l _ hl k (by omega), Option.bind_some, if_neg h]
      exact ⟨rfl, fun h => by cases h⟩
theorem right_l (l : List S28) (hl : l.length ≤ maxLen) (a1 : ByteArray) (a2 a3 a4 a5 a6 : Int) (a7 : ByteArray) : ∀ (m i : Nat), m = l.length - i → i ≤ l.length →
    ∃ b, ∀ k, m + l.length + l.length + 3 < k → chancellaw11_right.l0 k l (l.length : Int) (i : Int) l a1 a2 a3 a4 a5 a6 a7 = some b ∧ (b = true → ∀ j (h : j < l.length), ix (tok l[j].f0) l 0 = (j : Int))
  | 0, i, hm, hi => by
    obtain ⟨b, hb⟩ := Right_l l hl _ 0 rfl (by omega)
    by_cases h60 : (l.length : Int) ≤ 60
    · cases b with
      | false =>
        refine ⟨false, fun k hk => ?_⟩
        obtain ⟨k, rfl⟩ : ∃ j, k = j + 1 := ⟨k - 1, by omega⟩
        rw [chancellaw11_right.l0, if_neg (by omega), if_pos h60]
        unfold chancelref11_Right.f
        have := (hb k (by omega)).1
        rw [show ((0 : Nat) : Int) = 0 from rfl] at this
        rw [this, Option.bind_some, if_neg (by decide)]
        exact ⟨rfl, fun h => by cases h⟩
      | true =>
        have hR := fun j h => (hb (l.length + l.length + 2) (by omega)).2 rfl j h (Nat.zero_le _)
        refine ⟨(if a4 ≥ 0 then (if a4 ≤ 1099511627776 then (if a5 ≥ 0 then (decide (a5 ≤ 1099511627776)) else false) else false) else false), fun k hk => ?_⟩
        obtain ⟨k, rfl⟩ : ∃ j, k = j + 1 := ⟨k - 1, by omega⟩
        rw [chancellaw11_right.l0, if_neg (by omega), if_pos h60]
        unfold chancelref11_Right.f
        have := (hb k (by omega)).1
        rw [show ((0 : Nat) : Int) = 0 from rfl] at this
        rw [this, Option.bind_some, if_pos rfl]
        exact ⟨by split <;> (try split) <;> (try split) <;> rfl, fun _ => hR⟩
    · refine ⟨false, fun k hk => ?_⟩
      obtain ⟨k, rfl⟩ : ∃ j, k = j + 1 := ⟨k - 1, by omega⟩
      rw [chancellaw11_right.l0, if_neg (by omega), if_neg h60]
      exact ⟨rfl, fun h => by cases h⟩
  | m + 1, i, hm, hi => by
    obtain ⟨b, hb⟩ := right_l l hl a1 a2 a3 a4 a5 a6 a7 m (i + 1) (by omega) (by omega)
    have hlt : i < l.length := by omega
    by_cases h1 : (rd_T28 l (i : Int)).f2 < 0
    · refine ⟨false, fun k hk => ?_⟩
      obtain ⟨k, rfl⟩ : ∃ j, k = j + 1 := ⟨k - 1, by omega⟩
      rw [chancellaw11_right.l0, if_pos (by omega), if_pos (by omega), if_pos (by omega), if_pos h1]
      exact ⟨rfl, fun h => by cases h⟩
    · by_cases h2 : (rd_T28 l (i : Int)).f2 > 1099511627776
      · refine ⟨false, fun k hk => ?_⟩
        obtain ⟨k, rfl⟩ : ∃ j, k = j + 1 := ⟨k - 1, by omega⟩
        rw [chancellaw11_right.l0, if_pos (by omega), if_pos (by omega), if_pos (by omega), if_neg h1, if_pos h2]
        exact ⟨rfl, fun h => by cases h⟩
      · refine ⟨b, fun k hk => ?_⟩
        obtain ⟨k, rfl⟩ : ∃ j, k = j + 1 := ⟨k - 1, by omega⟩
        rw [chancellaw11_right.l0, if_pos (by omega), if_pos (by omega), if_pos (by omega), if_neg h1, if_neg h2, wrapSucc i l.length hlt hl]
        exact hb k (by omega)
/-- With right seats: the document's place of a live seat is the code's. -/
theorem live_f (l : List S28) (t : ByteArray) (now ttl : Int) (hl : l.length ≤ maxLen) (hr : ∀ i (h : i < l.length), ix (tok l[i].f0) l 0 = (i : Int)) (k : Nat) (hk : l.length < k) :
    chancelref11_live.f k l t now ttl = some (ix (seat t now ttl) l 0) ∧ (ix (seat t now ttl) l 0 = -1 ∨ ∃ j : Nat, j < l.length ∧ ix (seat t now ttl) l 0 = (j : Int)) := by
  unfold chancelref11_live.f chancelref11_past.f
  rw [place_f l t hl k hk, Option.bind_some]
  rcases find_live l t now ttl hr with ⟨h1, h2⟩ | ⟨j, hj, h1, h2⟩
  · rw [h1, h2]
    exact ⟨by rw [if_neg (by decide)], .inl rfl⟩
  · rw [h1, h2, if_pos (by omega), if_pos (by omega), if_pos (by omega), rd_at l j hj, Option.bind_some]
    by_cases hc : wrap64 (now - l[j].f2) > ttl
    · rw [if_pos hc, decide_eq_true hc, if_pos rfl]; exact ⟨rfl, .inl rfl⟩
    · rw [if_neg hc, decide_eq_false hc, if_neg (by decide)]; exact ⟨rfl, .inr ⟨j, hj, rfl⟩⟩
theorem DeskTells : chancellaw11_DeskTells.Pure := by
  intro l a1 a2 a3 a4 a5 a6 a7 h0 _ _ _ _ _ _ _
  obtain ⟨b, hb⟩ := right_l l h0.1 a1 a2 a3 a4 a5 a6 a7 _ 0 rfl (by omega)
  have hl := h0.1
  obtain ⟨K, hK⟩ : ∃ K, l.length + l.length + l.length + 10 < K := ⟨l.length + l.length + l.length + 11, by omega⟩
  refine ⟨K + 1, ?_⟩
  have hW : desk_Who.f (([(⟨(⟨#[97]⟩ : ByteArray), 3, 5, 0, (⟨#[]⟩ : ByteArray)⟩ : S28)] : List (S28))) (⟨#[97]⟩ : ByteArray) 9 4 = some (3, true) := by
    first | rfl | kernel_rfl
  unfold chancellaw11_DeskTells.f
  rw [hW, Option.bind_some, if_pos rfl, chancellaw11_DeskTells.j0, if_neg (by decide)]
  have h1 := hb K (by omega)
  unfold chancellaw11_right.f
  rw [show ((0 : Nat) : Int) = 0 from rfl] at h1
  rw [h1.1, Option.bind_some]
  cases b with
  | false => rw [if_neg (by decide)]
  | true =>
    rw [if_pos rfl]
    have hr := h1.2 rfl
    obtain ⟨hv, hcase⟩ := live_f l a1 a4 a5 hl hr K (by omega)
    unfold desk_Who.f chancelref11_Who.f desk_Begin.f chancelref11_Begin.f desk_find.f
    rw [hv]
    simp only [Option.bind_some]
    rcases hcase with hc | ⟨j, hj, hc⟩
    · rw [hc]
      simp
    · rw [hc]
      rw [if_neg (show ¬ (j : Int) < 0 by omega), if_pos (show 0 ≤ (j : Int) by omega), if_pos (show (j : Int) < (l.length : Int) by omega)]
      simp only [Option.bind_some]
      rw [if_neg (show ¬ (j : Int) < 0 by omega), if_pos (show 0 ≤ (j : Int) by omega), if_pos (show (j : Int) < (l.length : Int) by omega)]
      by_cases d1 : a3 = (rd_T28 l (j : Int)).f3
      · simp [d1]
      · by_cases d2 : a3 < (rd_T28 l (j : Int)).f3
        · simp [d1, d2]
        · simp [d1, d2]
end Go.Proofs.Ytdfgibajcifjaaa.Pure
