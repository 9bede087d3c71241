/- Seats with a new one, or why there is none, are the document's: the law DeskOpens over lists alone. No condition. -/
import Derived.Test.YtdfgibajcifjaaaADeskOpensx4
namespace Go.Proofs.Ytdfgibajcifjaaa.Pure
open Go.RowKit Go.Proofs.Ytdfgibajcifjaaa.ADeskOpens Go.Proofs.YtdfgibajcifjaaaW.PrintWords Go.Proofs.YtdfgibajcifjaaaW.PrintLast
def tok (t : ByteArray) (s : S28) : Bool := decide (s.f0.toList = t.toList)
theorem ix_spec (p : S28 → Bool) : ∀ (l : List S28) (i : Nat),
    (ix p l i = -1 ∧ ∀ x ∈ l, p x = false) ∨ ∃ j, ∃ h : j < l.length, ix p l i = ((i + j : Nat) : Int) ∧ p l[j] = true ∧ ∀ j' (h' : j' < l.length), j' < j → p l[j'] = false
  | [], i => .inl ⟨rfl, fun x hx => by cases hx⟩
  | x :: xs, i => by
    rw [ix]
    by_cases hp : p x = true
    · rw [if_pos hp]
      exact .inr ⟨0, by simp, by simp, hp, fun j' _ h => by omega⟩
    · rw [if_neg hp]
      have hp' : p x = false := by simpa using hp
      rcases ix_spec p xs (i + 1) with ⟨h1, h2⟩ | ⟨j, hj, h1, h2, h3⟩
      · exact .inl ⟨h1, fun y hy => by
          rcases List.mem_cons.mp hy with rfl | hy
          · exact hp'
          · exact h2 y hy⟩
      · refine .inr ⟨j + 1, by simpa using hj, by rw [h1]; congr 1; omega, h2, fun j' h' hlt => ?_⟩
        cases j' with
        | zero => exact hp'
        | succ j' => exact h3 j' (by simpa using h') (by omega)
theorem ix_none (p : S28 → Bool) : ∀ (l : List S28) (i : Nat), (∀ x ∈ l, p x = false) → ix p l i = -1
  | [], i, _ => rfl
  | x :: xs, i, h => by
    rw [ix, if_neg (by rw [h x List.mem_cons_self]; decide)]
    exact ix_none p xs (i + 1) (fun y hy => h y (List.mem_cons_of_mem _ hy))
theorem ix_at (p : S28 → Bool) : ∀ (l : List S28) (i j : Nat) (h : j < l.length), p l[j] = true → (∀ j' (h' : j' < l.length), j' < j → p l[j'] = false) → ix p l i = ((i + j : Nat) : Int)
  | x :: xs, i, 0, h, hp, _ => by rw [ix, if_pos (show p x = true from hp)]; simp
  | x :: xs, i, j + 1, h, hp, hb => by
    rw [ix, if_neg (by have := hb 0 (by simp) (by omega); simp only [List.getElem_cons_zero] at this; rw [this]; decide)]
    rw [ix_at p xs (i + 1) j (by simpa using h) (by simpa using hp) (fun j' h' hlt => by have := hb (j' + 1) (by simpa using h') (by omega); simpa using this)]
    congr 1; omega
theorem wrapSucc (i n : Nat) (hi : i < n) (hn : n ≤ maxLen) : wrap64 ((i : Int) + 1) = ((i + 1 : Nat) : Int) := by
  have h : maxLen ≤ 9223372036854775807 := by decide +kernel
  unfold wrap64
  omega
theorem rd_at (xs : List S28) (i : Nat) (h : i < xs.length) : rd_T28 xs (i : Int) = xs[i] := by
  unfold rd_T28
  rw [Int.toNat_natCast, List.getD_eq_getElem?_getD, List.getElem?_eq_getElem h, Option.getD_some]
theorem place_l (l : List S28) (t : ByteArray) (hl : l.length ≤ maxLen) : ∀ (m i k : Nat), m = l.length - i → i ≤ l.length → m < k →
    chancelref11_place.l0 k l t (i : Int) = some (ix (tok t) (l.drop i) i)
  | 0, i, k + 1, hm, hi, hk => by
    rw [chancelref11_place.l0, if_neg (by omega), List.drop_eq_nil_of_le (by omega)]; rfl
  | m + 1, i, k + 1, hm, hi, hk => by
    have hlt : i < l.length := by omega
    rw [chancelref11_place.l0, if_pos (by omega), if_pos (by omega), rd_at l i hlt, List.drop_eq_getElem_cons hlt, ix, wrapSucc i l.length hlt hl]
    unfold tok
    by_cases h : l[i].f0.toList = t.toList
    · rw [if_pos h, decide_eq_true h, if_pos rfl]
    · rw [if_neg h, decide_eq_false h, if_neg (by decide)]
      exact place_l l t hl m (i + 1) k (by omega) (by omega) (by omega)
theorem place_f (l : List S28) (t : ByteArray) (hl : l.length ≤ maxLen) (k : Nat) (hk : l.length < k) : chancelref11_place.f k l t = some (ix (tok t) l 0) := by
  have := place_l l t hl _ 0 k rfl (by omega) (by omega)
  rw [List.drop_zero] at this
  exact this
theorem Right_l (l : List S28) (hl : l.length ≤ maxLen) : ∀ (m i : Nat), m = l.length - i → i ≤ l.length →
    ∃ b, ∀ k, m + l.length + 1 < k → chancelref11_Right.l0 k l (i : Int) = some b ∧ (b = true → ∀ j (h : j < l.length), i ≤ j → ix (tok l[j].f0) l 0 = (j : Int))
  | 0, i, hm, hi => by
    refine ⟨true, fun k hk => ?_⟩
    obtain ⟨k, rfl⟩ : ∃ j, k = j + 1 := ⟨k - 1, by omega⟩
    rw [chancelref11_Right.l0, if_neg (by omega)]
    exact ⟨rfl, fun _ j h h' => by omega⟩
  | m + 1, i, hm, hi => by
    obtain ⟨b, hb⟩ := Right_l l hl m (i + 1) (by omega) (by omega)
    have hlt : i < l.length := by omega
    by_cases h : ix (tok l[i].f0) l 0 = (i : Int)
    · refine ⟨b, fun k hk => ?_⟩
      obtain ⟨k, rfl⟩ : ∃ j, k = j + 1 := ⟨k - 1, by omega⟩
      rw [chancelref11_Right.l0, if_pos (by omega), if_pos (by omega), rd_at l i hlt, place_f l _ hl k (by omega), Option.bind_some, if_pos h, wrapSucc i l.length hlt hl]
      refine ⟨(hb k (by omega)).1, fun h1 j hj hij => ?_⟩
      by_cases e : j = i
      · subst e; exact h
      · exact (hb k (by omega)).2 h1 j hj (by omega)
    · refine ⟨false, fun k hk => ?_⟩
      obtain ⟨k, rfl⟩ : ∃ j, k = j + 1 := ⟨k - 1, by omega⟩
      rw [chancelref11_Right.l0, if_pos (by omega), if_pos (by omega), rd_at l i hlt, place_f l _ hl k (by omega), Option.bind_some, if_neg h]
      exact ⟨rfl, fun h => by cases h⟩
/-- What the guard lets in. -/
structure Facts (l : List S28) (now ttl : Int) (i : Nat) : Prop where
  uniq : ∀ j (h : j < l.length), ix (tok l[j].f0) l 0 = (j : Int)
  len : l.length ≤ 60
  now0 : 0 ≤ now
  now1 : now ≤ 1099511627776
  ttl0 : 0 ≤ ttl
  ttl1 : ttl ≤ 1099511627776
  used : ∀ j (h : j < l.length), i ≤ j → 0 ≤ l[j].f2 ∧ l[j].f2 ≤ 1099511627776
theorem right_l (l : List S28) (hl : l.length ≤ maxLen) (a1 : ByteArray) (a2 a3 a4 a5 a6 : Int) (a7 : ByteArray) : ∀ (m i : Nat), m = l.length - i → i ≤ l.length →
    ∃ b, ∀ k, m + l.length + l.length + 3 < k → chancellaw11_right.l0 k l (l.length : Int) (i : Int) l a1 a2 a3 a4 a5 a6 a7 = some b ∧ (b = true → Facts l a4 a5 i)
  | 0, i, hm, hi => by
    obtain ⟨b, hb⟩ := Right_l l hl _ 0 rfl (by omega)
    by_cases h60 : (l.length : Int) ≤ 60
    · cases b with
      | false =>
        refine ⟨false, fun k hk => ?_⟩
        obtain ⟨k, rfl⟩ : ∃ j, k = j + 1 := ⟨k - 1, by omega⟩
        rw [chancellaw11_right.l0, if_neg (by omega), if_pos h60]
        unfold chancelref11_Right.f
        have := (hb k (by omega)).1
        rw [show ((0 : Nat) : Int) = 0 from rfl] at this
        rw [this, Option.bind_some, if_neg (by decide)]
        exact ⟨rfl, fun h => by cases h⟩
      | true =>
        have hR := fun j h => (hb (l.length + l.length + 2) (by omega)).2 rfl j h (Nat.zero_le _)
        refine ⟨(if a4 ≥ 0 then (if a4 ≤ 1099511627776 then (if a5 ≥ 0 then (decide (a5 ≤ 1099511627776)) else false) else false) else false), fun k hk => ?_⟩
        obtain ⟨k, rfl⟩ : ∃ j, k = j + 1 := ⟨k - 1, by omega⟩
        rw [chancellaw11_right.l0, if_neg (by omega), if_pos h60]
        unfold chancelref11_Right.f
        have := (hb k (by omega)).1
        rw [show ((0 : Nat) : Int) = 0 from rfl] at this
        rw [this, Option.bind_some, if_pos rfl]
        refine ⟨by split <;> (try split) <;> (try split) <;> rfl, fun h => ?_⟩
        by_cases d1 : a4 ≥ 0
        · rw [if_pos d1] at h
          by_cases d2 : a4 ≤ 1099511627776
          · rw [if_pos d2] at h
            by_cases d3 : a5 ≥ 0
            · rw [if_pos d3] at h
              exact ⟨hR, by omega, d1, d2, d3, of_decide_eq_true h, fun j h h' => by omega⟩
            · rw [if_neg d3] at h; cases h
          · rw [if_neg d2] at h; cases h
        · rw [if_neg d1] at h; cases h
    · refine ⟨false, fun k hk => ?_⟩
      obtain ⟨k, rfl⟩ : ∃ j, k = j + 1 := ⟨k - 1, by omega⟩
      rw [chancellaw11_right.l0, if_neg (by omega), if_neg h60]
      exact ⟨rfl, fun h => by cases h⟩
  | m + 1, i, hm, hi => by
    obtain ⟨b, hb⟩ := right_l l hl a1 a2 a3 a4 a5 a6 a7 m (i + 1) (by omega) (by omega)
    have hlt : i < l.length := by omega
    by_cases h1 : (rd_T28 l (i : Int)).f2 < 0
    · refine ⟨false, fun k hk => ?_⟩
      obtain ⟨k, rfl⟩ : ∃ j, k = j + 1 := ⟨k - 1, by omega⟩
      rw [chancellaw11_right.l0, if_pos (by omega), if_pos (by omega), if_pos (by omega), if_pos h1]
      exact ⟨rfl, fun h => by cases h⟩
    · by_cases h2 : (rd_T28 l (i : Int)).f2 > 1099511627776
      · refine ⟨false, fun k hk => ?_⟩
        obtain ⟨k, rfl⟩ : ∃ j, k = j + 1 := ⟨k - 1, by omega⟩
        rw [chancellaw11_right.l0, if_pos (by omega), if_pos (by omega), if_pos (by omega), if_neg h1, if_pos h2]
        exact ⟨rfl, fun h => by cases h⟩
      · refine ⟨b, fun k hk => ?_⟩
        obtain ⟨k, rfl⟩ : ∃ j, k = j + 1 := ⟨k - 1, by omega⟩
        rw [chancellaw11_right.l0, if_pos (by omega), if_pos (by omega), if_pos (by omega), if_neg h1, if_neg h2, wrapSucc i l.length hlt hl]
        refine ⟨(hb k (by omega)).1, fun h => ?_⟩
        obtain ⟨q1, q2, q3, q4, q5, q6, q7⟩ := (hb k (by omega)).2 h
        refine ⟨q1, q2, q3, q4, q5, q6, fun j hj hij => ?_⟩
        by_cases e : j = i
        · subst e
          rw [rd_at l j hj] at h1 h2
          omega
        · exact q7 j hj (by omega)
/-- The guard answers, and what it lets in. -/
theorem right_f (l : List S28) (hl : l.length ≤ maxLen) (a1 : ByteArray) (a2 a3 a4 a5 a6 : Int) (a7 : ByteArray) :
    ∃ b, (∀ k, l.length + l.length + l.length + 3 < k → chancellaw11_right.f k l a1 a2 a3 a4 a5 a6 a7 = some b) ∧ (b = true → Facts l a4 a5 0) := by
  obtain ⟨b, hb⟩ := right_l l hl a1 a2 a3 a4 a5 a6 a7 _ 0 rfl (by omega)
  refine ⟨b, fun k hk => ?_, fun h => (hb (l.length + l.length + l.length + 4) (by omega)).2 h⟩
  have := (hb k (by omega)).1
  rw [show ((0 : Nat) : Int) = 0 from rfl] at this
  exact this
theorem same_self (l : List S28) (hl : l.length ≤ maxLen) : ∀ (m i k : Nat), m = l.length - i → i ≤ l.length → m < k → chancelref11_Same.l0 k l l (i : Int) = some true
  | 0, i, k + 1, hm, hi, hk => by rw [chancelref11_Same.l0, if_neg (by omega)]
  | m + 1, i, k + 1, hm, hi, hk => by
    have hlt : i < l.length := by omega
    rw [chancelref11_Same.l0, if_pos (by omega), if_pos (by omega), if_pos (by omega), if_neg (by simp), wrapSucc i l.length hlt hl]
    exact same_self l hl m (i + 1) k (by omega) (by omega) (by omega)
theorem same_f (l : List S28) (hl : l.length ≤ maxLen) (k : Nat) (hk : l.length < k) : chancelref11_Same.f k l l = some true := by
  unfold chancelref11_Same.f
  rw [if_pos rfl]
  exact same_self l hl _ 0 k rfl (by omega) (by omega)
/-- Among seats that aren't past, the token's live seat is the token's seat. -/
theorem ix_live (t : ByteArray) (now ttl : Int) : ∀ (l : List S28) (i : Nat), (∀ x ∈ l, pastB now ttl x = false) → ix (seat t now ttl) l i = ix (tok t) l i
  | [], i, _ => rfl
  | x :: xs, i, h => by
    have hx := h x List.mem_cons_self
    unfold pastB at hx
    have hx := of_decide_eq_false hx
    have e : seat t now ttl x = tok t x := by
      unfold seat tok
      rw [decide_eq_true (show wrap64 (now - x.f2) ≤ ttl by omega), Bool.and_true]
    rw [ix, ix, e, ix_live t now ttl xs (i + 1) (fun y hy => h y (List.mem_cons_of_mem _ hy))]
theorem open_l (l : List S28) (a1 : ByteArray) (a2 a3 a4 a5 : Int) (hl : l.length ≤ maxLen) (h60 : l.length ≤ 60) : ∀ (m i k : Nat) (acc : List S28), m = l.length - i → i ≤ l.length → m + 100 < k → acc.length + m ≤ 60 → acc = (l.take i).filter (fun x => !pastB a3 a4 x) →
    chancelref11_Open.l0 k l a1 a2 a3 a4 a5 acc (i : Int) =
      (if a1.toList = [] then some (l, 9) else if 0 ≤ ix (tok a1) (l.filter (fun x => !pastB a3 a4 x)) 0 then some (l, 9)
      else if a5 ≤ ((l.filter (fun x => !pastB a3 a4 x)).length : Int) then some (l, 4)
      else some (l.filter (fun x => !pastB a3 a4 x) ++ [⟨a1, a2, a3, 0, ⟨#[]⟩⟩], 0))
  | 0, i, k + 1, acc, hm, hi, hk, ha, he => by
    obtain ⟨k, rfl⟩ : ∃ q, k = q + 1 := ⟨k - 1, by omega⟩
    have hii : i = l.length := by omega
    rw [hii, List.take_length] at he
    rw [chancelref11_Open.l0, if_neg (by omega), ← he]
    by_cases h1 : a1.toList = []
    · rw [if_pos h1, if_pos h1, chancelref11_Open.j1, if_pos rfl]
    · rw [if_neg h1, if_neg h1, place_f acc a1 (by have hmx : (61 : Nat) ≤ maxLen := by decide +kernel
                                                   omega) _ (by omega), Option.bind_some]
      by_cases h2 : 0 ≤ ix (tok a1) acc 0
      · rw [if_pos h2, chancelref11_Open.j1, if_pos (decide_eq_true h2)]
      · rw [if_neg h2, chancelref11_Open.j1, if_neg (by rw [decide_eq_false h2]; decide)]
        by_cases h3 : a5 ≤ (acc.length : Int)
        · rw [if_pos h3, if_pos h3]
        · rw [if_neg h3, if_neg h3, if_pos (by omega)]
  | m + 1, i, k + 1, acc, hm, hi, hk, ha, he => by
    have hlt : i < l.length := by omega
    rw [chancelref11_Open.l0, if_pos (by omega), if_pos (by omega), rd_at l i hlt, wrapSucc i l.length hlt hl]
    unfold chancelref11_past.f
    rw [Option.bind_some]
    have hst : (l.take (i + 1)).filter (fun x => !pastB a3 a4 x) = acc ++ [l[i]].filter (fun x => !pastB a3 a4 x) := by rw [List.take_succ_eq_append_getElem hlt, List.filter_append, ← he]
    by_cases h : wrap64 (a3 - l[i].f2) > a4
    · rw [decide_eq_true h, if_pos rfl]
      have hp : pastB a3 a4 l[i] = true := decide_eq_true h
      exact open_l l a1 a2 a3 a4 a5 hl h60 m (i + 1) k acc (by omega) (by omega) (by omega) (by omega) (by rw [hst]; simp [hp])
    · rw [decide_eq_false h, if_neg (by decide), if_pos (by omega)]
      have hp : pastB a3 a4 l[i] = false := decide_eq_false h
      exact open_l l a1 a2 a3 a4 a5 hl h60 m (i + 1) k _ (by omega) (by omega) (by omega) (by rw [List.length_append, List.length_singleton]; omega) (by rw [hst]; simp [hp])
theorem DeskOpens : chancellaw11_DeskOpens.Pure := by
  intro l a1 a2 a3 a4 a5 a6 a7 h0 _ _ _ _ _ _ _
  have hl := h0.1
  obtain ⟨b, hb, hf⟩ := right_f l hl a1 a2 a3 a4 a5 a6 a7
  refine ⟨l.length + l.length + l.length + 206, ?_⟩
  have hW : desk_Open.f ([] : List (S28)) (⟨#[97]⟩ : ByteArray) 3 5 9 1 = some ([⟨(⟨#[97]⟩ : ByteArray), 3, 5, 0, (⟨#[]⟩ : ByteArray)⟩], 0) := by
    first | rfl | kernel_rfl
  unfold chancellaw11_DeskOpens.f
  rw [hW, Option.bind_some, if_pos rfl, if_pos (show (([(⟨(⟨#[97]⟩ : ByteArray), 3, 5, 0, (⟨#[]⟩ : ByteArray)⟩ : S28)] : List S28).length : Int) = 1 from rfl), if_pos (show (0 : Int) < (([(⟨(⟨#[97]⟩ : ByteArray), 3, 5, 0, (⟨#[]⟩ : ByteArray)⟩ : S28)] : List S28).length : Int) by simp)]
  rw [show ((rd_T28 [(⟨(⟨#[97]⟩ : ByteArray), 3, 5, 0, (⟨#[]⟩ : ByteArray)⟩ : S28)] 0).f1 != 3) = false by first | rfl | kernel_rfl | decide]
  rw [chancellaw11_DeskOpens.j0, if_neg (by decide), hb _ (by omega), Option.bind_some]
  cases b with
  | false => rw [if_neg (by decide)]
  | true =>
    obtain ⟨hu, h60, _, _, _, _, _⟩ := hf rfl
    rw [if_pos rfl]
    have href : chancelref11_Open.f (l.length + l.length + l.length + 205) l a1 a2 a4 a5 a6 = desk_Open.f l a1 a2 a4 a5 a6 := by
      unfold chancelref11_Open.f desk_Open.f
      rw [if_pos (by omega), ix_live a1 a4 a5 _ 0 (fun x hx => by have := (List.mem_filter.1 hx).2; simpa using this)]
      exact open_l l a1 a2 a4 a5 a6 hl h60 _ 0 _ [] rfl (by omega) (by omega) (by simp; omega) rfl
    have hsome : ∃ r s, desk_Open.f l a1 a2 a4 a5 a6 = some (r, s) ∧ r.length ≤ 61 := by
      have hfl : (l.filter (fun x => !pastB a4 a5 x)).length ≤ l.length := List.length_filter_le _ _
      unfold desk_Open.f
      rw [if_pos (by omega)]
      split
      · exact ⟨_, _, rfl, by omega⟩
      split
      · exact ⟨_, _, rfl, by omega⟩
      split
      · exact ⟨_, _, rfl, by omega⟩
      · exact ⟨_, _, rfl, by rw [List.length_append, List.length_singleton]; omega⟩
    obtain ⟨r, s, hrs, hr61⟩ := hsome
    have hmx : (61 : Nat) ≤ maxLen := by decide +kernel
    rw [href, hrs]
    simp only [Option.bind_some]
    rw [if_pos True.intro, same_f r (by omega) _ (by omega)]
    rfl
end Go.Proofs.Ytdfgibajcifjaaa.Pure
