/- Seats behind a call, and without one, are the document's: the law DeskDone over lists alone. No condition. -/
import Derived.Test.YtdfgibajcifjaaaADeskDonex4
namespace Go.Proofs.Ytdfgibajcifjaaa.Pure
open Go.RowKit Go.Proofs.Ytdfgibajcifjaaa.ADeskDone Go.Proofs.YtdfgibajcifjaaaW.PrintWords Go.Proofs.YtdfgibajcifjaaaW.PrintLast
def tok (t : ByteArray) (s : S28) : Bool := decide (s.f0.toList = t.toList)
theorem ix_spec (p : S28 → Bool) : ∀ (l : List S28) (i : Nat),
    (ix p l i = -1 ∧ ∀ x ∈ l, p x = false) ∨ ∃ j, ∃ h : j < l.length, ix p l i = ((i + j : Nat) : Int) ∧ p l[j] = true ∧ ∀ j' (h' : j' < l.length), j' < j → p l[j'] = false
  | [], i => .inl ⟨rfl, fun x hx => by cases hx⟩
  | x :: xs, i => by
    rw [ix]
    by_cases hp : p x = true
    · rw [if_pos hp]
      exact .inr ⟨0, by simp, by simp, hp, fun j' _ h => by omega⟩
    · rw [if_neg hp]
      have hp' : p x = false := by simpa using hp
      rcases ix_spec p xs (i + 1) with ⟨h1, h2⟩ | ⟨j, hj, h1, h2, h3⟩
      · exact .inl ⟨h1, fun y hy => by
          rcases List.mem_cons.mp hy with rfl | hy
          · exact hp'
          · exact h2 y hy⟩
      · refine .inr ⟨j + 1, by simpa using hj, by rw [h1]; congr 1; omega, h2, fun j' h' hlt => ?_⟩
        cases j' with
        | zero => exact hp'
        | succ j' => exact h3 j' (by simpa using h') (by omega)
theorem ix_none (p : S28 → Bool) : ∀ (l : List S28) (i : Nat), (∀ x ∈ l, p x = false) → ix p l i = -1
  | [], i, _ => rfl
  | x :: xs, i, h => by
    rw [ix, if_neg (by rw [h x List.mem_cons_self]; decide)]
    exact ix_none p xs (i + 1) (fun y hy => h y (List.mem_cons_of_mem _ hy))
theorem ix_at (p : S28 → Bool) : ∀ (l : List S28) (i j : Nat) (h : j < l.length), p l[j] = true → (∀ j' (h' : j' < l.length), j' < j → p l[j'] = false) → ix p l i = ((i + j : Nat) : Int)
  | x :: xs, i, 0, h, hp, _ => by rw [ix, if_pos (show p x = true from hp)]; simp
  | x :: xs, i, j + 1, h, hp, hb => by
    rw [ix, if_neg (by have := hb 0 (by simp) (by omega); simp only [List.getElem_cons_zero] at this; rw [this]; decide)]
    rw [ix_at p xs (i + 1) j (by simpa using h) (by simpa using hp) (fun j' h' hlt => by have := hb (j' + 1) (by simpa using h') (by omega); simpa using this)]
    congr 1; omega
theorem wrapSucc (i n : Nat) (hi : i < n) (hn : n ≤ maxLen) : wrap64 ((i : Int) + 1) = ((i + 1 : Nat) : Int) := by
  have h : maxLen ≤ 9223372036854775807 := by decide +kernel
  unfold wrap64
  omega
theorem rd_at (xs : List S28) (i : Nat) (h : i < xs.length) : rd_T28 xs (i : Int) = xs[i] := by
  unfold rd_T28
  rw [Int.toNat_natCast, List.getD_eq_getElem?_getD, List.getElem?_eq_getElem h, Option.getD_some]
theorem place_l (l : List S28) (t : ByteArray) (hl : l.length ≤ maxLen) : ∀ (m i k : Nat), m = l.length - i → i ≤ l.length → m < k →
    chancelref11_place.l0 k l t (i : Int) = some (ix (tok t) (l.drop i) i)
  | 0, i, k + 1, hm, hi, hk => by
    rw [chancelref11_place.l0, if_neg (by omega), List.drop_eq_nil_of_le (by omega)]; rfl
  | m + 1, i, k + 1, hm, hi, hk => by
    have hlt : i < l.length := by omega
    rw [chancelref11_place.l0, if_pos (by omega), if_pos (by omega), rd_at l i hlt, List.drop_eq_getElem_cons hlt, ix, wrapSucc i l.length hlt hl]
    unfold tok
    by_cases h : l[i].f0.toList = t.toList
    · rw [if_pos h, decide_eq_true h, if_pos rfl]
    · rw [if_neg h, decide_eq_false h, if_neg (by decide)]
      exact place_l l t hl m (i + 1) k (by omega) (by omega) (by omega)
theorem place_f (l : List S28) (t : ByteArray) (hl : l.length ≤ maxLen) (k : Nat) (hk : l.length < k) : chancelref11_place.f k l t = some (ix (tok t) l 0) := by
  have := place_l l t hl _ 0 k rfl (by omega) (by omega)
  rw [List.drop_zero] at this
  exact this
theorem Right_l (l : List S28) (hl : l.length ≤ maxLen) : ∀ (m i : Nat), m = l.length - i → i ≤ l.length →
    ∃ b, ∀ k, m + l.length + 1 < k → chancelref11_Right.l0 k l (i : Int) = some b ∧ (b = true → ∀ j (h : j < l.length), i ≤ j → ix (tok l[j].f0) l 0 = (j : Int))
  | 0, i, hm, hi => by
    refine ⟨true, fun k hk => ?_⟩
    obtain ⟨k, rfl⟩ : ∃ j, k = j + 1 := ⟨k - 1, by omega⟩
    rw [chancelref11_Right.l0, if_neg (by omega)]
    exact ⟨rfl, fun _ j h h' => by omega⟩
  | m + 1, i, hm, hi => by
    obtain ⟨b, hb⟩ := Right_l l hl m (i + 1) (by omega) (by omega)
    have hlt : i < l.length := by omega
    by_cases h : ix (tok l[i].f0) l 0 = (i : Int)
    · refine ⟨b, fun k hk => ?_⟩
      obtain ⟨k, rfl⟩ : ∃ j, k = j + 1 := ⟨k - 1, by omega⟩
      rw [chancelref11_Right.l0, if_pos (by omega), if_pos (by omega), rd_at l i hlt, place_f l _ hl k (by omega), Option.bind_some, if_pos h, wrapSucc i l.length hlt hl]
      refine ⟨(hb k (by omega)).1, fun h1 j hj hij => ?_⟩
      by_cases e : j = i
      · subst e; exact h
      · exact (hb k (by omega)).2 h1 j hj (by omega)
    · refine ⟨false, fun k hk => ?_⟩
      obtain ⟨k, rfl⟩ : ∃ j, k = j + 1 := ⟨k - 1, by omega⟩
      rw [chancelref11_Right.l0, if_pos (by omega), if_pos (by omega), rd_at l i hlt, place_f l _ hl k (by omega), Option.bind_some, if_neg h]
      exact ⟨rfl, fun h => by cases h⟩
/-- What the guard lets in. -/
structure Facts (l : List S28) (now ttl : Int) (i : Nat) : Prop where
  uniq : ∀ j (h : j < l.length), ix (tok l[j].f0) l 0 = (j : Int)
  len : l.length ≤ 60
  now0 : 0 ≤ now
  now1 : now ≤ 1099511627776
  ttl0 : 0 ≤ ttl
  ttl1 : ttl ≤ 1099511627776
  used : ∀ j (h : j < l.length), i ≤ j → 0 ≤ l[j].f2 ∧ l[j].f2 ≤ 1099511627776
theorem right_l (l : List S28) (hl : l.length ≤ maxLen) (a1 : ByteArray) (a2 a3 a4 a5 a6 : Int) (a7 : ByteArray) : ∀ (m i : Nat), m = l.length - i → i ≤ l.length →
    ∃ b, ∀ k, m + l.length + l.length + 3 < k → chancellaw11_right.l0 k l (l.length : Int) (i : Int) l a1 a2 a3 a4 a5 a6 a7 = some b ∧ (b = true → Facts l a4 a5 i)
  | 0, i, hm, hi => by
    obtain ⟨b, hb⟩ := Right_l l hl _ 0 rfl (by omega)
    by_cases h60 : (l.length : Int) ≤ 60
    · cases b with
      | false =>
        refine ⟨false, fun k hk => ?_⟩
        obtain ⟨k, rfl⟩ : ∃ j, k = j + 1 := ⟨k - 1, by omega⟩
        rw [chancellaw11_right.l0, if_neg (by omega), if_pos h60]
        unfold chancelref11_Right.f
        have := (hb k (by omega)).1
        rw [show ((0 : Nat) : Int) = 0 from rfl] at this
        rw [this, Option.bind_some, if_neg (by decide)]
        exact ⟨rfl, fun h => by cases h⟩
      | true =>
        have hR := fun j h => (hb (l.length + l.length + 2) (by omega)).2 rfl j h (Nat.zero_le _)
        refine ⟨(if a4 ≥ 0 then (if a4 ≤ 1099511627776 then (if a5 ≥ 0 then (decide (a5 ≤ 1099511627776)) else false) else false) else false), fun k hk => ?_⟩
        obtain ⟨k, rfl⟩ : ∃ j, k = j + 1 := ⟨k - 1, by omega⟩
        rw [chancellaw11_right.l0, if_neg (by omega), if_pos h60]
        unfold chancelref11_Right.f
        have := (hb k (by omega)).1
        rw [show ((0 : Nat) : Int) = 0 from rfl] at this
        rw [this, Option.bind_some, if_pos rfl]
        refine ⟨by split <;> (try split) <;> (try split) <;> rfl, fun h => ?_⟩
        by_cases d1 : a4 ≥ 0
        · rw [if_pos d1] at h
          by_cases d2 : a4 ≤ 1099511627776
          · rw [if_pos d2] at h
            by_cases d3 : a5 ≥ 0
            · rw [if_pos d3] at h
              exact ⟨hR, by omega, d1, d2, d3, of_decide_eq_true h, fun j h h' => by omega⟩
            · rw [if_neg d3] at h; cases h
          · rw [if_neg d2] at h; cases h
        · rw [if_neg d1] at h; cases h
    · refine ⟨false, fun k hk => ?_⟩
      obtain ⟨k, rfl⟩ : ∃ j, k = j + 1 := ⟨k - 1, by omega⟩
      rw [chancellaw11_right.l0, if_neg (by omega), if_neg h60]
      exact ⟨rfl, fun h => by cases h⟩
  | m + 1, i, hm, hi => by
    obtain ⟨b, hb⟩ := right_l l hl a1 a2 a3 a4 a5 a6 a7 m (i + 1) (by omega) (by omega)
    have hlt : i < l.length := by omega
    by_cases h1 : (rd_T28 l (i : Int)).f2 < 0
    · refine ⟨false, fun k hk => ?_⟩
      obtain ⟨k, rfl⟩ : ∃ j, k = j + 1 := ⟨k - 1, by omega⟩
      rw [chancellaw11_right.l0, if_pos (by omega), if_pos (by omega), if_pos (by omega), if_pos h1]
      exact ⟨rfl, fun h => by cases h⟩
    · by_cases h2 : (rd_T28 l (i : Int)).f2 > 1099511627776
      · refine ⟨false, fun k hk => ?_⟩
        obtain ⟨k, rfl⟩ : ∃ j, k = j + 1 := ⟨k - 1, by omega⟩
        rw [chancellaw11_right.l0, if_pos (by omega), if_pos (by omega), if_pos (by omega), if_neg h1, if_pos h2]
        exact ⟨rfl, fun h => by cases h⟩
      · refine ⟨b, fun k hk => ?_⟩
        obtain ⟨k, rfl⟩ : ∃ j, k = j + 1 := ⟨k - 1, by omega⟩
        rw [chancellaw11_right.l0, if_pos (by omega), if_pos (by omega), if_pos (by omega), if_neg h1, if_neg h2, wrapSucc i l.length hlt hl]
        refine ⟨(hb k (by omega)).1, fun h => ?_⟩
        obtain ⟨q1, q2, q3, q4, q5, q6, q7⟩ := (hb k (by omega)).2 h
        refine ⟨q1, q2, q3, q4, q5, q6, fun j hj hij => ?_⟩
        by_cases e : j = i
        · subst e
          rw [rd_at l j hj] at h1 h2
          omega
        · exact q7 j hj (by omega)
/-- The guard answers, and what it lets in. -/
theorem right_f (l : List S28) (hl : l.length ≤ maxLen) (a1 : ByteArray) (a2 a3 a4 a5 a6 : Int) (a7 : ByteArray) :
    ∃ b, (∀ k, l.length + l.length + l.length + 3 < k → chancellaw11_right.f k l a1 a2 a3 a4 a5 a6 a7 = some b) ∧ (b = true → Facts l a4 a5 0) := by
  obtain ⟨b, hb⟩ := right_l l hl a1 a2 a3 a4 a5 a6 a7 _ 0 rfl (by omega)
  refine ⟨b, fun k hk => ?_, fun h => (hb (l.length + l.length + l.length + 4) (by omega)).2 h⟩
  have := (hb k (by omega)).1
  rw [show ((0 : Nat) : Int) = 0 from rfl] at this
  exact this
theorem same_self (l : List S28) (hl : l.length ≤ maxLen) : ∀ (m i k : Nat), m = l.length - i → i ≤ l.length → m < k → chancelref11_Same.l0 k l l (i : Int) = some true
  | 0, i, k + 1, hm, hi, hk => by rw [chancelref11_Same.l0, if_neg (by omega)]
  | m + 1, i, k + 1, hm, hi, hk => by
    have hlt : i < l.length := by omega
    rw [chancelref11_Same.l0, if_pos (by omega), if_pos (by omega), if_pos (by omega), if_neg (by simp), wrapSucc i l.length hlt hl]
    exact same_self l hl m (i + 1) k (by omega) (by omega) (by omega)
theorem same_f (l : List S28) (hl : l.length ≤ maxLen) (k : Nat) (hk : l.length < k) : chancelref11_Same.f k l l = some true := by
  unfold chancelref11_Same.f
  rw [if_pos rfl]
  exact same_self l hl _ 0 k rfl (by omega) (by omega)
theorem upd_other (l : List S28) (t : ByteArray) (seq now : Int) (a : ByteArray) (h : ∀ x ∈ l, tok t x = false) : l.map (upd t seq now a) = l := by
  have : l.map (upd t seq now a) = l.map id := by
    refine List.map_congr_left fun x hx => ?_
    have := h x hx
    unfold tok at this
    unfold upd
    rw [if_neg (of_decide_eq_false this)]; rfl
  rw [this, List.map_id]
/-- With right seats: what the document's Done makes is what the code's makes. -/
theorem done_f (l : List S28) (t : ByteArray) (seq now : Int) (a : ByteArray) (hl : l.length ≤ maxLen) (h60 : l.length ≤ 60) (hr : ∀ i (h : i < l.length), ix (tok l[i].f0) l 0 = (i : Int)) (k : Nat) (hk : l.length < k) :
    chancelref11_Done.f k l t seq now a = some (l.map (upd t seq now a)) := by
  unfold chancelref11_Done.f
  rw [Option.bind_some, if_pos (by simp; omega), Option.bind_some, List.nil_append, place_f l t hl k hk, Option.bind_some]
  rcases ix_spec (tok t) l 0 with ⟨h1, h2⟩ | ⟨j, hj, h1, h2, h3⟩
  · rw [h1, if_neg (by decide), upd_other l t seq now a h2]
  · rw [Nat.zero_add] at h1
    rw [h1, if_pos (by omega), if_pos (by omega), if_pos (by omega)]
    simp only [Option.bind_some, Int.toNat_natCast, List.set_set]
    simp only [fun x => rd_set28 l j x hj]
    congr 1
    refine List.ext_getElem (by simp) fun i hi1 hi2 => ?_
    rw [List.getElem_set, List.getElem_map]
    have hi : i < l.length := by simpa using hi1
    by_cases e : j = i
    · subst e
      have ht : l[j].f0.toList = t.toList := of_decide_eq_true h2
      rw [if_pos rfl, upd, if_pos ht]
      simp only [rd_at l j hj]
    · rw [if_neg e]
      have hn : ¬ l[i].f0.toList = t.toList := by
        intro ht
        have e2 : tok l[i].f0 = tok t := by funext s; unfold tok; rw [ht]
        have := hr i hi
        rw [e2, h1] at this
        omega
      rw [upd, if_neg hn]
theorem close_l (l : List S28) (t : ByteArray) (hl : l.length ≤ maxLen) (h60 : l.length ≤ 60) : ∀ (m i k : Nat) (acc : List S28), m = l.length - i → i ≤ l.length → m < k → acc.length + m ≤ 60 →
    chancelref11_Close.l0 k l t acc (i : Int) = some (acc ++ (l.drop i).filter (fun x => !tokB t x))
  | 0, i, k + 1, acc, hm, hi, hk, ha => by rw [chancelref11_Close.l0, if_neg (by omega), List.drop_eq_nil_of_le (by omega)]; simp
  | m + 1, i, k + 1, acc, hm, hi, hk, ha => by
    have hlt : i < l.length := by omega
    rw [chancelref11_Close.l0, if_pos (by omega), if_pos (by omega), rd_at l i hlt, wrapSucc i l.length hlt hl, List.drop_eq_getElem_cons hlt, List.filter_cons]
    by_cases h : l[i].f0.toList = t.toList
    · rw [if_pos h, if_neg (by unfold tokB; rw [decide_eq_true h]; decide)]
      exact close_l l t hl h60 m (i + 1) k acc (by omega) (by omega) (by omega) (by omega)
    · rw [if_neg h, if_pos (by omega), if_pos (by unfold tokB; rw [decide_eq_false h]; rfl)]
      rw [close_l l t hl h60 m (i + 1) k _ (by omega) (by omega) (by omega) (by rw [List.length_append, List.length_singleton]; omega), List.append_assoc]
      rfl
theorem DeskDone : chancellaw11_DeskDone.Pure := by
  intro l a1 a2 a3 a4 a5 a6 a7 h0 _ _ _ _ _ _ _
  have hl := h0.1
  obtain ⟨b, hb, hf⟩ := right_f l hl a1 a2 a3 a4 a5 a6 a7
  refine ⟨l.length + l.length + l.length + 6, ?_⟩
  have hW : desk_Done.f (([(⟨(⟨#[97]⟩ : ByteArray), 0, 0, 0, (⟨#[]⟩ : ByteArray)⟩ : S28)] : List (S28))) (⟨#[97]⟩ : ByteArray) 1 5 (⟨#[120]⟩ : ByteArray) = some [⟨(⟨#[97]⟩ : ByteArray), 0, 5, 1, (⟨#[120]⟩ : ByteArray)⟩] := by
    first | rfl | kernel_rfl
  unfold chancellaw11_DeskDone.f
  rw [hW, Option.bind_some, if_pos (show (([(⟨(⟨#[97]⟩ : ByteArray), 0, 5, 1, (⟨#[120]⟩ : ByteArray)⟩ : S28)] : List S28).length : Int) = 1 from rfl), if_pos (show (0 : Int) < (([(⟨(⟨#[97]⟩ : ByteArray), 0, 5, 1, (⟨#[120]⟩ : ByteArray)⟩ : S28)] : List S28).length : Int) by simp)]
  rw [show ((rd_T28 [(⟨(⟨#[97]⟩ : ByteArray), 0, 5, 1, (⟨#[120]⟩ : ByteArray)⟩ : S28)] 0).f4.toList != ([120] : List UInt8)) = false by first | rfl | kernel_rfl | decide]
  rw [chancellaw11_DeskDone.j0, if_neg (by decide), hb _ (by omega), Option.bind_some]
  cases b with
  | false => rw [if_neg (by decide)]
  | true =>
    obtain ⟨hu, h60, _, _, _, _, _⟩ := hf rfl
    have hdone : desk_Done.f l a1 a3 a4 a7 = some (l.map (upd a1 a3 a4 a7)) := by unfold desk_Done.f; rw [if_pos (by omega)]
    have hclose : desk_Close.f l a1 = some (l.filter (fun x => !tokB a1 x)) := by unfold desk_Close.f; rw [if_pos (by omega)]
    have hc2 : chancelref11_Close.f (l.length + l.length + l.length + 5) l a1 = some (l.filter (fun x => !tokB a1 x)) := by
      unfold chancelref11_Close.f
      have := close_l l a1 hl h60 _ 0 (l.length + l.length + l.length + 5) [] rfl (by omega) (by omega) (by simp; omega)
      rw [List.nil_append, List.drop_zero] at this
      exact this
    have hfl : (l.filter (fun x => !tokB a1 x)).length ≤ l.length := List.length_filter_le _ _
    rw [if_pos rfl, Option.bind_some, if_pos (by simp; omega), Option.bind_some, List.nil_append, hdone, Option.bind_some, hclose, Option.bind_some,
      done_f l a1 a3 a4 a7 hl h60 hu _ (by omega), Option.bind_some, same_f _ (by rw [List.length_map]; exact hl) _ (by rw [List.length_map]; omega), Option.bind_some, if_pos rfl, hc2, Option.bind_some,
      same_f _ (by omega) _ (by omega), Option.bind_some, if_pos rfl, same_f l hl _ (by omega)]
    rfl
end Go.Proofs.Ytdfgibajcifjaaa.Pure
