import Derived.Test.YtmidclhdnjbbjaaAAuditAddsx3
namespace Go.Proofs.Ytmidclhdnjbbjaa.Pure
open Go.RowKit Go.Proofs.Ytmidclhdnjbbjaa.AAuditAdds Go.Proofs.YtmidclhdnjbbjaaW.PrintWords Go.Proofs.YtmidclhdnjbbjaaW.PrintLast

theorem wrapSucc (i n : Nat) (hi : i < n) (hn : n ≤ maxLen) : wrap64 ((i : Int) + 1) = ((i + 1 : Nat) : Int) := by
  have h : maxLen ≤ 9223372036854775807 := by decide +kernel
  unfold wrap64
  omega

theorem ints_l (xs : List Int) (hl : xs.length ≤ maxLen) : ∀ (m i k : Nat), m = xs.length - i → i ≤ xs.length → m < k →
    chancelref03_Ints.l0 k xs xs (i : Int) = some true
  | 0, i, k + 1, hm, hi, hk => by
    rw [chancelref03_Ints.l0, if_neg (by omega)]
  | m + 1, i, k + 1, hm, hi, hk => by
    rw [chancelref03_Ints.l0, if_pos (by omega), if_pos (by omega), if_pos (by omega), if_pos rfl, wrapSucc i xs.length (by omega) hl]
    exact ints_l xs hl m (i + 1) k (by omega) (by omega) (by omega)

theorem ints_f (xs : List Int) (hl : xs.length ≤ maxLen) (k : Nat) (hk : xs.length < k) : chancelref03_Ints.f k xs xs = some true := by
  unfold chancelref03_Ints.f
  rw [if_pos rfl]
  exact ints_l xs hl _ 0 k rfl (by omega) (by omega)

theorem same_l (xs : List S25) (hl : xs.length ≤ maxLen) (M : Nat) (hM : M ≤ maxLen) (hx : ∀ a ∈ xs, a.f3.length ≤ M ∧ a.f4.length ≤ M) :
    ∀ (m i k : Nat), m = xs.length - i → i ≤ xs.length → m + M + 1 < k → chancelref09_Same.l0 k xs xs (i : Int) = some true
  | 0, i, k + 1, hm, hi, hk => by
    rw [chancelref09_Same.l0, if_neg (by omega)]
  | m + 1, i, k + 1, hm, hi, hk => by
    have hmem : rd_T25 xs (i : Int) ∈ xs := by
      unfold rd_T25
      rw [Int.toNat_natCast, List.getD_eq_getElem?_getD, List.getElem?_eq_getElem (by omega), Option.getD_some]
      exact List.getElem_mem _
    have h1 := (hx _ hmem).1
    have h2 := (hx _ hmem).2
    rw [chancelref09_Same.l0, if_pos (by omega), if_pos (by omega), if_pos (by omega), if_pos rfl, if_pos rfl, if_pos rfl,
      ints_f _ (by omega) k (by omega), Option.bind_some, if_pos rfl, ints_f _ (by omega) k (by omega), Option.bind_some, if_pos rfl,
      wrapSucc i xs.length (by omega) hl]
    exact same_l xs hl M hM hx m (i + 1) k (by omega) (by omega) (by omega)

theorem same_f (xs : List S25) (hl : xs.length ≤ maxLen) (M : Nat) (hM : M ≤ maxLen) (hx : ∀ a ∈ xs, a.f3.length ≤ M ∧ a.f4.length ≤ M)
    (k : Nat) (hk : xs.length + M + 1 < k) : chancelref09_Same.f k xs xs = some true := by
  unfold chancelref09_Same.f
  rw [if_pos rfl]
  exact same_l xs hl M hM hx _ 0 k rfl (by omega) (by omega)

theorem small_l (xs : List S25) (hl : xs.length ≤ maxLen) : ∀ (m i : Nat), m = xs.length - i → i ≤ xs.length →
    ∃ b, ∀ k, m < k → chancellaw09_small.l0 k xs xs (xs.length : Int) (i : Int) = some b ∧ (b = true → xs.length ≤ 300)
  | 0, i, hm, hi => by
    refine ⟨decide ((xs.length : Int) ≤ 300), fun k hk => ?_⟩
    obtain ⟨k, rfl⟩ : ∃ j, k = j + 1 := ⟨k - 1, by omega⟩
    rw [chancellaw09_small.l0, if_neg (by omega)]
    refine ⟨rfl, fun h => ?_⟩
    have := of_decide_eq_true h
    omega
  | m + 1, i, hm, hi => by
    obtain ⟨b, hb⟩ := small_l xs hl m (i + 1) (by omega) (by omega)
    by_cases h1 : ((rd_T25 xs (i : Int)).f3.length : Int) > 20
    · refine ⟨false, fun k hk => ?_⟩
      obtain ⟨k, rfl⟩ : ∃ j, k = j + 1 := ⟨k - 1, by omega⟩
      rw [chancellaw09_small.l0, if_pos (by omega), if_pos (by omega), if_pos (by omega), if_pos h1]
      exact ⟨rfl, fun h => by cases h⟩
    · by_cases h2 : ((rd_T25 xs (i : Int)).f4.length : Int) > 20
      · refine ⟨false, fun k hk => ?_⟩
        obtain ⟨k, rfl⟩ : ∃ j, k = j + 1 := ⟨k - 1, by omega⟩
        rw [chancellaw09_small.l0, if_pos (by omega), if_pos (by omega), if_pos (by omega), if_neg h1, if_pos h2]
        exact ⟨rfl, fun h => by cases h⟩
      · refine ⟨b, fun k hk => ?_⟩
        obtain ⟨k, rfl⟩ : ∃ j, k = j + 1 := ⟨k - 1, by omega⟩
        rw [chancellaw09_small.l0, if_pos (by omega), if_pos (by omega), if_pos (by omega), if_neg h1, if_neg h2, wrapSucc i xs.length (by omega) hl]
        exact hb k (by omega)

theorem small_f (xs : List S25) (hl : xs.length ≤ maxLen) :
    ∃ b, (∀ k, xs.length < k → chancellaw09_small.f k xs = some b) ∧ (b = true → xs.length ≤ 300) := by
  obtain ⟨b, hb⟩ := small_l xs hl _ 0 rfl (by omega)
  exact ⟨b, fun k hk => (hb k (by omega)).1, (hb (xs.length + 1) (by omega)).2⟩

theorem j1 (x0 : List S25) (x2 : Int) (e : S25) (b : Bool) (h0 : x0.length ≤ maxLen)
    (he0 : ∀ a ∈ x0, a.f3.length ≤ maxLen ∧ a.f4.length ≤ maxLen) (he : e.f3.length ≤ maxLen ∧ e.f4.length ≤ maxLen)
    (hs : b = false → x0.length ≤ 300) (k : Nat) (hk : x0.length + maxLen + 5 < k) :
    chancellaw09_AuditAdds.j1 k x0 x2 b e.f0 e.f1 e.f2 e.f3 e.f4 = some true := by
  obtain ⟨k, rfl⟩ : ∃ j, k = j + 1 := ⟨k - 1, by omega⟩
  have hmx : 1000 ≤ maxLen := by decide +kernel
  rw [chancellaw09_AuditAdds.j1]
  cases b with
  | true => rw [if_pos rfl]
  | false =>
    have hs := hs rfl
    rw [if_neg (by decide)]
    unfold audit_Add.f chancelref09_Add.f api_Entry.f
    by_cases hx : (x0.length : Int) ≥ x2
    · rw [if_pos hx, if_pos hx, Option.bind_some, Option.bind_some, if_pos (by rfl), same_f x0 h0 maxLen (by omega) he0 k (by omega), Option.bind_some]
    · rw [if_neg hx, if_neg hx]
      simp only [Option.bind_some, List.length_nil, List.nil_append, Nat.zero_add]
      have hlt : x0.length < 1954687338268 := by omega
      have hlt1 : x0.length + 1 < 1954687338268 := by omega
      simp only [if_pos hlt, Option.bind_some, List.length_cons, List.length_nil, Nat.zero_add, if_pos hlt1]
      rw [show (⟨e.f0, e.f1, e.f2, e.f3, e.f4⟩ : S25) = e from rfl]
      rw [if_pos (by rfl), same_f (x0 ++ [e]) (by rw [List.length_append, List.length_singleton]; omega) maxLen (by omega)
        (fun a ha => by
          rcases List.mem_append.mp ha with h | h
          · exact he0 a h
          · rw [List.mem_singleton.mp h]; exact he) k (by rw [List.length_append, List.length_singleton]; omega), Option.bind_some]

theorem j0 (x0 : List S25) (x2 : Int) (e : S25) (h0 : x0.length ≤ maxLen)
    (he0 : ∀ a ∈ x0, a.f3.length ≤ maxLen ∧ a.f4.length ≤ maxLen) (he : e.f3.length ≤ maxLen ∧ e.f4.length ≤ maxLen)
    (k : Nat) (hk : x0.length + maxLen + 10 < k) :
    chancellaw09_AuditAdds.j0 k x0 x2 false e.f0 e.f1 e.f2 e.f3 e.f4 = some true := by
  obtain ⟨k, rfl⟩ : ∃ j, k = j + 1 := ⟨k - 1, by omega⟩
  rw [chancellaw09_AuditAdds.j0, if_neg (by decide)]
  obtain ⟨b, hb, hs⟩ := small_f x0 h0
  rw [hb k (by omega), Option.bind_some]
  cases b with
  | false =>
    rw [if_neg (by decide)]
    exact j1 x0 x2 e true h0 he0 he (fun h => by cases h) k (by omega)
  | true =>
    rw [if_pos rfl]
    obtain ⟨c, hc, _⟩ := small_f [(⟨e.f0, e.f1, e.f2, e.f3, e.f4⟩ : S25)] (by rw [List.length_singleton]; decide +kernel)
    rw [hc k (by rw [List.length_singleton]; omega), Option.bind_some]
    exact j1 x0 x2 e (!c) h0 he0 he (fun _ => hs rfl) k (by omega)

theorem AuditAdds : chancellaw09_AuditAdds.Pure := by
  intro l0 a1_0 a1_1 a1_2 l1_3 l1_4 a2 h0 _ _ _ h3 h4 _
  obtain ⟨K, hK⟩ : ∃ K, l0.length + maxLen + 10 < K := ⟨l0.length + maxLen + 11, by omega⟩
  refine ⟨K, ?_⟩
  have hj := j0 l0 a2 ⟨a1_0, a1_1, a1_2, l1_3, l1_4⟩ h0.1 (fun a ha => ⟨(h0.2 a ha).2.2.2.1.1, (h0.2 a ha).2.2.2.2.1⟩) ⟨h3.1, h4.1⟩ K hK
  have hA : audit_Add.f ([] : List S25) 0 3 0 ([] : List Int) ([] : List Int) 1 = some ([(⟨0, 3, 0, [], []⟩ : S25)], true) := by
    unfold audit_Add.f api_Entry.f
    rw [if_neg (by decide)]
    simp
  unfold chancellaw09_AuditAdds.f
  rw [hA, Option.bind_some, if_pos (show (([(⟨0, 3, 0, [], []⟩ : S25)], true) : List S25 × Bool).2 = true from rfl),
    if_pos (show (((([(⟨0, 3, 0, [], []⟩ : S25)], true) : List S25 × Bool).1.length : Nat) : Int) = 1 from by decide),
    if_pos (show 0 < (((([(⟨0, 3, 0, [], []⟩ : S25)], true) : List S25 × Bool).1.length : Nat) : Int) from by decide)]
  rw [show ((rd_T25 (([(⟨0, 3, 0, [], []⟩ : S25)], true) : List S25 × Bool).1 0).f1 != 3) = false from by decide]
  exact hj

end Go.Proofs.Ytmidclhdnjbbjaa.Pure
