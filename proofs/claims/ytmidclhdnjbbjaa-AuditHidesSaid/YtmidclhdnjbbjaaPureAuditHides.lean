import Derived.Test.YtmidclhdnjbbjaaAAuditHidesx4
namespace Go.Proofs.Ytmidclhdnjbbjaa.Pure
open Go.RowKit Go.Proofs.Ytmidclhdnjbbjaa.AAuditHides Go.Proofs.YtmidclhdnjbbjaaW.PrintWords Go.Proofs.YtmidclhdnjbbjaaW.PrintLast Go.Proofs.YtmidclhdnjbbjaaW.PrintMore
theorem wrapSucc (i n : Nat) (hi : i < n) (hn : n ≤ maxLen) : wrap64 ((i : Int) + 1) = ((i + 1 : Nat) : Int) := by
  have h : maxLen ≤ 9223372036854775807 := by decide +kernel
  unfold wrap64
  omega

theorem ints_l (xs : List Int) (hl : xs.length ≤ maxLen) : ∀ (m i k : Nat), m = xs.length - i → i ≤ xs.length → m < k →
    chancelref03_Ints.l0 k xs xs (i : Int) = some true
  | 0, i, k + 1, hm, hi, hk => by
    rw [chancelref03_Ints.l0, if_neg (by omega)]
  | m + 1, i, k + 1, hm, hi, hk => by
    rw [chancelref03_Ints.l0, if_pos (by omega), if_pos (by omega), if_pos (by omega), if_pos rfl, wrapSucc i xs.length (by omega) hl]
    exact ints_l xs hl m (i + 1) k (by omega) (by omega) (by omega)

theorem ints_f (xs : List Int) (hl : xs.length ≤ maxLen) (k : Nat) (hk : xs.length < k) : chancelref03_Ints.f k xs xs = some true := by
  unfold chancelref03_Ints.f
  rw [if_pos rfl]
  exact ints_l xs hl _ 0 k rfl (by omega) (by omega)

theorem same_l (xs : List S25) (hl : xs.length ≤ maxLen) (M : Nat) (hM : M ≤ maxLen) (hx : ∀ a ∈ xs, a.f3.length ≤ M ∧ a.f4.length ≤ M) :
    ∀ (m i k : Nat), m = xs.length - i → i ≤ xs.length → m + M + 1 < k → chancelref09_Same.l0 k xs xs (i : Int) = some true
  | 0, i, k + 1, hm, hi, hk => by
    rw [chancelref09_Same.l0, if_neg (by omega)]
  | m + 1, i, k + 1, hm, hi, hk => by
    have hmem : rd_T25 xs (i : Int) ∈ xs := by
      unfold rd_T25
      rw [Int.toNat_natCast, List.getD_eq_getElem?_getD, List.getElem?_eq_getElem (by omega), Option.getD_some]
      exact List.getElem_mem _
    have h1 := (hx _ hmem).1
    have h2 := (hx _ hmem).2
    rw [chancelref09_Same.l0, if_pos (by omega), if_pos (by omega), if_pos (by omega), if_pos rfl, if_pos rfl, if_pos rfl,
      ints_f _ (by omega) k (by omega), Option.bind_some, if_pos rfl, ints_f _ (by omega) k (by omega), Option.bind_some, if_pos rfl,
      wrapSucc i xs.length (by omega) hl]
    exact same_l xs hl M hM hx m (i + 1) k (by omega) (by omega) (by omega)

theorem same_f (xs : List S25) (hl : xs.length ≤ maxLen) (M : Nat) (hM : M ≤ maxLen) (hx : ∀ a ∈ xs, a.f3.length ≤ M ∧ a.f4.length ≤ M)
    (k : Nat) (hk : xs.length + M + 1 < k) : chancelref09_Same.f k xs xs = some true := by
  unfold chancelref09_Same.f
  rw [if_pos rfl]
  exact same_l xs hl M hM hx _ 0 k rfl (by omega) (by omega)

theorem small_l (xs : List S25) (hl : xs.length ≤ maxLen) : ∀ (m i : Nat), m = xs.length - i → i ≤ xs.length →
    ∃ b, ∀ k, m < k → chancellaw09_small.l0 k xs xs (xs.length : Int) (i : Int) = some b ∧ (b = true → xs.length ≤ 300)
  | 0, i, hm, hi => by
    refine ⟨decide ((xs.length : Int) ≤ 300), fun k hk => ?_⟩
    obtain ⟨k, rfl⟩ : ∃ j, k = j + 1 := ⟨k - 1, by omega⟩
    rw [chancellaw09_small.l0, if_neg (by omega)]
    refine ⟨rfl, fun h => ?_⟩
    have := of_decide_eq_true h
    omega
  | m + 1, i, hm, hi => by
    obtain ⟨b, hb⟩ := small_l xs hl m (i + 1) (by omega) (by omega)
    by_cases h1 : ((rd_T25 xs (i : Int)).f3.length : Int) > 20
    · refine ⟨false, fun k hk => ?_⟩
      obtain ⟨k, rfl⟩ : ∃ j, k = j + 1 := ⟨k - 1, by omega⟩
      rw [chancellaw09_small.l0, if_pos (by omega), if_pos (by omega), if_pos (by omega), if_pos h1]
      exact ⟨rfl, fun h => by cases h⟩
    · by_cases h2 : ((rd_T25 xs (i : Int)).f4.length : Int) > 20
      · refine ⟨false, fun k hk => ?_⟩
        obtain ⟨k, rfl⟩ : ∃ j, k = j + 1 := ⟨k - 1, by omega⟩
        rw [chancellaw09_small.l0, if_pos (by omega), if_pos (by omega), if_pos (by omega), if_neg h1, if_pos h2]
        exact ⟨rfl, fun h => by cases h⟩
      · refine ⟨b, fun k hk => ?_⟩
        obtain ⟨k, rfl⟩ : ∃ j, k = j + 1 := ⟨k - 1, by omega⟩
        rw [chancellaw09_small.l0, if_pos (by omega), if_pos (by omega), if_pos (by omega), if_neg h1, if_neg h2, wrapSucc i xs.length (by omega) hl]
        exact hb k (by omega)

theorem small_f (xs : List S25) (hl : xs.length ≤ maxLen) :
    ∃ b, (∀ k, xs.length < k → chancellaw09_small.f k xs = some b) ∧ (b = true → xs.length ≤ 300) := by
  obtain ⟨b, hb⟩ := small_l xs hl _ 0 rfl (by omega)
  exact ⟨b, fun k hk => (hb k (by omega)).1, (hb (xs.length + 1) (by omega)).2⟩

/-- Does a user see an entry? -/
def sees (l0 : List S46) (a1 : Int) (e : S25) : Bool := decide (e.f0 = a1) || !(e.f4.any (fun n => !may l0 a1 n false))
theorem sees_f (l0 : List S46) (a1 : Int) (e : S25) : audit_Sees.f l0 a1 e.f0 e.f1 e.f2 e.f3 e.f4 = some (sees l0 a1 e) := rfl
/-- A page of entries: s are skipped, up to c are told. -/
def pg (c : Int) : List S25 → Nat → List S25 → List S25
  | [], _, o => o
  | _ :: es, s + 1, o => pg c es s o
  | e :: es, 0, o => if (o.length : Int) < c then pg c es 0 (o ++ [e]) else pg c es 0 o
theorem pg_le (c : Int) : ∀ (L : List S25) (s : Nat) (o : List S25), (pg c L s o).length ≤ o.length + L.length
  | [], _, o => by simp [pg]
  | _ :: es, s + 1, o => by rw [pg]; have := pg_le c es s o; rw [List.length_cons]; omega
  | e :: es, 0, o => by
    rw [pg]
    split
    · have := pg_le c es 0 (o ++ [e]); rw [List.length_append, List.length_singleton] at this; rw [List.length_cons]; omega
    · have := pg_le c es 0 o; rw [List.length_cons]; omega
theorem pg_mem (c : Int) : ∀ (L : List S25) (s : Nat) (o : List S25) (a : S25), a ∈ pg c L s o → a ∈ o ∨ a ∈ L
  | [], _, o, a, h => .inl (by rw [pg] at h; exact h)
  | x :: es, s + 1, o, a, h => by
    rw [pg] at h
    rcases pg_mem c es s o a h with h | h
    · exact .inl h
    · exact .inr (List.mem_cons_of_mem _ h)
  | e :: es, 0, o, a, h => by
    rw [pg] at h
    split at h
    · rcases pg_mem c es 0 (o ++ [e]) a h with h | h
      · rcases List.mem_append.mp h with h | h
        · exact .inl h
        · exact .inr (by rw [List.mem_singleton.mp h]; exact List.mem_cons_self)
      · exact .inr (List.mem_cons_of_mem _ h)
    · rcases pg_mem c es 0 o a h with h | h
      · exact .inl h
      · exact .inr (List.mem_cons_of_mem _ h)
theorem pg_full (c : Int) : ∀ (L : List S25) (o : List S25), ¬ (o.length : Int) < c → pg c L 0 o = o
  | [], o, _ => rfl
  | e :: es, o, h => by rw [pg, if_neg h]; exact pg_full c es o h
/-- A page is cut out of the list. -/
theorem pg_drop (c : Int) : ∀ (L : List S25) (s : Nat) (o : List S25), pg c L s o = pg c (L.drop s) 0 o
  | [], s, o => by rw [List.drop_nil]; cases s <;> rfl
  | _ :: es, s + 1, o => by rw [pg, List.drop_succ_cons]; exact pg_drop c es s o
  | e :: es, 0, o => rfl
theorem rd_mem (xs : List S25) (i : Nat) (h : i < xs.length) : rd_T25 xs (i : Int) = xs[i] := by
  unfold rd_T25
  rw [Int.toNat_natCast, List.getD_eq_getElem?_getD, List.getElem?_eq_getElem h, Option.getD_some]
theorem drop_filter (p : S25 → Bool) (xs : List S25) (i : Nat) (h : i < xs.length) :
    (xs.drop i).filter p = (if p (rd_T25 xs (i : Int)) = true then rd_T25 xs (i : Int) :: (xs.drop (i + 1)).filter p else (xs.drop (i + 1)).filter p) := by
  rw [rd_mem xs i h, List.drop_eq_getElem_cons h, List.filter_cons]
theorem page_l (x0 : List S46) (x1 x4 : Int) (l : List S25) (hl : l.length ≤ 300) : ∀ (m i k s : Nat) (o : List S25), m = l.length - i → i ≤ l.length → m < k → o.length ≤ i → s ≤ 9223372036854775807 →
    audit_Page.l0 k x0 x1 x4 o (s : Int) l (l.length : Int) (i : Int) = some (pg (mn x4 10) ((l.drop i).filter (sees x0 x1)) s o)
  | 0, i, k + 1, s, o, hm, hi, hk, ho, hs => by
    rw [audit_Page.l0, if_neg (by omega), List.drop_eq_nil_of_le (by omega)]; rfl
  | m + 1, i, k + 1, s, o, hm, hi, hk, ho, hs => by
    have hlm : l.length ≤ maxLen := by have : 300 ≤ maxLen := by decide +kernel
                                       omega
    rw [audit_Page.l0, if_pos (by omega), if_pos (by omega), if_pos (by omega), sees_f, Option.bind_some, drop_filter _ _ _ (by omega), wrapSucc i l.length (by omega) hlm]
    cases hc : sees x0 x1 (rd_T25 l (i : Int)) with
    | false =>
      rw [if_neg (by decide), if_neg (by decide)]
      exact page_l x0 x1 x4 l hl m (i + 1) k s o (by omega) (by omega) (by omega) (by omega) hs
    | true =>
      rw [if_pos rfl, if_pos rfl]
      cases s with
      | zero =>
        rw [if_neg (by decide), pg]
        by_cases h : (o.length : Int) < mn x4 10
        · rw [if_pos h, if_pos h, if_pos (by omega)]
          exact page_l x0 x1 x4 l hl m (i + 1) k 0 (o ++ [rd_T25 l (i : Int)]) (by omega) (by omega) (by omega) (by rw [List.length_append, List.length_singleton]; omega) hs
        · rw [if_neg h, if_neg h]
          exact page_l x0 x1 x4 l hl m (i + 1) k 0 o (by omega) (by omega) (by omega) (by omega) hs
      | succ s =>
        rw [if_pos (by omega), pg, show wrap64 (((s + 1 : Nat) : Int) - 1) = (s : Int) by unfold wrap64; omega]
        exact page_l x0 x1 x4 l hl m (i + 1) k s o (by omega) (by omega) (by omega) (by omega) (by omega)
/-- What audit.Page tells. -/
theorem page_f (x0 : List S46) (x1 a3 x4 : Int) (l : List S25) (hl : l.length ≤ 300) (ha : a3 ≤ 9223372036854775807) (k : Nat) (hk : l.length < k) :
    audit_Page.f k x0 x1 l a3 x4 = some (pg (mn x4 10) (l.filter (sees x0 x1)) a3.toNat []) := by
  have h : mx a3 0 = ((a3.toNat : Nat) : Int) := by unfold mx; split <;> omega
  unfold audit_Page.f
  rw [h]
  exact page_l x0 x1 x4 l hl _ 0 k a3.toNat [] rfl (by omega) (by omega) (by simp) (by omega)
theorem wf_le (n : Int) (h : (Lit.int .i64 n).wf = true) : n ≤ 9223372036854775807 := by
  simp [Lit.wf, IntKind.min, IntKind.max, IntKind.signed, IntKind.bits] at h
  omega
/-- An entry with what a user may not see turned. -/
def turned (x1 h : Int) (e : S25) : S25 := if e.f0 = x1 then e else if e.f4.contains h = true then ⟨e.f0, 7, wrap64 (e.f2 + 1), [1, 2, 3], e.f4⟩ else e
theorem turned_sees (x0 : List S46) (x1 h : Int) (hh : may x0 x1 h false = false) (e : S25) :
    sees x0 x1 (turned x1 h e) = sees x0 x1 e ∧ (sees x0 x1 e = true → turned x1 h e = e) := by
  unfold turned
  by_cases c1 : e.f0 = x1
  · rw [if_pos c1]; exact ⟨rfl, fun _ => rfl⟩
  · rw [if_neg c1]
    by_cases c2 : e.f4.contains h = true
    · rw [if_pos c2]
      refine ⟨rfl, fun hs => ?_⟩
      unfold sees at hs
      rw [decide_eq_false c1, Bool.false_or, Bool.not_eq_true'] at hs
      have := List.any_eq_false.mp hs h (List.contains_iff_mem.mp c2)
      rw [hh] at this
      exact absurd rfl this
    · rw [if_neg c2]; exact ⟨rfl, fun _ => rfl⟩
theorem filter_turned (x0 : List S46) (x1 h : Int) (hh : may x0 x1 h false = false) : ∀ l : List S25,
    (l.map (turned x1 h)).filter (sees x0 x1) = l.filter (sees x0 x1)
  | [] => rfl
  | e :: es => by
    have ht := turned_sees x0 x1 h hh e
    rw [List.map_cons, List.filter_cons, List.filter_cons, filter_turned x0 x1 h hh es, ht.1]
    cases hs : sees x0 x1 e with
    | false => rw [if_neg (by decide), if_neg (by decide)]
    | true => rw [if_pos rfl, if_pos rfl, ht.2 hs]
theorem has_f (l : List Int) (v : Int) (hl : l.length ≤ 9223372036854775807) (k : Nat) (hk : l.length < k) : chancelref03_Has.f k l v = some (l.contains v) := by
  have := has_loop l v hl l.length k 0 (by omega) hk (by omega)
  rw [List.drop_zero] at this
  exact this
theorem law_l1 (x0 : List S46) (x1 h a3 x4 : Int) (hh : may x0 x1 h false = false) (l : List S25) (hl : l.length ≤ 300) (h3 : a3 ≤ 9223372036854775807) (M : Nat) (hM : M ≤ maxLen) (he : ∀ a ∈ l, a.f3.length ≤ M ∧ a.f4.length ≤ M) :
    ∀ (m i k : Nat), m = l.length - i → i ≤ l.length → m + M + 1000 < k →
    chancellaw09_AuditHides.l1 k x0 x1 h ((l.take i).map (turned x1 h)) l (l.length : Int) (i : Int) l a3 x4 = some true
  | 0, i, k + 1, hm, hi, hk => by
    have hlm : 1000 ≤ maxLen := by decide +kernel
    have hf := List.length_filter_le (sees x0 x1) l
    have hpl := pg_le (mn x4 10) (l.filter (sees x0 x1)) a3.toNat []
    rw [List.length_nil] at hpl
    rw [chancellaw09_AuditHides.l1, if_neg (by omega), List.take_of_length_le (by omega), page_f x0 x1 a3 x4 l hl h3 k (by omega), Option.bind_some,
      page_f x0 x1 a3 x4 (l.map (turned x1 h)) (by rw [List.length_map]; exact hl) h3 k (by rw [List.length_map]; omega), Option.bind_some, filter_turned x0 x1 h hh l,
      same_f _ (by omega) M hM (fun a ha => by
        rcases pg_mem _ _ _ _ a ha with h | h
        · cases h
        · exact he a (List.mem_filter.mp h).1) k (by omega), Option.bind_some]
  | m + 1, i, k + 1, hm, hi, hk => by
    have hlt : i < l.length := by omega
    have hlm : l.length ≤ maxLen := by have : 300 ≤ maxLen := by decide +kernel
                                       omega
    have hmx : maxLen ≤ 9223372036854775807 := by decide +kernel
    have hme := (he _ (List.getElem_mem hlt)).2
    have ih := law_l1 x0 x1 h a3 x4 hh l hl h3 M hM he m (i + 1) k (by omega) (by omega) (by omega)
    have hle : ((l.take i).map (turned x1 h)).length < 1954687338268 := by rw [List.length_map, List.length_take]; omega
    rw [show (l.take (i + 1)).map (turned x1 h) = (l.take i).map (turned x1 h) ++ [turned x1 h (rd_T25 l (i : Int))] by rw [rd_mem l i hlt, ← List.take_append_getElem hlt, List.map_append]; rfl] at ih
    rw [← rd_mem l i hlt] at hme
    rw [chancellaw09_AuditHides.l1, if_pos (by omega), if_pos (by omega), if_pos (by omega), wrapSucc i l.length hlt hlm]
    unfold turned at ih
    by_cases c1 : (rd_T25 l (i : Int)).f0 = x1
    · rw [if_pos c1, if_pos hle]
      rw [if_pos c1] at ih
      exact ih
    · rw [if_neg c1, has_f _ _ (by omega) k (by omega), Option.bind_some]
      rw [if_neg c1] at ih
      by_cases c2 : (rd_T25 l (i : Int)).f4.contains h = true
      · rw [if_pos c2, if_pos hle]
        rw [if_pos c2] at ih
        exact ih
      · rw [if_neg c2, if_pos hle]
        rw [if_neg c2] at ih
        exact ih
theorem law_l0 (x0 : List S46) (x1 a3 x4 : Int) (l : List S25) (hx : x0.length ≤ maxLen) (hl : l.length ≤ 300) (h3 : a3 ≤ 9223372036854775807) (M : Nat) (hM : M ≤ maxLen) (he : ∀ a ∈ l, a.f3.length ≤ M ∧ a.f4.length ≤ M) :
    ∀ (m i k : Nat) (h : Int), m = x0.length - i → i ≤ x0.length → m + M + 2000 < k → (h = -1 ∨ (0 ≤ h ∧ may x0 x1 h false = false)) →
    chancellaw09_AuditHides.l0 k x0 x1 h (x0.length : Int) (i : Int) l a3 x4 = some true
  | 0, i, k + 1, h, hm, hi, hk, hh => by
    rw [chancellaw09_AuditHides.l0, if_neg (by omega)]
    rcases hh with rfl | ⟨h0, hh⟩
    · rw [if_pos (by decide)]
    · rw [if_neg (by omega)]
      exact law_l1 x0 x1 h a3 x4 hh l hl h3 M hM he _ 0 k rfl (by omega) (by omega)
  | m + 1, i, k + 1, h, hm, hi, hk, hh => by
    rw [chancellaw09_AuditHides.l0, if_pos (by omega), wrapSucc i x0.length (by omega) hx]
    have ih := fun h' hh' => law_l0 x0 x1 a3 x4 l hx hl h3 M hM he m (i + 1) k h' (by omega) (by omega) (by omega) hh'
    by_cases c : h < 0
    · rw [if_pos c]
      unfold chancelref03_May.f
      rw [Option.bind_some]
      cases hc : may x0 x1 (i : Int) false with
      | false => rw [if_neg (by decide)]; exact ih _ (.inr ⟨by omega, hc⟩)
      | true => rw [if_pos rfl]; exact ih _ hh
    · rw [if_neg c]; exact ih _ hh
theorem some_page (k : Nat) (hk : 2 < k) : audit_Page.f k [(⟨-1, 0, [0], []⟩ : S46)] 1 [(⟨0, 0, 0, [], [0]⟩ : S25), ⟨1, 0, 0, [], [0]⟩] 0 9 = some [(⟨1, 0, 0, [], [0]⟩ : S25)] := by
  rw [page_f _ _ _ _ _ (by decide) (by decide) k (by simpa using hk)]
  first | rfl | kernel_rfl
theorem Small_l (xs : List S46) (hl : xs.length ≤ maxLen) : ∀ (m i : Nat), m = xs.length - i → i ≤ xs.length →
    ∃ b, ∀ k, m < k → chancellaw03_Small.l0 k xs xs (xs.length : Int) (i : Int) = some b ∧ (b = true → xs.length ≤ 100)
  | 0, i, hm, hi => by
    refine ⟨decide ((xs.length : Int) ≤ 100), fun k hk => ?_⟩
    obtain ⟨k, rfl⟩ : ∃ j, k = j + 1 := ⟨k - 1, by omega⟩
    rw [chancellaw03_Small.l0, if_neg (by omega)]
    refine ⟨rfl, fun h => ?_⟩
    have := of_decide_eq_true h
    omega
  | m + 1, i, hm, hi => by
    obtain ⟨b, hb⟩ := Small_l xs hl m (i + 1) (by omega) (by omega)
    by_cases h1 : ((rd_T46 xs (i : Int)).f2.length : Int) > 100
    · refine ⟨false, fun k hk => ?_⟩
      obtain ⟨k, rfl⟩ : ∃ j, k = j + 1 := ⟨k - 1, by omega⟩
      rw [chancellaw03_Small.l0, if_pos (by omega), if_pos (by omega), if_pos (by omega), if_pos h1]
      exact ⟨rfl, fun h => by cases h⟩
    · by_cases h2 : ((rd_T46 xs (i : Int)).f3.length : Int) > 100
      · refine ⟨false, fun k hk => ?_⟩
        obtain ⟨k, rfl⟩ : ∃ j, k = j + 1 := ⟨k - 1, by omega⟩
        rw [chancellaw03_Small.l0, if_pos (by omega), if_pos (by omega), if_pos (by omega), if_neg h1, if_pos h2]
        exact ⟨rfl, fun h => by cases h⟩
      · refine ⟨b, fun k hk => ?_⟩
        obtain ⟨k, rfl⟩ : ∃ j, k = j + 1 := ⟨k - 1, by omega⟩
        rw [chancellaw03_Small.l0, if_pos (by omega), if_pos (by omega), if_pos (by omega), if_neg h1, if_neg h2, wrapSucc i xs.length (by omega) hl]
        exact hb k (by omega)
theorem Small_f (xs : List S46) (hl : xs.length ≤ maxLen) :
    ∃ b, (∀ k, xs.length < k → chancellaw03_Small.f k xs = some b) ∧ (b = true → xs.length ≤ 100) := by
  obtain ⟨b, hb⟩ := Small_l xs hl _ 0 rfl (by omega)
  exact ⟨b, fun k hk => (hb k (by omega)).1, (hb (xs.length + 1) (by omega)).2⟩
theorem AuditHides : chancellaw09_AuditHides.Pure := by
  intro l0 a1 l2 a2_1 a2_2 h0 _ h2 h3 _
  obtain ⟨M, hM⟩ : ∃ M, M = maxLen := ⟨_, rfl⟩
  have he : ∀ a ∈ l2, a.f3.length ≤ M ∧ a.f4.length ≤ M := fun a ha => by rw [hM]; exact ⟨(h2.2 a ha).2.2.2.1.1, (h2.2 a ha).2.2.2.2.1⟩
  obtain ⟨K, hK⟩ : ∃ K, l0.length + l2.length + 2 * M + 4001 < K := ⟨l0.length + l2.length + 2 * M + 4002, by omega⟩
  refine ⟨K, ?_⟩
  have h2l := h2.1
  have h0l := h0.1
  unfold chancellaw09_AuditHides.f chancellaw09_some.f
  have hp := some_page K (by omega)
  rw [Option.bind_some]
  refine (congrArg (fun z => Option.bind z _) hp).trans ?_
  rw [Option.bind_some, if_pos (by decide)]
  obtain ⟨b, hb, -⟩ := Small_f l0 h0l
  rw [hb K (by omega), Option.bind_some]
  obtain ⟨K, rfl⟩ : ∃ j, K = j + 1 := ⟨K - 1, by omega⟩
  cases b with
  | false => rw [if_neg (by decide), chancellaw09_AuditHides.j0, if_pos rfl]
  | true =>
    rw [if_pos rfl]
    obtain ⟨c, hc, hs⟩ := small_f l2 h2l
    rw [hc _ (by omega), Option.bind_some, chancellaw09_AuditHides.j0]
    cases c with
    | false => rw [if_pos (by decide)]
    | true =>
      rw [if_neg (by decide)]
      exact law_l0 l0 a1 a2_1 a2_2 l2 h0l (hs rfl) (wf_le _ h3) M (Nat.le_of_eq hM) he _ 0 K (-1) rfl (by omega) (by omega) (.inl rfl)
end Go.Proofs.Ytmidclhdnjbbjaa.Pure
