/- What an owner's grant makes of right labels, or why it is refused, is the document's: over lists alone. No condition. -/
import Derived.Test.YtgjlnjjgpddcnaaRefRightsGrant
namespace Go.Proofs.Ytgjlnjjgpddcnaa.Pure
open Go.RowKit Go.Proofs.Ytgjlnjjgpddcnaa.ARightsGrant Go.Proofs.YtgjlnjjgpddcnaaW.PrintWords Go.Proofs.YtgjlnjjgpddcnaaW.PrintLast Go.Proofs.Ytgjlnjjgpddcnaa.RefRightsGrant
/-- All lists of users, each above the one ahead, from 8 - n on. -/
def gen : Nat → List (List Int)
  | 0 => [[]]
  | n + 1 => gen n ++ (gen n).map (fun t => (7 - (n : Int)) :: t)
theorem gen_mem : ∀ (n : Nat) (l : List Int), ris 8 (7 - (n : Int)) l = true → l ∈ gen n
  | 0, [], _ => by simp [gen]
  | 0, x :: t, h => by
    rw [ris, Bool.and_eq_true, Bool.and_eq_true] at h
    have h1 := h.1.1
    have h2 := h.1.2
    simp only [Bool.not_eq_true', decide_eq_false_iff_not] at h1 h2
    omega
  | n + 1, [], _ => by
    rw [gen]
    exact List.mem_append_left _ (gen_mem n [] rfl)
  | n + 1, x :: t, h => by
    rw [gen]
    have h0 := h
    rw [ris, Bool.and_eq_true, Bool.and_eq_true] at h
    obtain ⟨⟨h1, h2⟩, h3⟩ := h
    simp only [Bool.not_eq_true', decide_eq_false_iff_not] at h1 h2
    by_cases e : x = 7 - (n : Int)
    · subst e
      exact List.mem_append_right _ (List.mem_map.2 ⟨t, gen_mem n t h3, rfl⟩)
    · refine List.mem_append_left _ (gen_mem n (x :: t) ?_)
      rw [ris, Bool.and_eq_true, Bool.and_eq_true]
      exact ⟨⟨by simp only [Bool.not_eq_true', decide_eq_false_iff_not]; omega, by simp only [Bool.not_eq_true', decide_eq_false_iff_not]; omega⟩, h3⟩
/-- What is wanted of a right's users, a user, and what is asked. -/
def chk (l : List Int) (u : Int) (on : Bool) : Bool :=
  match bsOf l u with
  | some (i, there) => decide (0 ≤ i) && decide (i ≤ (l.length : Int)) && (!there || decide (i < (l.length : Int))) && (chancelref03_with.f 40 l u on == some (granted l u i there on)) && ris 8 (-1) (granted l u i there on) && ((granted l u i there on).contains u == on) && ((granted l u i there on).filter (fun v => v != u) == l.filter (fun v => v != u)) && (there == l.contains u) && (there != on || granted l u i there on == l)
  | none => false
def chkBack (l : List Int) (u : Int) : Bool :=
  match bsOf l u with
  | some (i, there) => (match bsOf (granted l u i there true) u with
    | some (j, th) => there || granted (granted l u i there true) u j th false == l
    | none => false)
  | none => false
theorem all_chk : ((gen 8).all fun l => [0, 1, 2, 3, 4, 5, 6, 7].all fun u => chk l u true && chk l u false && chkBack l u) = true := by decide +kernel
theorem users8 {u : Int} (h0 : 0 ≤ u) (h1 : u < 8) : u ∈ ([0, 1, 2, 3, 4, 5, 6, 7] : List Int) := by
  have : u = 0 ∨ u = 1 ∨ u = 2 ∨ u = 3 ∨ u = 4 ∨ u = 5 ∨ u = 6 ∨ u = 7 := by omega
  rcases this with rfl | rfl | rfl | rfl | rfl | rfl | rfl | rfl <;> simp
theorem chk_at {l : List Int} {u : Int} (hl : ris 8 (-1) l = true) (h0 : 0 ≤ u) (h1 : u < 8) (on : Bool) : chk l u on = true ∧ chkBack l u = true := by
  have hm : l ∈ gen 8 := gen_mem 8 l hl
  have h := List.all_eq_true.1 (List.all_eq_true.1 all_chk l hm) u (users8 h0 h1)
  rw [Bool.and_eq_true, Bool.and_eq_true] at h
  cases on
  · exact ⟨h.1.2, h.2⟩
  · exact ⟨h.1.1, h.2⟩
theorem ris_len : ∀ (l : List Int) (last : Int), ris 8 last l = true → last ≤ 7 → (l.length : Int) ≤ 7 - last
  | [], last, _, h => by simp; omega
  | x :: t, last, h, hl => by
    rw [ris, Bool.and_eq_true, Bool.and_eq_true] at h
    obtain ⟨⟨h1, h2⟩, h3⟩ := h
    simp only [Bool.not_eq_true', decide_eq_false_iff_not] at h1 h2
    have := ris_len t x h3 (by omega)
    simp only [List.length_cons]
    omega
/-- What a grant of an owner makes. -/
structure Granted (l : List Int) (u : Int) (on : Bool) (r : List Int) : Prop where
  bs : ∃ i there, bsOf l u = some (i, there) ∧ 0 ≤ i ∧ i ≤ (l.length : Int) ∧ (there = true → i < (l.length : Int)) ∧ granted l u i there on = r
  ris_ : ris 8 (-1) r = true
  has : r.contains u = on
  rest : r.filter (fun v => v != u) = l.filter (fun v => v != u)
  same : l.contains u = on → r = l
  wi : chancelref03_with.f 40 l u on = some r
theorem granted_at {l : List Int} {u : Int} (hl : ris 8 (-1) l = true) (h0 : 0 ≤ u) (h1 : u < 8) (on : Bool) : ∃ r, Granted l u on r := by
  have h := (chk_at hl h0 h1 on).1
  unfold chk at h
  split at h
  · rename_i i there hbs
    simp only [Bool.and_eq_true, decide_eq_true_eq, beq_iff_eq] at h
    obtain ⟨⟨⟨⟨⟨⟨⟨⟨a1, a2⟩, a3⟩, a4⟩, a5⟩, a6⟩, a7⟩, a8⟩, a9⟩ := h
    refine ⟨_, ⟨⟨i, there, hbs, a1, a2, fun ht => ?_, rfl⟩, a5, a6, a7, fun hc => ?_, a4⟩⟩
    · subst ht
      simpa using a3
    · rw [← a8] at hc
      subst hc
      simpa using a9
  · cases h
theorem rd_t (l : List S29) (n : Nat) (h : n < l.length) : rd_T29 l (n : Int) = l[n] := rdT_at l n h
/-- An owner's grant, of right labels. -/
theorem grant_f {l : List S29} (hr : right 8 l = true) (a1 : Int) (n : Nat) (a3 : Int) (a4 a5 : Bool) (hn : n < l.length) (h0 : 0 ≤ a3) (h1 : a3 < 8) (ho : l[n].f1 = a1) :
    ∃ r, Granted (whoOf l[n] a4) a3 a5 r ∧ rights_Grant.f l a1 (n : Int) a3 a4 a5 = some (l.set n (withWho l[n] a4 r), 0) := by
  obtain ⟨_, h12, hat⟩ := right_at hr
  obtain ⟨_, _, _, _, r2, r3⟩ := hat n hn
  have hw : ris 8 (-1) (whoOf l[n] a4) = true := by unfold whoOf; cases a4; exact r2; exact r3
  obtain ⟨r, hG⟩ := granted_at hw h0 h1 a5
  obtain ⟨i, there, e1, e2, e3, e4, e5⟩ := hG.bs
  have hlen := ris_len _ _ hw (by omega)
  refine ⟨r, hG, ?_⟩
  unfold rights_Grant.f
  rw [if_neg (by omega), rd_t l n hn, if_neg (by rw [ho]; exact fun h => h rfl), if_pos ⟨by omega, by omega⟩, e1, Option.bind_some, if_pos ⟨e2, e3, e4⟩, e5, Int.toNat_natCast]
theorem grant_no (l : List S29) (a1 a2 a3 : Int) (a4 a5 : Bool) (h : a2 < 0 ∨ (l.length : Int) ≤ a2 ∨ a3 < 0 ∨ 8 ≤ a3) : rights_Grant.f l a1 a2 a3 a4 a5 = some ([], 5) := by
  unfold rights_Grant.f
  rw [if_pos h]
theorem grant_den (l : List S29) (a1 : Int) (n : Nat) (a3 : Int) (a4 a5 : Bool) (hn : n < l.length) (h0 : 0 ≤ a3) (h1 : a3 < 8) (ho : l[n].f1 ≠ a1) : rights_Grant.f l a1 (n : Int) a3 a4 a5 = some ([], 3) := by
  unfold rights_Grant.f
  rw [if_neg (by omega), rd_t l n hn, if_pos ho]
theorem right_of {l : List S29} (h1 : 1 ≤ l.length) (h2 : l.length ≤ 12) (h : ∀ (i : Nat) (hi : i < l.length), labOk 8 (i : Int) l[i] = true) : right 8 l = true := by
  unfold right
  rw [decide_eq_true h1, decide_eq_true h2, Bool.true_and, Bool.true_and]
  have key : ∀ (t : List S29) (j : Nat), (∀ (i : Nat) (hi : i < t.length), labOk 8 ((j + i : Nat) : Int) t[i] = true) → labsOk 8 j t = true := by
    intro t
    induction t with
    | nil => intro j _; rfl
    | cons x t ih =>
      intro j hj
      rw [labsOk, Bool.and_eq_true]
      exact ⟨hj 0 (by simp), ih (j + 1) (fun i hi => by have := hj (i + 1) (by simpa using hi); rw [show j + (i + 1) = j + 1 + i by omega] at this; exact this)⟩
  exact key l 0 (fun i hi => by rw [Nat.zero_add]; exact h i hi)
/-- Right labels stay right. -/
theorem right_set {l : List S29} (hr : right 8 l = true) (n : Nat) (hn : n < l.length) (w : Bool) (r : List Int) (h : ris 8 (-1) r = true) : right 8 (l.set n (withWho l[n] w r)) = true := by
  obtain ⟨h1, h12, hat⟩ := right_at hr
  refine right_of (by simpa using h1) (by simpa using h12) (fun i hi => ?_)
  have hi' : i < l.length := by simpa using hi
  obtain ⟨b1, b2, b3, b4, b5, b6⟩ := hat i hi'
  rw [List.getElem_set]
  have hx : ∀ y : S29, -1 ≤ y.f0 → y.f0 < (i : Int) → 0 ≤ y.f1 → y.f1 < 8 → ris 8 (-1) y.f2 = true → ris 8 (-1) y.f3 = true → labOk 8 (i : Int) y = true := by
    intro y c1 c2 c3 c4 c5 c6
    unfold labOk
    rw [c5, c6, decide_eq_false (show ¬ y.f0 < -1 by omega), decide_eq_false (show ¬ y.f0 ≥ (i : Int) by omega), decide_eq_false (show ¬ y.f1 < 0 by omega), decide_eq_false (show ¬ y.f1 ≥ 8 by omega)]
    rfl
  by_cases e : n = i
  · subst e
    rw [if_pos rfl]
    unfold withWho
    cases w
    · exact hx _ b1 b2 b3 b4 h b6
    · exact hx _ b1 b2 b3 b4 b5 h
  · rw [if_neg e]
    exact hx _ b1 b2 b3 b4 b5 b6
theorem own_rising (users : Int) (l : List Int) (hl : l.length < 9223372036854775807) : ∀ (d k i : Nat) (last : Int), l.length - i = d → d < k → i ≤ l.length → rights_rising.l0 k users last l (l.length : Int) (i : Int) = some (ris users last (l.drop i)) := by
  intro d
  induction d with
  | zero =>
    intro k i last hd hk hi
    obtain ⟨k, rfl⟩ : ∃ m, k = m + 1 := ⟨k - 1, by omega⟩
    simp only [rights_rising.l0]
    rw [if_neg (by omega), List.drop_eq_nil_of_le (by omega)]
    rfl
  | succ d ih =>
    intro k i last hd hk hi
    obtain ⟨k, rfl⟩ : ∃ m, k = m + 1 := ⟨k - 1, by omega⟩
    have hlt : i < l.length := by omega
    simp only [rights_rising.l0]
    rw [if_pos (by omega), if_pos (by omega), if_pos (by omega), rd_at l i hlt, List.drop_eq_getElem_cons hlt, ris]
    by_cases h1 : l[i] ≤ last
    · rw [if_pos h1]; simp [h1]
    · rw [if_neg h1]
      by_cases h2 : l[i] ≥ users
      · rw [if_pos h2]; simp [h2]
      · rw [if_neg h2, up i (by omega), ih k (i + 1) l[i] (by omega) (by omega) (by omega)]
        simp [h1, h2]
theorem own_ris (users : Int) (l : List Int) (hl : l.length < 9223372036854775807) (k : Nat) (hk : l.length < k) : rights_rising.f k l users = some (ris users (-1) l) := by
  have := own_rising users l hl l.length k 0 (-1) (by omega) hk (by omega)
  simpa [rights_rising.f] using this
theorem own_loop (users : Int) (l : List S29) (hl : l.length ≤ 12) (hs : ∀ x ∈ l, x.f2.length ≤ 100 ∧ x.f3.length ≤ 100) : ∀ (d k i : Nat), l.length - i = d → d + 102 < k → i ≤ l.length → rights_Right.l0 k users l (l.length : Int) (i : Int) = some (labsOk users i (l.drop i)) := by
  intro d
  induction d with
  | zero =>
    intro k i hd hk hi
    obtain ⟨k, rfl⟩ : ∃ m, k = m + 1 := ⟨k - 1, by omega⟩
    simp only [rights_Right.l0]
    rw [if_neg (by omega), List.drop_eq_nil_of_le (by omega)]
    rfl
  | succ d ih =>
    intro k i hd hk hi
    obtain ⟨k, rfl⟩ : ∃ m, k = m + 1 := ⟨k - 1, by omega⟩
    have hlt : i < l.length := by omega
    obtain ⟨s2, s3⟩ := hs l[i] (List.getElem_mem _)
    simp only [rights_Right.l0]
    rw [if_pos (by omega), if_pos (by omega), if_pos (by omega), rdT_at l i hlt, List.drop_eq_getElem_cons hlt, labsOk, labOk]
    by_cases h1 : l[i].f0 < -1
    · rw [if_pos h1]; simp [h1]
    rw [if_neg h1]
    by_cases h2 : l[i].f0 ≥ (i : Int)
    · rw [if_pos h2]; simp [h2]
    rw [if_neg h2]
    by_cases h3 : l[i].f1 < 0
    · rw [if_pos h3]; simp [h3]
    rw [if_neg h3]
    by_cases h4 : l[i].f1 ≥ users
    · rw [if_pos h4]; simp [h4]
    rw [if_neg h4, own_ris users _ (by omega) k (by omega), own_ris users _ (by omega) k (by omega), up i (by omega), ih k (i + 1) (by omega) (by omega) (by omega)]
    simp only [Option.bind_some]
    cases ris users (-1) l[i].f2 <;> cases ris users (-1) l[i].f3 <;> simp [h1, h2, h3, h4]
theorem own_right (users : Int) (l : List S29) (hs : ∀ x ∈ l, x.f2.length ≤ 100 ∧ x.f3.length ≤ 100) (k : Nat) (hk : 116 < k) : rights_Right.f k l users = some (right users l) := by
  unfold rights_Right.f right
  obtain ⟨k, rfl⟩ : ∃ m, k = m + 1 := ⟨k - 1, by omega⟩
  by_cases h1 : (l.length : Int) < 1
  · rw [if_pos h1]
    have : ¬ 1 ≤ l.length := by omega
    simp [rights_Right.j0, this]
  · rw [if_neg h1]
    have h1' : 1 ≤ l.length := by omega
    by_cases h2 : (l.length : Int) > 12
    · have : ¬ l.length ≤ 12 := by omega
      simp [rights_Right.j0, h2, this]
    · have h2' : l.length ≤ 12 := by omega
      have := own_loop users l h2' hs l.length k 0 (by omega) (by omega) (by omega)
      simp [rights_Right.j0, h2, h1', h2']
      simpa using this
theorem copy_l (l : List S29) (h12 : l.length ≤ 12) (hs : ∀ x ∈ l, x.f2.length ≤ 8 ∧ x.f3.length ≤ 8) : ∀ (m i k : Nat) (acc : List S29), m = l.length - i → i ≤ l.length → m < k → acc.length + m ≤ 12 → chancelref03_Copy.l0 k l acc (i : Int) = some (acc ++ l.drop i)
  | 0, i, k + 1, acc, hm, hi, hk, ha => by rw [chancelref03_Copy.l0, if_neg (by omega), List.drop_eq_nil_of_le (by omega), List.append_nil]
  | m + 1, i, k + 1, acc, hm, hi, hk, ha => by
    have hlt : i < l.length := by omega
    obtain ⟨s2, s3⟩ := hs l[i] (List.getElem_mem _)
    rw [chancelref03_Copy.l0, if_pos (by omega), if_pos (by omega), rdT_at l i hlt, List.drop_eq_getElem_cons hlt]
    simp only [Option.bind_some, List.nil_append]
    rw [if_pos (by simp; omega), if_pos (by simp; omega), if_pos (by omega), up i (by omega), copy_l l h12 hs m (i + 1) k _ (by omega) (by omega) (by omega) (by rw [List.length_append, List.length_singleton]; omega), List.append_assoc]
    rfl
theorem copy_f (l : List S29) (h12 : l.length ≤ 12) (hs : ∀ x ∈ l, x.f2.length ≤ 8 ∧ x.f3.length ≤ 8) (k : Nat) (hk : 12 < k) : chancelref03_Copy.f k l = some l := by
  unfold chancelref03_Copy.f
  have := copy_l l h12 hs l.length 0 k [] (by omega) (by omega) (by omega) (by simp; omega)
  rw [List.nil_append, List.drop_zero] at this
  exact this
theorem small_of {l : List S29} (hr : right 8 l = true) : ∀ x ∈ l, x.f2.length ≤ 8 ∧ x.f3.length ≤ 8 := by
  intro x hx
  obtain ⟨i, hi, rfl⟩ := List.getElem_of_mem hx
  obtain ⟨_, _, _, _, r2, r3⟩ := (right_at hr).2.2 i hi
  have h2 := ris_len _ _ r2 (by omega)
  have h3 := ris_len _ _ r3 (by omega)
  omega
theorem ref_grant {l : List S29} (hr : right 8 l = true) (a1 a2 a3 : Int) (a4 a5 : Bool) : ∃ r s, rights_Grant.f l a1 a2 a3 a4 a5 = some (r, s) ∧ chancelref03_Grant.f l a1 a2 a3 a4 a5 = some (r, s) ∧ (s = 0 → right 8 r = true) := by
  obtain ⟨_, h12, hat⟩ := right_at hr
  unfold chancelref03_Grant.f
  by_cases c1 : a2 < 0 ∨ (l.length : Int) ≤ a2 ∨ a3 < 0 ∨ 8 ≤ a3
  · exact ⟨[], 5, grant_no l a1 a2 a3 a4 a5 c1, by rw [if_pos c1], fun h => by cases h⟩
  rw [if_neg c1]
  obtain ⟨n, rfl⟩ : ∃ n : Nat, a2 = (n : Int) := ⟨a2.toNat, by omega⟩
  have hn : n < l.length := by omega
  rw [rdT_at l n hn]
  by_cases c5 : l[n].f1 = a1
  · obtain ⟨r, hG, hg⟩ := grant_f hr a1 n a3 a4 a5 hn (by omega) (by omega) c5
    refine ⟨_, 0, hg, ?_, fun _ => right_set hr n hn a4 r hG.ris_⟩
    have hwi : chancelref03_with.f 40 (whoOfR l[n] a4) a3 a5 = some r := hG.wi
    rw [if_neg (fun h => h c5), copy_f l h12 (small_of hr) 40 (by omega), Option.bind_some, if_pos (by omega), rdT_at l n hn, hwi, Option.bind_some, Int.toNat_natCast]
    rfl
  · rw [if_pos c5]
    exact ⟨[], 3, grant_den l a1 n a3 a4 a5 hn (by omega) (by omega) c5, rfl, fun h => by cases h⟩
theorem RightsGrant : chancellaw03_RightsGrant.Pure := by
  intro l a1 a2 a3 a4 a5 hl _ _ _
  obtain ⟨B, hB, hs⟩ := bound l (fun x hx => ⟨(hl.2 x hx).2.2.1.1, (hl.2 x hx).2.2.2.1⟩)
  refine ⟨B + 201, ?_⟩
  have hT : rights_Grant.f [(⟨(-1), 0, (([0] : List Int)), (([0] : List Int))⟩ : S29), (⟨0, 0, (([0, 2] : List Int)), (([0] : List Int))⟩ : S29)] 0 0 2 false true = some ([(⟨(-1), 0, (([0, 2] : List Int)), (([0] : List Int))⟩ : S29), (⟨0, 0, (([0, 2] : List Int)), (([0] : List Int))⟩ : S29)], 0) := by
    first | rfl | kernel_rfl
  have hM : rights_May.f [(⟨(-1), 0, (([0, 2] : List Int)), (([0] : List Int))⟩ : S29), (⟨0, 0, (([0, 2] : List Int)), (([0] : List Int))⟩ : S29)] 2 1 false = some true := by
    first | rfl | kernel_rfl
  unfold chancellaw03_RightsGrant.f chancellaw03_two.f
  rw [Option.bind_some, hT, Option.bind_some, if_pos rfl, hM, Option.bind_some, chancellaw03_RightsGrant.j0, if_neg (by decide), ref_right B hB 8 l hs _ (by omega), Option.bind_some]
  by_cases hr : right 8 l = true
  · rw [if_pos hr, copy_f l (right_at hr).2.1 (small_of hr) _ (by omega), Option.bind_some]
    obtain ⟨r, s, h1, h2, h3⟩ := ref_grant hr a1 a2 a3 a4 a5
    rw [h1, Option.bind_some, h2, Option.bind_some, if_pos rfl]
    unfold chancelref03_Same.f
    rw [sameL_self, Option.bind_some, if_pos rfl, sameL_self, Option.bind_some, if_pos rfl]
    by_cases c : s = 0
    · rw [if_pos c, own_right 8 r (fun x hx => by have := small_of (h3 c) x hx; omega) _ (by omega), h3 c]
      rfl
    · rw [if_neg c]
  · rw [if_neg hr]
end Go.Proofs.Ytgjlnjjgpddcnaa.Pure
