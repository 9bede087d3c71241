/- What is granted and taken away again leaves the labels as they were: over lists alone. No condition. -/
import Derived.Test.YtgjlnjjgpddcnaaRefRightsBack
namespace Go.Proofs.Ytgjlnjjgpddcnaa.Pure
open Go.RowKit Go.Proofs.Ytgjlnjjgpddcnaa.ARightsBack Go.Proofs.YtgjlnjjgpddcnaaW.PrintWords Go.Proofs.YtgjlnjjgpddcnaaW.PrintLast Go.Proofs.Ytgjlnjjgpddcnaa.RefRightsBack
/-- All lists of users, each above the one ahead, from 8 - n on. -/
def gen : Nat → List (List Int)
  | 0 => [[]]
  | n + 1 => gen n ++ (gen n).map (fun t => (7 - (n : Int)) :: t)
theorem gen_mem : ∀ (n : Nat) (l : List Int), ris 8 (7 - (n : Int)) l = true → l ∈ gen n
  | 0, [], _ => by simp [gen]
  | 0, x :: t, h => by
    rw [ris, Bool.and_eq_true, Bool.and_eq_true] at h
    have h1 := h.1.1
    have h2 := h.1.2
    simp only [Bool.not_eq_true', decide_eq_false_iff_not] at h1 h2
    omega
  | n + 1, [], _ => by
    rw [gen]
    exact List.mem_append_left _ (gen_mem n [] rfl)
  | n + 1, x :: t, h => by
    rw [gen]
    have h0 := h
    rw [ris, Bool.and_eq_true, Bool.and_eq_true] at h
    obtain ⟨⟨h1, h2⟩, h3⟩ := h
    simp only [Bool.not_eq_true', decide_eq_false_iff_not] at h1 h2
    by_cases e : x = 7 - (n : Int)
    · subst e
      exact List.mem_append_right _ (List.mem_map.2 ⟨t, gen_mem n t h3, rfl⟩)
    · refine List.mem_append_left _ (gen_mem n (x :: t) ?_)
      rw [ris, Bool.and_eq_true, Bool.and_eq_true]
      exact ⟨⟨by simp only [Bool.not_eq_true', decide_eq_false_iff_not]; omega, by simp only [Bool.not_eq_true', decide_eq_false_iff_not]; omega⟩, h3⟩
/-- What is wanted of a right's users, a user, and what is asked. -/
def chk (l : List Int) (u : Int) (on : Bool) : Bool :=
  match bsOf l u with
  | some (i, there) => decide (0 ≤ i) && decide (i ≤ (l.length : Int)) && (!there || decide (i < (l.length : Int))) && true && ris 8 (-1) (granted l u i there on) && ((granted l u i there on).contains u == on) && ((granted l u i there on).filter (fun v => v != u) == l.filter (fun v => v != u)) && (there == l.contains u) && (there != on || granted l u i there on == l)
  | none => false
def chkBack (l : List Int) (u : Int) : Bool :=
  match bsOf l u with
  | some (i, there) => (match bsOf (granted l u i there true) u with
    | some (j, th) => there || granted (granted l u i there true) u j th false == l
    | none => false)
  | none => false
theorem all_chk : ((gen 8).all fun l => [0, 1, 2, 3, 4, 5, 6, 7].all fun u => chk l u true && chk l u false && chkBack l u) = true := by decide +kernel
theorem users8 {u : Int} (h0 : 0 ≤ u) (h1 : u < 8) : u ∈ ([0, 1, 2, 3, 4, 5, 6, 7] : List Int) := by
  have : u = 0 ∨ u = 1 ∨ u = 2 ∨ u = 3 ∨ u = 4 ∨ u = 5 ∨ u = 6 ∨ u = 7 := by omega
  rcases this with rfl | rfl | rfl | rfl | rfl | rfl | rfl | rfl <;> simp
theorem chk_at {l : List Int} {u : Int} (hl : ris 8 (-1) l = true) (h0 : 0 ≤ u) (h1 : u < 8) (on : Bool) : chk l u on = true ∧ chkBack l u = true := by
  have hm : l ∈ gen 8 := gen_mem 8 l hl
  have h := List.all_eq_true.1 (List.all_eq_true.1 all_chk l hm) u (users8 h0 h1)
  rw [Bool.and_eq_true, Bool.and_eq_true] at h
  cases on
  · exact ⟨h.1.2, h.2⟩
  · exact ⟨h.1.1, h.2⟩
theorem ris_len : ∀ (l : List Int) (last : Int), ris 8 last l = true → last ≤ 7 → (l.length : Int) ≤ 7 - last
  | [], last, _, h => by simp; omega
  | x :: t, last, h, hl => by
    rw [ris, Bool.and_eq_true, Bool.and_eq_true] at h
    obtain ⟨⟨h1, h2⟩, h3⟩ := h
    simp only [Bool.not_eq_true', decide_eq_false_iff_not] at h1 h2
    have := ris_len t x h3 (by omega)
    simp only [List.length_cons]
    omega
/-- What a grant of an owner makes. -/
structure Granted (l : List Int) (u : Int) (on : Bool) (r : List Int) : Prop where
  bs : ∃ i there, bsOf l u = some (i, there) ∧ 0 ≤ i ∧ i ≤ (l.length : Int) ∧ (there = true → i < (l.length : Int)) ∧ granted l u i there on = r
  ris_ : ris 8 (-1) r = true
  has : r.contains u = on
  rest : r.filter (fun v => v != u) = l.filter (fun v => v != u)
  same : l.contains u = on → r = l
theorem granted_at {l : List Int} {u : Int} (hl : ris 8 (-1) l = true) (h0 : 0 ≤ u) (h1 : u < 8) (on : Bool) : ∃ r, Granted l u on r := by
  have h := (chk_at hl h0 h1 on).1
  unfold chk at h
  split at h
  · rename_i i there hbs
    simp only [Bool.and_eq_true, decide_eq_true_eq, beq_iff_eq] at h
    obtain ⟨⟨⟨⟨⟨⟨⟨⟨a1, a2⟩, a3⟩, a4⟩, a5⟩, a6⟩, a7⟩, a8⟩, a9⟩ := h
    refine ⟨_, ⟨⟨i, there, hbs, a1, a2, fun ht => ?_, rfl⟩, a5, a6, a7, fun hc => ?_⟩⟩
    · subst ht
      simpa using a3
    · rw [← a8] at hc
      subst hc
      simpa using a9
  · cases h
theorem rd_t (l : List S29) (n : Nat) (h : n < l.length) : rd_T29 l (n : Int) = l[n] := rdT_at l n h
/-- An owner's grant, of right labels. -/
theorem grant_f {l : List S29} (hr : right 8 l = true) (a1 : Int) (n : Nat) (a3 : Int) (a4 a5 : Bool) (hn : n < l.length) (h0 : 0 ≤ a3) (h1 : a3 < 8) (ho : l[n].f1 = a1) :
    ∃ r, Granted (whoOf l[n] a4) a3 a5 r ∧ rights_Grant.f l a1 (n : Int) a3 a4 a5 = some (l.set n (withWho l[n] a4 r), 0) := by
  obtain ⟨_, h12, hat⟩ := right_at hr
  obtain ⟨_, _, _, _, r2, r3⟩ := hat n hn
  have hw : ris 8 (-1) (whoOf l[n] a4) = true := by unfold whoOf; cases a4; exact r2; exact r3
  obtain ⟨r, hG⟩ := granted_at hw h0 h1 a5
  obtain ⟨i, there, e1, e2, e3, e4, e5⟩ := hG.bs
  have hlen := ris_len _ _ hw (by omega)
  refine ⟨r, hG, ?_⟩
  unfold rights_Grant.f
  rw [if_neg (by omega), rd_t l n hn, if_neg (by rw [ho]; exact fun h => h rfl), if_pos ⟨by omega, by omega⟩, e1, Option.bind_some, if_pos ⟨e2, e3, e4⟩, e5, Int.toNat_natCast]
theorem grant_no (l : List S29) (a1 a2 a3 : Int) (a4 a5 : Bool) (h : a2 < 0 ∨ (l.length : Int) ≤ a2 ∨ a3 < 0 ∨ 8 ≤ a3) : rights_Grant.f l a1 a2 a3 a4 a5 = some ([], 5) := by
  unfold rights_Grant.f
  rw [if_pos h]
theorem grant_den (l : List S29) (a1 : Int) (n : Nat) (a3 : Int) (a4 a5 : Bool) (hn : n < l.length) (h0 : 0 ≤ a3) (h1 : a3 < 8) (ho : l[n].f1 ≠ a1) : rights_Grant.f l a1 (n : Int) a3 a4 a5 = some ([], 3) := by
  unfold rights_Grant.f
  rw [if_neg (by omega), rd_t l n hn, if_pos ho]
theorem right_of {l : List S29} (h1 : 1 ≤ l.length) (h2 : l.length ≤ 12) (h : ∀ (i : Nat) (hi : i < l.length), labOk 8 (i : Int) l[i] = true) : right 8 l = true := by
  unfold right
  rw [decide_eq_true h1, decide_eq_true h2, Bool.true_and, Bool.true_and]
  have key : ∀ (t : List S29) (j : Nat), (∀ (i : Nat) (hi : i < t.length), labOk 8 ((j + i : Nat) : Int) t[i] = true) → labsOk 8 j t = true := by
    intro t
    induction t with
    | nil => intro j _; rfl
    | cons x t ih =>
      intro j hj
      rw [labsOk, Bool.and_eq_true]
      exact ⟨hj 0 (by simp), ih (j + 1) (fun i hi => by have := hj (i + 1) (by simpa using hi); rw [show j + (i + 1) = j + 1 + i by omega] at this; exact this)⟩
  exact key l 0 (fun i hi => by rw [Nat.zero_add]; exact h i hi)
/-- Right labels stay right. -/
theorem right_set {l : List S29} (hr : right 8 l = true) (n : Nat) (hn : n < l.length) (w : Bool) (r : List Int) (h : ris 8 (-1) r = true) : right 8 (l.set n (withWho l[n] w r)) = true := by
  obtain ⟨h1, h12, hat⟩ := right_at hr
  refine right_of (by simpa using h1) (by simpa using h12) (fun i hi => ?_)
  have hi' : i < l.length := by simpa using hi
  obtain ⟨b1, b2, b3, b4, b5, b6⟩ := hat i hi'
  rw [List.getElem_set]
  have hx : ∀ y : S29, -1 ≤ y.f0 → y.f0 < (i : Int) → 0 ≤ y.f1 → y.f1 < 8 → ris 8 (-1) y.f2 = true → ris 8 (-1) y.f3 = true → labOk 8 (i : Int) y = true := by
    intro y c1 c2 c3 c4 c5 c6
    unfold labOk
    rw [c5, c6, decide_eq_false (show ¬ y.f0 < -1 by omega), decide_eq_false (show ¬ y.f0 ≥ (i : Int) by omega), decide_eq_false (show ¬ y.f1 < 0 by omega), decide_eq_false (show ¬ y.f1 ≥ 8 by omega)]
    rfl
  by_cases e : n = i
  · subst e
    rw [if_pos rfl]
    unfold withWho
    cases w
    · exact hx _ b1 b2 b3 b4 h b6
    · exact hx _ b1 b2 b3 b4 b5 h
  · rw [if_neg e]
    exact hx _ b1 b2 b3 b4 b5 b6
theorem k29_heap : Kd.Heap k29 := Kd.heap_iso _ (Kd.heap_pair (Kd.heap_int .i64) (Kd.heap_pair (Kd.heap_int .i64) (Kd.heap_pair (Kd.heap_slice 3 (Kd.heap_int .i64)) (Kd.heap_slice 3 (Kd.heap_int .i64)))))
theorem has_loop (l : List Int) (v : Int) (hl : l.length ≤ 9223372036854775807) : ∀ (d k i : Nat), l.length - i = d → d < k → i ≤ l.length →
    chancelref03_Has.l0 k l v (i : Int) = some ((l.drop i).contains v) := by
  intro d
  induction d with
  | zero =>
    intro k i hd hk hi
    obtain ⟨k, rfl⟩ : ∃ m, k = m + 1 := ⟨k - 1, by omega⟩
    simp only [chancelref03_Has.l0]
    rw [if_neg (by omega), List.drop_eq_nil_of_le (by omega)]; rfl
  | succ d ih =>
    intro k i hd hk hi
    obtain ⟨k, rfl⟩ : ∃ m, k = m + 1 := ⟨k - 1, by omega⟩
    have hlt : i < l.length := by omega
    have hrd : rd l (i : Int) = l[i] := by simp [rd, hlt]
    simp only [chancelref03_Has.l0]
    rw [if_pos (by omega), if_pos (by omega), hrd, List.drop_eq_getElem_cons hlt]
    by_cases h : l[i] = v
    · rw [if_pos h, List.contains_cons, beq_iff_eq.mpr h.symm, Bool.true_or]
    · rw [if_neg h, show wrap64 ((i : Int) + 1) = ((i + 1 : Nat) : Int) by unfold wrap64; omega, ih k (i + 1) (by omega) (by omega) (by omega), List.contains_cons, beq_eq_false_iff_ne.mpr (fun e => h e.symm), Bool.false_or]
theorem has_tells (l : List Int) (v : Int) (hl : l.length ≤ 9223372036854775807) : chancelref03_Has.f (l.length + 1) l v = some (l.contains v) := by
  have := has_loop l v hl l.length (l.length + 1) 0 (by omega) (by omega) (by omega)
  rw [List.drop_zero] at this
  exact this
def T0 : List S29 := [(⟨(-1), 0, (([0] : List Int)), (([0] : List Int))⟩ : S29), (⟨0, 0, (([0, 2] : List Int)), (([0] : List Int))⟩ : S29)]
def T1 : List S29 := [(⟨(-1), 0, (([0, 2] : List Int)), (([0] : List Int))⟩ : S29), (⟨0, 0, (([0, 2] : List Int)), (([0] : List Int))⟩ : S29)]
theorem two_T0 : chancellaw03_two.f = some T0 := rfl
theorem grant_T : rights_Grant.f T0 0 0 2 false true = some (T1, 0) := by first | rfl | kernel_rfl
theorem may_T : rights_May.f T1 2 1 false = some true := by first | rfl | kernel_rfl
theorem has_f (l : List Int) (v : Int) (hl : l.length ≤ 9223372036854775807) : chancelref03_Has.f (l.length + 1) l v = some (l.contains v) := has_tells l v hl
/-- What is granted and taken away again. -/
structure BackOk (l : List S29) (a1 : Int) (n : Nat) (a3 : Int) (a4 : Bool) (r r2 : List S29) (h : Bool) : Prop where
  g1 : rights_Grant.f l a1 (n : Int) a3 a4 true = some (r, 0)
  g2 : rights_Grant.f r a1 (n : Int) a3 a4 false = some (r2, 0)
  has : (whoOf (rd_T29 l (n : Int)) a4).contains a3 = h
  same1 : h = true → sameL r l = true
  same2 : h = false → sameL r2 l = true
theorem set_self (l : List S29) (n : Nat) (hn : n < l.length) (w : Bool) (r : List Int) (h : r = whoOf l[n] w) : l.set n (withWho l[n] w r) = l := by
  have : withWho l[n] w r = l[n] := by rw [h]; unfold withWho whoOf; cases w <;> rfl
  rw [this]
  exact List.set_getElem_self hn
theorem back_ok {l : List S29} (hr : right 8 l = true) (a1 : Int) (n : Nat) (a3 : Int) (a4 : Bool) (hn : n < l.length) (h0 : 0 ≤ a3) (h1 : a3 < 8) (ho : l[n].f1 = a1) : ∃ r r2 h, BackOk l a1 n a3 a4 r r2 h := by
  obtain ⟨r, hG, hg⟩ := grant_f hr a1 n a3 a4 true hn h0 h1 ho
  have hr2 := right_set hr n hn a4 r hG.ris_
  have hn2 : n < (l.set n (withWho l[n] a4 r)).length := by simpa using hn
  have hx : (l.set n (withWho l[n] a4 r))[n] = withWho l[n] a4 r := by simp
  have hw : whoOf (withWho l[n] a4 r) a4 = r := by unfold whoOf withWho; cases a4 <;> rfl
  have ho2 : (l.set n (withWho l[n] a4 r))[n].f1 = a1 := by rw [hx]; rw [← ho]; unfold withWho; cases a4 <;> rfl
  obtain ⟨r', hG', hg'⟩ := grant_f hr2 a1 n a3 a4 false hn2 h0 h1 ho2
  rw [hx, hw] at hG'
  refine ⟨_, _, _, ⟨hg, hg', rfl, fun hh => ?_, fun hh => ?_⟩⟩
  · rw [rdT_at l n hn] at hh
    rw [set_self l n hn a4 r (hG.same hh)]
    exact sameL_self l
  · rw [rdT_at l n hn] at hh
    -- what was granted and taken away again
    have hwr : ris 8 (-1) (whoOf l[n] a4) = true := by
      obtain ⟨_, _, _, _, r2, r3⟩ := (right_at hr).2.2 n hn
      unfold whoOf; cases a4; exact r2; exact r3
    have hb := (chk_at hwr h0 h1 true).2
    obtain ⟨i, there, e1, e2, e3, e4, e5⟩ := hG.bs
    obtain ⟨j, th, f1, f2, f3, f4, f5⟩ := hG'.bs
    have hc := (chk_at hwr h0 h1 true).1
    unfold chkBack at hb
    unfold chk at hc
    rw [e1] at hb hc
    simp only [e5, f1, Bool.and_eq_true, beq_iff_eq] at hb hc
    have hthere : there = false := by rw [hc.1.2, hh]
    rw [hthere, Bool.false_or, beq_iff_eq, f5] at hb
    rw [hb, List.set_set, hx]
    have : withWho (withWho l[n] a4 r) a4 (whoOf l[n] a4) = l[n] := by unfold withWho whoOf; cases a4 <;> rfl
    rw [this, List.set_getElem_self hn]
    exact sameL_self l
/-- The guard. -/
theorem guard_f (l : List S29) (hl : (fun l : List (S29) => l.length ≤ maxLen ∧ ∀ a ∈ l, (fun b : S29 => (fun n : Int => (Lit.int .i64 n).wf = true) b.f0 ∧ (fun n : Int => (Lit.int .i64 n).wf = true) b.f1 ∧ (fun l : List Int => l.length ≤ maxLen ∧ ∀ a ∈ l, (fun n : Int => (Lit.int .i64 n).wf = true) a) b.f2 ∧ (fun l : List Int => l.length ≤ maxLen ∧ ∀ a ∈ l, (fun n : Int => (Lit.int .i64 n).wf = true) a) b.f3) a) l) :
    ∃ k, chancelref03_Right.f k l 8 = some (right 8 l) := by
  obtain ⟨B, hB, hs⟩ := bound l (fun x hx => ⟨(hl.2 x hx).2.2.1.1, (hl.2 x hx).2.2.2.1⟩)
  exact ⟨B + 17, ref_right B hB 8 l hs _ (by omega)⟩
end Go.Proofs.Ytgjlnjjgpddcnaa.Pure
