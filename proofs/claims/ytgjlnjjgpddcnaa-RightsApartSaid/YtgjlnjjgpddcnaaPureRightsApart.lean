/- A grant changes nothing for another user, the other right, and labels whose path it isn't in: over lists alone. No condition. -/
import Derived.Test.YtgjlnjjgpddcnaaRefRightsApart
namespace Go.Proofs.Ytgjlnjjgpddcnaa.Pure
open Go.RowKit Go.Proofs.Ytgjlnjjgpddcnaa.ARightsApart Go.Proofs.YtgjlnjjgpddcnaaW.PrintWords Go.Proofs.YtgjlnjjgpddcnaaW.PrintLast Go.Proofs.Ytgjlnjjgpddcnaa.RefRightsApart
/-- All lists of users, each above the one ahead, from 8 - n on. -/
def gen : Nat → List (List Int)
  | 0 => [[]]
  | n + 1 => gen n ++ (gen n).map (fun t => (7 - (n : Int)) :: t)
theorem gen_mem : ∀ (n : Nat) (l : List Int), ris 8 (7 - (n : Int)) l = true → l ∈ gen n
  | 0, [], _ => by simp [gen]
  | 0, x :: t, h => by
    rw [ris, Bool.and_eq_true, Bool.and_eq_true] at h
    have h1 := h.1.1
    have h2 := h.1.2
    simp only [Bool.not_eq_true', decide_eq_false_iff_not] at h1 h2
    omega
  | n + 1, [], _ => by
    rw [gen]
    exact List.mem_append_left _ (gen_mem n [] rfl)
  | n + 1, x :: t, h => by
    rw [gen]
    have h0 := h
    rw [ris, Bool.and_eq_true, Bool.and_eq_true] at h
    obtain ⟨⟨h1, h2⟩, h3⟩ := h
    simp only [Bool.not_eq_true', decide_eq_false_iff_not] at h1 h2
    by_cases e : x = 7 - (n : Int)
    · subst e
      exact List.mem_append_right _ (List.mem_map.2 ⟨t, gen_mem n t h3, rfl⟩)
    · refine List.mem_append_left _ (gen_mem n (x :: t) ?_)
      rw [ris, Bool.and_eq_true, Bool.and_eq_true]
      exact ⟨⟨by simp only [Bool.not_eq_true', decide_eq_false_iff_not]; omega, by simp only [Bool.not_eq_true', decide_eq_false_iff_not]; omega⟩, h3⟩
/-- What is wanted of a right's users, a user, and what is asked. -/
def chk (l : List Int) (u : Int) (on : Bool) : Bool :=
  match bsOf l u with
  | some (i, there) => decide (0 ≤ i) && decide (i ≤ (l.length : Int)) && (!there || decide (i < (l.length : Int))) && true && ris 8 (-1) (granted l u i there on) && ((granted l u i there on).contains u == on) && ((granted l u i there on).filter (fun v => v != u) == l.filter (fun v => v != u)) && (there == l.contains u) && (there != on || granted l u i there on == l)
  | none => false
def chkBack (l : List Int) (u : Int) : Bool :=
  match bsOf l u with
  | some (i, there) => (match bsOf (granted l u i there true) u with
    | some (j, th) => there || granted (granted l u i there true) u j th false == l
    | none => false)
  | none => false
theorem all_chk : ((gen 8).all fun l => [0, 1, 2, 3, 4, 5, 6, 7].all fun u => chk l u true && chk l u false && chkBack l u) = true := by decide +kernel
theorem users8 {u : Int} (h0 : 0 ≤ u) (h1 : u < 8) : u ∈ ([0, 1, 2, 3, 4, 5, 6, 7] : List Int) := by
  have : u = 0 ∨ u = 1 ∨ u = 2 ∨ u = 3 ∨ u = 4 ∨ u = 5 ∨ u = 6 ∨ u = 7 := by omega
  rcases this with rfl | rfl | rfl | rfl | rfl | rfl | rfl | rfl <;> simp
theorem chk_at {l : List Int} {u : Int} (hl : ris 8 (-1) l = true) (h0 : 0 ≤ u) (h1 : u < 8) (on : Bool) : chk l u on = true ∧ chkBack l u = true := by
  have hm : l ∈ gen 8 := gen_mem 8 l hl
  have h := List.all_eq_true.1 (List.all_eq_true.1 all_chk l hm) u (users8 h0 h1)
  rw [Bool.and_eq_true, Bool.and_eq_true] at h
  cases on
  · exact ⟨h.1.2, h.2⟩
  · exact ⟨h.1.1, h.2⟩
theorem ris_len : ∀ (l : List Int) (last : Int), ris 8 last l = true → last ≤ 7 → (l.length : Int) ≤ 7 - last
  | [], last, _, h => by simp; omega
  | x :: t, last, h, hl => by
    rw [ris, Bool.and_eq_true, Bool.and_eq_true] at h
    obtain ⟨⟨h1, h2⟩, h3⟩ := h
    simp only [Bool.not_eq_true', decide_eq_false_iff_not] at h1 h2
    have := ris_len t x h3 (by omega)
    simp only [List.length_cons]
    omega
/-- What a grant of an owner makes. -/
structure Granted (l : List Int) (u : Int) (on : Bool) (r : List Int) : Prop where
  bs : ∃ i there, bsOf l u = some (i, there) ∧ 0 ≤ i ∧ i ≤ (l.length : Int) ∧ (there = true → i < (l.length : Int)) ∧ granted l u i there on = r
  ris_ : ris 8 (-1) r = true
  has : r.contains u = on
  rest : r.filter (fun v => v != u) = l.filter (fun v => v != u)
  same : l.contains u = on → r = l
theorem granted_at {l : List Int} {u : Int} (hl : ris 8 (-1) l = true) (h0 : 0 ≤ u) (h1 : u < 8) (on : Bool) : ∃ r, Granted l u on r := by
  have h := (chk_at hl h0 h1 on).1
  unfold chk at h
  split at h
  · rename_i i there hbs
    simp only [Bool.and_eq_true, decide_eq_true_eq, beq_iff_eq] at h
    obtain ⟨⟨⟨⟨⟨⟨⟨⟨a1, a2⟩, a3⟩, a4⟩, a5⟩, a6⟩, a7⟩, a8⟩, a9⟩ := h
    refine ⟨_, ⟨⟨i, there, hbs, a1, a2, fun ht => ?_, rfl⟩, a5, a6, a7, fun hc => ?_⟩⟩
    · subst ht
      simpa using a3
    · rw [← a8] at hc
      subst hc
      simpa using a9
  · cases h
theorem rd_t (l : List S29) (n : Nat) (h : n < l.length) : rd_T29 l (n : Int) = l[n] := rdT_at l n h
/-- An owner's grant, of right labels. -/
theorem grant_f {l : List S29} (hr : right 8 l = true) (a1 : Int) (n : Nat) (a3 : Int) (a4 a5 : Bool) (hn : n < l.length) (h0 : 0 ≤ a3) (h1 : a3 < 8) (ho : l[n].f1 = a1) :
    ∃ r, Granted (whoOf l[n] a4) a3 a5 r ∧ rights_Grant.f l a1 (n : Int) a3 a4 a5 = some (l.set n (withWho l[n] a4 r), 0) := by
  obtain ⟨_, h12, hat⟩ := right_at hr
  obtain ⟨_, _, _, _, r2, r3⟩ := hat n hn
  have hw : ris 8 (-1) (whoOf l[n] a4) = true := by unfold whoOf; cases a4; exact r2; exact r3
  obtain ⟨r, hG⟩ := granted_at hw h0 h1 a5
  obtain ⟨i, there, e1, e2, e3, e4, e5⟩ := hG.bs
  have hlen := ris_len _ _ hw (by omega)
  refine ⟨r, hG, ?_⟩
  unfold rights_Grant.f
  rw [if_neg (by omega), rd_t l n hn, if_neg (by rw [ho]; exact fun h => h rfl), if_pos ⟨by omega, by omega⟩, e1, Option.bind_some, if_pos ⟨e2, e3, e4⟩, e5, Int.toNat_natCast]
theorem grant_no (l : List S29) (a1 a2 a3 : Int) (a4 a5 : Bool) (h : a2 < 0 ∨ (l.length : Int) ≤ a2 ∨ a3 < 0 ∨ 8 ≤ a3) : rights_Grant.f l a1 a2 a3 a4 a5 = some ([], 5) := by
  unfold rights_Grant.f
  rw [if_pos h]
theorem grant_den (l : List S29) (a1 : Int) (n : Nat) (a3 : Int) (a4 a5 : Bool) (hn : n < l.length) (h0 : 0 ≤ a3) (h1 : a3 < 8) (ho : l[n].f1 ≠ a1) : rights_Grant.f l a1 (n : Int) a3 a4 a5 = some ([], 3) := by
  unfold rights_Grant.f
  rw [if_neg (by omega), rd_t l n hn, if_pos ho]
theorem right_of {l : List S29} (h1 : 1 ≤ l.length) (h2 : l.length ≤ 12) (h : ∀ (i : Nat) (hi : i < l.length), labOk 8 (i : Int) l[i] = true) : right 8 l = true := by
  unfold right
  rw [decide_eq_true h1, decide_eq_true h2, Bool.true_and, Bool.true_and]
  have key : ∀ (t : List S29) (j : Nat), (∀ (i : Nat) (hi : i < t.length), labOk 8 ((j + i : Nat) : Int) t[i] = true) → labsOk 8 j t = true := by
    intro t
    induction t with
    | nil => intro j _; rfl
    | cons x t ih =>
      intro j hj
      rw [labsOk, Bool.and_eq_true]
      exact ⟨hj 0 (by simp), ih (j + 1) (fun i hi => by have := hj (i + 1) (by simpa using hi); rw [show j + (i + 1) = j + 1 + i by omega] at this; exact this)⟩
  exact key l 0 (fun i hi => by rw [Nat.zero_add]; exact h i hi)
/-- Right labels stay right. -/
theorem right_set {l : List S29} (hr : right 8 l = true) (n : Nat) (hn : n < l.length) (w : Bool) (r : List Int) (h : ris 8 (-1) r = true) : right 8 (l.set n (withWho l[n] w r)) = true := by
  obtain ⟨h1, h12, hat⟩ := right_at hr
  refine right_of (by simpa using h1) (by simpa using h12) (fun i hi => ?_)
  have hi' : i < l.length := by simpa using hi
  obtain ⟨b1, b2, b3, b4, b5, b6⟩ := hat i hi'
  rw [List.getElem_set]
  have hx : ∀ y : S29, -1 ≤ y.f0 → y.f0 < (i : Int) → 0 ≤ y.f1 → y.f1 < 8 → ris 8 (-1) y.f2 = true → ris 8 (-1) y.f3 = true → labOk 8 (i : Int) y = true := by
    intro y c1 c2 c3 c4 c5 c6
    unfold labOk
    rw [c5, c6, decide_eq_false (show ¬ y.f0 < -1 by omega), decide_eq_false (show ¬ y.f0 ≥ (i : Int) by omega), decide_eq_false (show ¬ y.f1 < 0 by omega), decide_eq_false (show ¬ y.f1 ≥ 8 by omega)]
    rfl
  by_cases e : n = i
  · subst e
    rw [if_pos rfl]
    unfold withWho
    cases w
    · exact hx _ b1 b2 b3 b4 h b6
    · exact hx _ b1 b2 b3 b4 b5 h
  · rw [if_neg e]
    exact hx _ b1 b2 b3 b4 b5 b6
theorem contains_filter (l r : List Int) (u v : Int) (h : r.filter (fun x => x != u) = l.filter (fun x => x != u)) (hv : v ≠ u) : r.contains v = l.contains v := by
  have key : ∀ t : List Int, t.contains v = (t.filter (fun x => x != u)).contains v := by
    intro t
    rw [Bool.eq_iff_iff, List.contains_iff_mem, List.contains_iff_mem, List.mem_filter]
    exact ⟨fun hm => ⟨hm, by simpa using hv⟩, fun hm => hm.1⟩
  rw [key r, key l, h]
/-- Is a label on the path? -/
def inP (l : List S29) (n : Nat) : Nat → Nat → Bool
  | 0, _ => false
  | d + 1, i => decide (i = n) || (if (rd_T29 l (i : Int)).f0 < 0 then false else inP l n d (rd_T29 l (i : Int)).f0.toNat)
theorem rd_set (l : List S29) (n i : Nat) (y : S29) (hi : i < l.length) : rd_T29 (l.set n y) (i : Int) = if n = i then y else rd_T29 l (i : Int) := by
  rw [rdT_at _ i (by simpa using hi), List.getElem_set, rdT_at l i hi]
/-- What a grant leaves: another user's, another right's, another path's. -/
theorem path_same {l : List S29} (hr : right 8 l = true) (n : Nat) (hn : n < l.length) (dU : Int) (dW on : Bool) (r : List Int) (hG : Granted (whoOf l[n] dW) dU on r) (u : Int) (w : Bool) :
    ∀ (d i : Nat), i < l.length → i < d → (u ≠ dU ∨ w ≠ dW ∨ inP l n d i = false) → onPath (l.set n (withWho l[n] dW r)) u w d i = onPath l u w d i
  | 0, _, _, h, _ => by omega
  | d + 1, i, hi, hd, hc => by
    rw [onPath, onPath, rd_set l n i _ hi]
    obtain ⟨p1, p2, _⟩ := (right_at hr).2.2 i hi
    have hri := rdT_at l i hi
    have hf0 : (if n = i then withWho l[n] dW r else rd_T29 l (i : Int)).f0 = (rd_T29 l (i : Int)).f0 := by
      by_cases e : n = i
      · subst e; rw [if_pos rfl, hri]; unfold withWho; cases dW <;> rfl
      · rw [if_neg e]
    have hco : (if w = true then (if n = i then withWho l[n] dW r else rd_T29 l (i : Int)).f3 else (if n = i then withWho l[n] dW r else rd_T29 l (i : Int)).f2).contains u = (if w = true then (rd_T29 l (i : Int)).f3 else (rd_T29 l (i : Int)).f2).contains u := by
      by_cases e : n = i
      · subst e
        rw [if_pos rfl, hri]
        have hne : u ≠ dU ∨ w ≠ dW := by
          rcases hc with hc | hc | hc
          · exact .inl hc
          · exact .inr hc
          · rw [inP, decide_eq_true rfl, Bool.true_or] at hc; cases hc
        have hrest := hG.rest
        unfold withWho
        unfold whoOf at hrest
        cases dW <;> cases w <;> simp only [if_true, if_false, Bool.false_eq_true] at hrest ⊢
        · rcases hne with hne | hne
          · exact contains_filter _ _ _ _ hrest hne
          · exact absurd rfl hne
        · rcases hne with hne | hne
          · exact contains_filter _ _ _ _ hrest hne
          · exact absurd rfl hne
      · rw [if_neg e]
    rw [hf0, hco]
    by_cases hz : (rd_T29 l (i : Int)).f0 < 0
    · rw [decide_eq_true hz]; simp
    · have hlt : (rd_T29 l (i : Int)).f0.toNat < i := by rw [hri] at hz ⊢; omega
      rw [path_same hr n hn dU dW on r hG u w d (rd_T29 l (i : Int)).f0.toNat (by omega) (by omega) (by
        rcases hc with hc | hc | hc
        · exact .inl hc
        · exact .inr (.inl hc)
        · rw [inP, Bool.or_eq_false_iff, if_neg hz] at hc
          exact .inr (.inr hc.2))]
theorem may_same {l : List S29} (hr : right 8 l = true) (n : Nat) (hn : n < l.length) (dU : Int) (dW on : Bool) (r : List Int) (hG : Granted (whoOf l[n] dW) dU on r) (u : Int) (w : Bool) (i : Nat) (hi : i < l.length)
    (hc : u ≠ dU ∨ w ≠ dW ∨ inP l n (i + 1) i = false) : may (l.set n (withWho l[n] dW r)) u (i : Int) w = may l u (i : Int) w := by
  unfold may
  rw [List.length_set, Int.toNat_natCast, path_same hr n hn dU dW on r hG u w (i + 1) i hi (by omega) hc]
theorem l3_step (l a : List S29) (x2 dBy dN dU : Int) (dW on inn w : Bool) (x54 x55 x74 x75 : Int) (ws : List Bool) (i q k : Nat) (hq : q < 2) (hE : ∀ u, (u ≠ dU ∨ w ≠ dW ∨ inn = false) → may a u (i : Int) w = may l u (i : Int) w) :
    chancellaw03_RightsApart.l3 (k + 1) l x2 a (i : Int) inn w x54 x55 ws x74 x75 [x2, dU] (([x2, dU] : List Int).length : Int) (q : Int) dBy dN dU dW on = chancellaw03_RightsApart.l3 k l x2 a (i : Int) inn w x54 x55 ws x74 x75 [x2, dU] (([x2, dU] : List Int).length : Int) ((q + 1 : Nat) : Int) dBy dN dU dW on := by
  have hl2 : (([x2, dU] : List Int).length : Int) = 2 := rfl
  have hb : ∀ b : Bool, (b != b) = false := by intro b; cases b <;> rfl
  rw [chancellaw03_RightsApart.l3, hl2, if_pos (by omega), if_pos (by omega), if_pos (by omega), up q (by omega)]
  unfold rights_May.f
  simp only [Option.bind_some]
  by_cases h1 : rd [x2, dU] (q : Int) = dU
  · rw [if_pos h1]
    by_cases h2 : (w != dW) = true
    · rw [if_pos h2, h1, hE dU (.inr (.inl (by simpa using h2))), hb, if_neg (by decide)]
    · rw [if_neg h2]
      cases inn with
      | true => rw [if_pos rfl]
      | false => rw [if_neg (by decide), h1, hE dU (.inr (.inr rfl)), hb, if_neg (by decide)]
  · rw [if_neg h1, hE _ (.inl h1), hb, if_neg (by decide)]
theorem l2_all (l a : List S29) (x2 dBy dN dU : Int) (dW on inn : Bool) (x54 x55 : Int) (i : Nat) (hE : ∀ u w, (u ≠ dU ∨ w ≠ dW ∨ inn = false) → may a u (i : Int) w = may l u (i : Int) w) (K : Nat)
    (hK : ∀ k, K < k → chancellaw03_RightsApart.l0 k l x2 a x54 (wrap64 (x55 + 1)) dBy dN dU dW on = some true) (k : Nat) (hk : K + 12 < k) :
    chancellaw03_RightsApart.l2 k l x2 a (i : Int) inn x54 x55 [false, true] (([false, true] : List Bool).length : Int) 0 dBy dN dU dW on = some true := by
  have hl2 : (([false, true] : List Bool).length : Int) = 2 := rfl
  have hl2' : (([x2, dU] : List Int).length : Int) = 2 := rfl
  have step : ∀ (q k' : Nat) (w : Bool), q < 2 → rdOf false ([false, true] : List Bool) (q : Int) = w → chancellaw03_RightsApart.l2 (k' + 4) l x2 a (i : Int) inn x54 x55 [false, true] (([false, true] : List Bool).length : Int) (q : Int) dBy dN dU dW on = chancellaw03_RightsApart.l2 k' l x2 a (i : Int) inn x54 x55 [false, true] (([false, true] : List Bool).length : Int) ((q + 1 : Nat) : Int) dBy dN dU dW on := by
    intro q k' w hq hw
    rw [chancellaw03_RightsApart.l2, hl2, if_pos (by omega), if_pos (by omega), if_pos (by omega), Option.bind_some, hw]
    have s0 := l3_step l a x2 dBy dN dU dW on inn w x54 x55 2 (q : Int) [false, true] i 0 (k' + 2) (by omega) (fun u h => hE u w h)
    have s1 := l3_step l a x2 dBy dN dU dW on inn w x54 x55 2 (q : Int) [false, true] i 1 (k' + 1) (by omega) (fun u h => hE u w h)
    rw [show ((0 : Nat) : Int) = 0 from rfl] at s0
    rw [s0, s1, chancellaw03_RightsApart.l3, hl2', if_neg (by omega), up q (by omega)]
  obtain ⟨k', rfl⟩ : ∃ m, k = m + 1 + 4 + 4 := ⟨k - 9, by omega⟩
  have t0 := step 0 (k' + 1 + 4) false (by omega) rfl
  have t1 := step 1 (k' + 1) true (by omega) rfl
  rw [show ((0 : Nat) : Int) = 0 from rfl] at t0
  rw [t0, t1, chancellaw03_RightsApart.l2, hl2, if_neg (by omega)]
  exact hK k' (by omega)
theorem l1_all {l : List S29} (hr : right 8 l = true) (a : List S29) (x2 dBy dU : Int) (n : Nat) (dW on : Bool) (x54 x55 : Int) (i : Nat) (K : Nat)
    (hl2 : ∀ k, K < k → chancellaw03_RightsApart.l2 k l x2 a (i : Int) (inP l n (i + 1) i) x54 x55 [false, true] (([false, true] : List Bool).length : Int) 0 dBy (n : Int) dU dW on = some true) :
    ∀ (d p k : Nat) (b : Bool), p < d → p < l.length → (b || inP l n d p) = inP l n (i + 1) i → K + d + 1 < k → chancellaw03_RightsApart.l1 k l x2 a (i : Int) b (p : Int) x54 x55 dBy (n : Int) dU dW on = some true
  | 0, _, _, _, h, _, _, _ => by omega
  | d + 1, p, k, b, hpd, hp, hb, hk => by
    obtain ⟨k, rfl⟩ : ∃ m, k = m + 1 := ⟨k - 1, by omega⟩
    obtain ⟨p1, p2, _⟩ := (right_at hr).2.2 p hp
    have hrp := rdT_at l p hp
    have hx : ∀ b', (b || decide (p = n)) = b' → chancellaw03_RightsApart.l1 k l x2 a (i : Int) b' ((rd_T29 l (p : Int)).f0) x54 x55 dBy (n : Int) dU dW on = some true := by
      intro b' hb'
      by_cases hz : (rd_T29 l (p : Int)).f0 < 0
      · obtain ⟨k, rfl⟩ : ∃ m, k = m + 1 := ⟨k - 1, by omega⟩
        rw [chancellaw03_RightsApart.l1, if_neg (by omega), Option.bind_some]
        rw [inP, if_pos hz, Bool.or_false] at hb
        rw [← hb', hb]
        exact hl2 k (by omega)
      · have e : (rd_T29 l (p : Int)).f0 = ((rd_T29 l (p : Int)).f0.toNat : Int) := by omega
        rw [inP, if_neg hz] at hb
        rw [e]
        refine l1_all hr a x2 dBy dU n dW on x54 x55 i K hl2 d _ k b' (by rw [hrp] at hz ⊢; omega) (by rw [hrp] at hz ⊢; omega) ?_ (by omega)
        rw [← hb', Bool.or_assoc, hb]
    cases b with
    | true =>
      rw [chancellaw03_RightsApart.l1, if_pos (show (p : Int) ≥ 0 by omega), if_pos (show true = true from rfl), if_pos (show 0 ≤ (p : Int) by omega), if_pos (show (p : Int) < (l.length : Int) by omega)]
      exact hx true (by simp)
    | false =>
      rw [chancellaw03_RightsApart.l1, if_pos (show (p : Int) ≥ 0 by omega), if_neg (show ¬ false = true by decide), if_pos (show 0 ≤ (p : Int) by omega), if_pos (show (p : Int) < (l.length : Int) by omega)]
      refine hx _ ?_
      rw [Bool.false_or, Bool.eq_iff_iff]
      simp
      omega
theorem l0_all {l : List S29} (hr : right 8 l = true) (n : Nat) (hn : n < l.length) (x2 dBy dU : Int) (dW on : Bool) (r : List Int) (hG : Granted (whoOf l[n] dW) dU on r) :
    ∀ (m i k : Nat), m = l.length - i → i ≤ l.length → m * 40 < k → chancellaw03_RightsApart.l0 k l x2 (l.set n (withWho l[n] dW r)) (l.length : Int) (i : Int) dBy (n : Int) dU dW on = some true
  | 0, i, k + 1, hm, hi, hk => by rw [chancellaw03_RightsApart.l0, if_neg (by omega)]
  | m + 1, i, k + 1, hm, hi, hk => by
    have h12 := (right_at hr).2.1
    have hlt : i < l.length := by omega
    rw [chancellaw03_RightsApart.l0, if_pos (by omega)]
    refine l1_all hr _ x2 dBy dU n dW on _ _ i (m * 40 + 12) (fun k' hk' => ?_) (i + 1) i k false (by omega) hlt (by rw [Bool.false_or]) (by omega)
    refine l2_all l _ x2 dBy (n : Int) dU dW on _ _ _ i (fun u w hc => may_same hr n hn dU dW on r hG u w i hlt hc) (m * 40) (fun k2 hk2 => ?_) k' (by omega)
    rw [up i (by omega)]
    exact l0_all hr n hn x2 dBy dU dW on r hG m (i + 1) k2 (by omega) (by omega) hk2
theorem RightsApart : chancellaw03_RightsApart.Pure := by
  intro l a1 a2 a3 a4 a5 u hl _ _ _ _
  obtain ⟨B, hB, hs⟩ := bound l (fun x hx => ⟨(hl.2 x hx).2.2.1.1, (hl.2 x hx).2.2.2.1⟩)
  refine ⟨B + 1001, ?_⟩
  have hT : rights_Grant.f [(⟨(-1), 0, (([0] : List Int)), (([0] : List Int))⟩ : S29), (⟨0, 0, (([0, 2] : List Int)), (([0] : List Int))⟩ : S29)] 0 0 2 false true = some ([(⟨(-1), 0, (([0, 2] : List Int)), (([0] : List Int))⟩ : S29), (⟨0, 0, (([0, 2] : List Int)), (([0] : List Int))⟩ : S29)], 0) := by
    first | rfl | kernel_rfl
  have hM : rights_May.f [(⟨(-1), 0, (([0, 2] : List Int)), (([0] : List Int))⟩ : S29), (⟨0, 0, (([0, 2] : List Int)), (([0] : List Int))⟩ : S29)] 2 1 false = some true := by
    first | rfl | kernel_rfl
  unfold chancellaw03_RightsApart.f chancellaw03_two.f
  rw [Option.bind_some, hT, Option.bind_some, if_pos rfl, hM, Option.bind_some, chancellaw03_RightsApart.j0, if_neg (by decide), ref_right B hB 8 l hs _ (by omega), Option.bind_some]
  by_cases hr : right 8 l = true
  · rw [if_pos hr]
    have h12 := (right_at hr).2.1
    by_cases c1 : a2 < 0 ∨ (l.length : Int) ≤ a2 ∨ a3 < 0 ∨ 8 ≤ a3
    · rw [grant_no l a1 a2 a3 a4 a5 c1, Option.bind_some, if_neg (by decide)]
      rfl
    obtain ⟨n, rfl⟩ : ∃ n : Nat, a2 = (n : Int) := ⟨a2.toNat, by omega⟩
    have hn : n < l.length := by omega
    by_cases c5 : l[n].f1 = a1
    · obtain ⟨r, hG, hg⟩ := grant_f hr a1 n a3 a4 a5 hn (by omega) (by omega) c5
      rw [hg, Option.bind_some, if_pos rfl]
      have := l0_all hr n hn u a1 a3 a4 a5 r hG l.length 0 (B + 1000) (by omega) (by omega) (by omega)
      exact this
    · rw [grant_den l a1 n a3 a4 a5 hn (by omega) (by omega) c5, Option.bind_some, if_neg (by decide)]
      rfl
  · rw [if_neg hr]
end Go.Proofs.Ytgjlnjjgpddcnaa.Pure
