/- A text with another one at a place is the document's, whatever the number; of right texts that one is cut there again, and the rest is as it was: for every two texts and every number; no condition. -/
import Derived.Test.YthnphmfjocofhaaChunks
namespace Go.Proofs.Ythnphmfjocofhaa.Pure
open Go.RowKit Go.Proofs.Ythnphmfjocofhaa.ALettersPut Go.Proofs.YthnphmfjocofhaaW.PrintWords Go.Proofs.YthnphmfjocofhaaW.PrintLast Go.Proofs.Ythnphmfjocofhaa.Runes Go.Proofs.Ythnphmfjocofhaa.RefLettersPut

theorem chunk_step {a : List UInt8} (ha : Letter a) (s : ByteArray) (p : Nat) (x : List UInt8) (h : (L s).drop p = a ++ x) : p < s.size ∧ wid s p = a.length ∧ (L s).drop (p + a.length) = x := by
  have hl := L_size s
  have hp : p < s.size := by
    rcases Nat.lt_or_ge p s.size with h1 | h1
    · exact h1
    · rw [List.drop_eq_nil_of_le (by omega)] at h
      have := ha.1
      cases a with
      | nil => exact absurd rfl this
      | cons _ _ => cases h
  refine ⟨hp, ?_, ?_⟩
  · unfold wid
    rw [decode_L s p hp, h]
    exact ha.2 x
  · rw [← List.drop_drop, h, List.drop_left]
theorem skip_chunks (s : ByteArray) : ∀ (j : Nat) (C : List (List UInt8)) (p : Nat), (∀ a ∈ C, Letter a) → (L s).drop p = C.flatten → skip s j p = p + ((C.take j).flatten).length
  | 0, C, p, _, _ => by simp [skip]
  | j + 1, [], p, _, h => by
    have hp : ¬ p < s.size := by
      have hl := L_size s
      intro h1
      have : ((L s).drop p).length = 0 := by rw [h]; rfl
      simp at this; omega
    rw [skip_end s _ p hp]; simp
  | j + 1, a :: C, p, hC, h => by
    obtain ⟨h1, h2, h3⟩ := chunk_step (hC a List.mem_cons_self) s p C.flatten (by rw [h]; simp)
    rw [skip, if_pos h1, h2, skip_chunks s j C _ (fun b hb => hC b (List.mem_cons_of_mem _ hb)) h3]
    simp; omega
theorem rs_chunks (s : ByteArray) : ∀ (C : List (List UInt8)) (p : Nat), (∀ a ∈ C, Letter a) → (L s).drop p = C.flatten → (rs s p).length = C.length
  | [], p, _, h => by
    have hp : ¬ p < s.size := by
      have hl := L_size s
      intro h1
      have : ((L s).drop p).length = 0 := by rw [h]; rfl
      simp at this; omega
    rw [rs_end s p hp]; rfl
  | a :: C, p, hC, h => by
    obtain ⟨h1, h2, h3⟩ := chunk_step (hC a List.mem_cons_self) s p C.flatten (by rw [h]; simp)
    rw [rs_step s p h1, h2, List.length_cons, rs_chunks s C _ (fun b hb => hC b (List.mem_cons_of_mem _ hb)) h3]; simp
/-- A right text is a list of letters. -/
theorem right_loop (s : ByteArray) : ∀ (d k b : Nat), s.size - b ≤ d → d + 14 < k → b ≤ s.size →
    ∃ r, chancelref01_Right.l0 k (s.extract b s.size) = some r ∧ (r = true → ∃ C : List (List UInt8), (∀ a ∈ C, Letter a) ∧ (L s).drop b = C.flatten) := by
  intro d
  induction d with
  | zero =>
    intro k b hd hk hb
    obtain ⟨k, rfl⟩ : ∃ m, k = m + 1 := ⟨k - 1, by omega⟩
    simp only [chancelref01_Right.l0]
    refine ⟨true, by rw [if_pos (empty_size.2 (by simp; omega))], fun _ => ⟨[], fun a ha => (by cases ha), ?_⟩⟩
    rw [List.drop_eq_nil_of_le (by rw [L_size]; omega)]; rfl
  | succ d ih =>
    intro k b hd hk hb
    obtain ⟨k, rfl⟩ : ∃ m, k = m + 1 := ⟨k - 1, by omega⟩
    simp only [chancelref01_Right.l0]
    by_cases h2 : b < s.size
    · have w1 := wid_pos s b h2
      have w2 := wid_le s b h2
      have hz : (s.extract b s.size).size = s.size - b := by simp
      rw [if_neg (fun e => by have := empty_size.1 e; omega), size_tells _ (by omega) k (by omega), wid_extract s b hb, rune_extract s b hb]
      simp only [Option.bind_some]
      have next : ¬ (wid s b = 1 ∧ rune s b = 65533) → ∃ r, chancelref01_Right.l0 k ((s.extract b s.size).extract ((wid s b : Nat) : Int).toNat (s.extract b s.size).size) = some r ∧ (r = true → ∃ C : List (List UInt8), (∀ a ∈ C, Letter a) ∧ (L s).drop b = C.flatten) := by
        intro hg
        rw [Int.toNat_natCast, extract_extract s b _ hb]
        obtain ⟨r, h3, h4⟩ := ih k (b + wid s b) (by omega) (by omega) w2
        refine ⟨r, h3, fun hr => ?_⟩
        obtain ⟨C, c1, c2⟩ := h4 hr
        refine ⟨((L s).drop b).take (wid s b) :: C, fun a ha => ?_, ?_⟩
        · rcases List.mem_cons.1 ha with rfl | ha
          · exact letter_at s b h2 hg
          · exact c1 a ha
        · rw [List.flatten_cons, ← c2, ← List.drop_drop, List.take_append_drop]
      by_cases hw : (wid s b : Int) = 1
      · rw [if_pos hw]
        by_cases hr : (rune s b : Int) = 65533
        · rw [if_pos hr]
          exact ⟨false, rfl, fun h => by cases h⟩
        · rw [if_neg hr, if_pos (by omega), if_pos (by omega)]
          exact next (fun h => hr (by omega))
      · rw [if_neg hw, if_pos (by omega), if_pos (by omega)]
        exact next (fun h => hw (by omega))
    · refine ⟨true, by rw [if_pos (empty_size.2 (by simp; omega))], fun _ => ⟨[], fun a ha => (by cases ha), ?_⟩⟩
      rw [List.drop_eq_nil_of_le (by rw [L_size]; omega)]; rfl
theorem right_tells (s : ByteArray) (k : Nat) (hk : s.size + 14 < k) : ∃ r, chancelref01_Right.f k s = some r ∧ (r = true → ∃ C : List (List UInt8), (∀ a ∈ C, Letter a) ∧ L s = C.flatten) := by
  obtain ⟨r, h1, h2⟩ := right_loop s s.size k 0 (by omega) hk (by omega)
  rw [extract_all] at h1
  exact ⟨r, h1, by simpa using h2⟩
theorem own_cut (s : ByteArray) (a b : Int) (hs : s.size ≤ 140737488351232) : letters_Cut.f s a b = some (s.extract (skip s a.toNat 0) (max (skip s a.toNat 0) (skip s b.toNat 0))) := by
  have h1 := skip_le s a.toNat 0 (by omega)
  have h2 := skip_le s b.toNat 0 (by omega)
  unfold letters_Cut.f
  rw [own_byte s a hs, own_byte s b hs]
  simp only [Option.bind_some]
  have hm : mx ((skip s a.toNat 0 : Nat) : Int) ((skip s b.toNat 0 : Nat) : Int) = ((max (skip s a.toNat 0) (skip s b.toNat 0) : Nat) : Int) := by unfold mx; split <;> omega
  rw [hm, if_pos (by omega), if_pos (by omega), if_pos (by omega), Int.toNat_natCast, Int.toNat_natCast]
/-- s with t behind its first p bytes. -/
def putAt (s t : ByteArray) (p : Nat) : ByteArray := (s.extract 0 p ++ t) ++ s.extract p s.size
theorem put_size (s t : ByteArray) (p : Nat) (hp : p ≤ s.size) : (putAt s t p).size = s.size + t.size := by
  unfold putAt; simp; omega
theorem own_put (s t : ByteArray) (at_ : Int) (hs : s.size ≤ 140737488351232) (ht : t.size ≤ 140737488351232) : letters_Put.f s at_ t = some (putAt s t (skip s at_.toNat 0)) := by
  have h1 := skip_le s at_.toNat 0 (by omega)
  unfold letters_Put.f
  rw [own_byte s at_ hs]
  simp only [Option.bind_some]
  rw [if_pos (by omega), if_pos (by omega), Int.toNat_natCast, if_pos (by simp; omega), if_pos (by simp; omega)]
  rfl
theorem ref_put (s t : ByteArray) (at_ : Int) (hs : s.size ≤ 140737488351232) (ht : t.size ≤ 140737488351232) (k : Nat) (hk : s.size + 14 < k) : chancelref01_Put.f k s at_ t = some (putAt s t (skip s at_.toNat 0)) := by
  have h1 := skip_le s at_.toNat 0 (by omega)
  unfold chancelref01_Put.f
  rw [byte_tells s at_ hs k hk]
  simp only [Option.bind_some]
  rw [if_pos (by omega), if_pos (by omega), Int.toNat_natCast, if_pos (by simp; omega), if_pos (by simp; omega)]
  rfl
theorem ref_count (s : ByteArray) (hs : s.size ≤ 17592186044416) (k : Nat) (hk : s.size + 14 < k) : chancelref01_Count.f k s = some ((rs s 0).length : Int) := by
  unfold chancelref01_Count.f
  rw [letters_tells s hs k hk]; rfl
/-- Right texts: what was put is cut there again. -/
theorem put_back (s t : ByteArray) (at_ : Int) (hs : s.size ≤ 5000) (ht : t.size ≤ 5000) (S T : List (List UInt8)) (hS : ∀ a ∈ S, Letter a) (hT : ∀ a ∈ T, Letter a) (eS : L s = S.flatten) (eT : L t = T.flatten) (k : Nat) (hk : 5100 ≤ k) :
    chancellaw01_LettersPut.j1 (k + 1) s at_ t (putAt s t (skip s at_.toNat 0)) false = some true := by
  have nS : (rs s 0).length = S.length := rs_chunks s S 0 hS (by simpa using eS)
  have nT : (rs t 0).length = T.length := rs_chunks t T 0 hT (by simpa using eT)
  have lS : S.length ≤ 5000 := by rw [← nS]; have := rs_len s 0; omega
  have lT : T.length ≤ 5000 := by rw [← nT]; have := rs_len t 0; omega
  generalize hJ : at_.toNat = J
  have hA : skip s J 0 = ((S.take J).flatten).length := by
    have := skip_chunks s J S 0 hS (by simpa using eS)
    omega
  have hAle := skip_le s J 0 (by omega)
  have hLs : L s = (S.take J).flatten ++ (S.drop J).flatten := by rw [eS, ← List.flatten_append, List.take_append_drop]
  have e1 : L (s.extract 0 (skip s J 0)) = (S.take J).flatten := by rw [L_extract, hA, hLs, List.drop_zero, List.take_left]
  have e2 : L (s.extract (skip s J 0) s.size) = (S.drop J).flatten := by rw [L_extract, ← L_size s, List.take_length, hA, hLs, List.drop_left]
  have hu : L (putAt s t (skip s J 0)) = (S.take J ++ T ++ S.drop J).flatten := by
    unfold putAt
    rw [L_append, L_append, e1, e2, eT]; simp
  have hC : ∀ a ∈ S.take J ++ T ++ S.drop J, Letter a := by
    intro a ha
    rcases List.mem_append.1 ha with ha | ha
    · rcases List.mem_append.1 ha with ha | ha
      · exact hS a (List.mem_of_mem_take ha)
      · exact hT a ha
    · exact hS a (List.mem_of_mem_drop ha)
  have hus := put_size s t (skip s J 0) hAle.2
  generalize hU : putAt s t (skip s J 0) = u at *
  have sk : ∀ j, skip u j 0 = (((S.take J ++ T ++ S.drop J).take j).flatten).length := by
    intro j
    have := skip_chunks u j _ 0 hC (by simpa using hu)
    omega
  have lK : (S.take J).length = min J S.length := by simp
  have t1 : (S.take J ++ T ++ S.drop J).take (min J S.length) = S.take J := by
    rw [List.append_assoc, ← lK, List.take_left]
  have t2 : (S.take J ++ T ++ S.drop J).take (min J S.length + T.length) = S.take J ++ T := by
    have : min J S.length + T.length = (S.take J ++ T).length := by simp
    rw [this, List.take_left]
  have t3 : (S.take J ++ T ++ S.drop J).take (S.length + T.length) = S.take J ++ T ++ S.drop J := by
    apply List.take_of_length_le
    simp; omega
  have t0 : (S.take J ++ T ++ S.drop J).take 0 = [] := rfl
  have hmid : ∀ a b c : List (List UInt8), ∀ n m : Nat, n = a.flatten.length → m = (a ++ b).flatten.length → (((a ++ b ++ c).flatten).take (max n m)).drop n = b.flatten := by
    intro a b c n m hn hm
    have : max n m = (a.flatten ++ b.flatten).length := by rw [hn, hm]; simp
    rw [this, List.flatten_append, List.flatten_append, List.take_left, hn, List.drop_left]
  have hk1 : mn (mx at_ 0) (S.length : Int) = ((min J S.length : Nat) : Int) := by unfold mn mx; split <;> split <;> omega
  simp only [chancellaw01_LettersPut.j1, Bool.false_eq_true, if_false]
  rw [ref_count s (by omega) k (by omega), ref_count t (by omega) k (by omega), nS, nT]
  simp only [Option.bind_some]
  rw [hk1, show wrap64 (((min J S.length : Nat) : Int) + (T.length : Int)) = ((min J S.length + T.length : Nat) : Int) by unfold wrap64; omega,
    show wrap64 ((S.length : Int) + (T.length : Int)) = ((S.length + T.length : Nat) : Int) by unfold wrap64; omega]
  rw [own_cut u _ _ (by omega), Int.toNat_natCast, Int.toNat_natCast]
  simp only [Option.bind_some]
  have c1 : L (u.extract (skip u (min J S.length) 0) (max (skip u (min J S.length) 0) (skip u (min J S.length + T.length) 0))) = L t := by
    rw [L_extract, sk, sk, t1, t2, hu, eT]
    exact hmid (S.take J) T (S.drop J) _ _ rfl rfl
  rw [L_toList, L_toList, if_pos c1, own_cut u _ _ (by omega), own_cut u _ _ (by omega), Int.toNat_natCast, Int.toNat_natCast, Int.toNat_natCast, Int.toNat_zero]
  simp only [Option.bind_some]
  have c2 : L (u.extract (skip u 0 0) (max (skip u 0 0) (skip u (min J S.length) 0))) = (S.take J).flatten := by
    rw [L_extract, sk, sk, t0, t1, hu]
    simp
  have c3 : L (u.extract (skip u (min J S.length + T.length) 0) (max (skip u (min J S.length + T.length) 0) (skip u (S.length + T.length) 0))) = (S.drop J).flatten := by
    rw [L_extract, sk, sk, t2, t3, hu]
    have := hmid (S.take J ++ T) (S.drop J) [] _ _ rfl rfl
    simpa using this
  have hsz : ∀ a b : Nat, (u.extract a b).size ≤ 10000 := fun a b => by simp; omega
  rw [if_pos (by have h1 := hsz (skip u 0 0) (max (skip u 0 0) (skip u (min J S.length) 0)); have h2 := hsz (skip u (min J S.length + T.length) 0) (max (skip u (min J S.length + T.length) 0) (skip u (S.length + T.length) 0)); omega),
    L_toList, L_toList, L_append, c2, c3, if_pos hLs.symm]
  have hcount : letters_Count.f u = some ((S.length + T.length : Nat) : Int) := by
    unfold letters_Count.f
    rw [if_pos (by omega), rs_chunks u _ 0 hC (by simpa using hu)]
    congr 2
    simp; omega
  rw [hcount]
  simp
theorem LettersPut : chancellaw01_LettersPut.Pure := by
  intro s at_ t hs ha ht
  refine ⟨s.size + t.size + 6000, ?_⟩
  unfold chancellaw01_LettersPut.f
  have e1 : skip (⟨#[97, 226, 130, 172]⟩ : ByteArray) (1 : Int).toNat 0 = 1 := by decide
  rw [own_put _ _ _ (by decide) (by decide), e1]
  simp only [Option.bind_some]
  rw [if_pos (by rw [L_toList, putAt, L_append, L_append, L_extract, L_extract]; rfl)]
  obtain ⟨k, hk⟩ : ∃ m, s.size + t.size + 6000 = m + 2 := ⟨s.size + t.size + 5998, by omega⟩
  rw [hk]
  by_cases h1 : (s.size : Int) > 5000
  · rw [if_pos h1]
    simp [chancellaw01_LettersPut.j0]
  · rw [if_neg h1]
    by_cases h2 : (t.size : Int) > 5000
    · simp [chancellaw01_LettersPut.j0, h2]
    · have hd : decide ((t.size : Int) > 5000) = false := decide_eq_false h2
      rw [hd]
      simp only [chancellaw01_LettersPut.j0, Bool.false_eq_true, if_false]
      rw [own_put s t at_ (by omega) (by omega), ref_put s t at_ (by omega) (by omega) (k + 1) (by omega)]
      simp only [Option.bind_some, if_true]
      obtain ⟨r1, hr1, hC1⟩ := right_tells s (k + 1) (by omega)
      obtain ⟨r2, hr2, hC2⟩ := right_tells t (k + 1) (by omega)
      rw [hr1]
      simp only [Option.bind_some]
      cases r1 with
      | false => simp [chancellaw01_LettersPut.j1]
      | true =>
        rw [if_pos rfl, hr2]
        simp only [Option.bind_some]
        cases r2 with
        | false => simp [chancellaw01_LettersPut.j1]
        | true =>
          obtain ⟨S, hS, eS⟩ := hC1 rfl
          obtain ⟨T, hT, eT⟩ := hC2 rfl
          exact put_back s t at_ (by omega) (by omega) S T hS hT eS eT k (by omega)

end Go.Proofs.Ythnphmfjocofhaa.Pure
