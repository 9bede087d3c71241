/- Two parts that meet, one behind the other, are the whole: the walk of the law LettersParts. -/
import Derived.Test.YthnphmfjocofhaaALettersPartsx
import Derived.Test.YthnphmfjocofhaaRunes
namespace Go.Proofs.Ythnphmfjocofhaa.ALettersParts
open Go.RowKit Go.Proofs.YthnphmfjocofhaaW.PrintWords Go.Proofs.YthnphmfjocofhaaW.PrintLast Go.Proofs.YthnphmfjocofhaaW.PrintMore
open Go.Proofs.Ythnphmfjocofhaa.Runes
attribute [local go_sem] max2_int min2_int max_two min_two max_three min_three max_four min_four
set_option linter.unusedVariables false
set_option linter.unusedSimpArgs false

theorem own_byte (s : ByteArray) (at_ : Int) (hs : s.size ≤ 140737488351232) : letters_Byte.f s at_ = some ((skip s at_.toNat 0 : Nat) : Int) := by
  unfold letters_Byte.f; rw [if_pos (by omega)]
theorem own_cut (s : ByteArray) (a b : Int) (hs : s.size ≤ 140737488351232) : letters_Cut.f s a b = some (s.extract (skip s a.toNat 0) (max (skip s a.toNat 0) (skip s b.toNat 0))) := by
  have h1 := skip_le s a.toNat 0 (by omega)
  have h2 := skip_le s b.toNat 0 (by omega)
  unfold letters_Cut.f
  rw [own_byte s a hs, own_byte s b hs]
  simp only [Option.bind_some]
  have hm : mx ((skip s a.toNat 0 : Nat) : Int) ((skip s b.toNat 0 : Nat) : Int) = ((max (skip s a.toNat 0) (skip s b.toNat 0) : Nat) : Int) := by unfold mx; split <;> omega
  rw [hm, if_pos (by omega), if_pos (by omega), if_pos (by omega), Int.toNat_natCast, Int.toNat_natCast]
theorem skip_mono (s : ByteArray) : ∀ (m n p : Nat), p ≤ s.size → m ≤ n → skip s m p ≤ skip s n p
  | 0, n, p, hp, _ => (skip_le s n p hp).1
  | m + 1, 0, p, _, h => by omega
  | m + 1, n + 1, p, hp, h => by
    unfold skip
    split
    · rename_i h1
      exact skip_mono s m n _ (wid_le s p h1) (by omega)
    · exact Nat.le_refl _
theorem skip_all (s : ByteArray) : ∀ (n p : Nat), p ≤ s.size → s.size - p ≤ n → skip s n p = s.size
  | 0, p, hp, h => by unfold skip; omega
  | n + 1, p, hp, h => by
    unfold skip
    split
    · rename_i h1
      have w1 := wid_pos s p h1
      exact skip_all s n _ (wid_le s p h1) (by omega)
    · omega
theorem extract_meet (s : ByteArray) (a b c : Nat) (h1 : a ≤ b) (h2 : b ≤ c) : s.extract a b ++ s.extract b c = s.extract a c := by
  apply ByteArray.ext
  simp only [ByteArray.data_append, ByteArray.data_extract]
  apply Array.toList_inj.1
  simp only [Array.toList_append, Array.toList_extract, List.extract_eq_take_drop]
  have : List.take (c - a) (List.drop a s.data.toList) = List.take (b - a) (List.drop a s.data.toList) ++ List.take (c - b) (List.drop (b - a) (List.drop a s.data.toList)) := by
    rw [show c - a = (b - a) + (c - b) by omega, List.take_add]
  rw [this, List.drop_drop, show a + (b - a) = b by omega]
set_option maxHeartbeats 4000000 in
set_option maxRecDepth 100000 in
theorem parts_walk (s : ByteArray) (a b c : Int) (hs : s.size ≤ 140737488351232) (w : World) :
    Calls Try.prog 6 #[.string s, .agg #[.int .i64 a, .int .i64 b, .int .i64 c]] w fun e w' => e = .returned (.bool true) ∧ Below w.heap.size w w' := by
  have HC0 := Aside0.mk (show letters_Cut.f (⟨#[97, 98, 99]⟩ : ByteArray) 0 1 = some (⟨#[97]⟩ : ByteArray) by
    rw [own_cut _ _ _ (by decide), show skip (⟨#[97, 98, 99]⟩ : ByteArray) (0 : Int).toNat 0 = 0 by decide, show skip (⟨#[97, 98, 99]⟩ : ByteArray) (1 : Int).toNat 0 = 1 by decide]
    rfl)
  go_enter Try.func6, Try.ntmps6
  go_wp2_with (first | (go_at_call 13; (with_reducible refine (letters_Cut.calls _ _ _ _ _ HC0.out).mono ?_); rintro e w' ⟨rfl, hb⟩))
  have h0 : w'.cell? ⟨w.heap.size, 0, none⟩ = some (.int .i64 a) := (hb.cell (p := ⟨w.heap.size, 0, none⟩) (by simp)).trans (by simp)
  have h1 : w'.cell? ⟨w.heap.size, 1, none⟩ = some (.int .i64 b) := (hb.cell (p := ⟨w.heap.size, 1, none⟩) (by simp)).trans (by simp)
  have h2 : w'.cell? ⟨w.heap.size, 2, none⟩ = some (.int .i64 c) := (hb.cell (p := ⟨w.heap.size, 2, none⟩) (by simp)).trans (by simp)
  have HB := Aside0.mk (show Below w.heap.size w w' from ((Below.refl _ _).alloc (Nat.le_refl _) _).trans (hb.mono (by simp)))
  clear hb HC0
  by_cases d1 : (s.size : Int) > 5000
  · have d1b : decide ((s.size : Int) > 5000) = true := decide_eq_true d1
    have d1c : decide (5000 < s.size) = true := decide_eq_true (by omega)
    clear d1
    go_quiet (fail)
    go_wp2
    go_ret
    exact ⟨rfl, by repeat (first | (with_reducible first | exact HB.out | apply below_alloc | apply pw_below_drewN | apply below_drew1) | exact HB.out)⟩
  · have d1b : decide ((s.size : Int) > 5000) = false := decide_eq_false d1
    have d1c : decide (5000 < s.size) = false := decide_eq_false (by omega)
    by_cases d2 : a > b
    · have d2b : decide (a > b) = true := decide_eq_true d2
      clear d1 d2
      go_quiet (fail)
      go_wp2
      go_ret
      exact ⟨rfl, by repeat (first | (with_reducible first | exact HB.out | apply below_alloc | apply pw_below_drewN | apply below_drew1) | exact HB.out)⟩
    · have d2b : decide (a > b) = false := decide_eq_false d2
      by_cases d3 : b > c
      · have d3b : decide (b > c) = true := decide_eq_true d3
        clear d1 d2 d3
        go_quiet (fail)
        go_wp2
        go_ret
        exact ⟨rfl, by repeat (first | (with_reducible first | exact HB.out | apply below_alloc | apply pw_below_drewN | apply below_drew1) | exact HB.out)⟩
      · have d3b : decide (b > c) = false := decide_eq_false d3
        obtain ⟨r1, hr1⟩ : ∃ r, r = s.extract (skip s a.toNat 0) (max (skip s a.toNat 0) (skip s b.toNat 0)) := ⟨_, rfl⟩
        obtain ⟨r2, hr2⟩ : ∃ r, r = s.extract (skip s b.toNat 0) (max (skip s b.toNat 0) (skip s c.toNat 0)) := ⟨_, rfl⟩
        obtain ⟨r3, hr3⟩ : ∃ r, r = s.extract (skip s a.toNat 0) (max (skip s a.toNat 0) (skip s c.toNat 0)) := ⟨_, rfl⟩
        obtain ⟨r4, hr4⟩ : ∃ r, r = s.extract (skip s (0 : Int).toNat 0) (max (skip s (0 : Int).toNat 0) (skip s b.toNat 0)) := ⟨_, rfl⟩
        obtain ⟨r5, hr5⟩ : ∃ r, r = s.extract (skip s b.toNat 0) (max (skip s b.toNat 0) (skip s (s.size : Int).toNat 0)) := ⟨_, rfl⟩
        have C1 := Aside0.mk ((own_cut s a b hs).trans (congrArg some hr1.symm))
        have C2 := Aside0.mk ((own_cut s b c hs).trans (congrArg some hr2.symm))
        have C3 := Aside0.mk ((own_cut s a c hs).trans (congrArg some hr3.symm))
        have C4 := Aside0.mk ((own_cut s 0 b hs).trans (congrArg some hr4.symm))
        have C5 := Aside0.mk ((own_cut s b (s.size : Int) hs).trans (congrArg some hr5.symm))
        have m1 := skip_mono s a.toNat b.toNat 0 (by omega) (by omega)
        have m2 := skip_mono s b.toNat c.toNat 0 (by omega) (by omega)
        have m3 := skip_le s b.toNat 0 (by omega)
        have m4 := skip_all s (s.size : Int).toNat 0 (by omega) (by omega)
        have m5 : skip s (0 : Int).toNat 0 = 0 := rfl
        have m6 := skip_le s c.toNat 0 (by omega)
        have E1 : (r1 ++ r2).toList = r3.toList := by
          rw [hr1, hr2, hr3, Nat.max_eq_right m1, Nat.max_eq_right m2, Nat.max_eq_right (by omega), extract_meet s _ _ _ m1 m2]
        have E2 : (r4 ++ r5).toList = s.toList := by
          rw [hr4, hr5, m4, m5, Nat.max_eq_right (by omega), Nat.max_eq_right (by omega), extract_meet s _ _ _ (by omega) (by omega)]
          simp
        have E1b : ((r1 ++ r2).toList == r3.toList) = true := beq_iff_eq.mpr E1
        have E2b : ((r4 ++ r5).toList == s.toList) = true := beq_iff_eq.mpr E2
        have S1 : r1.size + r2.size ≤ 9223372036854775807 := by rw [hr1, hr2]; simp; omega
        have S2 : r4.size + r5.size ≤ 9223372036854775807 := by rw [hr4, hr5]; simp; omega
        have S1b := eq_true S1
        have S2b := eq_true S2
        have S1c : (9223372036854775807 < r1.size + r2.size) = False := eq_false (Nat.not_lt.2 S1)
        have S2c : (9223372036854775807 < r4.size + r5.size) = False := eq_false (Nat.not_lt.2 S2)
        clear d1 d2 d3 hr1 hr2 hr3 hr4 hr5 m1 m2 m3 m4 m5 m6 E1 E2
        go_quiet (fail)
        go_wp2_with (first | (go_at_call 13; (with_reducible refine (letters_Cut.calls _ _ _ _ _ C1.out).mono ?_); rintro e w1 ⟨rfl, hb⟩; have n0_ := Aside0.mk (below_step (by repeat (first | (with_reducible first | exact HB.out | apply below_alloc | apply pw_below_drewN | apply below_drew1) | exact HB.out)) hb); clear HB hb; have HB := n0_; clear n0_) | (go_at_call 13; (with_reducible refine (letters_Cut.calls _ _ _ _ _ C2.out).mono ?_); rintro e w1 ⟨rfl, hb⟩; have n0_ := Aside0.mk (below_step (by repeat (first | (with_reducible first | exact HB.out | apply below_alloc | apply pw_below_drewN | apply below_drew1) | exact HB.out)) hb); clear HB hb; have HB := n0_; clear n0_) | (go_at_call 13; (with_reducible refine (letters_Cut.calls _ _ _ _ _ C3.out).mono ?_); rintro e w1 ⟨rfl, hb⟩; have n0_ := Aside0.mk (below_step (by repeat (first | (with_reducible first | exact HB.out | apply below_alloc | apply pw_below_drewN | apply below_drew1) | exact HB.out)) hb); clear HB hb; have HB := n0_; clear n0_) | (go_at_call 13; (with_reducible refine (letters_Cut.calls _ _ _ _ _ C4.out).mono ?_); rintro e w1 ⟨rfl, hb⟩; have n0_ := Aside0.mk (below_step (by repeat (first | (with_reducible first | exact HB.out | apply below_alloc | apply pw_below_drewN | apply below_drew1) | exact HB.out)) hb); clear HB hb; have HB := n0_; clear n0_) | (go_at_call 13; (with_reducible refine (letters_Cut.calls _ _ _ _ _ C5.out).mono ?_); rintro e w1 ⟨rfl, hb⟩; have n0_ := Aside0.mk (below_step (by repeat (first | (with_reducible first | exact HB.out | apply below_alloc | apply pw_below_drewN | apply below_drew1) | exact HB.out)) hb); clear HB hb; have HB := n0_; clear n0_))
        go_ret
        exact ⟨rfl, by repeat (first | (with_reducible first | exact HB.out | apply below_alloc | apply pw_below_drewN | apply below_drew1) | exact HB.out)⟩

end Go.Proofs.Ythnphmfjocofhaa.ALettersParts
