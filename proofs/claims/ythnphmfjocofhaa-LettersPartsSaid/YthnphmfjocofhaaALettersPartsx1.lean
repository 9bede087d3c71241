/- What the functions that the law LettersParts reaches compute, and the row of the law (printed by a program of this session). -/
import Derived.Test.YthnphmfjocofhaaALettersPartsx0
namespace Go.Proofs.Ythnphmfjocofhaa.ALettersParts
open Go.RowKit Go.Proofs.YthnphmfjocofhaaW.PrintWords Go.Proofs.YthnphmfjocofhaaW.PrintLast Go.Proofs.YthnphmfjocofhaaW.PrintMore
attribute [local go_sem] max2_int min2_int max_two min_two max_three min_three max_four min_four   -- for this text's walks alone
set_option linter.unusedVariables false
set_option linter.unusedSimpArgs false

/-! ### letters_Byte: function 11 -/
open Go.Proofs.Ythnphmfjocofhaa.Runes
def letters_Byte.f (s : ByteArray) (at_ : Int) : Option Int := if s.size ≤ 140737488355328 then some (skip s at_.toNat 0 : Nat) else none
/-- What a round knows: n letters are ahead of p. -/
def letters_Byte.Inv (s : ByteArray) (at_ : Nat) (r : Int) (d p n : Nat) : Prop := s.size ≤ 140737488355328 ∧ p ≤ s.size ∧ s.size - p < d ∧ n ≤ p ∧ n ≤ at_ ∧ (skip s (at_ - n) p : Int) = r
theorem letters_Byte.next {s : ByteArray} {at_ : Nat} {r : Int} {d p n : Nat} (h : letters_Byte.Inv s at_ r d p n) (hp : p < s.size) (hn : n ≠ at_) : ∃ d', d = d' + 1 ∧ letters_Byte.Inv s at_ r d' (p + wid s p) (n + 1) := by
  obtain ⟨h1, h2, h3, h4, h5, h6⟩ := h
  have w1 := wid_pos s p hp
  have w2 := wid_le s p hp
  refine ⟨d - 1, by omega, h1, w2, by omega, by omega, by omega, ?_⟩
  rw [← h6, show at_ - n = (at_ - (n + 1)) + 1 by omega, skip, if_pos hp]
set_option maxHeartbeats 4000000 in
set_option maxRecDepth 100000 in
theorem letters_Byte.calls (a0 : ByteArray) (a1 : Int) (r : Int) (w : World) (h : letters_Byte.f a0 a1 = some r) :
    Calls Try.prog 11 #[.string a0, .int .i64 a1] w fun e w' => e = .returned (.int .i64 r) ∧ Below w.heap.size w w' := by
  unfold letters_Byte.f at h
  split at h
  case isFalse => cases h
  case isTrue hs =>
    have h0 := Option.some.inj h
    clear h
    have HB := Aside0.mk (Below.refl w.heap.size w)
    by_cases c1 : a1 ≤ 0
    · have c1b : decide (a1 ≤ 0) = true := decide_eq_true c1
      obtain rfl : 0 = r := by rw [← h0, show a1.toNat = 0 by omega]; rfl
      clear h0 c1
      go_enter Try.func11, Try.ntmps11
      go_wp2
      go_ret
      exact ⟨rfl, HB.out⟩
    · obtain ⟨m, rfl⟩ := Int.eq_ofNat_of_zero_le (show 0 ≤ a1 by omega)
      have c1b : decide ((m : Int) ≤ 0) = false := decide_eq_false c1
      have c1c : decide (m ≤ 0) = false := decide_eq_false (by omega)
      have c1d : decide (m = 0) = false := decide_eq_false (by omega)
      have HI := Aside0.mk (show letters_Byte.Inv a0 m r (a0.size + 1) 0 0 from ⟨hs, by omega, by omega, by omega, by omega, by simpa using h0⟩)
      clear h0 c1 HB
      go_enter Try.func11, Try.ntmps11
      go_wp2
      go_loopg [5] (a0.size + 1) (fun dq v5 w' => ∃ p n : Nat, v5 = .int .i64 n ∧ w' = w.iter a0 p ∧ Aside0 (letters_Byte.Inv a0 m r dq p n))
      case atStart => exact ⟨0, 0, rfl, rfl, HI⟩
      case round =>
        clear HI
        obtain ⟨p, n, rfl, rfl, HI⟩ := hrel
        have hn1 : n ≤ p := HI.out.2.2.2.1
        have hp1 : p ≤ a0.size := HI.out.2.1
        by_cases hp : p < a0.size
        · have hnx : ∀ ty, (Instr.next (.pointer (some ⟨w.heap.size, 0, none⟩)) true ty).run Try.prog (w.iter a0 p) = _ := fun ty => run_next_any w a0 p ty hp
          by_cases hn : n = m
          · have HE := Aside0.mk (show (p : Int) = r by have := HI.out.2.2.2.2.2; rw [hn, Nat.sub_self] at this; exact this)
            have hnb : ((n : Int) == (m : Int)) = true := beq_iff_eq.mpr (by omega)
            have hnc : decide (n = m) = true := decide_eq_true hn
            clear hn HI
            go_wp2
            go_ret
            exact ⟨by rw [← HE.out]; rfl, iter_below _ _ _⟩
          · obtain ⟨d', hd', hI2⟩ := letters_Byte.next HI.out hp hn
            have HD := Aside0.mk hd'
            have HI2 := Aside0.mk hI2
            have hnb : ((n : Int) == (m : Int)) = false := beq_eq_false_iff_ne.mpr (by omega)
            have hnc : decide (n = m) = false := decide_eq_false hn
            clear hn HI hd' hI2
            go_wp2
            go_roundg d'
            case measure => have := HD.out; omega
            case rel => exact ⟨p + wid a0 p, n + 1, by go_num, rfl, HI2⟩
        · have hnx : ∀ ty, (Instr.next (.pointer (some ⟨w.heap.size, 0, none⟩)) true ty).run Try.prog (w.iter a0 p) = _ := fun ty => run_next_end w a0 p ty hp
          have HE := Aside0.mk (show (a0.size : Int) = r by have := HI.out.2.2.2.2.2; rw [skip_end _ _ _ hp, show p = a0.size by omega] at this; exact this)
          clear HI
          go_wp2
          go_ret
          exact ⟨by rw [← HE.out]; rfl, iter_below _ _ _⟩

/-! ### letters_Cut: function 13 -/
def letters_Cut.f (a0 : ByteArray) (a1 : Int) (a2 : Int) : Option (ByteArray) := (letters_Byte.f a0 a1).bind fun t101 => ((letters_Byte.f a0 a2).bind fun t102 => (if 0 ≤ t101 then (if t101 ≤ (mx t101 t102) then (if (mx t101 t102) ≤ (a0.size : Int) then (some (a0.extract (t101 : Int).toNat ((mx t101 t102) : Int).toNat)) else (none)) else (none)) else (none)))
set_option maxHeartbeats 8000000 in
set_option maxRecDepth 100000 in
theorem letters_Cut.calls (a0 : ByteArray) (a1 : Int) (a2 : Int) (r : ByteArray) (w : World) (h : letters_Cut.f a0 a1 a2 = some r) :
    Calls Try.prog 13 #[.string a0, .int .i64 a1, .int .i64 a2] w fun e w' => e = .returned (.string r) ∧ Below w.heap.size w w' := by
  have HB := Aside0.mk (Below.refl w.heap.size w)
  have H : ((letters_Byte.f a0 a1).bind fun t101 => ((letters_Byte.f a0 a2).bind fun t102 => (if 0 ≤ t101 then (if t101 ≤ (mx t101 t102) then (if (mx t101 t102) ≤ (a0.size : Int) then (some (a0.extract (t101 : Int).toNat ((mx t101 t102) : Int).toNat)) else (none)) else (none)) else (none)))) = some r := h
  clear h
  replace H := Option.bind_eq_some_iff.mp H
  obtain ⟨t101, A40, H⟩ := H
  replace H : ((letters_Byte.f a0 a2).bind fun t102 => (if 0 ≤ t101 then (if t101 ≤ (mx t101 t102) then (if (mx t101 t102) ≤ (a0.size : Int) then (some (a0.extract (t101 : Int).toNat ((mx t101 t102) : Int).toNat)) else (none)) else (none)) else (none))) = some r := H
  have A4 := Aside0.mk A40
  clear A40
  replace H := Option.bind_eq_some_iff.mp H
  obtain ⟨t102, A50, H⟩ := H
  replace H : (if 0 ≤ t101 then (if t101 ≤ (mx t101 t102) then (if (mx t101 t102) ≤ (a0.size : Int) then (some (a0.extract (t101 : Int).toNat ((mx t101 t102) : Int).toNat)) else (none)) else (none)) else (none)) = some r := H
  have A5 := Aside0.mk A50
  clear A50
  obtain ⟨ji6, hji6⟩ : ∃ j_ : Int, (mx t101 t102) = j_ := ⟨_, rfl⟩
  replace H : (if 0 ≤ t101 then (if t101 ≤ (ji6) then (if (ji6) ≤ (a0.size : Int) then (some (a0.extract (t101 : Int).toNat ((ji6) : Int).toNat)) else (none)) else (none)) else (none)) = some r := by first | (rw [hji6] at H; exact H) | (simp only [hji6] at H ⊢; exact H)
  (try rw [hji6] at A4)
  (try rw [hji6] at A5)
  have hji6_ : (if t101 < t102 then t102 else t101) = ji6 := hji6
  by_cases c7 : 0 ≤ t101
  · rw [if_pos c7] at H
    have c7b0 := eq_true c7
    have c7b1 : decide (0 ≤ t101) = true := decide_eq_true c7
    clear c7
    by_cases c8 : t101 ≤ (ji6)
    · rw [if_pos c8] at H
      have c8b0 := eq_true c8
      have c8b1 : decide (t101 ≤ (ji6)) = true := decide_eq_true c8
      clear c8
      by_cases c9 : (ji6) ≤ (a0.size : Int)
      · rw [if_pos c9] at H
        have c9b0 := eq_true c9
        have c9b1 : decide ((ji6) ≤ (a0.size : Int)) = true := decide_eq_true c9
        clear c9
        obtain rfl := Option.some.inj H
        go_enter Try.func13, Try.ntmps13
        go_wp2_with (first | ((with_reducible refine gate_callee (f := 11) rfl ?_); refine goesL_ (some 11) rfl rfl Try.func11 (by kernel_rfl) rfl #[.string a0, .int .i64 a1] rfl (by (try simp only [List.map_toArray, List.map_cons, List.map_nil]); first | done | rfl | (simp only [List.length_drop, List.length_take]; rfl)) ?_; (with_reducible refine (letters_Byte.calls a0 a1 t101 _ A4.out).mono ?_); rintro e w10 ⟨rfl, hb⟩; refine ⟨_, rfl, ?_⟩; have n0_ := Aside0.mk (below_step (by repeat (first | (with_reducible first | exact HB.out | apply below_alloc | apply pw_below_drewN | apply below_drew1) | exact HB.out)) hb); clear HB; have HB := n0_; clear n0_; (try clear hb); (try clear hb2); (try clear hk); (try clear hi)) | ((with_reducible refine gate_callee (f := 11) rfl ?_); refine goesL_ (some 14) rfl rfl Try.func11 (by kernel_rfl) rfl #[.string a0, .int .i64 a2] rfl (by (try simp only [List.map_toArray, List.map_cons, List.map_nil]); first | done | rfl | (simp only [List.length_drop, List.length_take]; rfl)) ?_; (with_reducible refine (letters_Byte.calls a0 a2 t102 _ A5.out).mono ?_); rintro e w11 ⟨rfl, hb⟩; refine ⟨_, rfl, ?_⟩; have n0_ := Aside0.mk (below_step (by repeat (first | (with_reducible first | exact HB.out | apply below_alloc | apply pw_below_drewN | apply below_drew1) | exact HB.out)) hb); clear HB; have HB := n0_; clear n0_; (try clear hb); (try clear hb2); (try clear hk); (try clear hi)))
        go_ret
        exact ⟨by first | rfl | (simp [errW_none, errW_some] <;> rfl) | (simp only [← hji6]; first | rfl | (simp [errW_none, errW_some] <;> rfl)) | (simp [*, errW_none, errW_some] <;> rfl), by repeat (first | (with_reducible first | exact HB.out | apply below_alloc | apply pw_below_drewN | apply below_drew1) | exact HB.out)⟩
      · rw [if_neg c9] at H
        exact absurd H (by simp)
    · rw [if_neg c8] at H
      exact absurd H (by simp)
  · rw [if_neg c7] at H
    exact absurd H (by simp)

-- NOT PRINTED: function 6 (chancellaw01_LettersParts)

end Go.Proofs.Ythnphmfjocofhaa.ALettersParts
