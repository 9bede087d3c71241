/- What the functions that the law LettersCut reaches compute, and the row of the law (printed by a program of this session). -/
import Derived.Test.YthnphmfjocofhaaALettersCutx0
import Derived.Test.YthnphmfjocofhaaALettersCutx1
namespace Go.Proofs.Ythnphmfjocofhaa.ALettersCut
open Go.RowKit Go.Proofs.YthnphmfjocofhaaW.PrintWords Go.Proofs.YthnphmfjocofhaaW.PrintLast Go.Proofs.YthnphmfjocofhaaW.PrintMore
attribute [local go_sem] max2_int min2_int max_two min_two max_three min_three max_four min_four   -- for this text's walks alone
set_option linter.unusedVariables false
set_option linter.unusedSimpArgs false

/-! ### chancellaw01_LettersCut: function 5 -/
def chancellaw01_LettersCut.f (k : Nat) (a0 : ByteArray) (a1 : Int) (a2 : Int) : Option (Bool) := (letters_Cut.f (⟨#[97, 195, 164, 226, 130, 172]⟩ : ByteArray) 1 9).bind fun t107 => (if t107.toList = ([195, 164, 226, 130, 172] : List UInt8) then (if (a0.size : Int) > 5000 then (some true) else ((letters_Cut.f a0 a1 a2).bind fun t108 => ((chancelref01_Cut.f k a0 a1 a2).bind fun t109 => (some (t108.toList == t109.toList))))) else (some false))
theorem chancellaw01_LettersCut.mono : ∀ a0 a1 a2 k, LeO (chancellaw01_LettersCut.f k a0 a1 a2) (chancellaw01_LettersCut.f (k + 1) a0 a1 a2) := by
  intro a0 a1 a2 k
  unfold chancellaw01_LettersCut.f
  repeat' first
      | (with_reducible exact chancelref01_Cut.mono _ _ _ _)
      | (with_reducible exact LeO.refl _)
      | (with_reducible exact LeO.none _)
      | (with_reducible refine LeO.ite ?_ ?_)
      | (with_reducible refine LeO.bind ?_ (fun _ => ?_))
      | exact chancelref01_Cut.mono _ _ _ _
      | exact LeO.none _
      | refine LeO.ite ?_ ?_
      | refine LeO.bind ?_ (fun _ => ?_)
set_option maxHeartbeats 8000000 in
set_option maxRecDepth 100000 in
theorem chancellaw01_LettersCut.calls (k : Nat) (a0 : ByteArray) (a1 : Int) (a2 : Int) (r : Bool) (w : World) (h : chancellaw01_LettersCut.f k a0 a1 a2 = some r) :
    Calls Try.prog 5 #[.string a0, .int .i64 a1, .int .i64 a2] w fun e w' => e = .returned (.bool r) ∧ Below w.heap.size w w' := by
  have HB := Aside0.mk (Below.refl w.heap.size w)
  have H : ((letters_Cut.f (⟨#[97, 195, 164, 226, 130, 172]⟩ : ByteArray) 1 9).bind fun t107 => (if t107.toList = ([195, 164, 226, 130, 172] : List UInt8) then (if (a0.size : Int) > 5000 then (some true) else ((letters_Cut.f a0 a1 a2).bind fun t108 => ((chancelref01_Cut.f k a0 a1 a2).bind fun t109 => (some (t108.toList == t109.toList))))) else (some false))) = some r := h
  clear h
  replace H := Option.bind_eq_some_iff.mp H
  obtain ⟨t107, A40, H⟩ := H
  replace H : (if t107.toList = ([195, 164, 226, 130, 172] : List UInt8) then (if (a0.size : Int) > 5000 then (some true) else ((letters_Cut.f a0 a1 a2).bind fun t108 => ((chancelref01_Cut.f k a0 a1 a2).bind fun t109 => (some (t108.toList == t109.toList))))) else (some false)) = some r := H
  have A4 := Aside0.mk A40
  clear A40
  by_cases c5 : t107.toList = ([195, 164, 226, 130, 172] : List UInt8)
  · rw [if_pos c5] at H
    have c5b0 : (t107.toList == ([195, 164, 226, 130, 172] : List UInt8)) = true := beq_iff_eq.mpr c5
    have c5b1 : (t107.toList != ([195, 164, 226, 130, 172] : List UInt8)) = false := bne_eq_false_iff_eq.mpr c5
    clear c5
    by_cases c6 : (a0.size : Int) > 5000
    · rw [if_pos c6] at H
      have c6b0 : decide (5000 < (a0.size : Int)) = true := decide_eq_true c6
      have c6b1 : decide (5000 < a0.size) = true := decide_eq_true (by omega)
      clear c6
      obtain rfl := Option.some.inj H
      go_enter Try.func5, Try.ntmps5
      go_wp2_with (first | ((with_reducible refine gate_callee (f := 13) rfl ?_); refine goesL_ (some 7) rfl rfl Try.func13 (by kernel_rfl) rfl #[.string (⟨#[97, 195, 164, 226, 130, 172]⟩ : ByteArray), .int .i64 1, .int .i64 9] rfl (by (try simp only [List.map_toArray, List.map_cons, List.map_nil]); first | done | rfl | (simp only [List.length_drop, List.length_take]; rfl)) ?_; (with_reducible refine (letters_Cut.calls (⟨#[97, 195, 164, 226, 130, 172]⟩ : ByteArray) 1 9 t107 _ A4.out).mono ?_); rintro e w7 ⟨rfl, hb⟩; refine ⟨_, rfl, ?_⟩; have n0_ := Aside0.mk (below_step (by repeat (first | (with_reducible first | exact HB.out | apply below_alloc | apply pw_below_drewN | apply below_drew1) | exact HB.out)) hb); clear HB; have HB := n0_; clear n0_; (try clear hb); (try clear hb2); (try clear hk); (try clear hi)))
      go_ret
      exact ⟨by first | rfl | (simp [errW_none, errW_some] <;> rfl) | (simp [*, errW_none, errW_some] <;> rfl), by repeat (first | (with_reducible first | exact HB.out | apply below_alloc | apply pw_below_drewN | apply below_drew1) | exact HB.out)⟩
    · rw [if_neg c6] at H
      have c6b0 : decide (5000 < (a0.size : Int)) = false := decide_eq_false c6
      have c6b1 : decide (5000 < a0.size) = false := decide_eq_false (by omega)
      clear c6
      replace H := Option.bind_eq_some_iff.mp H
      obtain ⟨t108, A80, H⟩ := H
      replace H : ((chancelref01_Cut.f k a0 a1 a2).bind fun t109 => (some (t108.toList == t109.toList))) = some r := H
      have A8 := Aside0.mk A80
      clear A80
      replace H := Option.bind_eq_some_iff.mp H
      obtain ⟨t109, A90, H⟩ := H
      replace H : (some (t108.toList == t109.toList)) = some r := H
      have A9 := Aside0.mk A90
      clear A90
      obtain rfl := Option.some.inj H
      go_enter Try.func5, Try.ntmps5
      go_wp2_with (first | ((with_reducible refine gate_callee (f := 13) rfl ?_); refine goesL_ (some 7) rfl rfl Try.func13 (by kernel_rfl) rfl #[.string (⟨#[97, 195, 164, 226, 130, 172]⟩ : ByteArray), .int .i64 1, .int .i64 9] rfl (by (try simp only [List.map_toArray, List.map_cons, List.map_nil]); first | done | rfl | (simp only [List.length_drop, List.length_take]; rfl)) ?_; (with_reducible refine (letters_Cut.calls (⟨#[97, 195, 164, 226, 130, 172]⟩ : ByteArray) 1 9 t107 _ A4.out).mono ?_); rintro e w10 ⟨rfl, hb⟩; refine ⟨_, rfl, ?_⟩; have n0_ := Aside0.mk (below_step (by repeat (first | (with_reducible first | exact HB.out | apply below_alloc | apply pw_below_drewN | apply below_drew1) | exact HB.out)) hb); clear HB; have HB := n0_; clear n0_; (try clear hb); (try clear hb2); (try clear hk); (try clear hi)) | ((with_reducible refine gate_callee (f := 13) rfl ?_); refine goesL_ (some 15) rfl rfl Try.func13 (by kernel_rfl) rfl #[.string a0, .int .i64 a1, .int .i64 a2] rfl (by (try simp only [List.map_toArray, List.map_cons, List.map_nil]); first | done | rfl | (simp only [List.length_drop, List.length_take]; rfl)) ?_; (with_reducible refine (letters_Cut.calls a0 a1 a2 t108 _ A8.out).mono ?_); rintro e w11 ⟨rfl, hb⟩; refine ⟨_, rfl, ?_⟩; have n0_ := Aside0.mk (below_step (by repeat (first | (with_reducible first | exact HB.out | apply below_alloc | apply pw_below_drewN | apply below_drew1) | exact HB.out)) hb); clear HB; have HB := n0_; clear n0_; (try clear hb); (try clear hb2); (try clear hk); (try clear hi)) | ((with_reducible refine gate_callee (f := 14) rfl ?_); refine goesL_ (some 19) rfl rfl Try.func14 (by kernel_rfl) rfl #[.string a0, .int .i64 a1, .int .i64 a2] rfl (by (try simp only [List.map_toArray, List.map_cons, List.map_nil]); first | done | rfl | (simp only [List.length_drop, List.length_take]; rfl)) ?_; (with_reducible refine (chancelref01_Cut.calls k a0 a1 a2 t109 _ A9.out).mono ?_); rintro e w' ⟨rfl, ⟨nd, rfl⟩⟩; refine ⟨_, rfl, ?_⟩))
      go_ret
      exact ⟨by first | rfl | (simp [errW_none, errW_some] <;> rfl) | (simp [*, errW_none, errW_some] <;> rfl), by repeat (first | (with_reducible first | exact HB.out | apply below_alloc | apply pw_below_drewN | apply below_drew1) | exact HB.out)⟩
  · rw [if_neg c5] at H
    have c5b0 : (t107.toList == ([195, 164, 226, 130, 172] : List UInt8)) = false := beq_eq_false_iff_ne.mpr c5
    have c5b1 : (t107.toList != ([195, 164, 226, 130, 172] : List UInt8)) = true := bne_iff_ne.mpr c5
    obtain rfl := Option.some.inj H
    go_enter Try.func5, Try.ntmps5
    go_wp2_with (first | ((with_reducible refine gate_callee (f := 13) rfl ?_); refine goesL_ (some 7) rfl rfl Try.func13 (by kernel_rfl) rfl #[.string (⟨#[97, 195, 164, 226, 130, 172]⟩ : ByteArray), .int .i64 1, .int .i64 9] rfl (by (try simp only [List.map_toArray, List.map_cons, List.map_nil]); first | done | rfl | (simp only [List.length_drop, List.length_take]; rfl)) ?_; (with_reducible refine (letters_Cut.calls (⟨#[97, 195, 164, 226, 130, 172]⟩ : ByteArray) 1 9 t107 _ A4.out).mono ?_); rintro e w12 ⟨rfl, hb⟩; refine ⟨_, rfl, ?_⟩; have n0_ := Aside0.mk (below_step (by repeat (first | (with_reducible first | exact HB.out | apply below_alloc | apply pw_below_drewN | apply below_drew1) | exact HB.out)) hb); clear HB; have HB := n0_; clear n0_; (try clear hb); (try clear hb2); (try clear hk); (try clear hi)))
    go_ret
    exact ⟨by first | rfl | (simp [errW_none, errW_some] <;> rfl) | (simp [*, errW_none, errW_some] <;> rfl), by repeat (first | (with_reducible first | exact HB.out | apply below_alloc | apply pw_below_drewN | apply below_drew1) | exact HB.out)⟩

/-- THE ONE PURE STATEMENT of chancellaw01_LettersCut: yours. -/
def chancellaw01_LettersCut.Pure : Prop := ∀ (a0 : ByteArray) (a1 : Int) (a2 : Int), a0.size ≤ 140737488351232 → (Lit.int .i64 a1).wf = true → (Lit.int .i64 a2).wf = true → ∃ k, chancellaw01_LettersCut.f k a0 a1 a2 = some true
theorem chancellaw01_LettersCut.walk (P : chancellaw01_LettersCut.Pure) (a0 : ByteArray) (a1 : Int) (a2 : Int) (w : World) (w0 : a0.size ≤ 140737488351232) (w1 : (Lit.int .i64 a1).wf = true) (w2 : (Lit.int .i64 a2).wf = true)  :
    Calls Try.prog 5 #[.string a0, .int .i64 a1, .int .i64 a2] w fun e w' => e = .returned (.bool true) ∧ Below w.heap.size w w' := by
  obtain ⟨k, h⟩ := P a0 a1 a2 w0 w1 w2
  refine (chancellaw01_LettersCut.calls k a0 a1 a2 true w h).mono ?_
  rintro e w' ⟨rfl, hd⟩
  exact ⟨rfl, hd⟩

end Go.Proofs.Ythnphmfjocofhaa.ALettersCut
