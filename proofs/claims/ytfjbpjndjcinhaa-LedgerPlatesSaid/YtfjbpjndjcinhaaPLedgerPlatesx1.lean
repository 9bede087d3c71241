-- PRINTED BY print.sh 35421559b90ae4d0a3588c463048766b98c2df88dd9212a6774a882060cdf62d: not written by this session
import Derived.Test.YtfjbpjndjcinhaaPLedgerPlatesx0
namespace Go.Proofs.Ytfjbpjndjcinhaa.PLedgerPlates
open Go.RowKit Go.Proofs.YtfjbpjndjcinhaaW.PrintWords Go.Proofs.YtfjbpjndjcinhaaW.PrintLast Go.Proofs.YtfjbpjndjcinhaaW.PrintMore
attribute [local go_sem] max2_int min2_int max_two min_two max_three min_three max_four min_four   -- for this text's walks alone
set_option linter.unusedVariables false
set_option linter.unusedSimpArgs false

/-! ### ledger_Plates: function 6 -/
def ledger_Plates.f (a0 : ByteArray) : Option (Int) := if (a0.size : Int) < 1 then (some 0) else (if (a0.size : Int) > 65535 then (some 0) else (some (wrap64 (1 + (wrap64 (Int.tdiv (wrap64 ((wrap64 ((a0.size : Int) + 127)) - 1)) 127))))))
set_option maxHeartbeats 8000000 in
set_option maxRecDepth 100000 in
theorem ledger_Plates.calls (a0 : ByteArray) (r : Int) (w : World) (h : ledger_Plates.f a0 = some r) :
    Calls Try.prog 6 #[.string a0] w fun e w' => e = .returned (.int .i64 r) ∧ Drawn0 w w' := by
  have H : (if (a0.size : Int) < 1 then (some 0) else (if (a0.size : Int) > 65535 then (some 0) else (some (wrap64 (1 + (wrap64 (Int.tdiv (wrap64 ((wrap64 ((a0.size : Int) + 127)) - 1)) 127))))))) = some r := h
  clear h
  by_cases c2 : (a0.size : Int) < 1
  · rw [if_pos c2] at H
    have c2b0 : decide ((a0.size : Int) < 1) = true := decide_eq_true c2
    have c2b1 : decide (a0.size < 1) = true := decide_eq_true (by omega)
    clear c2
    obtain rfl := Option.some.inj H
    go_enter Try.func6, Try.ntmps6
    go_wp2
    go_ret
    exact ⟨by first | rfl | (simp; done) | (simp [*]; done), by repeat (first | exact Drawn0.refl _ | apply Drawn0.step)⟩
  · rw [if_neg c2] at H
    have c2b0 : decide ((a0.size : Int) < 1) = false := decide_eq_false c2
    have c2b1 : decide (a0.size < 1) = false := decide_eq_false (by omega)
    clear c2
    by_cases c3 : (a0.size : Int) > 65535
    · rw [if_pos c3] at H
      have c3b0 : decide (65535 < (a0.size : Int)) = true := decide_eq_true c3
      have c3b1 : decide (65535 < a0.size) = true := decide_eq_true (by omega)
      clear c3
      obtain rfl := Option.some.inj H
      go_enter Try.func6, Try.ntmps6
      go_wp2
      go_ret
      exact ⟨by first | rfl | (simp; done) | (simp [*]; done), by repeat (first | exact Drawn0.refl _ | apply Drawn0.step)⟩
    · rw [if_neg c3] at H
      have c3b0 : decide (65535 < (a0.size : Int)) = false := decide_eq_false c3
      have c3b1 : decide (65535 < a0.size) = false := decide_eq_false (by omega)
      clear c3
      obtain rfl := Option.some.inj H
      go_enter Try.func6, Try.ntmps6
      go_wp2
      go_ret
      exact ⟨by first | rfl | (simp; done) | (simp [*]; done), by repeat (first | exact Drawn0.refl _ | apply Drawn0.step)⟩

/-! ### chancelref17_Plates: function 7 -/
def chancelref17_Plates.f (a0 : ByteArray) : Option (Int) := if a0.toList = ([] : List UInt8) then (some 0) else (if (a0.size : Int) > 65535 then (some 0) else (some (wrap64 (1 + (wrap64 (Int.tdiv (wrap64 ((a0.size : Int) + 126)) 127))))))
set_option maxHeartbeats 8000000 in
set_option maxRecDepth 100000 in
theorem chancelref17_Plates.calls (a0 : ByteArray) (r : Int) (w : World) (h : chancelref17_Plates.f a0 = some r) :
    Calls Try.prog 7 #[.string a0] w fun e w' => e = .returned (.int .i64 r) ∧ Drawn0 w w' := by
  have H : (if a0.toList = ([] : List UInt8) then (some 0) else (if (a0.size : Int) > 65535 then (some 0) else (some (wrap64 (1 + (wrap64 (Int.tdiv (wrap64 ((a0.size : Int) + 126)) 127))))))) = some r := h
  clear h
  by_cases c2 : a0.toList = ([] : List UInt8)
  · rw [if_pos c2] at H
    have c2b0 : (a0.toList == ([] : List UInt8)) = true := beq_iff_eq.mpr c2
    have c2b1 : (a0.toList != ([] : List UInt8)) = false := bne_eq_false_iff_eq.mpr c2
    clear c2
    obtain rfl := Option.some.inj H
    go_enter Try.func7, Try.ntmps7
    go_wp2
    go_ret
    exact ⟨by first | rfl | (simp; done) | (simp [*]; done), by repeat (first | exact Drawn0.refl _ | apply Drawn0.step)⟩
  · rw [if_neg c2] at H
    have c2b0 : (a0.toList == ([] : List UInt8)) = false := beq_eq_false_iff_ne.mpr c2
    have c2b1 : (a0.toList != ([] : List UInt8)) = true := bne_iff_ne.mpr c2
    by_cases c3 : (a0.size : Int) > 65535
    · rw [if_pos c3] at H
      have c3b0 : decide (65535 < (a0.size : Int)) = true := decide_eq_true c3
      have c3b1 : decide (65535 < a0.size) = true := decide_eq_true (by omega)
      clear c3
      obtain rfl := Option.some.inj H
      go_enter Try.func7, Try.ntmps7
      go_wp2
      go_ret
      exact ⟨by first | rfl | (simp; done) | (simp [*]; done), by repeat (first | exact Drawn0.refl _ | apply Drawn0.step)⟩
    · rw [if_neg c3] at H
      have c3b0 : decide (65535 < (a0.size : Int)) = false := decide_eq_false c3
      have c3b1 : decide (65535 < a0.size) = false := decide_eq_false (by omega)
      clear c3
      obtain rfl := Option.some.inj H
      go_enter Try.func7, Try.ntmps7
      go_wp2
      go_ret
      exact ⟨by first | rfl | (simp; done) | (simp [*]; done), by repeat (first | exact Drawn0.refl _ | apply Drawn0.step)⟩

/-! ### chancellaw17_LedgerPlates: function 3 -/
def chancellaw17_LedgerPlates.f (a0 : ByteArray) : Option (Bool) := (ledger_Plates.f (⟨#[120]⟩ : ByteArray)).bind fun t101 => (if t101 = 2 then ((ledger_Plates.f a0).bind fun t102 => ((chancelref17_Plates.f a0).bind fun t103 => (some (t102 == t103)))) else (some false))
set_option maxHeartbeats 8000000 in
set_option maxRecDepth 100000 in
theorem chancellaw17_LedgerPlates.calls (a0 : ByteArray) (r : Bool) (w : World) (h : chancellaw17_LedgerPlates.f a0 = some r) :
    Calls Try.prog 3 #[.string a0] w fun e w' => e = .returned (.bool r) ∧ Drawn0 w w' := by
  have H : ((ledger_Plates.f (⟨#[120]⟩ : ByteArray)).bind fun t101 => (if t101 = 2 then ((ledger_Plates.f a0).bind fun t102 => ((chancelref17_Plates.f a0).bind fun t103 => (some (t102 == t103)))) else (some false))) = some r := h
  clear h
  replace H := Option.bind_eq_some_iff.mp H
  obtain ⟨t101, A20, H⟩ := H
  replace H : (if t101 = 2 then ((ledger_Plates.f a0).bind fun t102 => ((chancelref17_Plates.f a0).bind fun t103 => (some (t102 == t103)))) else (some false)) = some r := H
  have A2 := Aside0.mk A20
  clear A20
  by_cases c3 : t101 = 2
  · rw [if_pos c3] at H
    have c3b0 : (t101 == 2) = true := beq_iff_eq.mpr c3
    have c3b1 : (t101 != 2) = false := bne_eq_false_iff_eq.mpr c3
    clear c3
    replace H := Option.bind_eq_some_iff.mp H
    obtain ⟨t102, A40, H⟩ := H
    replace H : ((chancelref17_Plates.f a0).bind fun t103 => (some (t102 == t103))) = some r := H
    have A4 := Aside0.mk A40
    clear A40
    replace H := Option.bind_eq_some_iff.mp H
    obtain ⟨t103, A50, H⟩ := H
    replace H : (some (t102 == t103)) = some r := H
    have A5 := Aside0.mk A50
    clear A50
    obtain rfl := Option.some.inj H
    go_enter Try.func3, Try.ntmps3
    go_wp2_with (first | ((with_reducible refine gate_callee (f := 6) rfl ?_); refine goesL_ (some 3) rfl rfl Try.func6 (by kernel_rfl) rfl #[.string (⟨#[120]⟩ : ByteArray)] rfl (by (try simp only [List.map_toArray, List.map_cons, List.map_nil]); first | done | rfl | (simp only [List.length_drop, List.length_take]; rfl)) ?_; (with_reducible refine (ledger_Plates.calls (⟨#[120]⟩ : ByteArray) t101 _ A2.out).mono ?_); rintro e w' ⟨rfl, ⟨nd, rfl⟩⟩; refine ⟨_, rfl, ?_⟩) | (go_at_call 6; (with_reducible refine (ledger_Plates.calls a0 t102 _ A4.out).mono ?_); rintro e w' ⟨rfl, ⟨nd, rfl⟩⟩) | (go_at_call 7; (with_reducible refine (chancelref17_Plates.calls a0 t103 _ A5.out).mono ?_); rintro e w' ⟨rfl, ⟨nd, rfl⟩⟩))
    go_ret
    exact ⟨by first | rfl | (simp; done) | (simp [*]; done), by repeat (first | exact Drawn0.refl _ | apply Drawn0.step)⟩
  · rw [if_neg c3] at H
    have c3b0 : (t101 == 2) = false := beq_eq_false_iff_ne.mpr c3
    have c3b1 : (t101 != 2) = true := bne_iff_ne.mpr c3
    obtain rfl := Option.some.inj H
    go_enter Try.func3, Try.ntmps3
    go_wp2_with (first | ((with_reducible refine gate_callee (f := 6) rfl ?_); refine goesL_ (some 3) rfl rfl Try.func6 (by kernel_rfl) rfl #[.string (⟨#[120]⟩ : ByteArray)] rfl (by (try simp only [List.map_toArray, List.map_cons, List.map_nil]); first | done | rfl | (simp only [List.length_drop, List.length_take]; rfl)) ?_; (with_reducible refine (ledger_Plates.calls (⟨#[120]⟩ : ByteArray) t101 _ A2.out).mono ?_); rintro e w' ⟨rfl, ⟨nd, rfl⟩⟩; refine ⟨_, rfl, ?_⟩))
    go_ret
    exact ⟨by first | rfl | (simp; done) | (simp [*]; done), by repeat (first | exact Drawn0.refl _ | apply Drawn0.step)⟩

/-- THE ONE PURE STATEMENT of chancellaw17_LedgerPlates: yours. -/
def chancellaw17_LedgerPlates.Pure : Prop := ∀ (a0 : ByteArray), a0.size ≤ 140737488351232 → chancellaw17_LedgerPlates.f a0 = some true
theorem chancellaw17_LedgerPlates.walk (P : chancellaw17_LedgerPlates.Pure) (a0 : ByteArray) (w : World) (w0 : a0.size ≤ 140737488351232) :
    Calls Try.prog 3 #[.string a0] w fun e w' => e = .returned (.bool true) ∧ Below w.heap.size w w' := by
  have h := P a0 w0
  refine (chancellaw17_LedgerPlates.calls a0 true w h).mono ?_
  rintro e w' ⟨rfl, hd⟩
  exact ⟨rfl, hd.below⟩

end Go.Proofs.Ytfjbpjndjcinhaa.PLedgerPlates
