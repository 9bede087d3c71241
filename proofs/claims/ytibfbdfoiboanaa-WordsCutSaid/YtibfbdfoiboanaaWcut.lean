/- words: the law WordsCut, walked. Over the program alone. -/
import Derived.Test.YtibfbdfoiboanaaPc
import Derived.Test.YtibfbdfoiboanaaKn
namespace Go.Proofs.Ytibfbdfoiboanaa.Rd
open Go.RowKit Go.Proofs.YtibfbdfoiboanaaW.PrintWords Go.Proofs.YtibfbdfoiboanaaW.PrintMore
set_option linter.unusedVariables false
set_option linter.unusedSimpArgs false
set_option maxRecDepth 100000 in
set_option maxHeartbeats 8000000 in
theorem cut_g1 (s : ByteArray) (cut : Int) (m : ByteArray) (w : World) (h1 : 3000 < s.size) : Calls Try.prog 5 #[.string s, .int .i64 cut, .string m] w fun e w' => e = .returned (.bool true) ∧ Below w.heap.size w w' := by
  have d1 : decide (3000 < (s.size : Int)) = true := decide_eq_true (by omega)
  have d1n : decide (3000 < s.size) = true := decide_eq_true (by omega)
  clear h1
  go_enter Try.func5, Try.ntmps5
  go_wp2_with (go_at_call 14; (with_reducible refine (ask_known _).mono ?_); rintro e w1 ⟨rfl, hg⟩; have HB1 := Aside0.mk (grown_step (Below.refl _ w) hg); clear hg)
  go_ret
  exact ⟨rfl, below_alloc HB1.out _⟩
set_option maxRecDepth 100000 in
set_option maxHeartbeats 8000000 in
theorem cut_g2 (s : ByteArray) (cut : Int) (m : ByteArray) (w : World) (h1 : ¬ 3000 < s.size) (h2 : 3000 < m.size) : Calls Try.prog 5 #[.string s, .int .i64 cut, .string m] w fun e w' => e = .returned (.bool true) ∧ Below w.heap.size w w' := by
  have d1 : decide (3000 < (s.size : Int)) = false := decide_eq_false (by omega)
  have d1n : decide (3000 < s.size) = false := decide_eq_false (by omega)
  have d2 : decide (3000 < (m.size : Int)) = true := decide_eq_true (by omega)
  have d2n : decide (3000 < m.size) = true := decide_eq_true (by omega)
  clear h1 h2
  go_enter Try.func5, Try.ntmps5
  go_wp2_with (go_at_call 14; (with_reducible refine (ask_known _).mono ?_); rintro e w1 ⟨rfl, hg⟩; have HB1 := Aside0.mk (grown_step (Below.refl _ w) hg); clear hg)
  go_ret
  exact ⟨rfl, below_alloc HB1.out _⟩
set_option maxRecDepth 100000 in
set_option maxHeartbeats 8000000 in
theorem cut_g3 (s : ByteArray) (cut : Int) (m : ByteArray) (w : World) (h1 : ¬ 3000 < s.size) (h2 : ¬ 3000 < m.size) (h3 : m.size = 0) : Calls Try.prog 5 #[.string s, .int .i64 cut, .string m] w fun e w' => e = .returned (.bool true) ∧ Below w.heap.size w w' := by
  have d1 : decide (3000 < (s.size : Int)) = false := decide_eq_false (by omega)
  have d1n : decide (3000 < s.size) = false := decide_eq_false (by omega)
  have d2 : decide (3000 < (m.size : Int)) = false := decide_eq_false (by omega)
  have d2n : decide (3000 < m.size) = false := decide_eq_false (by omega)
  have hl : m.toList.length = m.size := by rw [ByteArray.toList_eq, data_length]
  have d3 : m.toList.isEmpty = true := by
    cases hs : m.toList with
    | nil => rfl
    | cons a l => rw [hs] at hl; simp at hl; omega
  have d3b : (m.toList == []) = true := by
    cases hs : m.toList with
    | nil => rw [hs] at d3; first | rfl | cases d3
    | cons a l => rw [hs] at d3; first | rfl | cases d3
  clear hl
  clear h1 h2 h3
  go_enter Try.func5, Try.ntmps5
  go_wp2_with (go_at_call 14; (with_reducible refine (ask_known _).mono ?_); rintro e w1 ⟨rfl, hg⟩; have HB1 := Aside0.mk (grown_step (Below.refl _ w) hg); clear hg)
  go_ret
  exact ⟨rfl, below_alloc HB1.out _⟩
set_option maxRecDepth 100000 in
set_option maxHeartbeats 8000000 in
theorem cut_g4 (s : ByteArray) (cut : Int) (m : ByteArray) (w : World) (h1 : ¬ 3000 < s.size) (h2 : ¬ 3000 < m.size) (h3 : m.size ≠ 0) (h4 : cut < 0) : Calls Try.prog 5 #[.string s, .int .i64 cut, .string m] w fun e w' => e = .returned (.bool true) ∧ Below w.heap.size w w' := by
  have d1 : decide (3000 < (s.size : Int)) = false := decide_eq_false (by omega)
  have d1n : decide (3000 < s.size) = false := decide_eq_false (by omega)
  have d2 : decide (3000 < (m.size : Int)) = false := decide_eq_false (by omega)
  have d2n : decide (3000 < m.size) = false := decide_eq_false (by omega)
  have hl : m.toList.length = m.size := by rw [ByteArray.toList_eq, data_length]
  have d3 : m.toList.isEmpty = false := by
    cases hs : m.toList with
    | nil => rw [hs] at hl; simp at hl; omega
    | cons a l => rfl
  have d3b : (m.toList == []) = false := by
    cases hs : m.toList with
    | nil => rw [hs] at d3; first | rfl | cases d3
    | cons a l => rw [hs] at d3; first | rfl | cases d3
  clear hl
  have d4 : decide (cut < 0) = true := decide_eq_true (by omega)
  clear h1 h2 h3 h4
  go_enter Try.func5, Try.ntmps5
  go_wp2_with (go_at_call 14; (with_reducible refine (ask_known _).mono ?_); rintro e w1 ⟨rfl, hg⟩; have HB1 := Aside0.mk (grown_step (Below.refl _ w) hg); clear hg)
  go_ret
  exact ⟨rfl, below_alloc HB1.out _⟩
set_option maxRecDepth 100000 in
set_option maxHeartbeats 8000000 in
theorem cut_g5 (s : ByteArray) (cut : Int) (m : ByteArray) (w : World) (h1 : ¬ 3000 < s.size) (h2 : ¬ 3000 < m.size) (h3 : m.size ≠ 0) (h4 : ¬ cut < 0) (h5 : (s.size : Int) ≤ cut) : Calls Try.prog 5 #[.string s, .int .i64 cut, .string m] w fun e w' => e = .returned (.bool true) ∧ Below w.heap.size w w' := by
  have d1 : decide (3000 < (s.size : Int)) = false := decide_eq_false (by omega)
  have d1n : decide (3000 < s.size) = false := decide_eq_false (by omega)
  have d2 : decide (3000 < (m.size : Int)) = false := decide_eq_false (by omega)
  have d2n : decide (3000 < m.size) = false := decide_eq_false (by omega)
  have hl : m.toList.length = m.size := by rw [ByteArray.toList_eq, data_length]
  have d3 : m.toList.isEmpty = false := by
    cases hs : m.toList with
    | nil => rw [hs] at hl; simp at hl; omega
    | cons a l => rfl
  have d3b : (m.toList == []) = false := by
    cases hs : m.toList with
    | nil => rw [hs] at d3; first | rfl | cases d3
    | cons a l => rw [hs] at d3; first | rfl | cases d3
  clear hl
  have d4 : decide (cut < 0) = false := decide_eq_false (by omega)
  have d5 : decide ((s.size : Int) ≤ cut) = true := decide_eq_true (by omega)
  clear h1 h2 h3 h4 h5
  go_enter Try.func5, Try.ntmps5
  go_wp2_with (go_at_call 14; (with_reducible refine (ask_known _).mono ?_); rintro e w1 ⟨rfl, hg⟩; have HB1 := Aside0.mk (grown_step (Below.refl _ w) hg); clear hg)
  go_ret
  exact ⟨rfl, below_alloc HB1.out _⟩
set_option maxRecDepth 100000 in
set_option maxHeartbeats 16000000 in
theorem cut_nn (s : ByteArray) (c : Nat) (m : ByteArray) (w : World) (h1 : ¬ 3000 < s.size) (h2 : ¬ 3000 < m.size) (h3 : m.size ≠ 0) (h5 : c < s.size)
    (hA : ∀ W, Calls Try.prog 14 #[.string s] W fun e w' => e = .returned (.tuple #[.agg #[.string ⟨#[]⟩, .int .i64 0, .nilIface], .bool false]) ∧ W.grownBy w' none)
    (hT : ∀ W, Calls Try.prog 11 #[.string s] W fun e w' => (∃ a b c d A k1 c1 B k2 c2, e = .returned (.tuple #[.agg #[.int .i64 a, .string b, .int .i64 c, .int .i64 d, .slice A k1 c1, .slice B k2 c2], .bool false])) ∧ W.grownBy w' none) :
    Calls Try.prog 5 #[.string s, .int .i64 (c : Int), .string m] w fun e w' => e = .returned (.bool true) ∧ Below w.heap.size w w' := by
  have d1 : decide (3000 < (s.size : Int)) = false := decide_eq_false (by omega)
  have d1n : decide (3000 < s.size) = false := decide_eq_false (by omega)
  have d2 : decide (3000 < (m.size : Int)) = false := decide_eq_false (by omega)
  have d2n : decide (3000 < m.size) = false := decide_eq_false (by omega)
  have hl : m.toList.length = m.size := by rw [ByteArray.toList_eq, data_length]
  have d3 : m.toList.isEmpty = false := by
    cases hs : m.toList with
    | nil => rw [hs] at hl; simp at hl; omega
    | cons a l => rfl
  have d3b : (m.toList == []) = false := by
    cases hs : m.toList with
    | nil => rw [hs] at d3; first | rfl | cases d3
    | cons a l => rw [hs] at d3; first | rfl | cases d3
  clear hl
  have d4 : decide ((c : Int) < 0) = false := decide_eq_false (by omega)
  have d5 : decide ((s.size : Int) ≤ (c : Int)) = false := decide_eq_false (by omega)
  have d6 : decide (s.size ≤ c) = false := decide_eq_false (by omega)
  have b3 : (c : Int) ≤ (s.size : Int) := by omega
  have b4 : (0 : Int) ≤ (c : Int) := by omega
  have y1 := eq_true (show s.size + m.size ≤ 9223372036854775807 by omega)
  have y2 := eq_false (show ¬ 9223372036854775807 < s.size + m.size by omega)
  have HA := Aside0.mk hA
  have HT := Aside0.mk hT
  clear h1 h2 h3 h5 hA hT
  go_enter Try.func5, Try.ntmps5
  go_wp2_with (first
    | (go_at_call 11; (with_reducible refine (HT.out _).mono ?_); rintro e w5 ⟨⟨a_w5, b_w5, c_w5, d_w5, A_w5, k_w5, l_w5, B_w5, m_w5, n_w5, rfl⟩, hg⟩; have HB_w5 := Aside0.mk (grown_step (below_alloc HB_w2.out _) hg); clear hg)
    | (go_at_call 14; (with_reducible refine (HA.out _).mono ?_); rintro e w2 ⟨rfl, hg⟩; have HB_w2 := Aside0.mk (grown_step (below_alloc HB1.out _) hg); clear hg)
    | (go_at_call 14; (with_reducible refine (ask_known _).mono ?_); rintro e w1 ⟨rfl, hg⟩; have HB1 := Aside0.mk (grown_step (Below.refl _ w) hg); clear hg))
  go_ret
  exact ⟨rfl, (below_alloc HB_w5.out _)⟩
set_option maxRecDepth 100000 in
set_option maxHeartbeats 16000000 in
theorem cut_nt (s : ByteArray) (c : Nat) (m : ByteArray) (w : World) (h1 : ¬ 3000 < s.size) (h2 : ¬ 3000 < m.size) (h3 : m.size ≠ 0) (h5 : c < s.size)
    (hA : ∀ W, Calls Try.prog 14 #[.string s] W fun e w' => e = .returned (.tuple #[.agg #[.string ⟨#[]⟩, .int .i64 0, .nilIface], .bool false]) ∧ W.grownBy w' none)
    (hT : ∀ W, Calls Try.prog 11 #[.string s] W fun e w' => (∃ a b c d A k1 c1 B k2 c2, e = .returned (.tuple #[.agg #[.int .i64 a, .string b, .int .i64 c, .int .i64 d, .slice A k1 c1, .slice B k2 c2], .bool true])) ∧ W.grownBy w' none)
    (hT2 : ∀ W, Calls Try.prog 11 #[.string (s.extract 0 c)] W fun e w' => (∃ a b c d A k1 c1 B k2 c2, e = .returned (.tuple #[.agg #[.int .i64 a, .string b, .int .i64 c, .int .i64 d, .slice A k1 c1, .slice B k2 c2], .bool false])) ∧ W.grownBy w' none)
    (hT3 : ∀ W, Calls Try.prog 11 #[.string (s ++ m)] W fun e w' => (∃ a b c d A k1 c1 B k2 c2, e = .returned (.tuple #[.agg #[.int .i64 a, .string b, .int .i64 c, .int .i64 d, .slice A k1 c1, .slice B k2 c2], .bool false])) ∧ W.grownBy w' none) :
    Calls Try.prog 5 #[.string s, .int .i64 (c : Int), .string m] w fun e w' => e = .returned (.bool true) ∧ Below w.heap.size w w' := by
  have d1 : decide (3000 < (s.size : Int)) = false := decide_eq_false (by omega)
  have d1n : decide (3000 < s.size) = false := decide_eq_false (by omega)
  have d2 : decide (3000 < (m.size : Int)) = false := decide_eq_false (by omega)
  have d2n : decide (3000 < m.size) = false := decide_eq_false (by omega)
  have hl : m.toList.length = m.size := by rw [ByteArray.toList_eq, data_length]
  have d3 : m.toList.isEmpty = false := by
    cases hs : m.toList with
    | nil => rw [hs] at hl; simp at hl; omega
    | cons a l => rfl
  have d3b : (m.toList == []) = false := by
    cases hs : m.toList with
    | nil => rw [hs] at d3; first | rfl | cases d3
    | cons a l => rw [hs] at d3; first | rfl | cases d3
  clear hl
  have d4 : decide ((c : Int) < 0) = false := decide_eq_false (by omega)
  have d5 : decide ((s.size : Int) ≤ (c : Int)) = false := decide_eq_false (by omega)
  have d6 : decide (s.size ≤ c) = false := decide_eq_false (by omega)
  have b3 : (c : Int) ≤ (s.size : Int) := by omega
  have b4 : (0 : Int) ≤ (c : Int) := by omega
  have y1 := eq_true (show s.size + m.size ≤ 9223372036854775807 by omega)
  have y2 := eq_false (show ¬ 9223372036854775807 < s.size + m.size by omega)
  have HA := Aside0.mk hA
  have HT := Aside0.mk hT
  have HT2 := Aside0.mk hT2
  have HT3 := Aside0.mk hT3
  clear h1 h2 h3 h5 hA hT hT2 hT3
  go_enter Try.func5, Try.ntmps5
  go_wp2_with (first
    | (go_at_call 11; (with_reducible refine (HT3.out _).mono ?_); rintro e w7 ⟨⟨a_w7, b_w7, c_w7, d_w7, A_w7, k_w7, l_w7, B_w7, m_w7, n_w7, rfl⟩, hg⟩; have HB_w7 := Aside0.mk (grown_step (below_alloc HB_w6.out _) hg); clear hg)
    | (go_at_call 11; (with_reducible refine (HT2.out _).mono ?_); rintro e w6 ⟨⟨a_w6, b_w6, c_w6, d_w6, A_w6, k_w6, l_w6, B_w6, m_w6, n_w6, rfl⟩, hg⟩; have HB_w6 := Aside0.mk (grown_step (below_alloc HB_w5.out _) hg); clear hg)
    | (go_at_call 11; (with_reducible refine (HT.out _).mono ?_); rintro e w5 ⟨⟨a_w5, b_w5, c_w5, d_w5, A_w5, k_w5, l_w5, B_w5, m_w5, n_w5, rfl⟩, hg⟩; have HB_w5 := Aside0.mk (grown_step (below_alloc HB_w2.out _) hg); clear hg)
    | (go_at_call 14; (with_reducible refine (HA.out _).mono ?_); rintro e w2 ⟨rfl, hg⟩; have HB_w2 := Aside0.mk (grown_step (below_alloc HB1.out _) hg); clear hg)
    | (go_at_call 14; (with_reducible refine (ask_known _).mono ?_); rintro e w1 ⟨rfl, hg⟩; have HB1 := Aside0.mk (grown_step (Below.refl _ w) hg); clear hg))
  go_ret
  exact ⟨rfl, (below_alloc HB_w7.out _)⟩
set_option maxRecDepth 100000 in
set_option maxHeartbeats 16000000 in
theorem cut_an (s : ByteArray) (c : Nat) (m : ByteArray) (w : World) (h1 : ¬ 3000 < s.size) (h2 : ¬ 3000 < m.size) (h3 : m.size ≠ 0) (h5 : c < s.size) (t0 : ByteArray) (q0 : Int) (ty : Nat) (cs : Array Value)
    (hA : ∀ W, Calls Try.prog 14 #[.string s] W fun e w' => e = .returned (.tuple #[.agg #[.string t0, .int .i64 q0, .iface ty (.agg cs)], .bool true]) ∧ W.grownBy w' none)
    (hA2 : ∀ W, Calls Try.prog 14 #[.string (s.extract 0 c)] W fun e w' => e = .returned (.tuple #[.agg #[.string ⟨#[]⟩, .int .i64 0, .nilIface], .bool false]) ∧ W.grownBy w' none)
    (hA3 : ∀ W, Calls Try.prog 14 #[.string (s ++ m)] W fun e w' => e = .returned (.tuple #[.agg #[.string ⟨#[]⟩, .int .i64 0, .nilIface], .bool false]) ∧ W.grownBy w' none)
    (hT : ∀ W, Calls Try.prog 11 #[.string s] W fun e w' => (∃ a b c d A k1 c1 B k2 c2, e = .returned (.tuple #[.agg #[.int .i64 a, .string b, .int .i64 c, .int .i64 d, .slice A k1 c1, .slice B k2 c2], .bool false])) ∧ W.grownBy w' none) :
    Calls Try.prog 5 #[.string s, .int .i64 (c : Int), .string m] w fun e w' => e = .returned (.bool true) ∧ Below w.heap.size w w' := by
  have d1 : decide (3000 < (s.size : Int)) = false := decide_eq_false (by omega)
  have d1n : decide (3000 < s.size) = false := decide_eq_false (by omega)
  have d2 : decide (3000 < (m.size : Int)) = false := decide_eq_false (by omega)
  have d2n : decide (3000 < m.size) = false := decide_eq_false (by omega)
  have hl : m.toList.length = m.size := by rw [ByteArray.toList_eq, data_length]
  have d3 : m.toList.isEmpty = false := by
    cases hs : m.toList with
    | nil => rw [hs] at hl; simp at hl; omega
    | cons a l => rfl
  have d3b : (m.toList == []) = false := by
    cases hs : m.toList with
    | nil => rw [hs] at d3; first | rfl | cases d3
    | cons a l => rw [hs] at d3; first | rfl | cases d3
  clear hl
  have d4 : decide ((c : Int) < 0) = false := decide_eq_false (by omega)
  have d5 : decide ((s.size : Int) ≤ (c : Int)) = false := decide_eq_false (by omega)
  have d6 : decide (s.size ≤ c) = false := decide_eq_false (by omega)
  have b3 : (c : Int) ≤ (s.size : Int) := by omega
  have b4 : (0 : Int) ≤ (c : Int) := by omega
  have y1 := eq_true (show s.size + m.size ≤ 9223372036854775807 by omega)
  have y2 := eq_false (show ¬ 9223372036854775807 < s.size + m.size by omega)
  have HA := Aside0.mk hA
  have HA2 := Aside0.mk hA2
  have HA3 := Aside0.mk hA3
  have HT := Aside0.mk hT
  clear h1 h2 h3 h5 hA hA2 hA3 hT
  go_enter Try.func5, Try.ntmps5
  go_wp2_with (first
    | (go_at_call 11; (with_reducible refine (HT.out _).mono ?_); rintro e w5 ⟨⟨a_w5, b_w5, c_w5, d_w5, A_w5, k_w5, l_w5, B_w5, m_w5, n_w5, rfl⟩, hg⟩; have HB_w5 := Aside0.mk (grown_step (below_alloc HB_w4.out _) hg); clear hg)
    | (go_at_call 14; (with_reducible refine (HA3.out _).mono ?_); rintro e w4 ⟨rfl, hg⟩; have HB_w4 := Aside0.mk (grown_step (below_alloc HB_w3.out _) hg); clear hg)
    | (go_at_call 14; (with_reducible refine (HA2.out _).mono ?_); rintro e w3 ⟨rfl, hg⟩; have HB_w3 := Aside0.mk (grown_step (below_alloc HB_w2.out _) hg); clear hg)
    | (go_at_call 14; (with_reducible refine (HA.out _).mono ?_); rintro e w2 ⟨rfl, hg⟩; have HB_w2 := Aside0.mk (grown_step (below_alloc HB1.out _) hg); clear hg)
    | (go_at_call 14; (with_reducible refine (ask_known _).mono ?_); rintro e w1 ⟨rfl, hg⟩; have HB1 := Aside0.mk (grown_step (Below.refl _ w) hg); clear hg))
  go_ret
  exact ⟨rfl, (below_alloc HB_w5.out _)⟩
set_option maxRecDepth 100000 in
set_option maxHeartbeats 16000000 in
theorem cut_at (s : ByteArray) (c : Nat) (m : ByteArray) (w : World) (h1 : ¬ 3000 < s.size) (h2 : ¬ 3000 < m.size) (h3 : m.size ≠ 0) (h5 : c < s.size) (t0 : ByteArray) (q0 : Int) (ty : Nat) (cs : Array Value)
    (hA : ∀ W, Calls Try.prog 14 #[.string s] W fun e w' => e = .returned (.tuple #[.agg #[.string t0, .int .i64 q0, .iface ty (.agg cs)], .bool true]) ∧ W.grownBy w' none)
    (hA2 : ∀ W, Calls Try.prog 14 #[.string (s.extract 0 c)] W fun e w' => e = .returned (.tuple #[.agg #[.string ⟨#[]⟩, .int .i64 0, .nilIface], .bool false]) ∧ W.grownBy w' none)
    (hA3 : ∀ W, Calls Try.prog 14 #[.string (s ++ m)] W fun e w' => e = .returned (.tuple #[.agg #[.string ⟨#[]⟩, .int .i64 0, .nilIface], .bool false]) ∧ W.grownBy w' none)
    (hT : ∀ W, Calls Try.prog 11 #[.string s] W fun e w' => (∃ a b c d A k1 c1 B k2 c2, e = .returned (.tuple #[.agg #[.int .i64 a, .string b, .int .i64 c, .int .i64 d, .slice A k1 c1, .slice B k2 c2], .bool true])) ∧ W.grownBy w' none)
    (hT2 : ∀ W, Calls Try.prog 11 #[.string (s.extract 0 c)] W fun e w' => (∃ a b c d A k1 c1 B k2 c2, e = .returned (.tuple #[.agg #[.int .i64 a, .string b, .int .i64 c, .int .i64 d, .slice A k1 c1, .slice B k2 c2], .bool false])) ∧ W.grownBy w' none)
    (hT3 : ∀ W, Calls Try.prog 11 #[.string (s ++ m)] W fun e w' => (∃ a b c d A k1 c1 B k2 c2, e = .returned (.tuple #[.agg #[.int .i64 a, .string b, .int .i64 c, .int .i64 d, .slice A k1 c1, .slice B k2 c2], .bool false])) ∧ W.grownBy w' none) :
    Calls Try.prog 5 #[.string s, .int .i64 (c : Int), .string m] w fun e w' => e = .returned (.bool true) ∧ Below w.heap.size w w' := by
  have d1 : decide (3000 < (s.size : Int)) = false := decide_eq_false (by omega)
  have d1n : decide (3000 < s.size) = false := decide_eq_false (by omega)
  have d2 : decide (3000 < (m.size : Int)) = false := decide_eq_false (by omega)
  have d2n : decide (3000 < m.size) = false := decide_eq_false (by omega)
  have hl : m.toList.length = m.size := by rw [ByteArray.toList_eq, data_length]
  have d3 : m.toList.isEmpty = false := by
    cases hs : m.toList with
    | nil => rw [hs] at hl; simp at hl; omega
    | cons a l => rfl
  have d3b : (m.toList == []) = false := by
    cases hs : m.toList with
    | nil => rw [hs] at d3; first | rfl | cases d3
    | cons a l => rw [hs] at d3; first | rfl | cases d3
  clear hl
  have d4 : decide ((c : Int) < 0) = false := decide_eq_false (by omega)
  have d5 : decide ((s.size : Int) ≤ (c : Int)) = false := decide_eq_false (by omega)
  have d6 : decide (s.size ≤ c) = false := decide_eq_false (by omega)
  have b3 : (c : Int) ≤ (s.size : Int) := by omega
  have b4 : (0 : Int) ≤ (c : Int) := by omega
  have y1 := eq_true (show s.size + m.size ≤ 9223372036854775807 by omega)
  have y2 := eq_false (show ¬ 9223372036854775807 < s.size + m.size by omega)
  have HA := Aside0.mk hA
  have HA2 := Aside0.mk hA2
  have HA3 := Aside0.mk hA3
  have HT := Aside0.mk hT
  have HT2 := Aside0.mk hT2
  have HT3 := Aside0.mk hT3
  clear h1 h2 h3 h5 hA hA2 hA3 hT hT2 hT3
  go_enter Try.func5, Try.ntmps5
  go_wp2_with (first
    | (go_at_call 11; (with_reducible refine (HT3.out _).mono ?_); rintro e w7 ⟨⟨a_w7, b_w7, c_w7, d_w7, A_w7, k_w7, l_w7, B_w7, m_w7, n_w7, rfl⟩, hg⟩; have HB_w7 := Aside0.mk (grown_step (below_alloc HB_w6.out _) hg); clear hg)
    | (go_at_call 11; (with_reducible refine (HT2.out _).mono ?_); rintro e w6 ⟨⟨a_w6, b_w6, c_w6, d_w6, A_w6, k_w6, l_w6, B_w6, m_w6, n_w6, rfl⟩, hg⟩; have HB_w6 := Aside0.mk (grown_step (below_alloc HB_w5.out _) hg); clear hg)
    | (go_at_call 11; (with_reducible refine (HT.out _).mono ?_); rintro e w5 ⟨⟨a_w5, b_w5, c_w5, d_w5, A_w5, k_w5, l_w5, B_w5, m_w5, n_w5, rfl⟩, hg⟩; have HB_w5 := Aside0.mk (grown_step (below_alloc HB_w4.out _) hg); clear hg)
    | (go_at_call 14; (with_reducible refine (HA3.out _).mono ?_); rintro e w4 ⟨rfl, hg⟩; have HB_w4 := Aside0.mk (grown_step (below_alloc HB_w3.out _) hg); clear hg)
    | (go_at_call 14; (with_reducible refine (HA2.out _).mono ?_); rintro e w3 ⟨rfl, hg⟩; have HB_w3 := Aside0.mk (grown_step (below_alloc HB_w2.out _) hg); clear hg)
    | (go_at_call 14; (with_reducible refine (HA.out _).mono ?_); rintro e w2 ⟨rfl, hg⟩; have HB_w2 := Aside0.mk (grown_step (below_alloc HB1.out _) hg); clear hg)
    | (go_at_call 14; (with_reducible refine (ask_known _).mono ?_); rintro e w1 ⟨rfl, hg⟩; have HB1 := Aside0.mk (grown_step (Below.refl _ w) hg); clear hg))
  go_ret
  exact ⟨rfl, (below_alloc HB_w7.out _)⟩
/-- The law answers true at every text, place and rest. -/
theorem cut_walk (s : ByteArray) (cut : Int) (m : ByteArray) (w : World) : Calls Try.prog 5 #[.string s, .int .i64 cut, .string m] w fun e w' => e = .returned (.bool true) ∧ Below w.heap.size w w' := by
  by_cases h1 : 3000 < s.size
  · exact cut_g1 s cut m w h1
  by_cases h2 : 3000 < m.size
  · exact cut_g2 s cut m w h1 h2
  by_cases h3 : m.size = 0
  · exact cut_g3 s cut m w h1 h2 h3
  by_cases h4 : cut < 0
  · exact cut_g4 s cut m w h1 h2 h3 h4
  by_cases h5 : (s.size : Int) ≤ cut
  · exact cut_g5 s cut m w h1 h2 h3 h4 h5
  obtain ⟨c, rfl⟩ := Int.eq_ofNat_of_zero_le (show 0 ≤ cut by omega)
  have hc : c < s.size := by omega
  have hA := fun W => ask_calls s W (by omega)
  have hT := fun W => told_calls s W (by omega)
  have hT2 := fun W => told_calls (s.extract 0 c) W (by simp; omega)
  have hT3 := fun W => told_calls (s ++ m) W (by rw [ByteArray.size_append]; omega)
  have hA2 := fun W => ask_calls (s.extract 0 c) W (by simp; omega)
  have hA3 := fun W => ask_calls (s ++ m) W (by rw [ByteArray.size_append]; omega)
  cases ha : pAsk s with
  | none =>
    rw [ha] at hA
    cases ht : (pTold s).isSome with
    | false =>
      rw [ht] at hT
      exact cut_nn s c m w h1 h2 h3 hc hA hT
    | true =>
      rw [told_cut ht c hc] at hT2
      rw [told_more ht m h3] at hT3
      rw [ht] at hT
      exact cut_nt s c m w h1 h2 h3 hc hA hT hT2 hT3
  | some y =>
    have hs : (pAsk s).isSome = true := by rw [ha]; rfl
    rw [ask_cut hs c hc] at hA2
    rw [ask_more hs m h3] at hA3
    rw [ha] at hA
    obtain ⟨⟨o, tok, q, x⟩, rest⟩ := y
    simp only [askR] at hA
    obtain ⟨ty, cs, hv⟩ := askV_shape x
    rw [hv] at hA
    cases ht : (pTold s).isSome with
    | false =>
      rw [ht] at hT
      exact cut_an s c m w h1 h2 h3 hc tok q ty cs hA hA2 hA3 hT
    | true =>
      rw [told_cut ht c hc] at hT2
      rw [told_more ht m h3] at hT3
      rw [ht] at hT
      exact cut_at s c m w h1 h2 h3 hc tok q ty cs hA hA2 hA3 hT hT2 hT3
end Go.Proofs.Ytibfbdfoiboanaa.Rd
