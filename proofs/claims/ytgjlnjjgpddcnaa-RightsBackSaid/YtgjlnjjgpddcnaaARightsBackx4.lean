/- What the functions that the law RightsBack reaches compute, and the row of the law (printed by a program of this session). -/
import Derived.Test.YtgjlnjjgpddcnaaARightsBackx0
namespace Go.Proofs.Ytgjlnjjgpddcnaa.ARightsBack
open Go.RowKit Go.Proofs.YtgjlnjjgpddcnaaW.PrintWords Go.Proofs.YtgjlnjjgpddcnaaW.PrintLast Go.Proofs.YtgjlnjjgpddcnaaW.PrintMore
attribute [local go_sem] max2_int min2_int max_two min_two max_three min_three max_four min_four   -- for this text's walks alone
set_option linter.unusedVariables false
set_option linter.unusedSimpArgs false

/-! ### chancelref03_Has: function 17 -/
def chancelref03_Has.l0 : Nat → List Int → Int → Int → Option (Bool)
  | 0, _, _, _ => none
  | k + 1, x0, x1, x5 => if x5 < (x0.length : Int) then (if 0 ≤ x5 then (if (rd x0 x5) = x1 then (some true) else (chancelref03_Has.l0 k x0 x1 (wrap64 (x5 + 1)))) else (none)) else (some false)
def chancelref03_Has.f (k : Nat) (l0 : List Int) (a1 : Int) : Option (Bool) := chancelref03_Has.l0 k l0 a1 0
theorem chancelref03_Has.mono_l : ∀ k, (∀ y0 y1 y2, LeO (chancelref03_Has.l0 k y0 y1 y2) (chancelref03_Has.l0 (k + 1) y0 y1 y2))
  | 0 => fun _ _ _ r h => by simp [chancelref03_Has.l0] at h
  | k + 1 => by
    have ih0 := chancelref03_Has.mono_l k
    · intro y0 y1 y2
      unfold chancelref03_Has.l0
      repeat' first
      | (with_reducible exact ih0 _ _ _)
      | (with_reducible exact LeO.refl _)
      | (with_reducible exact LeO.none _)
      | (with_reducible refine LeO.ite ?_ ?_)
      | (with_reducible refine LeO.bind ?_ (fun _ => ?_))
      | exact ih0 _ _ _
      | exact LeO.none _
      | refine LeO.ite ?_ ?_
      | refine LeO.bind ?_ (fun _ => ?_)
theorem chancelref03_Has.mono : ∀ a0 a1 k, LeO (chancelref03_Has.f k a0 a1) (chancelref03_Has.f (k + 1) a0 a1) := by
  intro a0 a1 k
  have ih0 := chancelref03_Has.mono_l k
  unfold chancelref03_Has.f
  repeat' first
      | (with_reducible exact ih0 _ _ _)
      | (with_reducible exact LeO.refl _)
      | (with_reducible exact LeO.none _)
      | (with_reducible refine LeO.ite ?_ ?_)
      | (with_reducible refine LeO.bind ?_ (fun _ => ?_))
      | exact ih0 _ _ _
      | exact LeO.none _
      | refine LeO.ite ?_ ?_
      | refine LeO.bind ?_ (fun _ => ?_)
set_option maxHeartbeats 8000000 in
set_option maxRecDepth 100000 in
theorem chancelref03_Has.calls (k : Nat) (A0 : Option Addr) (c0 : Nat) (l0 : List Int) (a1 : Int) (r : Bool) (w : World) (hr0 : Kd.C (Kd.int .i64) w A0 l0.length l0) (hc0 : l0.length ≤ c0) (h : chancelref03_Has.f k l0 a1 = some r) :
    Calls Try.prog 17 #[.slice A0 l0.length c0, .int .i64 a1] w fun e w' => e = .returned (.bool r) ∧ Drawn0 w w' := by
  have HR0 := Aside0.mk hr0
  have HC0 := Aside0.mk hc0
  clear hr0 hc0
  have H : (chancelref03_Has.l0 k l0 a1 0) = some r := h
  clear h
  have H' := Aside0.mk H
  clear H
  go_enter Try.func17, Try.ntmps17
  go_wp2
  go_loopg [5] k (fun kq v5 w' => ∃ (x5_1 : Int), v5 = .int .i64 x5_1 ∧ Aside0 (chancelref03_Has.l0 kq l0 a1 x5_1 = some r) ∧ Aside0 (kq ≤ k) ∧ Drawn0 w w')
  case atStart => exact ⟨(0), (by first | rfl | (simp; done) | (simp [*]; done)), H', ⟨Nat.le_refl _⟩, by repeat (first | exact Drawn0.refl _ | apply Drawn0.step)⟩
  case round =>
    clear H'
    try clear c1
    try clear p2
    obtain ⟨x5_1, rfl, HA, HK1, ⟨m1, rfl⟩⟩ := hrel
    cases gk with
    | zero => exact absurd HA.out (by simp [chancelref03_Has.l0])
    | succ k1 =>
      have H := HA.out
      clear HA
      simp only [chancelref03_Has.l0] at H
      by_cases c3 : x5_1 < (l0.length : Int)
      · rw [if_pos c3] at H
        have c3b0 : decide (x5_1 < (l0.length : Int)) = true := decide_eq_true c3
        clear c3
        by_cases c4 : 0 ≤ x5_1
        · rw [if_pos c4] at H
          have c4b0 : decide (0 ≤ x5_1) = true := decide_eq_true c4
          clear c4
          by_cases c5 : (rd l0 x5_1) = a1
          · rw [if_pos c5] at H
            have c5b0 : ((rd l0 x5_1) == a1) = true := beq_iff_eq.mpr c5
            have c5b1 : ((rd l0 x5_1) != a1) = false := bne_eq_false_iff_eq.mpr c5
            clear c5
            obtain rfl := Option.some.inj H
            have p161 : 0 ≤ (x5_1 : Int) := of_decide_eq_true (by first | (with_reducible assumption) | assumption)
            have q161 : x5_1 < (l0.length : Int) := of_decide_eq_true (by first | (with_reducible assumption) | assumption)
            obtain ⟨ad161, e161, hx161_0⟩ := Kd.at_int HR0.out x5_1 p161 q161
            cases e161
            replace p161 := eq_true p161
            replace q161 := eq_true q161
            go_wp2
            go_ret
            exact ⟨by first | rfl | (simp; done) | (simp [*]; done), by repeat (first | exact Drawn0.refl _ | apply Drawn0.step)⟩
          · rw [if_neg c5] at H
            have c5b0 : ((rd l0 x5_1) == a1) = false := beq_eq_false_iff_ne.mpr c5
            have c5b1 : ((rd l0 x5_1) != a1) = true := bne_iff_ne.mpr c5
            have H' := Aside0.mk H
            clear H
            have p161 : 0 ≤ (x5_1 : Int) := of_decide_eq_true (by first | (with_reducible assumption) | assumption)
            have q161 : x5_1 < (l0.length : Int) := of_decide_eq_true (by first | (with_reducible assumption) | assumption)
            obtain ⟨ad161, e161, hx161_0⟩ := Kd.at_int HR0.out x5_1 p161 q161
            cases e161
            replace p161 := eq_true p161
            replace q161 := eq_true q161
            go_wp2
            go_roundg k1
            case measure => have := HK1.out; omega
            case rel => exact ⟨(wrap64 (x5_1 + 1)), (by first | rfl | (simp; done) | (simp [*]; done)), H', ⟨by have := HK1.out; omega⟩, by repeat (first | exact Drawn0.refl _ | apply Drawn0.step)⟩
        · rw [if_neg c4] at H
          exact absurd H (by simp)
      · rw [if_neg c3] at H
        have c3b0 : decide (x5_1 < (l0.length : Int)) = false := decide_eq_false c3
        clear c3
        obtain rfl := Option.some.inj H
        go_wp2
        go_ret
        exact ⟨by first | rfl | (simp; done) | (simp [*]; done), by repeat (first | exact Drawn0.refl _ | apply Drawn0.step)⟩

/-! ### chancelref03_Ints: function 29 -/
def chancelref03_Ints.l0 : Nat → List Int → List Int → Int → Option (Bool)
  | 0, _, _, _ => none
  | k + 1, x0, x1, x5 => if x5 < (x0.length : Int) then (if 0 ≤ x5 then (if x5 < (x1.length : Int) then (if (rd x0 x5) = (rd x1 x5) then (chancelref03_Ints.l0 k x0 x1 (wrap64 (x5 + 1))) else (some false)) else (none)) else (none)) else (some true)
def chancelref03_Ints.f (k : Nat) (l0 : List Int) (l1 : List Int) : Option (Bool) := if (l0.length : Int) = (l1.length : Int) then (chancelref03_Ints.l0 k l0 l1 0) else (some false)
theorem chancelref03_Ints.mono_l : ∀ k, (∀ y0 y1 y2, LeO (chancelref03_Ints.l0 k y0 y1 y2) (chancelref03_Ints.l0 (k + 1) y0 y1 y2))
  | 0 => fun _ _ _ r h => by simp [chancelref03_Ints.l0] at h
  | k + 1 => by
    have ih0 := chancelref03_Ints.mono_l k
    · intro y0 y1 y2
      unfold chancelref03_Ints.l0
      repeat' first
      | (with_reducible exact ih0 _ _ _)
      | (with_reducible exact LeO.refl _)
      | (with_reducible exact LeO.none _)
      | (with_reducible refine LeO.ite ?_ ?_)
      | (with_reducible refine LeO.bind ?_ (fun _ => ?_))
      | exact ih0 _ _ _
      | exact LeO.none _
      | refine LeO.ite ?_ ?_
      | refine LeO.bind ?_ (fun _ => ?_)
theorem chancelref03_Ints.mono : ∀ a0 a1 k, LeO (chancelref03_Ints.f k a0 a1) (chancelref03_Ints.f (k + 1) a0 a1) := by
  intro a0 a1 k
  have ih0 := chancelref03_Ints.mono_l k
  unfold chancelref03_Ints.f
  repeat' first
      | (with_reducible exact ih0 _ _ _)
      | (with_reducible exact LeO.refl _)
      | (with_reducible exact LeO.none _)
      | (with_reducible refine LeO.ite ?_ ?_)
      | (with_reducible refine LeO.bind ?_ (fun _ => ?_))
      | exact ih0 _ _ _
      | exact LeO.none _
      | refine LeO.ite ?_ ?_
      | refine LeO.bind ?_ (fun _ => ?_)
set_option maxHeartbeats 8000000 in
set_option maxRecDepth 100000 in
theorem chancelref03_Ints.calls (k : Nat) (A0 : Option Addr) (c0 : Nat) (l0 : List Int) (A1 : Option Addr) (c1 : Nat) (l1 : List Int) (r : Bool) (w : World) (hr0 : Kd.C (Kd.int .i64) w A0 l0.length l0) (hc0 : l0.length ≤ c0) (hr1 : Kd.C (Kd.int .i64) w A1 l1.length l1) (hc1 : l1.length ≤ c1) (h : chancelref03_Ints.f k l0 l1 = some r) :
    Calls Try.prog 29 #[.slice A0 l0.length c0, .slice A1 l1.length c1] w fun e w' => e = .returned (.bool r) ∧ Drawn0 w w' := by
  have HR0 := Aside0.mk hr0
  have HC0 := Aside0.mk hc0
  clear hr0 hc0
  have HR1 := Aside0.mk hr1
  have HC1 := Aside0.mk hc1
  clear hr1 hc1
  have H : (if (l0.length : Int) = (l1.length : Int) then (chancelref03_Ints.l0 k l0 l1 0) else (some false)) = some r := h
  clear h
  by_cases c3 : (l0.length : Int) = (l1.length : Int)
  · rw [if_pos c3] at H
    have c3b0 : ((l0.length : Int) == (l1.length : Int)) = true := beq_iff_eq.mpr c3
    have c3b1 : ((l0.length : Int) != (l1.length : Int)) = false := bne_eq_false_iff_eq.mpr c3
    have c3b2 : (l0.length == l1.length) = true := by first | simpa using c3 | (simp at c3 ⊢; omega)
    clear c3
    have H' := Aside0.mk H
    clear H
    go_enter Try.func29, Try.ntmps29
    go_wp2
    repeat (go_quiet (fail); try go_wp2)
    go_loopg [5] k (fun kq v5 w' => ∃ (x5_1 : Int), v5 = .int .i64 x5_1 ∧ Aside0 (chancelref03_Ints.l0 kq l0 l1 x5_1 = some r) ∧ Aside0 (kq ≤ k) ∧ Drawn0 w w')
    case atStart => exact ⟨(0), (by first | rfl | (simp; done) | (simp [*]; done)), H', ⟨Nat.le_refl _⟩, by repeat (first | exact Drawn0.refl _ | apply Drawn0.step)⟩
    case round =>
      clear H'
      try clear c1
      try clear c2
      try clear p2
      try clear c3
      try clear c3b0
      try clear c3b1
      try clear c3b2
      obtain ⟨x5_1, rfl, HA, HK1, ⟨m1, rfl⟩⟩ := hrel
      cases gk with
      | zero => exact absurd HA.out (by simp [chancelref03_Ints.l0])
      | succ k1 =>
        have H := HA.out
        clear HA
        simp only [chancelref03_Ints.l0] at H
        by_cases c4 : x5_1 < (l0.length : Int)
        · rw [if_pos c4] at H
          have c4b0 : decide (x5_1 < (l0.length : Int)) = true := decide_eq_true c4
          clear c4
          by_cases c5 : 0 ≤ x5_1
          · rw [if_pos c5] at H
            have c5b0 : decide (0 ≤ x5_1) = true := decide_eq_true c5
            clear c5
            by_cases c6 : x5_1 < (l1.length : Int)
            · rw [if_pos c6] at H
              have c6b0 : decide (x5_1 < (l1.length : Int)) = true := decide_eq_true c6
              clear c6
              by_cases c7 : (rd l0 x5_1) = (rd l1 x5_1)
              · rw [if_pos c7] at H
                have c7b0 : ((rd l0 x5_1) == (rd l1 x5_1)) = true := beq_iff_eq.mpr c7
                have c7b1 : ((rd l0 x5_1) != (rd l1 x5_1)) = false := bne_eq_false_iff_eq.mpr c7
                clear c7
                have H' := Aside0.mk H
                clear H
                have p162 : 0 ≤ (x5_1 : Int) := of_decide_eq_true (by first | (with_reducible assumption) | assumption)
                have q162 : x5_1 < (l0.length : Int) := of_decide_eq_true (by first | (with_reducible assumption) | assumption)
                obtain ⟨ad162, e162, hx162_0⟩ := Kd.at_int HR0.out x5_1 p162 q162
                cases e162
                replace p162 := eq_true p162
                replace q162 := eq_true q162
                have p163 : 0 ≤ (x5_1 : Int) := of_decide_eq_true (by first | (with_reducible assumption) | assumption)
                have q163 : x5_1 < (l1.length : Int) := of_decide_eq_true (by first | (with_reducible assumption) | assumption)
                obtain ⟨ad163, e163, hx163_0⟩ := Kd.at_int HR1.out x5_1 p163 q163
                cases e163
                replace p163 := eq_true p163
                replace q163 := eq_true q163
                go_wp2
                repeat (go_quiet (fail); try go_wp2)
                go_roundg k1
                case measure => have := HK1.out; omega
                case rel => exact ⟨(wrap64 (x5_1 + 1)), (by first | rfl | (simp; done) | (simp [*]; done)), H', ⟨by have := HK1.out; omega⟩, by repeat (first | exact Drawn0.refl _ | apply Drawn0.step)⟩
              · rw [if_neg c7] at H
                have c7b0 : ((rd l0 x5_1) == (rd l1 x5_1)) = false := beq_eq_false_iff_ne.mpr c7
                have c7b1 : ((rd l0 x5_1) != (rd l1 x5_1)) = true := bne_iff_ne.mpr c7
                obtain rfl := Option.some.inj H
                have p162 : 0 ≤ (x5_1 : Int) := of_decide_eq_true (by first | (with_reducible assumption) | assumption)
                have q162 : x5_1 < (l0.length : Int) := of_decide_eq_true (by first | (with_reducible assumption) | assumption)
                obtain ⟨ad162, e162, hx162_0⟩ := Kd.at_int HR0.out x5_1 p162 q162
                cases e162
                replace p162 := eq_true p162
                replace q162 := eq_true q162
                have p163 : 0 ≤ (x5_1 : Int) := of_decide_eq_true (by first | (with_reducible assumption) | assumption)
                have q163 : x5_1 < (l1.length : Int) := of_decide_eq_true (by first | (with_reducible assumption) | assumption)
                obtain ⟨ad163, e163, hx163_0⟩ := Kd.at_int HR1.out x5_1 p163 q163
                cases e163
                replace p163 := eq_true p163
                replace q163 := eq_true q163
                go_wp2
                repeat (go_quiet (fail); try go_wp2)
                go_ret
                exact ⟨by first | rfl | (simp; done) | (simp [*]; done), by repeat (first | exact Drawn0.refl _ | apply Drawn0.step)⟩
            · rw [if_neg c6] at H
              exact absurd H (by simp)
          · rw [if_neg c5] at H
            exact absurd H (by simp)
        · rw [if_neg c4] at H
          have c4b0 : decide (x5_1 < (l0.length : Int)) = false := decide_eq_false c4
          clear c4
          obtain rfl := Option.some.inj H
          go_wp2
          repeat (go_quiet (fail); try go_wp2)
          go_ret
          exact ⟨by first | rfl | (simp; done) | (simp [*]; done), by repeat (first | exact Drawn0.refl _ | apply Drawn0.step)⟩
  · rw [if_neg c3] at H
    have c3b0 : ((l0.length : Int) == (l1.length : Int)) = false := beq_eq_false_iff_ne.mpr c3
    have c3b1 : ((l0.length : Int) != (l1.length : Int)) = true := bne_iff_ne.mpr c3
    have c3b2 : (l0.length == l1.length) = false := by first | simpa using c3 | (simp at c3 ⊢; omega)
    obtain rfl := Option.some.inj H
    go_enter Try.func29, Try.ntmps29
    go_wp2
    repeat (go_quiet (fail); try go_wp2)
    go_ret
    exact ⟨by first | rfl | (simp; done) | (simp [*]; done), by repeat (first | exact Drawn0.refl _ | apply Drawn0.step)⟩

/-! ### chancelref03_Same: function 18 -/
/-! chancelref03.Same -/
theorem ints_loop (l0 l1 : List Int) (hlen : l0.length = l1.length) (hl : l0.length ≤ 9223372036854775807) : ∀ (d k i : Nat), l0.length - i = d → d < k → i ≤ l0.length → chancelref03_Ints.l0 k l0 l1 (i : Int) = some (decide (l0.drop i = l1.drop i)) := by
  intro d
  induction d with
  | zero =>
    intro k i hd hk hi
    obtain ⟨k, rfl⟩ : ∃ m, k = m + 1 := ⟨k - 1, by omega⟩
    rw [chancelref03_Ints.l0, if_neg (by omega), List.drop_eq_nil_of_le (by omega), List.drop_eq_nil_of_le (by omega)]
    simp
  | succ d ih =>
    intro k i hd hk hi
    obtain ⟨k, rfl⟩ : ∃ m, k = m + 1 := ⟨k - 1, by omega⟩
    have hlt : i < l0.length := by omega
    have hlt1 : i < l1.length := by omega
    have hrd : rd l0 (i : Int) = l0[i] := by simp [rd, hlt]
    have hrd1 : rd l1 (i : Int) = l1[i] := by simp [rd, hlt1]
    rw [chancelref03_Ints.l0, List.drop_eq_getElem_cons hlt, List.drop_eq_getElem_cons hlt1]
    have e1 : ((i : Int) < (l0.length : Int)) = True := eq_true (by omega)
    have e2 : ((i : Int) < (l1.length : Int)) = True := eq_true (by omega)
    have e3 : (0 ≤ (i : Int)) = True := eq_true (by omega)
    by_cases h : l0[i] = l1[i]
    · simp only [hrd, hrd1, h, e1, e2, e3, if_true, if_false, not_true]
      rw [show wrap64 ((i : Int) + 1) = ((i + 1 : Nat) : Int) by unfold wrap64; omega, ih k (i + 1) (by omega) (by omega) (by omega)]
      congr 1
      rw [decide_eq_decide]
      exact ⟨fun e => by rw [e], fun e => by injection e⟩
    · simp only [hrd, hrd1, h, e1, e2, e3, if_true, if_false, not_false_eq_true]
      congr 1
      exact (decide_eq_false (fun e => h (by injection e))).symm
theorem ints_tells (l0 l1 : List Int) (hl : l0.length ≤ 9223372036854775807) : chancelref03_Ints.f (l0.length + 1) l0 l1 = some (decide (l0 = l1)) := by
  unfold chancelref03_Ints.f
  by_cases h : l0.length = l1.length
  · rw [if_pos (by omega)]
    have := ints_loop l0 l1 h hl l0.length (l0.length + 1) 0 (by omega) (by omega) (by omega)
    rw [List.drop_zero, List.drop_zero] at this
    exact this
  · rw [if_neg (by omega), decide_eq_false (fun e => h (by rw [e]))]
def sameX (x y : S29) : Bool := decide (x.f0 = y.f0) && (decide (x.f1 = y.f1) && (decide (x.f2 = y.f2) && decide (x.f3 = y.f3)))
def sameL : List S29 → List S29 → Bool
  | [], [] => true
  | x :: xs, y :: ys => sameX x y && sameL xs ys
  | _, _ => false
theorem sameL_self : ∀ l : List S29, sameL l l = true
  | [] => rfl
  | x :: xs => by rw [sameL, sameL_self xs]; simp [sameX]
theorem sameL_len : ∀ (l0 l1 : List S29), l0.length ≠ l1.length → sameL l0 l1 = false
  | [], [], h => absurd rfl h
  | [], _ :: _, _ => rfl
  | _ :: _, [], _ => rfl
  | x :: xs, y :: ys, h => by rw [sameL, sameL_len xs ys (by simpa using h), Bool.and_false]
def chancelref03_Same.f (l0 l1 : List (S29)) : Option (Bool) := some (sameL l0 l1)
set_option maxHeartbeats 4000000 in
set_option maxRecDepth 100000 in
theorem chancelref03_Same.calls (A0 : Option Addr) (c0 : Nat) (l0 : List (S29)) (A1 : Option Addr) (c1 : Nat) (l1 : List (S29)) (r : Bool) (w : World) (hr0 : Kd.C k29 w A0 l0.length l0) (hc0 : l0.length ≤ c0) (hr1 : Kd.C k29 w A1 l1.length l1) (hc1 : l1.length ≤ c1) (h : chancelref03_Same.f l0 l1 = some r) :
    Calls Try.prog 18 #[.slice A0 l0.length c0, .slice A1 l1.length c1] w fun e w' => e = .returned (.bool r) ∧ Below w.heap.size w w' := by
  have hbig : l0.length ≤ 9223372036854775807 := hr0.2.1
  have hbig1 : l1.length ≤ 9223372036854775807 := hr1.2.1
  have hS : sameL l0 l1 = r := Option.some.inj h
  have HR0 := Aside0.mk hr0
  have HR1 := Aside0.mk hr1
  clear h hr0 hr1
  have hu29 := Try.underlying29
  by_cases hlen : l0.length = l1.length
  case neg =>
    have b1 : ((l0.length : Int) == (l1.length : Int)) = false := beq_eq_false_iff_ne.mpr (by omega)
    have b2 : ((l0.length : Int) != (l1.length : Int)) = true := by simp [bne, b1]
    have b3 : (l0.length == l1.length) = false := beq_eq_false_iff_ne.mpr hlen
    have b4 : (l0.length != l1.length) = true := by simp [bne, b3]
    obtain rfl : false = r := (sameL_len l0 l1 hlen).symm.trans hS
    clear hS hlen
    go_enter Try.func18, Try.ntmps18
    go_wp2
    go_ret
    exact ⟨rfl, Below.refl _ _⟩
  have b1 : ((l0.length : Int) == (l1.length : Int)) = true := beq_iff_eq.mpr (by omega)
  have b2 : ((l0.length : Int) != (l1.length : Int)) = false := by simp [bne, b1]
  have b3 : (l0.length == l1.length) = true := beq_iff_eq.mpr hlen
  have b4 : (l0.length != l1.length) = false := by simp [bne, b3]
  have HLEN := Aside0.mk hlen
  have HS := Aside0.mk (show sameL (l0.drop 0) (l1.drop 0) = r from hS)
  clear hS hlen
  go_enter Try.func18, Try.ntmps18
  go_wp2
  go_loopg [5] l0.length (fun gg s5 wr => ∃ kk : Nat, kk ≤ l0.length ∧ l0.length - kk ≤ gg ∧ s5 = .int .i64 kk ∧ Aside (Below w.heap.size w wr) ∧ Aside (sameL (l0.drop kk) (l1.drop kk) = r))
  case atStart => exact ⟨0, Nat.zero_le _, by omega, rfl, Below.refl _ w, HS.out⟩
  case round =>
    clear HS
    obtain ⟨kk, hkk, hg, rfl, BW, AS⟩ := hrel
    by_cases hlt : kk < l0.length
    · have hltz : (kk : Int) < (l0.length : Int) := by omega
      have hlt1 : kk < l1.length := by have := HLEN.out; omega
      have hltz1 : (kk : Int) < (l1.length : Int) := by omega
      obtain ⟨ad, A2, c2, A3, c3, rfl, x0, x1, x2, x3, l2, g2, l3, g3⟩ := at_T29 (Kd.C_below HR0.out BW.out) (kk : Int) (by omega) (by omega)
      obtain ⟨ae, B2, d2, B3, d3, rfl, y0, y1, y2, y3, m2, h2, m3, h3⟩ := at_T29 (Kd.C_below HR1.out BW.out) (kk : Int) (by omega) (by omega)
      simp only [Int.toNat_natCast] at x0 x1 x2 x3 y0 y1 y2 y3
      have hxx : rd_T29 l0 (kk : Int) = l0[kk] := by unfold rd_T29; rw [Int.toNat_natCast, List.getD_eq_getElem?_getD, List.getElem?_eq_getElem hlt, Option.getD_some]
      have hyy : rd_T29 l1 (kk : Int) = l1[kk] := by unfold rd_T29; rw [Int.toNat_natCast, List.getD_eq_getElem?_getD, List.getElem?_eq_getElem hlt1, Option.getD_some]
      have hst := AS.out
      rw [List.drop_eq_getElem_cons hlt, List.drop_eq_getElem_cons hlt1, sameL, ← hxx, ← hyy] at hst
      have ST := Aside0.mk hst
      clear hst hxx hyy AS
      generalize rd_T29 l0 (kk : Int) = x at x0 x1 x2 x3 l2 g2 l3 g3 ST
      generalize rd_T29 l1 (kk : Int) = y at y0 y1 y2 y3 m2 h2 m3 h3 ST
      have I2 := Aside0.mk (ints_tells x.f2 y.f2 g2.2.1)
      have I3 := Aside0.mk (ints_tells x.f3 y.f3 g3.2.1)
      have G2 := Aside0.mk g2
      have G3 := Aside0.mk g3
      have H2 := Aside0.mk h2
      have H3 := Aside0.mk h3
      have L2 := Aside0.mk l2
      have L3 := Aside0.mk l3
      have M2 := Aside0.mk m2
      have M3 := Aside0.mk m3
      clear g2 g3 h2 h3 l2 l3 m2 m3
      by_cases q0 : x.f0 = y.f0
      case neg =>
        have p0 : (x.f0 == y.f0) = false := beq_eq_false_iff_ne.mpr q0
        have p0b : (x.f0 != y.f0) = true := by simp [bne, p0]
        have hr : false = r := by rw [← ST.out]; simp [sameX, q0]
        subst hr
        clear ST q0
        go_wp2
        go_quiet (fail)
        go_wp2
        go_ret
        exact ⟨rfl, BW.out.trans (pw_below_drewN (Below.refl _ _) _)⟩
      have p0 : (x.f0 == y.f0) = true := beq_iff_eq.mpr q0
      have p0b : (x.f0 != y.f0) = false := by simp [bne, p0]
      by_cases q1 : x.f1 = y.f1
      case neg =>
        have p1 : (x.f1 == y.f1) = false := beq_eq_false_iff_ne.mpr q1
        have p1b : (x.f1 != y.f1) = true := by simp [bne, p1]
        have hr : false = r := by rw [← ST.out]; simp [sameX, q1]
        subst hr
        clear ST q1
        go_wp2
        go_quiet (fail)
        go_wp2
        go_ret
        exact ⟨rfl, BW.out.trans (pw_below_drewN (Below.refl _ _) _)⟩
      have p1 : (x.f1 == y.f1) = true := beq_iff_eq.mpr q1
      have p1b : (x.f1 != y.f1) = false := by simp [bne, p1]
      have Q0 := Aside0.mk q0
      have Q1 := Aside0.mk q1
      clear q0 q1
      by_cases q2 : x.f2 = y.f2
      case neg =>
        have hr : false = r := by rw [← ST.out]; simp [sameX, q2]
        subst hr
        have I2b : Aside0 (chancelref03_Ints.f (x.f2.length + 1) x.f2 y.f2 = some false) := ⟨by rw [I2.out, decide_eq_false q2]⟩
        clear ST q2 I2
        go_wp2
        go_quiet ((go_at_call 29; (with_reducible refine (chancelref03_Ints.calls (x.f2.length + 1) A2 c2 x.f2 B2 d2 y.f2 false _ ?aa L2.out ?bb M2.out I2b.out).mono ?_); (case aa => exact Kd.C_drewN G2.out _); (case bb => exact Kd.C_drewN H2.out _); rintro e w' ⟨rfl, ⟨m, rfl⟩⟩; exact ⟨rfl, _, World.drewN_drewN _ _ _⟩))
        go_wp2
        go_ret
        exact ⟨rfl, BW.out.trans (pw_below_drewN (Below.refl _ _) _)⟩
      have I2b : Aside0 (chancelref03_Ints.f (x.f2.length + 1) x.f2 y.f2 = some true) := ⟨by rw [I2.out, decide_eq_true q2]⟩
      have Q2 := Aside0.mk q2
      clear q2 I2
      by_cases q3 : x.f3 = y.f3
      case neg =>
        have hr : false = r := by rw [← ST.out]; simp [sameX, q3]
        subst hr
        have I3b : Aside0 (chancelref03_Ints.f (x.f3.length + 1) x.f3 y.f3 = some false) := ⟨by rw [I3.out, decide_eq_false q3]⟩
        clear ST q3 I3
        go_wp2
        go_quiet ((first | (go_at_call 29; (with_reducible refine (chancelref03_Ints.calls (x.f2.length + 1) A2 c2 x.f2 B2 d2 y.f2 true _ ?aa L2.out ?bb M2.out I2b.out).mono ?_); (case aa => exact Kd.C_drewN G2.out _); (case bb => exact Kd.C_drewN H2.out _); rintro e w' ⟨rfl, ⟨m, rfl⟩⟩; exact ⟨rfl, _, World.drewN_drewN _ _ _⟩) | (go_at_call 29; (with_reducible refine (chancelref03_Ints.calls (x.f3.length + 1) A3 c3 x.f3 B3 d3 y.f3 false _ ?aa L3.out ?bb M3.out I3b.out).mono ?_); (case aa => exact Kd.C_drewN G3.out _); (case bb => exact Kd.C_drewN H3.out _); rintro e w' ⟨rfl, ⟨m, rfl⟩⟩; exact ⟨rfl, _, World.drewN_drewN _ _ _⟩)))
        go_wp2
        go_ret
        exact ⟨rfl, BW.out.trans (pw_below_drewN (Below.refl _ _) _)⟩
      have I3b : Aside0 (chancelref03_Ints.f (x.f3.length + 1) x.f3 y.f3 = some true) := ⟨by rw [I3.out, decide_eq_true q3]⟩
      have hr : sameL (l0.drop (kk + 1)) (l1.drop (kk + 1)) = r := by rw [← ST.out, sameX, decide_eq_true Q0.out, decide_eq_true Q1.out, decide_eq_true Q2.out, decide_eq_true q3]; rfl
      have HRR := Aside0.mk hr
      clear ST q3 I3 hr
      go_wp2
      go_quiet ((first | (go_at_call 29; (with_reducible refine (chancelref03_Ints.calls (x.f2.length + 1) A2 c2 x.f2 B2 d2 y.f2 true _ ?aa L2.out ?bb M2.out I2b.out).mono ?_); (case aa => exact Kd.C_drewN G2.out _); (case bb => exact Kd.C_drewN H2.out _); rintro e w' ⟨rfl, ⟨m, rfl⟩⟩; exact ⟨rfl, _, World.drewN_drewN _ _ _⟩) | (go_at_call 29; (with_reducible refine (chancelref03_Ints.calls (x.f3.length + 1) A3 c3 x.f3 B3 d3 y.f3 true _ ?aa L3.out ?bb M3.out I3b.out).mono ?_); (case aa => exact Kd.C_drewN G3.out _); (case bb => exact Kd.C_drewN H3.out _); rintro e w' ⟨rfl, ⟨m, rfl⟩⟩; exact ⟨rfl, _, World.drewN_drewN _ _ _⟩)))
      go_wp2
      go_roundg (l0.length - (kk + 1))
      case measure => omega
      case rel => exact ⟨kk + 1, by omega, by omega, by go_num, BW.out.trans (pw_below_drewN (Below.refl _ _) _), HRR.out⟩
    · have hltz : decide ((kk : Int) < (l0.length : Int)) = false := decide_eq_false (by omega)
      have hkl : kk = l0.length := by omega
      have hAS := AS.out
      rw [List.drop_eq_nil_of_le (by omega), List.drop_eq_nil_of_le (by have := HLEN.out; omega)] at hAS
      have HA := Aside0.mk hAS
      clear hAS AS
      go_wp2
      go_ret
      exact ⟨by rw [← HA.out]; rfl, BW.out⟩

-- NOT PRINTED: function 7 (chancellaw03_RightsBack)

end Go.Proofs.Ytgjlnjjgpddcnaa.ARightsBack
