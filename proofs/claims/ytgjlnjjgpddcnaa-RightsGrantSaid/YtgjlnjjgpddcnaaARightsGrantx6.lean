/- What the functions that the law RightsGrant reaches compute, and the row of the law (printed by a program of this session). -/
import Derived.Test.YtgjlnjjgpddcnaaARightsGrantx0
import Derived.Test.YtgjlnjjgpddcnaaARightsGrantx5
namespace Go.Proofs.Ytgjlnjjgpddcnaa.ARightsGrant
open Go.RowKit Go.Proofs.YtgjlnjjgpddcnaaW.PrintWords Go.Proofs.YtgjlnjjgpddcnaaW.PrintLast Go.Proofs.YtgjlnjjgpddcnaaW.PrintMore
attribute [local go_sem] max2_int min2_int max_two min_two max_three min_three max_four min_four   -- for this text's walks alone
set_option linter.unusedVariables false
set_option linter.unusedSimpArgs false

/-! ### chancelref03_with: function 30 -/
mutual
def chancelref03_with.l0 : Nat → List Int → Int → Bool → List Int → Int → Option (List Int)
  | 0, _, _, _, _, _ => none
  | k + 1, x0, x1, x2, x7, x8 => if x8 < (x0.length : Int) then (if x2 = true then (if 0 ≤ x8 then (if (rd x0 x8) > x1 then (if x8 = 0 then (chancelref03_with.j1 k x0 x1 x2 x7 x8 true) else (if 0 ≤ (wrap64 (x8 - 1)) then (if (wrap64 (x8 - 1)) < (x0.length : Int) then (chancelref03_with.j1 k x0 x1 x2 x7 x8 (decide ((rd x0 (wrap64 (x8 - 1))) < x1))) else (none)) else (none))) else (chancelref03_with.j1 k x0 x1 x2 x7 x8 false)) else (none)) else (chancelref03_with.j1 k x0 x1 x2 x7 x8 false)) else (if x2 = true then (if (x0.length : Int) = 0 then (if x7.length < 17592186044416 then (some (x7 ++ [x1])) else (none)) else (if 0 ≤ (wrap64 ((x0.length : Int) - 1)) then (if (wrap64 ((x0.length : Int) - 1)) < (x0.length : Int) then (if (rd x0 (wrap64 ((x0.length : Int) - 1))) < x1 then (if x7.length < 17592186044416 then (some (x7 ++ [x1])) else (none)) else (some x7)) else (none)) else (none))) else (some x7))
def chancelref03_with.j1 : Nat → List Int → Int → Bool → List Int → Int → Bool → Option (List Int)
  | 0, _, _, _, _, _, _ => none
  | k + 1, x0, x1, x2, x7, x8, x36 => if x36 = true then (if x7.length < 17592186044416 then ((some (x7 ++ [x1] : List Int)).bind fun y194 => (if x2 = true then (if 0 ≤ x8 then (if x8 < (x0.length : Int) then (if y194.length < 17592186044416 then (chancelref03_with.l0 k x0 x1 x2 (y194 ++ [rd x0 x8]) (wrap64 (x8 + 1))) else (none)) else (none)) else (none)) else (if 0 ≤ x8 then (if x8 < (x0.length : Int) then (if (rd x0 x8) = x1 then (chancelref03_with.l0 k x0 x1 x2 y194 (wrap64 (x8 + 1))) else (if y194.length < 17592186044416 then (chancelref03_with.l0 k x0 x1 x2 (y194 ++ [rd x0 x8]) (wrap64 (x8 + 1))) else (none))) else (none)) else (none)))) else (none)) else (if x2 = true then (if 0 ≤ x8 then (if x8 < (x0.length : Int) then (if x7.length < 17592186044416 then (chancelref03_with.l0 k x0 x1 x2 (x7 ++ [rd x0 x8]) (wrap64 (x8 + 1))) else (none)) else (none)) else (none)) else (if 0 ≤ x8 then (if x8 < (x0.length : Int) then (if (rd x0 x8) = x1 then (chancelref03_with.l0 k x0 x1 x2 x7 (wrap64 (x8 + 1))) else (if x7.length < 17592186044416 then (chancelref03_with.l0 k x0 x1 x2 (x7 ++ [rd x0 x8]) (wrap64 (x8 + 1))) else (none))) else (none)) else (none)))
end
def chancelref03_with.f (k : Nat) (l0 : List Int) (a1 : Int) (a2 : Bool) : Option (List Int) := chancelref03_with.l0 k l0 a1 a2 ([] : List Int) 0
theorem chancelref03_with.mono_l : ∀ k, (∀ y0 y1 y2 y3 y4, LeO (chancelref03_with.l0 k y0 y1 y2 y3 y4) (chancelref03_with.l0 (k + 1) y0 y1 y2 y3 y4)) ∧ (∀ y0 y1 y2 y3 y4 y5, LeO (chancelref03_with.j1 k y0 y1 y2 y3 y4 y5) (chancelref03_with.j1 (k + 1) y0 y1 y2 y3 y4 y5))
  | 0 => ⟨fun _ _ _ _ _ r h => by simp [chancelref03_with.l0] at h, fun _ _ _ _ _ _ r h => by simp [chancelref03_with.j1] at h⟩
  | k + 1 => by
    obtain ⟨ih0, ih1⟩ := chancelref03_with.mono_l k
    refine ⟨?_, ?_⟩
    · intro y0 y1 y2 y3 y4
      unfold chancelref03_with.l0
      repeat' first
      | (with_reducible exact ih0 _ _ _ _ _)
      | (with_reducible exact ih1 _ _ _ _ _ _)
      | (with_reducible exact LeO.refl _)
      | (with_reducible exact LeO.none _)
      | (with_reducible refine LeO.ite ?_ ?_)
      | (with_reducible refine LeO.bind ?_ (fun _ => ?_))
      | exact ih0 _ _ _ _ _
      | exact ih1 _ _ _ _ _ _
      | exact LeO.none _
      | refine LeO.ite ?_ ?_
      | refine LeO.bind ?_ (fun _ => ?_)
    · intro y0 y1 y2 y3 y4 y5
      unfold chancelref03_with.j1
      repeat' first
      | (with_reducible exact ih0 _ _ _ _ _)
      | (with_reducible exact ih1 _ _ _ _ _ _)
      | (with_reducible exact LeO.refl _)
      | (with_reducible exact LeO.none _)
      | (with_reducible refine LeO.ite ?_ ?_)
      | (with_reducible refine LeO.bind ?_ (fun _ => ?_))
      | exact ih0 _ _ _ _ _
      | exact ih1 _ _ _ _ _ _
      | exact LeO.none _
      | refine LeO.ite ?_ ?_
      | refine LeO.bind ?_ (fun _ => ?_)
theorem chancelref03_with.mono : ∀ a0 a1 a2 k, LeO (chancelref03_with.f k a0 a1 a2) (chancelref03_with.f (k + 1) a0 a1 a2) := by
  intro a0 a1 a2 k
  obtain ⟨ih0, ih1⟩ := chancelref03_with.mono_l k
  unfold chancelref03_with.f
  repeat' first
      | (with_reducible exact ih0 _ _ _ _ _)
      | (with_reducible exact ih1 _ _ _ _ _ _)
      | (with_reducible exact LeO.refl _)
      | (with_reducible exact LeO.none _)
      | (with_reducible refine LeO.ite ?_ ?_)
      | (with_reducible refine LeO.bind ?_ (fun _ => ?_))
      | exact ih0 _ _ _ _ _
      | exact ih1 _ _ _ _ _ _
      | exact LeO.none _
      | refine LeO.ite ?_ ?_
      | refine LeO.bind ?_ (fun _ => ?_)
set_option maxHeartbeats 8000000 in
set_option maxRecDepth 100000 in
theorem chancelref03_with.calls (k : Nat) (A0 : Option Addr) (c0 : Nat) (l0 : List Int) (a1 : Int) (a2 : Bool) (r : List Int) (w : World) (hr0 : Kd.C (Kd.int .i64) w A0 l0.length l0) (hc0 : l0.length ≤ c0) (h : chancelref03_with.f k l0 a1 a2 = some r) :
    Calls Try.prog 30 #[.slice A0 l0.length c0, .int .i64 a1, .bool a2] w fun e w' => ∃ v0_ : Value, e = .returned (v0_) ∧ Kd.R (Kd.int .i64) 3 w' w.heap.size (fun _ => True) v0_ r ∧ Below w.heap.size w w' := by
  have HR0 := Aside0.mk hr0
  have HC0 := Aside0.mk hc0
  clear hr0 hc0
  have HB := Aside0.mk (Below.refl w.heap.size w)
  have H : (chancelref03_with.l0 k l0 a1 a2 ([] : List Int) 0) = some r := h
  clear h
  have H' := Aside0.mk H
  clear H
  go_enter Try.func30, Try.ntmps30
  go_wp2
  go_loopg [7, 8] k (fun kq v7 v8 w' => ∃ (x7_1 : List Int) (x8_1 : Int), v8 = .int .i64 x8_1 ∧ Aside0 (chancelref03_with.l0 kq l0 a1 a2 x7_1 x8_1 = some r) ∧ Aside0 (kq ≤ k) ∧ Aside0 (Kd.R (Kd.int .i64) 3 w' w.heap.size (fun _ => True) v7 x7_1) ∧ Aside0 (Below w.heap.size w w'))
  case atStart => exact ⟨(([] : List Int)), (0), (by first | rfl | (simp; done) | (simp [*]; done)), H', ⟨Nat.le_refl _⟩, ⟨by first | exact Kd.R_nil _ _ _ _ _ | exact Kd.N_nil _ _ _ _ _ | exact Kd.V_nil _ _ _ _ _ | exact Kd.Q_nil _ _ _ _ _ | exact Kd.S_nil _ _ _ _ _⟩, ⟨by repeat (first | (with_reducible first | exact HB.out | apply below_alloc | apply pw_below_drewN | apply below_drew1) | exact HB.out)⟩⟩
  case round =>
    clear H'
    try clear p2
    try clear c3
    obtain ⟨x7_1, x8_1, rfl, HA, HK1, HO_7, HB⟩ := hrel
    cases gk with
    | zero => exact absurd HA.out (by simp [chancelref03_with.l0])
    | succ k1 =>
      have H := HA.out
      clear HA
      simp only [chancelref03_with.l0] at H
      by_cases c4 : x8_1 < (l0.length : Int)
      · rw [if_pos c4] at H
        have c4b0 : decide (x8_1 < (l0.length : Int)) = true := decide_eq_true c4
        clear c4
        have HC5 := Aside0.mk H
        clear H
        go_upto_region 5 with (fail)
        go_cut [36] (fun v36 wc => ∃ (kq : Nat) (x36_4 : Bool), v36 = .bool x36_4 ∧ Aside0 (chancelref03_with.j1 kq l0 a1 a2 x7_1 x8_1 x36_4 = some r) ∧ Aside0 (kq ≤ k1) ∧ Aside0 (Kd.R (Kd.int .i64) 3 wc w.heap.size (fun _ => True) u7 x7_1) ∧ Aside0 (Below w.heap.size w wc))
        case first =>
          have H := HC5.out
          clear HC5
          by_cases c6 : a2 = true
          · subst c6
            have H1 : (if 0 ≤ x8_1 then (if (rd l0 x8_1) > a1 then (if x8_1 = 0 then (chancelref03_with.j1 k1 l0 a1 true x7_1 x8_1 true) else (if 0 ≤ (wrap64 (x8_1 - 1)) then (if (wrap64 (x8_1 - 1)) < (l0.length : Int) then (chancelref03_with.j1 k1 l0 a1 true x7_1 x8_1 (decide ((rd l0 (wrap64 (x8_1 - 1))) < a1))) else (none)) else (none))) else (chancelref03_with.j1 k1 l0 a1 true x7_1 x8_1 false)) else (none)) = some r := by rw [if_pos rfl] at H; exact H
            clear H
            have H := H1
            clear H1
            by_cases c7 : 0 ≤ x8_1
            · rw [if_pos c7] at H
              have c7b0 : decide (0 ≤ x8_1) = true := decide_eq_true c7
              clear c7
              (first | rw [c7b0] | (simp only [i64_w, i32_w]; rw [c7b0]) | skip)
              by_cases c8 : (rd l0 x8_1) > a1
              · rw [if_pos c8] at H
                have c8b0 : decide (a1 < (rd l0 x8_1)) = true := decide_eq_true c8
                clear c8
                by_cases c9 : x8_1 = 0
                · rw [if_pos c9] at H
                  have c9b0 : (x8_1 == 0) = true := beq_iff_eq.mpr c9
                  have c9b1 : (x8_1 != 0) = false := bne_eq_false_iff_eq.mpr c9
                  clear c9
                  have H' := Aside0.mk H
                  clear H
                  have p192 : 0 ≤ (x8_1 : Int) := of_decide_eq_true (by first | (with_reducible assumption) | assumption)
                  have q192 : x8_1 < (l0.length : Int) := of_decide_eq_true (by first | (with_reducible assumption) | assumption)
                  obtain ⟨ad192, e192, hx192_0⟩ := Kd.at_int HR0.out x8_1 p192 q192
                  cases e192
                  replace hx192_0 := (HB.out.cell (World.block_lt_of_cell? w _ hx192_0)).trans hx192_0
                  replace p192 := eq_true p192
                  replace q192 := eq_true q192
                  go_wp2
                  go_meet
                  case rel => exact ⟨_, (true), (by first | rfl | (simp; done) | (simp [*]; done)), H', ⟨by have := HK1.out; first | omega | exact Nat.le_refl _⟩, ⟨by (with_reducible repeat (first | apply Kd.R_alloc | apply Kd.R_drewN | apply Kd.R_drew)); exact HO_7.out⟩, ⟨by repeat (first | (with_reducible first | exact HB.out | apply below_alloc | apply pw_below_drewN | apply below_drew1) | exact HB.out)⟩⟩
                · rw [if_neg c9] at H
                  have c9b0 : (x8_1 == 0) = false := beq_eq_false_iff_ne.mpr c9
                  have c9b1 : (x8_1 != 0) = true := bne_iff_ne.mpr c9
                  obtain ⟨ji10, hji10⟩ : ∃ j_ : Int, (wrap64 (x8_1 - 1)) = j_ := ⟨_, rfl⟩
                  replace H : (if 0 ≤ (ji10) then (if (ji10) < (l0.length : Int) then (chancelref03_with.j1 k1 l0 a1 true x7_1 x8_1 (decide ((rd l0 (ji10)) < a1))) else (none)) else (none)) = some r := by first | (rw [hji10] at H; exact H) | (simp only [hji10] at H ⊢; exact H)
                  have hji10w : (IntKind.i64.wrap (x8_1 - 1)) = ji10 := (i64_w _).trans hji10
                  by_cases c11 : 0 ≤ (ji10)
                  · rw [if_pos c11] at H
                    have c11b0 : decide (0 ≤ (ji10)) = true := decide_eq_true c11
                    clear c11
                    by_cases c12 : (ji10) < (l0.length : Int)
                    · rw [if_pos c12] at H
                      have c12b0 : decide ((ji10) < (l0.length : Int)) = true := decide_eq_true c12
                      clear c12
                      have H' := Aside0.mk H
                      clear H
                      have p192 : 0 ≤ (x8_1 : Int) := of_decide_eq_true (by first | (with_reducible assumption) | assumption)
                      have q192 : x8_1 < (l0.length : Int) := of_decide_eq_true (by first | (with_reducible assumption) | assumption)
                      obtain ⟨ad192, e192, hx192_0⟩ := Kd.at_int HR0.out x8_1 p192 q192
                      cases e192
                      replace hx192_0 := (HB.out.cell (World.block_lt_of_cell? w _ hx192_0)).trans hx192_0
                      replace p192 := eq_true p192
                      replace q192 := eq_true q192
                      have p193 : 0 ≤ ((ji10) : Int) := of_decide_eq_true (by first | (with_reducible assumption) | assumption)
                      have q193 : (ji10) < (l0.length : Int) := of_decide_eq_true (by first | (with_reducible assumption) | assumption)
                      obtain ⟨ad193, e193, hx193_0⟩ := Kd.at_int HR0.out (ji10) p193 q193
                      obtain rfl : ad192 = ad193 := (by injection e193)
                      replace hx193_0 := (HB.out.cell (World.block_lt_of_cell? w _ hx193_0)).trans hx193_0
                      replace p193 := eq_true p193
                      replace q193 := eq_true q193
                      go_wp2
                      go_meet
                      case rel => exact ⟨_, (decide ((rd l0 (ji10)) < a1)), (by first | rfl | (simp; done) | (simp only [← hji10] <;> (first | rfl | simp)) | (simp [*]; done)), H', ⟨by have := HK1.out; first | omega | exact Nat.le_refl _⟩, ⟨by (with_reducible repeat (first | apply Kd.R_alloc | apply Kd.R_drewN | apply Kd.R_drew)); exact HO_7.out⟩, ⟨by repeat (first | (with_reducible first | exact HB.out | apply below_alloc | apply pw_below_drewN | apply below_drew1) | exact HB.out)⟩⟩
                    · rw [if_neg c12] at H
                      exact absurd H (by simp)
                  · rw [if_neg c11] at H
                    exact absurd H (by simp)
              · rw [if_neg c8] at H
                have c8b0 : decide (a1 < (rd l0 x8_1)) = false := decide_eq_false c8
                clear c8
                have H' := Aside0.mk H
                clear H
                have p192 : 0 ≤ (x8_1 : Int) := of_decide_eq_true (by first | (with_reducible assumption) | assumption)
                have q192 : x8_1 < (l0.length : Int) := of_decide_eq_true (by first | (with_reducible assumption) | assumption)
                obtain ⟨ad192, e192, hx192_0⟩ := Kd.at_int HR0.out x8_1 p192 q192
                cases e192
                replace hx192_0 := (HB.out.cell (World.block_lt_of_cell? w _ hx192_0)).trans hx192_0
                replace p192 := eq_true p192
                replace q192 := eq_true q192
                go_wp2
                go_meet
                case rel => exact ⟨_, (false), (by first | rfl | (simp; done) | (simp [*]; done)), H', ⟨by have := HK1.out; first | omega | exact Nat.le_refl _⟩, ⟨by (with_reducible repeat (first | apply Kd.R_alloc | apply Kd.R_drewN | apply Kd.R_drew)); exact HO_7.out⟩, ⟨by repeat (first | (with_reducible first | exact HB.out | apply below_alloc | apply pw_below_drewN | apply below_drew1) | exact HB.out)⟩⟩
            · rw [if_neg c7] at H
              exact absurd H (by simp)
          · replace c6 := Bool.eq_false_iff.mpr c6
            subst c6
            have H1 : (chancelref03_with.j1 k1 l0 a1 false x7_1 x8_1 false) = some r := by rw [if_neg (show ¬ (false = true) by decide)] at H; exact H
            clear H
            have H := H1
            clear H1
            have H' := Aside0.mk H
            clear H
            go_wp2
            go_meet
            case rel => exact ⟨_, (false), (by first | rfl | (simp; done) | (simp [*]; done)), H', ⟨by have := HK1.out; first | omega | exact Nat.le_refl _⟩, ⟨by (with_reducible repeat (first | apply Kd.R_alloc | apply Kd.R_drewN | apply Kd.R_drew)); exact HO_7.out⟩, ⟨by repeat (first | (with_reducible first | exact HB.out | apply below_alloc | apply pw_below_drewN | apply below_drew1) | exact HB.out)⟩⟩
        case rest =>
          clear HC5
          try clear c1
          try clear p1
          try clear q1
          try clear hx1
          try clear p2
          try clear c3
          try clear c4
          try clear c4b0
          try clear c6
          try clear p6
          try clear c7
          try clear c7b0
          try clear c8
          try clear c8b0
          try clear c9
          try clear c9b0
          try clear c9b1
          try clear c11
          try clear c11b0
          try clear c12
          try clear c12b0
          try clear hx192_0
          try clear hx193_0
          try clear p192
          try clear p193
          try clear p2
          try clear q192
          try clear q193
          obtain ⟨kq, x36_4, rfl, HA, HJ4, HO_7, HB⟩ := hcut
          cases kq with
          | zero => exact absurd HA.out (by simp [chancelref03_with.j1])
          | succ kj4 =>
            have H := HA.out
            clear HA
            simp only [chancelref03_with.j1] at H
            by_cases c13 : x36_4 = true
            · subst c13
              have H1 : (if x7_1.length < 17592186044416 then ((some (x7_1 ++ [a1] : List Int)).bind fun y194 => (if a2 = true then (if 0 ≤ x8_1 then (if x8_1 < (l0.length : Int) then (if y194.length < 17592186044416 then (chancelref03_with.l0 kj4 l0 a1 a2 (y194 ++ [rd l0 x8_1]) (wrap64 (x8_1 + 1))) else (none)) else (none)) else (none)) else (if 0 ≤ x8_1 then (if x8_1 < (l0.length : Int) then (if (rd l0 x8_1) = a1 then (chancelref03_with.l0 kj4 l0 a1 a2 y194 (wrap64 (x8_1 + 1))) else (if y194.length < 17592186044416 then (chancelref03_with.l0 kj4 l0 a1 a2 (y194 ++ [rd l0 x8_1]) (wrap64 (x8_1 + 1))) else (none))) else (none)) else (none)))) else (none)) = some r := by rw [if_pos rfl] at H; exact H
              clear H
              have H := H1
              clear H1
              by_cases c14 : x7_1.length < 17592186044416
              · rw [if_pos c14] at H
                have LMc14 := Aside0.mk c14
                clear c14
                obtain ⟨y194, hy194⟩ : ∃ y_ : List Int, y_ = (x7_1 ++ [a1]) := ⟨_, rfl⟩
                replace H : (if a2 = true then (if 0 ≤ x8_1 then (if x8_1 < (l0.length : Int) then (if y194.length < 17592186044416 then (chancelref03_with.l0 kj4 l0 a1 a2 (y194 ++ [rd l0 x8_1]) (wrap64 (x8_1 + 1))) else (none)) else (none)) else (none)) else (if 0 ≤ x8_1 then (if x8_1 < (l0.length : Int) then (if (rd l0 x8_1) = a1 then (chancelref03_with.l0 kj4 l0 a1 a2 y194 (wrap64 (x8_1 + 1))) else (if y194.length < 17592186044416 then (chancelref03_with.l0 kj4 l0 a1 a2 (y194 ++ [rd l0 x8_1]) (wrap64 (x8_1 + 1))) else (none))) else (none)) else (none))) = some r := by first | (rw [hy194]; with_reducible exact H) | (have H2_ := (Option.bind_some _ _).symm.trans H; rw [hy194]; with_reducible exact H2_) | (have H2_ := (Option.bind_some _ _).symm.trans H; with_reducible exact H2_) | with_reducible exact H | (rw [hy194]; exact H) | exact H
                have Ny194 := Aside0.mk hy194
                clear hy194
                by_cases c15 : a2 = true
                · subst c15
                  have H1 : (if 0 ≤ x8_1 then (if x8_1 < (l0.length : Int) then (if y194.length < 17592186044416 then (chancelref03_with.l0 kj4 l0 a1 true (y194 ++ [rd l0 x8_1]) (wrap64 (x8_1 + 1))) else (none)) else (none)) else (none)) = some r := by rw [if_pos rfl] at H; exact H
                  clear H
                  have H := H1
                  clear H1
                  by_cases c16 : 0 ≤ x8_1
                  · rw [if_pos c16] at H
                    have c16b0 : decide (0 ≤ x8_1) = true := decide_eq_true c16
                    clear c16
                    by_cases c17 : x8_1 < (l0.length : Int)
                    · rw [if_pos c17] at H
                      have c17b0 : decide (x8_1 < (l0.length : Int)) = true := decide_eq_true c17
                      clear c17
                      by_cases c18 : y194.length < 17592186044416
                      · rw [if_pos c18] at H
                        have LMc18 := Aside0.mk c18
                        clear c18
                        obtain ⟨y198, hy198⟩ : ∃ y_ : List Int, y_ = (y194 ++ [rd l0 x8_1]) := ⟨_, rfl⟩
                        replace H : (chancelref03_with.l0 kj4 l0 a1 true y198 (wrap64 (x8_1 + 1))) = some r := by first | (rw [hy198]; with_reducible exact H) | (have H2_ := (Option.bind_some _ _).symm.trans H; rw [hy198]; with_reducible exact H2_) | (have H2_ := (Option.bind_some _ _).symm.trans H; with_reducible exact H2_) | with_reducible exact H | (rw [hy198]; exact H) | exact H
                        have Ny198 := Aside0.mk hy198
                        clear hy198
                        have H' := Aside0.mk H
                        clear H
                        go_wp2_with (first | ((with_reducible refine gate_builtin (b := .append) (xs := #[.tmp 37, .tmp 39]) rfl ?_); (try (refine gate_guard (by rfl) ?_; dsimp only)); at_builtin; refine Kd.R_append (Kd.int .i64) (w0 := w) w.heap.size rfl (.tmp 37) (.tmp 39) 27 3 (.int .i64 0) 8 rfl Try.underlying27 info3 rfl (by decide) (by omega) u7 x7_1 a1 [.int .i64 a1] (fun _ => True) (fun _ => False) rfl rfl ?aP (fun _ hk => hk.elim) ?aF ?aO ?aB ?aS ?aL ?_; (case aP => exact rfl); (case aB => exact (by repeat (first | (with_reducible first | exact HB.out | apply below_alloc | apply pw_below_drewN | apply below_drew1) | exact HB.out))); (case aF => exact (fun _ _ => trivial)); (case aO => exact (by (with_reducible repeat (first | apply Kd.R_alloc | apply Kd.R_drewN | apply Kd.R_drew)); exact HO_7.out)); (case aS => exact (below_size (by repeat (first | (with_reducible first | exact HB.out | apply below_alloc | apply pw_below_drewN | apply below_drew1) | exact HB.out)))); (case aL => have := LMc14.out; omega); intro v195 w19 ho hb hg hat; rw [← Ny194.out] at ho; have n0_ := Aside0.mk (hb); have n1_ := Aside0.mk (ho); clear HB; clear HO_7; have HB := n0_; have HO196 := n1_; clear n0_ n1_; clear ho hb hg hat; have p197 : 0 ≤ (x8_1 : Int) := of_decide_eq_true (by first | (with_reducible assumption) | assumption); have q197 : x8_1 < (l0.length : Int) := of_decide_eq_true (by first | (with_reducible assumption) | assumption); obtain ⟨ad197, e197, hx197_0⟩ := Kd.at_int HR0.out x8_1 p197 q197; cases e197; replace hx197_0 := (HB.out.cell (World.block_lt_of_cell? w _ hx197_0)).trans hx197_0; replace p197 := eq_true p197; replace q197 := eq_true q197) | ((with_reducible refine gate_builtin (b := .append) (xs := #[.tmp 50, .tmp 55]) rfl ?_); (try (refine gate_guard (by rfl) ?_; dsimp only)); at_builtin; refine Kd.R_append (Kd.int .i64) (w0 := w) w.heap.size rfl (.tmp 50) (.tmp 55) 27 3 (.int .i64 0) 8 rfl Try.underlying27 info3 rfl (by decide) (by omega) v195 y194 (rd l0 x8_1) [.int .i64 (rd l0 x8_1)] (fun _ => True) (fun _ => False) rfl rfl ?aP (fun _ hk => hk.elim) ?aF ?aO ?aB ?aS ?aL ?_; (case aP => exact rfl); (case aB => exact (by repeat (first | (with_reducible first | exact HB.out | apply below_alloc | apply pw_below_drewN | apply below_drew1) | exact HB.out))); (case aF => exact (fun _ _ => trivial)); (case aO => exact (by (with_reducible repeat (first | apply Kd.R_alloc | apply Kd.R_drewN | apply Kd.R_drew)); exact HO196.out)); (case aS => exact (below_size (by repeat (first | (with_reducible first | exact HB.out | apply below_alloc | apply pw_below_drewN | apply below_drew1) | exact HB.out)))); (case aL => have := LMc18.out; omega); intro v199 w20 ho hb hg hat; rw [← Ny198.out] at ho; have n0_ := Aside0.mk (hb); have n1_ := Aside0.mk (ho); clear HB; clear HO196; have HB := n0_; have HO200 := n1_; clear n0_ n1_; clear ho hb hg hat))
                        go_roundg kj4
                        case measure => have := HK1.out; have := HJ4.out; omega
                        case rel => exact ⟨(y198), (wrap64 (x8_1 + 1)), (by first | rfl | (simp; done) | (simp [*]; done)), H', ⟨by have := HK1.out; have := HJ4.out; omega⟩, ⟨by (with_reducible repeat (first | apply Kd.R_alloc | apply Kd.R_drewN | apply Kd.R_drew)); exact HO200.out⟩, ⟨by repeat (first | (with_reducible first | exact HB.out | apply below_alloc | apply pw_below_drewN | apply below_drew1) | exact HB.out)⟩⟩
                      · rw [if_neg c18] at H
                        exact absurd H (by simp)
                    · rw [if_neg c17] at H
                      exact absurd H (by simp)
                  · rw [if_neg c16] at H
                    exact absurd H (by simp)
                · replace c15 := Bool.eq_false_iff.mpr c15
                  subst c15
                  have H1 : (if 0 ≤ x8_1 then (if x8_1 < (l0.length : Int) then (if (rd l0 x8_1) = a1 then (chancelref03_with.l0 kj4 l0 a1 false y194 (wrap64 (x8_1 + 1))) else (if y194.length < 17592186044416 then (chancelref03_with.l0 kj4 l0 a1 false (y194 ++ [rd l0 x8_1]) (wrap64 (x8_1 + 1))) else (none))) else (none)) else (none)) = some r := by rw [if_neg (show ¬ (false = true) by decide)] at H; exact H
                  clear H
                  have H := H1
                  clear H1
                  by_cases c21 : 0 ≤ x8_1
                  · rw [if_pos c21] at H
                    have c21b0 : decide (0 ≤ x8_1) = true := decide_eq_true c21
                    clear c21
                    by_cases c22 : x8_1 < (l0.length : Int)
                    · rw [if_pos c22] at H
                      have c22b0 : decide (x8_1 < (l0.length : Int)) = true := decide_eq_true c22
                      clear c22
                      by_cases c23 : (rd l0 x8_1) = a1
                      · rw [if_pos c23] at H
                        have c23b0 : ((rd l0 x8_1) == a1) = true := beq_iff_eq.mpr c23
                        have c23b1 : ((rd l0 x8_1) != a1) = false := bne_eq_false_iff_eq.mpr c23
                        clear c23
                        have H' := Aside0.mk H
                        clear H
                        go_wp2_with (first | ((with_reducible refine gate_builtin (b := .append) (xs := #[.tmp 37, .tmp 39]) rfl ?_); (try (refine gate_guard (by rfl) ?_; dsimp only)); at_builtin; refine Kd.R_append (Kd.int .i64) (w0 := w) w.heap.size rfl (.tmp 37) (.tmp 39) 27 3 (.int .i64 0) 8 rfl Try.underlying27 info3 rfl (by decide) (by omega) u7 x7_1 a1 [.int .i64 a1] (fun _ => True) (fun _ => False) rfl rfl ?aP (fun _ hk => hk.elim) ?aF ?aO ?aB ?aS ?aL ?_; (case aP => exact rfl); (case aB => exact (by repeat (first | (with_reducible first | exact HB.out | apply below_alloc | apply pw_below_drewN | apply below_drew1) | exact HB.out))); (case aF => exact (fun _ _ => trivial)); (case aO => exact (by (with_reducible repeat (first | apply Kd.R_alloc | apply Kd.R_drewN | apply Kd.R_drew)); exact HO_7.out)); (case aS => exact (below_size (by repeat (first | (with_reducible first | exact HB.out | apply below_alloc | apply pw_below_drewN | apply below_drew1) | exact HB.out)))); (case aL => have := LMc14.out; omega); intro v195 w24 ho hb hg hat; rw [← Ny194.out] at ho; have n0_ := Aside0.mk (hb); have n1_ := Aside0.mk (ho); clear HB; clear HO_7; have HB := n0_; have HO196 := n1_; clear n0_ n1_; clear ho hb hg hat; have p201 : 0 ≤ (x8_1 : Int) := of_decide_eq_true (by first | (with_reducible assumption) | assumption); have q201 : x8_1 < (l0.length : Int) := of_decide_eq_true (by first | (with_reducible assumption) | assumption); obtain ⟨ad201, e201, hx201_0⟩ := Kd.at_int HR0.out x8_1 p201 q201; cases e201; replace hx201_0 := (HB.out.cell (World.block_lt_of_cell? w _ hx201_0)).trans hx201_0; replace p201 := eq_true p201; replace q201 := eq_true q201))
                        go_roundg kj4
                        case measure => have := HK1.out; have := HJ4.out; omega
                        case rel => exact ⟨(y194), (wrap64 (x8_1 + 1)), (by first | rfl | (simp; done) | (simp [*]; done)), H', ⟨by have := HK1.out; have := HJ4.out; omega⟩, ⟨by (with_reducible repeat (first | apply Kd.R_alloc | apply Kd.R_drewN | apply Kd.R_drew)); exact HO196.out⟩, ⟨by repeat (first | (with_reducible first | exact HB.out | apply below_alloc | apply pw_below_drewN | apply below_drew1) | exact HB.out)⟩⟩
                      · rw [if_neg c23] at H
                        have c23b0 : ((rd l0 x8_1) == a1) = false := beq_eq_false_iff_ne.mpr c23
                        have c23b1 : ((rd l0 x8_1) != a1) = true := bne_iff_ne.mpr c23
                        by_cases c25 : y194.length < 17592186044416
                        · rw [if_pos c25] at H
                          have LMc25 := Aside0.mk c25
                          clear c25
                          obtain ⟨y203, hy203⟩ : ∃ y_ : List Int, y_ = (y194 ++ [rd l0 x8_1]) := ⟨_, rfl⟩
                          replace H : (chancelref03_with.l0 kj4 l0 a1 false y203 (wrap64 (x8_1 + 1))) = some r := by first | (rw [hy203]; with_reducible exact H) | (have H2_ := (Option.bind_some _ _).symm.trans H; rw [hy203]; with_reducible exact H2_) | (have H2_ := (Option.bind_some _ _).symm.trans H; with_reducible exact H2_) | with_reducible exact H | (rw [hy203]; exact H) | exact H
                          have Ny203 := Aside0.mk hy203
                          clear hy203
                          have H' := Aside0.mk H
                          clear H
                          go_wp2_with (first | ((with_reducible refine gate_builtin (b := .append) (xs := #[.tmp 37, .tmp 39]) rfl ?_); (try (refine gate_guard (by rfl) ?_; dsimp only)); at_builtin; refine Kd.R_append (Kd.int .i64) (w0 := w) w.heap.size rfl (.tmp 37) (.tmp 39) 27 3 (.int .i64 0) 8 rfl Try.underlying27 info3 rfl (by decide) (by omega) u7 x7_1 a1 [.int .i64 a1] (fun _ => True) (fun _ => False) rfl rfl ?aP (fun _ hk => hk.elim) ?aF ?aO ?aB ?aS ?aL ?_; (case aP => exact rfl); (case aB => exact (by repeat (first | (with_reducible first | exact HB.out | apply below_alloc | apply pw_below_drewN | apply below_drew1) | exact HB.out))); (case aF => exact (fun _ _ => trivial)); (case aO => exact (by (with_reducible repeat (first | apply Kd.R_alloc | apply Kd.R_drewN | apply Kd.R_drew)); exact HO_7.out)); (case aS => exact (below_size (by repeat (first | (with_reducible first | exact HB.out | apply below_alloc | apply pw_below_drewN | apply below_drew1) | exact HB.out)))); (case aL => have := LMc14.out; omega); intro v195 w26 ho hb hg hat; rw [← Ny194.out] at ho; have n0_ := Aside0.mk (hb); have n1_ := Aside0.mk (ho); clear HB; clear HO_7; have HB := n0_; have HO196 := n1_; clear n0_ n1_; clear ho hb hg hat; have p201 : 0 ≤ (x8_1 : Int) := of_decide_eq_true (by first | (with_reducible assumption) | assumption); have q201 : x8_1 < (l0.length : Int) := of_decide_eq_true (by first | (with_reducible assumption) | assumption); obtain ⟨ad201, e201, hx201_0⟩ := Kd.at_int HR0.out x8_1 p201 q201; cases e201; replace hx201_0 := (HB.out.cell (World.block_lt_of_cell? w _ hx201_0)).trans hx201_0; replace p201 := eq_true p201; replace q201 := eq_true q201; have p202 : 0 ≤ (x8_1 : Int) := of_decide_eq_true (by first | (with_reducible assumption) | assumption); have q202 : x8_1 < (l0.length : Int) := of_decide_eq_true (by first | (with_reducible assumption) | assumption); obtain ⟨ad202, e202, hx202_0⟩ := Kd.at_int HR0.out x8_1 p202 q202; obtain rfl : ad201 = ad202 := (by injection e202); replace hx202_0 := (HB.out.cell (World.block_lt_of_cell? w _ hx202_0)).trans hx202_0; replace p202 := eq_true p202; replace q202 := eq_true q202) | ((with_reducible refine gate_builtin (b := .append) (xs := #[.tmp 50, .tmp 55]) rfl ?_); (try (refine gate_guard (by rfl) ?_; dsimp only)); at_builtin; refine Kd.R_append (Kd.int .i64) (w0 := w) w.heap.size rfl (.tmp 50) (.tmp 55) 27 3 (.int .i64 0) 8 rfl Try.underlying27 info3 rfl (by decide) (by omega) v195 y194 (rd l0 x8_1) [.int .i64 (rd l0 x8_1)] (fun _ => True) (fun _ => False) rfl rfl ?aP (fun _ hk => hk.elim) ?aF ?aO ?aB ?aS ?aL ?_; (case aP => exact rfl); (case aB => exact (by repeat (first | (with_reducible first | exact HB.out | apply below_alloc | apply pw_below_drewN | apply below_drew1) | exact HB.out))); (case aF => exact (fun _ _ => trivial)); (case aO => exact (by (with_reducible repeat (first | apply Kd.R_alloc | apply Kd.R_drewN | apply Kd.R_drew)); exact HO196.out)); (case aS => exact (below_size (by repeat (first | (with_reducible first | exact HB.out | apply below_alloc | apply pw_below_drewN | apply below_drew1) | exact HB.out)))); (case aL => have := LMc25.out; omega); intro v204 w27 ho hb hg hat; rw [← Ny203.out] at ho; have n0_ := Aside0.mk (hb); have n1_ := Aside0.mk (ho); clear HB; clear HO196; have HB := n0_; have HO205 := n1_; clear n0_ n1_; clear ho hb hg hat))
                          go_roundg kj4
                          case measure => have := HK1.out; have := HJ4.out; omega
                          case rel => exact ⟨(y203), (wrap64 (x8_1 + 1)), (by first | rfl | (simp; done) | (simp [*]; done)), H', ⟨by have := HK1.out; have := HJ4.out; omega⟩, ⟨by (with_reducible repeat (first | apply Kd.R_alloc | apply Kd.R_drewN | apply Kd.R_drew)); exact HO205.out⟩, ⟨by repeat (first | (with_reducible first | exact HB.out | apply below_alloc | apply pw_below_drewN | apply below_drew1) | exact HB.out)⟩⟩
                        · rw [if_neg c25] at H
                          exact absurd H (by simp)
                    · rw [if_neg c22] at H
                      exact absurd H (by simp)
                  · rw [if_neg c21] at H
                    exact absurd H (by simp)
              · rw [if_neg c14] at H
                exact absurd H (by simp)
            · replace c13 := Bool.eq_false_iff.mpr c13
              subst c13
              have H1 : (if a2 = true then (if 0 ≤ x8_1 then (if x8_1 < (l0.length : Int) then (if x7_1.length < 17592186044416 then (chancelref03_with.l0 kj4 l0 a1 a2 (x7_1 ++ [rd l0 x8_1]) (wrap64 (x8_1 + 1))) else (none)) else (none)) else (none)) else (if 0 ≤ x8_1 then (if x8_1 < (l0.length : Int) then (if (rd l0 x8_1) = a1 then (chancelref03_with.l0 kj4 l0 a1 a2 x7_1 (wrap64 (x8_1 + 1))) else (if x7_1.length < 17592186044416 then (chancelref03_with.l0 kj4 l0 a1 a2 (x7_1 ++ [rd l0 x8_1]) (wrap64 (x8_1 + 1))) else (none))) else (none)) else (none))) = some r := by rw [if_neg (show ¬ (false = true) by decide)] at H; exact H
              clear H
              have H := H1
              clear H1
              by_cases c28 : a2 = true
              · subst c28
                have H1 : (if 0 ≤ x8_1 then (if x8_1 < (l0.length : Int) then (if x7_1.length < 17592186044416 then (chancelref03_with.l0 kj4 l0 a1 true (x7_1 ++ [rd l0 x8_1]) (wrap64 (x8_1 + 1))) else (none)) else (none)) else (none)) = some r := by rw [if_pos rfl] at H; exact H
                clear H
                have H := H1
                clear H1
                by_cases c29 : 0 ≤ x8_1
                · rw [if_pos c29] at H
                  have c29b0 : decide (0 ≤ x8_1) = true := decide_eq_true c29
                  clear c29
                  by_cases c30 : x8_1 < (l0.length : Int)
                  · rw [if_pos c30] at H
                    have c30b0 : decide (x8_1 < (l0.length : Int)) = true := decide_eq_true c30
                    clear c30
                    by_cases c31 : x7_1.length < 17592186044416
                    · rw [if_pos c31] at H
                      have LMc31 := Aside0.mk c31
                      clear c31
                      obtain ⟨y207, hy207⟩ : ∃ y_ : List Int, y_ = (x7_1 ++ [rd l0 x8_1]) := ⟨_, rfl⟩
                      replace H : (chancelref03_with.l0 kj4 l0 a1 true y207 (wrap64 (x8_1 + 1))) = some r := by first | (rw [hy207]; with_reducible exact H) | (have H2_ := (Option.bind_some _ _).symm.trans H; rw [hy207]; with_reducible exact H2_) | (have H2_ := (Option.bind_some _ _).symm.trans H; with_reducible exact H2_) | with_reducible exact H | (rw [hy207]; exact H) | exact H
                      have Ny207 := Aside0.mk hy207
                      clear hy207
                      have H' := Aside0.mk H
                      clear H
                      have p206 : 0 ≤ (x8_1 : Int) := of_decide_eq_true (by first | (with_reducible assumption) | assumption)
                      have q206 : x8_1 < (l0.length : Int) := of_decide_eq_true (by first | (with_reducible assumption) | assumption)
                      obtain ⟨ad206, e206, hx206_0⟩ := Kd.at_int HR0.out x8_1 p206 q206
                      cases e206
                      replace hx206_0 := (HB.out.cell (World.block_lt_of_cell? w _ hx206_0)).trans hx206_0
                      replace p206 := eq_true p206
                      replace q206 := eq_true q206
                      go_wp2_with (first | ((with_reducible refine gate_builtin (b := .append) (xs := #[.tmp 50, .tmp 55]) rfl ?_); (try (refine gate_guard (by rfl) ?_; dsimp only)); at_builtin; refine Kd.R_append (Kd.int .i64) (w0 := w) w.heap.size rfl (.tmp 50) (.tmp 55) 27 3 (.int .i64 0) 8 rfl Try.underlying27 info3 rfl (by decide) (by omega) u7 x7_1 (rd l0 x8_1) [.int .i64 (rd l0 x8_1)] (fun _ => True) (fun _ => False) rfl rfl ?aP (fun _ hk => hk.elim) ?aF ?aO ?aB ?aS ?aL ?_; (case aP => exact rfl); (case aB => exact (by repeat (first | (with_reducible first | exact HB.out | apply below_alloc | apply pw_below_drewN | apply below_drew1) | exact HB.out))); (case aF => exact (fun _ _ => trivial)); (case aO => exact (by (with_reducible repeat (first | apply Kd.R_alloc | apply Kd.R_drewN | apply Kd.R_drew)); exact HO_7.out)); (case aS => exact (below_size (by repeat (first | (with_reducible first | exact HB.out | apply below_alloc | apply pw_below_drewN | apply below_drew1) | exact HB.out)))); (case aL => have := LMc31.out; omega); intro v208 w32 ho hb hg hat; rw [← Ny207.out] at ho; have n0_ := Aside0.mk (hb); have n1_ := Aside0.mk (ho); clear HB; clear HO_7; have HB := n0_; have HO209 := n1_; clear n0_ n1_; clear ho hb hg hat))
                      go_roundg kj4
                      case measure => have := HK1.out; have := HJ4.out; omega
                      case rel => exact ⟨(y207), (wrap64 (x8_1 + 1)), (by first | rfl | (simp; done) | (simp [*]; done)), H', ⟨by have := HK1.out; have := HJ4.out; omega⟩, ⟨by (with_reducible repeat (first | apply Kd.R_alloc | apply Kd.R_drewN | apply Kd.R_drew)); exact HO209.out⟩, ⟨by repeat (first | (with_reducible first | exact HB.out | apply below_alloc | apply pw_below_drewN | apply below_drew1) | exact HB.out)⟩⟩
                    · rw [if_neg c31] at H
                      exact absurd H (by simp)
                  · rw [if_neg c30] at H
                    exact absurd H (by simp)
                · rw [if_neg c29] at H
                  exact absurd H (by simp)
              · replace c28 := Bool.eq_false_iff.mpr c28
                subst c28
                have H1 : (if 0 ≤ x8_1 then (if x8_1 < (l0.length : Int) then (if (rd l0 x8_1) = a1 then (chancelref03_with.l0 kj4 l0 a1 false x7_1 (wrap64 (x8_1 + 1))) else (if x7_1.length < 17592186044416 then (chancelref03_with.l0 kj4 l0 a1 false (x7_1 ++ [rd l0 x8_1]) (wrap64 (x8_1 + 1))) else (none))) else (none)) else (none)) = some r := by rw [if_neg (show ¬ (false = true) by decide)] at H; exact H
                clear H
                have H := H1
                clear H1
                by_cases c33 : 0 ≤ x8_1
                · rw [if_pos c33] at H
                  have c33b0 : decide (0 ≤ x8_1) = true := decide_eq_true c33
                  clear c33
                  by_cases c34 : x8_1 < (l0.length : Int)
                  · rw [if_pos c34] at H
                    have c34b0 : decide (x8_1 < (l0.length : Int)) = true := decide_eq_true c34
                    clear c34
                    by_cases c35 : (rd l0 x8_1) = a1
                    · rw [if_pos c35] at H
                      have c35b0 : ((rd l0 x8_1) == a1) = true := beq_iff_eq.mpr c35
                      have c35b1 : ((rd l0 x8_1) != a1) = false := bne_eq_false_iff_eq.mpr c35
                      clear c35
                      have H' := Aside0.mk H
                      clear H
                      have p210 : 0 ≤ (x8_1 : Int) := of_decide_eq_true (by first | (with_reducible assumption) | assumption)
                      have q210 : x8_1 < (l0.length : Int) := of_decide_eq_true (by first | (with_reducible assumption) | assumption)
                      obtain ⟨ad210, e210, hx210_0⟩ := Kd.at_int HR0.out x8_1 p210 q210
                      cases e210
                      replace hx210_0 := (HB.out.cell (World.block_lt_of_cell? w _ hx210_0)).trans hx210_0
                      replace p210 := eq_true p210
                      replace q210 := eq_true q210
                      go_wp2
                      go_roundg kj4
                      case measure => have := HK1.out; have := HJ4.out; omega
                      case rel => exact ⟨(x7_1), (wrap64 (x8_1 + 1)), (by first | rfl | (simp; done) | (simp [*]; done)), H', ⟨by have := HK1.out; have := HJ4.out; omega⟩, ⟨by (with_reducible repeat (first | apply Kd.R_alloc | apply Kd.R_drewN | apply Kd.R_drew)); exact HO_7.out⟩, ⟨by repeat (first | (with_reducible first | exact HB.out | apply below_alloc | apply pw_below_drewN | apply below_drew1) | exact HB.out)⟩⟩
                    · rw [if_neg c35] at H
                      have c35b0 : ((rd l0 x8_1) == a1) = false := beq_eq_false_iff_ne.mpr c35
                      have c35b1 : ((rd l0 x8_1) != a1) = true := bne_iff_ne.mpr c35
                      by_cases c36 : x7_1.length < 17592186044416
                      · rw [if_pos c36] at H
                        have LMc36 := Aside0.mk c36
                        clear c36
                        obtain ⟨y212, hy212⟩ : ∃ y_ : List Int, y_ = (x7_1 ++ [rd l0 x8_1]) := ⟨_, rfl⟩
                        replace H : (chancelref03_with.l0 kj4 l0 a1 false y212 (wrap64 (x8_1 + 1))) = some r := by first | (rw [hy212]; with_reducible exact H) | (have H2_ := (Option.bind_some _ _).symm.trans H; rw [hy212]; with_reducible exact H2_) | (have H2_ := (Option.bind_some _ _).symm.trans H; with_reducible exact H2_) | with_reducible exact H | (rw [hy212]; exact H) | exact H
                        have Ny212 := Aside0.mk hy212
                        clear hy212
                        have H' := Aside0.mk H
                        clear H
                        have p210 : 0 ≤ (x8_1 : Int) := of_decide_eq_true (by first | (with_reducible assumption) | assumption)
                        have q210 : x8_1 < (l0.length : Int) := of_decide_eq_true (by first | (with_reducible assumption) | assumption)
                        obtain ⟨ad210, e210, hx210_0⟩ := Kd.at_int HR0.out x8_1 p210 q210
                        cases e210
                        replace hx210_0 := (HB.out.cell (World.block_lt_of_cell? w _ hx210_0)).trans hx210_0
                        replace p210 := eq_true p210
                        replace q210 := eq_true q210
                        have p211 : 0 ≤ (x8_1 : Int) := of_decide_eq_true (by first | (with_reducible assumption) | assumption)
                        have q211 : x8_1 < (l0.length : Int) := of_decide_eq_true (by first | (with_reducible assumption) | assumption)
                        obtain ⟨ad211, e211, hx211_0⟩ := Kd.at_int HR0.out x8_1 p211 q211
                        obtain rfl : ad210 = ad211 := (by injection e211)
                        replace hx211_0 := (HB.out.cell (World.block_lt_of_cell? w _ hx211_0)).trans hx211_0
                        replace p211 := eq_true p211
                        replace q211 := eq_true q211
                        go_wp2_with (first | ((with_reducible refine gate_builtin (b := .append) (xs := #[.tmp 50, .tmp 55]) rfl ?_); (try (refine gate_guard (by rfl) ?_; dsimp only)); at_builtin; refine Kd.R_append (Kd.int .i64) (w0 := w) w.heap.size rfl (.tmp 50) (.tmp 55) 27 3 (.int .i64 0) 8 rfl Try.underlying27 info3 rfl (by decide) (by omega) u7 x7_1 (rd l0 x8_1) [.int .i64 (rd l0 x8_1)] (fun _ => True) (fun _ => False) rfl rfl ?aP (fun _ hk => hk.elim) ?aF ?aO ?aB ?aS ?aL ?_; (case aP => exact rfl); (case aB => exact (by repeat (first | (with_reducible first | exact HB.out | apply below_alloc | apply pw_below_drewN | apply below_drew1) | exact HB.out))); (case aF => exact (fun _ _ => trivial)); (case aO => exact (by (with_reducible repeat (first | apply Kd.R_alloc | apply Kd.R_drewN | apply Kd.R_drew)); exact HO_7.out)); (case aS => exact (below_size (by repeat (first | (with_reducible first | exact HB.out | apply below_alloc | apply pw_below_drewN | apply below_drew1) | exact HB.out)))); (case aL => have := LMc36.out; omega); intro v213 w37 ho hb hg hat; rw [← Ny212.out] at ho; have n0_ := Aside0.mk (hb); have n1_ := Aside0.mk (ho); clear HB; clear HO_7; have HB := n0_; have HO214 := n1_; clear n0_ n1_; clear ho hb hg hat))
                        go_roundg kj4
                        case measure => have := HK1.out; have := HJ4.out; omega
                        case rel => exact ⟨(y212), (wrap64 (x8_1 + 1)), (by first | rfl | (simp; done) | (simp [*]; done)), H', ⟨by have := HK1.out; have := HJ4.out; omega⟩, ⟨by (with_reducible repeat (first | apply Kd.R_alloc | apply Kd.R_drewN | apply Kd.R_drew)); exact HO214.out⟩, ⟨by repeat (first | (with_reducible first | exact HB.out | apply below_alloc | apply pw_below_drewN | apply below_drew1) | exact HB.out)⟩⟩
                      · rw [if_neg c36] at H
                        exact absurd H (by simp)
                  · rw [if_neg c34] at H
                    exact absurd H (by simp)
                · rw [if_neg c33] at H
                  exact absurd H (by simp)
      · rw [if_neg c4] at H
        have c4b0 : decide (x8_1 < (l0.length : Int)) = false := decide_eq_false c4
        clear c4
        by_cases c38 : a2 = true
        · subst c38
          have H1 : (if (l0.length : Int) = 0 then (if x7_1.length < 17592186044416 then (some (x7_1 ++ [a1])) else (none)) else (if 0 ≤ (wrap64 ((l0.length : Int) - 1)) then (if (wrap64 ((l0.length : Int) - 1)) < (l0.length : Int) then (if (rd l0 (wrap64 ((l0.length : Int) - 1))) < a1 then (if x7_1.length < 17592186044416 then (some (x7_1 ++ [a1])) else (none)) else (some x7_1)) else (none)) else (none))) = some r := by rw [if_pos rfl] at H; exact H
          clear H
          have H := H1
          clear H1
          by_cases c39 : (l0.length : Int) = 0
          · rw [if_pos c39] at H
            have c39b0 : ((l0.length : Int) == 0) = true := beq_iff_eq.mpr c39
            have c39b1 : ((l0.length : Int) != 0) = false := bne_eq_false_iff_eq.mpr c39
            clear c39
            by_cases c40 : x7_1.length < 17592186044416
            · rw [if_pos c40] at H
              have LMc40 := Aside0.mk c40
              clear c40
              obtain ⟨y185, hy185⟩ : ∃ y_ : List Int, y_ = (x7_1 ++ [a1]) := ⟨_, rfl⟩
              replace H : (some y185) = some r := by first | (rw [hy185]; with_reducible exact H) | (have H2_ := (Option.bind_some _ _).symm.trans H; rw [hy185]; with_reducible exact H2_) | (have H2_ := (Option.bind_some _ _).symm.trans H; with_reducible exact H2_) | with_reducible exact H | (rw [hy185]; exact H) | exact H
              have Ny185 := Aside0.mk hy185
              clear hy185
              obtain rfl := Option.some.inj H
              go_wp2_with (first | ((with_reducible refine gate_builtin (b := .append) (xs := #[.tmp 73, .tmp 75]) rfl ?_); (try (refine gate_guard (by rfl) ?_; dsimp only)); at_builtin; refine Kd.R_append (Kd.int .i64) (w0 := w) w.heap.size rfl (.tmp 73) (.tmp 75) 27 3 (.int .i64 0) 8 rfl Try.underlying27 info3 rfl (by decide) (by omega) u7 x7_1 a1 [.int .i64 a1] (fun _ => True) (fun _ => False) rfl rfl ?aP (fun _ hk => hk.elim) ?aF ?aO ?aB ?aS ?aL ?_; (case aP => exact rfl); (case aB => exact (by repeat (first | (with_reducible first | exact HB.out | apply below_alloc | apply pw_below_drewN | apply below_drew1) | exact HB.out))); (case aF => exact (fun _ _ => trivial)); (case aO => exact (by (with_reducible repeat (first | apply Kd.R_alloc | apply Kd.R_drewN | apply Kd.R_drew)); exact HO_7.out)); (case aS => exact (below_size (by repeat (first | (with_reducible first | exact HB.out | apply below_alloc | apply pw_below_drewN | apply below_drew1) | exact HB.out)))); (case aL => have := LMc40.out; omega); intro v186 w41 ho hb hg hat; rw [← Ny185.out] at ho; have n0_ := Aside0.mk (hb); have n1_ := Aside0.mk (ho); clear HB; clear HO_7; have HB := n0_; have HO187 := n1_; clear n0_ n1_; clear ho hb hg hat))
              go_ret
              exact ⟨_, by first | rfl | (simp [errW_none, errW_some] <;> rfl) | (simp [*, errW_none, errW_some] <;> rfl), by (with_reducible repeat (first | apply Kd.R_alloc | apply Kd.R_drewN | apply Kd.R_drew)); exact HO187.out, by repeat (first | (with_reducible first | exact HB.out | apply below_alloc | apply pw_below_drewN | apply below_drew1) | exact HB.out)⟩
            · rw [if_neg c40] at H
              exact absurd H (by simp)
          · rw [if_neg c39] at H
            have c39b0 : ((l0.length : Int) == 0) = false := beq_eq_false_iff_ne.mpr c39
            have c39b1 : ((l0.length : Int) != 0) = true := bne_iff_ne.mpr c39
            have c39b2 : ¬ (l0 = []) := fun h_ => c39 (by rw [h_]; rfl)
            obtain ⟨ji42, hji42⟩ : ∃ j_ : Int, (wrap64 ((l0.length : Int) - 1)) = j_ := ⟨_, rfl⟩
            replace H : (if 0 ≤ (ji42) then (if (ji42) < (l0.length : Int) then (if (rd l0 (ji42)) < a1 then (if x7_1.length < 17592186044416 then (some (x7_1 ++ [a1])) else (none)) else (some x7_1)) else (none)) else (none)) = some r := by first | (rw [hji42] at H; exact H) | (simp only [hji42] at H ⊢; exact H)
            have hji42w : (IntKind.i64.wrap ((l0.length : Int) - 1)) = ji42 := (i64_w _).trans hji42
            by_cases c43 : 0 ≤ (ji42)
            · rw [if_pos c43] at H
              have c43b0 : decide (0 ≤ (ji42)) = true := decide_eq_true c43
              clear c43
              by_cases c44 : (ji42) < (l0.length : Int)
              · rw [if_pos c44] at H
                have c44b0 : decide ((ji42) < (l0.length : Int)) = true := decide_eq_true c44
                clear c44
                by_cases c45 : (rd l0 (ji42)) < a1
                · rw [if_pos c45] at H
                  have c45b0 : decide ((rd l0 (ji42)) < a1) = true := decide_eq_true c45
                  clear c45
                  by_cases c46 : x7_1.length < 17592186044416
                  · rw [if_pos c46] at H
                    have LMc46 := Aside0.mk c46
                    clear c46
                    obtain ⟨y189, hy189⟩ : ∃ y_ : List Int, y_ = (x7_1 ++ [a1]) := ⟨_, rfl⟩
                    replace H : (some y189) = some r := by first | (rw [hy189]; with_reducible exact H) | (have H2_ := (Option.bind_some _ _).symm.trans H; rw [hy189]; with_reducible exact H2_) | (have H2_ := (Option.bind_some _ _).symm.trans H; with_reducible exact H2_) | with_reducible exact H | (rw [hy189]; exact H) | exact H
                    have Ny189 := Aside0.mk hy189
                    clear hy189
                    obtain rfl := Option.some.inj H
                    have p188 : 0 ≤ ((ji42) : Int) := of_decide_eq_true (by first | (with_reducible assumption) | assumption)
                    have q188 : (ji42) < (l0.length : Int) := of_decide_eq_true (by first | (with_reducible assumption) | assumption)
                    obtain ⟨ad188, e188, hx188_0⟩ := Kd.at_int HR0.out (ji42) p188 q188
                    cases e188
                    replace hx188_0 := (HB.out.cell (World.block_lt_of_cell? w _ hx188_0)).trans hx188_0
                    replace p188 := eq_true p188
                    replace q188 := eq_true q188
                    go_wp2_with (first | ((with_reducible refine gate_builtin (b := .append) (xs := #[.tmp 73, .tmp 75]) rfl ?_); (try (refine gate_guard (by rfl) ?_; dsimp only)); at_builtin; refine Kd.R_append (Kd.int .i64) (w0 := w) w.heap.size rfl (.tmp 73) (.tmp 75) 27 3 (.int .i64 0) 8 rfl Try.underlying27 info3 rfl (by decide) (by omega) u7 x7_1 a1 [.int .i64 a1] (fun _ => True) (fun _ => False) rfl rfl ?aP (fun _ hk => hk.elim) ?aF ?aO ?aB ?aS ?aL ?_; (case aP => exact rfl); (case aB => exact (by repeat (first | (with_reducible first | exact HB.out | apply below_alloc | apply pw_below_drewN | apply below_drew1) | exact HB.out))); (case aF => exact (fun _ _ => trivial)); (case aO => exact (by (with_reducible repeat (first | apply Kd.R_alloc | apply Kd.R_drewN | apply Kd.R_drew)); exact HO_7.out)); (case aS => exact (below_size (by repeat (first | (with_reducible first | exact HB.out | apply below_alloc | apply pw_below_drewN | apply below_drew1) | exact HB.out)))); (case aL => have := LMc46.out; omega); intro v190 w47 ho hb hg hat; rw [← Ny189.out] at ho; have n0_ := Aside0.mk (hb); have n1_ := Aside0.mk (ho); clear HB; clear HO_7; have HB := n0_; have HO191 := n1_; clear n0_ n1_; clear ho hb hg hat))
                    go_ret
                    exact ⟨_, by first | rfl | (simp [errW_none, errW_some] <;> rfl) | (simp only [← hji42]; first | rfl | (simp [errW_none, errW_some] <;> rfl)) | (simp [*, errW_none, errW_some] <;> rfl), by (with_reducible repeat (first | apply Kd.R_alloc | apply Kd.R_drewN | apply Kd.R_drew)); exact HO191.out, by repeat (first | (with_reducible first | exact HB.out | apply below_alloc | apply pw_below_drewN | apply below_drew1) | exact HB.out)⟩
                  · rw [if_neg c46] at H
                    exact absurd H (by simp)
                · rw [if_neg c45] at H
                  have c45b0 : decide ((rd l0 (ji42)) < a1) = false := decide_eq_false c45
                  clear c45
                  obtain rfl := Option.some.inj H
                  have p188 : 0 ≤ ((ji42) : Int) := of_decide_eq_true (by first | (with_reducible assumption) | assumption)
                  have q188 : (ji42) < (l0.length : Int) := of_decide_eq_true (by first | (with_reducible assumption) | assumption)
                  obtain ⟨ad188, e188, hx188_0⟩ := Kd.at_int HR0.out (ji42) p188 q188
                  cases e188
                  replace hx188_0 := (HB.out.cell (World.block_lt_of_cell? w _ hx188_0)).trans hx188_0
                  replace p188 := eq_true p188
                  replace q188 := eq_true q188
                  go_wp2
                  go_ret
                  exact ⟨_, by first | rfl | (simp [errW_none, errW_some] <;> rfl) | (simp only [← hji42]; first | rfl | (simp [errW_none, errW_some] <;> rfl)) | (simp [*, errW_none, errW_some] <;> rfl), by (with_reducible repeat (first | apply Kd.R_alloc | apply Kd.R_drewN | apply Kd.R_drew)); exact HO_7.out, by repeat (first | (with_reducible first | exact HB.out | apply below_alloc | apply pw_below_drewN | apply below_drew1) | exact HB.out)⟩
              · rw [if_neg c44] at H
                exact absurd H (by simp)
            · rw [if_neg c43] at H
              exact absurd H (by simp)
        · replace c38 := Bool.eq_false_iff.mpr c38
          subst c38
          have H1 : (some x7_1) = some r := by rw [if_neg (show ¬ (false = true) by decide)] at H; exact H
          clear H
          have H := H1
          clear H1
          obtain rfl := Option.some.inj H
          go_wp2
          go_ret
          exact ⟨_, by first | rfl | (simp [errW_none, errW_some] <;> rfl) | (simp [*, errW_none, errW_some] <;> rfl), by (with_reducible repeat (first | apply Kd.R_alloc | apply Kd.R_drewN | apply Kd.R_drew)); exact HO_7.out, by repeat (first | (with_reducible first | exact HB.out | apply below_alloc | apply pw_below_drewN | apply below_drew1) | exact HB.out)⟩

/-! ### chancelref03_Grant: function 20 -/
/-- What a world that has grown keeps: all blocks but a row. -/
def NearR (w : World) (row : Option Nat) (W : World) : Prop := w.heap.size ≤ W.heap.size ∧ ∀ k, k < w.heap.size → some k ≠ row → W.heap[k]? = w.heap[k]?
theorem NearR.of_below {w W : World} (row : Option Nat) (h : Below w.heap.size w W) : NearR w row W := ⟨h.size, fun k hk _ => h.block k hk⟩
theorem N_headR {d : Kd S29} {e : Nat} {w : World} {base : Nat} {ok : Nat → Prop} {ad : Addr} {n c : Nat} {xs : List S29} (h : Kd.N d e w base ok (.slice (some ad) n c) xs) : ∃ g, ad = ⟨g, 0, none⟩ := by
  obtain ⟨_, rows, _, hR, _⟩ := h
  exact Kd.R_head hR
theorem N_lenR {d : Kd S29} {e : Nat} {w : World} {base : Nat} {ok : Nat → Prop} {A : Option Addr} {n c : Nat} {xs : List S29} (h : Kd.N d e w base ok (.slice A n c) xs) : n = xs.length := (Kd.N_reads' h).1
theorem ownN_T29R {w : World} {base : Nat} {ok : Nat → Prop} {A : Option Addr} {n c : Nat} {xs : List S29} (h : Kd.N k29 29 w base ok (.slice A n c) xs) (i : Nat) (h1 : i < n) : ∃ ad A2 c2 A3 c3 cells, A = some ad ∧ w.heap[ad.block]? = some (.cells cells 29 (0, 0)) ∧
    w.cell? (ad.add (i * 4)) = some (.int .i64 (rd_T29 xs (i : Int)).f0) ∧ w.cell? ⟨(ad.add (i * 4)).block, (ad.add (i * 4)).off + 1, none⟩ = some (.int .i64 (rd_T29 xs (i : Int)).f1) ∧
    w.cell? ⟨(ad.add (i * 4)).block, (ad.add (i * 4)).off + 2, none⟩ = some (.slice A2 (rd_T29 xs (i : Int)).f2.length c2) ∧ w.cell? ⟨(ad.add (i * 4)).block, (ad.add (i * 4)).off + 3, none⟩ = some (.slice A3 (rd_T29 xs (i : Int)).f3.length c3) ∧
    w.frozen? ⟨(ad.add (i * 4)).block, (ad.add (i * 4)).off + 2, none⟩ = false ∧ w.frozen? ⟨(ad.add (i * 4)).block, (ad.add (i * 4)).off + 3, none⟩ = false ∧
    (rd_T29 xs (i : Int)).f2.length ≤ c2 ∧ (rd_T29 xs (i : Int)).f3.length ≤ c3 ∧
    Kd.F (Kd.int .i64) w (fun k => ok k ∧ k ≠ ad.block) A2 (rd_T29 xs (i : Int)).f2.length (rd_T29 xs (i : Int)).f2 ∧ Kd.F (Kd.int .i64) w (fun k => ok k ∧ k ≠ ad.block) A3 (rd_T29 xs (i : Int)).f3.length (rd_T29 xs (i : Int)).f3 := by
  obtain ⟨g, cap, he, _, _, cells, hcells⟩ := Kd.N_form h (by have := N_lenR h; omega)
  injection he with hA
  subst hA
  obtain ⟨ce, hcl, hK, hcc, hfr⟩ := Kd.N_elem h z29 (i : Int) (by omega) (by omega)
  simp only [Int.toNat_natCast] at hK hcc hfr
  obtain ⟨A2, c2, A3, c3, rfl, l2, g2, l3, g3⟩ := k29_openF hK
  have hsz : k29.sz = 4 := rfl
  rw [hsz] at hcc hfr
  have e2 : (⟨g, 0, none⟩ : Addr).add (i * 4) = ⟨g, i * 4, none⟩ := by rw [add_at, Nat.zero_add]
  refine ⟨⟨g, 0, none⟩, A2, c2, A3, c3, cells, rfl, hcells, ?_, ?_, ?_, ?_, ?_, ?_, l2, l3, g2, g3⟩ <;> rw [e2]
  · exact hcc 0 _ rfl
  · exact hcc 1 _ rfl
  · exact hcc 2 _ rfl
  · exact hcc 3 _ rfl
  · exact hfr 2
  · exact hfr 3
def whoOfR (x : S29) (write : Bool) : List Int := if write = true then x.f3 else x.f2
def withWhoR (x : S29) (write : Bool) (L : List Int) : S29 := if write = true then ⟨x.f0, x.f1, x.f2, L⟩ else ⟨x.f0, x.f1, L, x.f3⟩
theorem p_cellR {W : World} {ad : Addr} {g n J : Nat} {cur : Array Value} {v : Value} (had : ad = ⟨g, 0, none⟩) (h : W.heap[g]? = some (.cells cur 29 (0, 0))) (hq : cur[n * 4 + J]? = some v) :
    W.cell? ⟨(ad.add (n * 4)).block, (ad.add (n * 4)).off + J, none⟩ = some v := by
  subst had
  rw [add_at, Nat.zero_add, cell_of_row W g _ cur 29 (0, 0) h]
  exact hq
theorem p_frozenR {W : World} {ad : Addr} {g n J : Nat} {cur : Array Value} (had : ad = ⟨g, 0, none⟩) (h : W.heap[g]? = some (.cells cur 29 (0, 0))) :
    W.frozen? ⟨(ad.add (n * 4)).block, (ad.add (n * 4)).off + J, none⟩ = false := by
  subst had
  rw [add_at]
  exact blk_frozen h _
theorem p_setR {W : World} {ad : Addr} {g n J : Nat} {cur : Array Value} (v : Value) (had : ad = ⟨g, 0, none⟩) (h : W.heap[g]? = some (.cells cur 29 (0, 0))) :
    (W.setCell ⟨(ad.add (n * 4)).block, (ad.add (n * 4)).off + J, none⟩ v).heap[g]? = some (.cells (cur.setIfInBounds (n * 4 + J) v) 29 (0, 0)) := by
  subst had
  rw [add_at, Nat.zero_add]
  exact blk_set h _ v
theorem p_blockR {ad : Addr} {g n : Nat} (had : ad = ⟨g, 0, none⟩) : (ad.add (n * 4)).block = g := by subst had; rw [add_at]
theorem p_nearR {w1 W : World} {ad : Addr} {g n J : Nat} (v : Value) (had : ad = ⟨g, 0, none⟩) (h : NearR w1 (some g) W) : NearR w1 (some g) (W.setCell ⟨(ad.add (n * 4)).block, (ad.add (n * 4)).off + J, none⟩ v) :=
  ⟨by simpa [World.setCell] using h.1, fun k hk hr => (Below.heap_setCell W _ v k (by rw [show (⟨(ad.add (n * 4)).block, (ad.add (n * 4)).off + J, none⟩ : Addr).block = g from p_blockR had]; exact fun e => hr (by rw [e]))).trans (h.2 k hk hr)⟩
theorem p_belowR {w W : World} {b : Nat} {ad : Addr} {g n J : Nat} (v : Value) (had : ad = ⟨g, 0, none⟩) (h : Below b w W) (hb : b ≤ g) : Below b w (W.setCell ⟨(ad.add (n * 4)).block, (ad.add (n * 4)).off + J, none⟩ v) :=
  h.setCell (by rw [show (⟨(ad.add (n * 4)).block, (ad.add (n * 4)).off + J, none⟩ : Addr).block = g from p_blockR had]; exact hb) v
theorem p_rowR {W : World} {base : Nat} {ad : Addr} {g n J : Nat} {u : Value} {xs : List Int} (v : Value) (had : ad = ⟨g, 0, none⟩) (h : Kd.R (Kd.int .i64) 3 W base (fun _ => True) u xs) (hg : g < base) :
    Kd.R (Kd.int .i64) 3 (W.setCell ⟨(ad.add (n * 4)).block, (ad.add (n * 4)).off + J, none⟩ v) base (fun _ => True) u xs :=
  Kd.R_mono (Kd.R_far (p := ⟨(ad.add (n * 4)).block, (ad.add (n * 4)).off + J, none⟩) (Kd.R_tight rfl h) (fun k hk => by
    rw [show (⟨(ad.add (n * 4)).block, (ad.add (n * 4)).off + J, none⟩ : Addr).block = g from p_blockR had]
    have := Kd.R_base h k hk.symm
    omega) v) (fun _ _ => trivial)
theorem NearR.step {w1 W W1 : World} {row : Option Nat} (h : NearR w1 row W) (hb : Below W.heap.size W W1) : NearR w1 row W1 :=
  ⟨Nat.le_trans h.1 hb.size, fun k hk hr => (hb.block k (Nat.lt_of_lt_of_le hk h.1)).trans (h.2 k hk hr)⟩
theorem NearR.step1 {w1 W W1 : World} {row : Option Nat} (h : NearR w1 row W) (hb : Below w1.heap.size W W1) : NearR w1 row W1 :=
  ⟨Nat.le_trans h.1 hb.size, fun k hk hr => (hb.block k hk).trans (h.2 k hk hr)⟩
/-- What the copy's row says at the end: one right of one label is another row. -/
theorem final_VR {w1 w6 : World} {base b g n c : Nat} {ok okF : Nat → Prop} {l0 : List S29} {cur cur6 : Array Value} (hN : Kd.N k29 29 w1 base ok (.slice (some ⟨g, 0, none⟩) l0.length c) l0) (h1 : w1.heap[g]? = some (.cells cur 29 (0, 0))) (h6 : w6.heap[g]? = some (.cells cur6 29 (0, 0)))
    (hn : n < l0.length) (write : Bool) (B : Option Addr) (cb : Nat) (L : List Int) (hL : L.length ≤ cb) (hcur : ∀ q, q ≠ n * 4 + (if write = true then 3 else 2) → cur6[q]? = cur[q]?) (hv : cur6[n * 4 + (if write = true then 3 else 2)]? = some (.slice B L.length cb))
    (hnear : NearR w1 (some g) w6) (hF : Kd.F (Kd.int .i64) w6 okF B L.length L) (hok : ∀ k, ok k → okF k) :
    Kd.V k29 29 w6 b okF (.slice (some ⟨g, 0, none⟩) l0.length c) (l0.set n (withWhoR (rd_T29 l0 (n : Int)) write L)) := by
  have hlen : (l0.set n (withWhoR (rd_T29 l0 (n : Int)) write L)).length = l0.length := List.length_set
  have hok_g : ok g := hN.1 g (by simp [Value.ownBlock])
  have hgl := blk_lt h1
  rw [← hlen]
  refine Kd.V_mk (by rw [hlen]; exact (Kd.N_reads' hN).2.1) (fun W' hW' => ?_)
  have hm := (Kd.N_reads' hN).2.2.2.1
  refine ⟨rfl, by rw [hlen]; exact hm, fun _ => ⟨⟨g, 0, none⟩, rfl, fun j p hj => ?_⟩⟩
  have hjl : j < l0.length := by have := (List.getElem?_eq_some_iff.1 hj).1; rwa [hlen] at this
  obtain ⟨ce, hcl, hK, hcc, hfr⟩ := Kd.N_elem hN z29 (j : Int) (by omega) (by omega)
  simp only [Int.toNat_natCast] at hK hcc
  have hsz : k29.sz = 4 := rfl
  rw [hsz] at hcc hcl
  -- the element's kind at w6
  have hK6 : Kd.FK k29 w6 (fun k => (ok k ∧ k ≠ g) ∧ k < w1.heap.size) (l0.getD j z29) ce := Kd.FK_step (Kd.FK_bound hK) (fun k hk hlt => hnear.2 k hlt (fun e => hk.1.2 (by injection e)))
  have hKW : k29.K W' (l0.getD j z29) ce := hK6 W' (fun k hk hlt => hW' k (hok k hk.1.1) hlt)
  have hg6 : W'.heap[g]? = some (.cells cur6 29 (0, 0)) := (hW' g (hok g hok_g) (blk_lt h6)).trans h6
  have hc1 : ∀ q u, ce[q]? = some u → cur[j * 4 + q]? = some u := fun q u hq => by have := hcc q u hq; rwa [cell_of_row w1 g _ cur 29 (0, 0) h1] at this
  by_cases e : j = n
  · subst e
    rw [List.getElem?_set_self hjl] at hj
    injection hj with hj
    subst hj
    obtain ⟨A2, c2, A3, c3, rfl, l2, g2, l3, g3⟩ := k29_open hKW
    have hx : l0.getD j z29 = rd_T29 l0 (j : Int) := rfl
    rw [hx] at l2 l3 g2 g3 hc1
    cases write with
    | false =>
      refine ⟨[.int .i64 (rd_T29 l0 (j : Int)).f0, .int .i64 (rd_T29 l0 (j : Int)).f1, .slice B L.length cb, .slice A3 (rd_T29 l0 (j : Int)).f3.length c3], rfl, k29_mk W' (⟨(rd_T29 l0 (j : Int)).f0, (rd_T29 l0 (j : Int)).f1, L, (rd_T29 l0 (j : Int)).f3⟩ : S29) hL (hF W' hW') l3 g3, fun q u hq => ?_⟩
      rw [add_at, Nat.zero_add, hsz, cell_of_row W' g _ cur6 29 (0, 0) hg6]
      match q, hq with
      | 0, hq => rw [hcur _ (by simp)]; exact hc1 0 u hq
      | 1, hq => rw [hcur _ (by simp)]; exact hc1 1 u hq
      | 2, hq => exact hv.trans hq
      | 3, hq => rw [hcur _ (by simp)]; exact hc1 3 u hq
      | q + 4, hq => simp at hq
    | true =>
      refine ⟨[.int .i64 (rd_T29 l0 (j : Int)).f0, .int .i64 (rd_T29 l0 (j : Int)).f1, .slice A2 (rd_T29 l0 (j : Int)).f2.length c2, .slice B L.length cb], rfl, k29_mk W' (⟨(rd_T29 l0 (j : Int)).f0, (rd_T29 l0 (j : Int)).f1, (rd_T29 l0 (j : Int)).f2, L⟩ : S29) l2 g2 hL (hF W' hW'), fun q u hq => ?_⟩
      rw [add_at, Nat.zero_add, hsz, cell_of_row W' g _ cur6 29 (0, 0) hg6]
      match q, hq with
      | 0, hq => rw [hcur _ (by simp)]; exact hc1 0 u hq
      | 1, hq => rw [hcur _ (by simp)]; exact hc1 1 u hq
      | 2, hq => rw [hcur _ (by simp)]; exact hc1 2 u hq
      | 3, hq => exact hv.trans hq
      | q + 4, hq => simp at hq
  · rw [List.getElem?_set_ne (fun h => e h.symm), List.getElem?_eq_getElem hjl] at hj
    injection hj with hj
    have hx : l0.getD j z29 = p := by rw [List.getD_eq_getElem?_getD, List.getElem?_eq_getElem hjl]; exact hj
    rw [hx] at hKW
    refine ⟨ce, hcl, hKW, fun q u hq => ?_⟩
    have hq4 : q < 4 := by rw [← hcl]; exact (List.getElem?_eq_some_iff.1 hq).1
    rw [add_at, Nat.zero_add, hsz, cell_of_row W' g _ cur6 29 (0, 0) hg6, hcur _ (by split <;> omega)]
    exact hc1 q u hq
theorem SZR {w : World} {base : Nat} {ok : Nat → Prop} {ad : Addr} {g n c : Nat} {cur : Array Value} {N : Nat} {xs : List S29} (h : Kd.N k29 29 w base ok (.slice (some ad) N c) xs) (hh : w.heap[g]? = some (.cells cur 29 (0, 0))) (had : ad = ⟨g, 0, none⟩) (J : Nat) (hJ : J < 4) (hn : n < N := by first | assumption | omega) : n * 4 + J < cur.size := by
  subst had
  obtain ⟨ce, hcl, hK, hcc, hfr⟩ := Kd.N_elem h z29 (n : Int) (by omega) (by omega)
  simp only [Int.toNat_natCast] at hcc
  have hsz : k29.sz = 4 := rfl
  rw [hsz] at hcc hcl
  have h1 := hcc J _ (List.getElem?_eq_getElem (by omega))
  rw [cell_of_row w g _ cur 29 (0, 0) hh] at h1
  exact (Array.getElem?_eq_some_iff.1 h1).1
/-! chancelref03.Grant -/
def chancelref03_Grant.f (l0 : List (S29)) (a1 a2 a3 : Int) (a4 a5 : Bool) : Option (List (S29) × Int) :=
  if a2 < 0 ∨ (l0.length : Int) ≤ a2 ∨ a3 < 0 ∨ 8 ≤ a3 then some ([], 5)
  else if (rd_T29 l0 a2).f1 ≠ a1 then some ([], 3)
  else (chancelref03_Copy.f 40 l0).bind fun c => if a2 < (c.length : Int) then (chancelref03_with.f 40 (whoOfR (rd_T29 c a2) a4) a3 a5).bind fun L => some (c.set a2.toNat (withWhoR (rd_T29 c a2) a4 L), 0) else none
set_option maxHeartbeats 2000000 in
theorem rgrant_none (A0 : Option Addr) (c0 : Nat) (l0 : List (S29)) (a1 a2 a3 : Int) (a4 a5 : Bool) (w : World) (h : a2 < 0 ∨ (l0.length : Int) ≤ a2 ∨ a3 < 0 ∨ 8 ≤ a3) :
    Calls Try.prog 20 #[.slice A0 l0.length c0, .int .i64 a1, .int .i64 a2, .int .i64 a3, .bool a4, .bool a5] w fun e w' => e = .returned (.tuple #[.slice none 0 0, .int .i64 5]) ∧ w = w' := by
  by_cases c1 : a2 < 0
  · have b1 : decide (a2 < 0) = true := decide_eq_true c1
    clear h c1
    go_enter Try.func20, Try.ntmps20
    go_wp2
    go_ret2
    exact ⟨rfl, rfl⟩
  have b1 : decide (a2 < 0) = false := decide_eq_false c1
  by_cases c2 : (l0.length : Int) ≤ a2
  · have b2 : decide ((l0.length : Int) ≤ a2) = true := decide_eq_true c2
    clear h c1 c2
    go_enter Try.func20, Try.ntmps20
    go_wp2
    go_ret2
    exact ⟨rfl, rfl⟩
  have b2 : decide ((l0.length : Int) ≤ a2) = false := decide_eq_false c2
  by_cases c3 : a3 < 0
  · have b3 : decide (a3 < 0) = true := decide_eq_true c3
    clear h c1 c2 c3
    go_enter Try.func20, Try.ntmps20
    go_wp2
    go_ret2
    exact ⟨rfl, rfl⟩
  have b3 : decide (a3 < 0) = false := decide_eq_false c3
  have b4 : decide (8 ≤ a3) = true := decide_eq_true (by omega)
  clear h c1 c2 c3
  go_enter Try.func20, Try.ntmps20
  go_wp2
  go_ret2
  exact ⟨rfl, rfl⟩
set_option maxHeartbeats 2000000 in
theorem rgrant_denied (A0 : Option Addr) (c0 : Nat) (l0 : List (S29)) (a1 a3 : Int) (n : Nat) (a4 a5 : Bool) (w : World) (hr0 : Kd.C k29 w A0 l0.length l0) (hn : n < l0.length) (h3 : 0 ≤ a3) (h4 : a3 < 8) (h : (rd_T29 l0 (n : Int)).f1 ≠ a1) :
    Calls Try.prog 20 #[.slice A0 l0.length c0, .int .i64 a1, .int .i64 n, .int .i64 a3, .bool a4, .bool a5] w fun e w' => e = .returned (.tuple #[.slice none 0 0, .int .i64 3]) ∧ w = w' := by
  have hbig : l0.length ≤ 9223372036854775807 := hr0.2.1
  obtain ⟨ad, A2, c2, A3, c3, rfl, e0, e1, _⟩ := at_T29 hr0 (n : Int) (by omega) (by omega)
  simp only [Int.toNat_natCast] at e0 e1
  have b1 : decide ((n : Int) < 0) = false := decide_eq_false (by omega)
  have b2 : decide ((l0.length : Int) ≤ (n : Int)) = false := decide_eq_false (by omega)
  have b2' : decide (l0.length ≤ n) = false := decide_eq_false (by omega)
  have b3 : decide (a3 < 0) = false := decide_eq_false (by omega)
  have b4 : decide (8 ≤ a3) = false := decide_eq_false (by omega)
  have b5 : ((rd_T29 l0 (n : Int)).f1 == a1) = false := beq_eq_false_iff_ne.mpr h
  have b6 : ((rd_T29 l0 (n : Int)).f1 != a1) = true := by simp [bne, b5]
  have hu29 := Try.underlying29
  clear hr0 h e0
  generalize (rd_T29 l0 (n : Int)).f1 = ow at e1 b5 b6
  go_enter Try.func20, Try.ntmps20
  go_wp2
  go_ret2
  exact ⟨rfl, rfl⟩
theorem LCopy_l (l0 : List S29) : ∀ (k : Nat) (acc r : List S29) (i : Int), chancelref03_Copy.l0 k l0 acc i = some r → r.length ≤ acc.length + k
  | 0, _, _, _, h => by simp [chancelref03_Copy.l0] at h
  | k + 1, acc, r, i, h => by
    rw [chancelref03_Copy.l0] at h
    split at h
    · split at h
      · simp only [Option.bind_some] at h
        split at h
        · split at h
          · split at h
            · have := LCopy_l l0 k _ r _ h
              rw [List.length_append, List.length_singleton] at this
              omega
            · cases h
          · cases h
        · cases h
      · cases h
    · injection h with h
      subst h
      omega
theorem LCopy (l0 l1 : List S29) (_h : l0.length ≤ 9223372036854775807) (h : chancelref03_Copy.f 40 l0 = some l1) : l1.length ≤ 40 := by
  have := LCopy_l l0 40 [] l1 0 h
  simpa using this
set_option maxHeartbeats 4000000 in
theorem rgrant_false (A0 : Option Addr) (c0 : Nat) (l0 l1 : List (S29)) (a1 a3 : Int) (a5 : Bool) (n : Nat) (L : List Int) (w : World) (hr0 : Kd.C k29 w A0 l0.length l0) (hc0 : l0.length ≤ c0) (hn0 : n < l0.length) (h3 : 0 ≤ a3) (h4 : a3 < 8) (h : (rd_T29 l0 (n : Int)).f1 = a1)
    (hcp : chancelref03_Copy.f 40 l0 = some l1) (hn : n < l1.length) (hwi : chancelref03_with.f 40 (whoOfR (rd_T29 l1 (n : Int)) false) a3 a5 = some L) :
    Calls Try.prog 20 #[.slice A0 l0.length c0, .int .i64 a1, .int .i64 n, .int .i64 a3, .bool false, .bool a5] w fun e w' => ∃ v0_ : Value, e = .returned (.tuple #[v0_, .int .i64 0]) ∧
      Kd.V k29 29 w' w.heap.size (fun k_ => w.heap.size ≤ k_) v0_ (l1.set n (withWhoR (rd_T29 l1 (n : Int)) false L)) ∧ Below w.heap.size w w' := by
  have hbig : l0.length ≤ 9223372036854775807 := hr0.2.1
  have HCL := Aside0.mk (chancelref03_Copy.calls 40 A0 c0 l0 l1 w hr0 hc0 hcp)
  obtain ⟨ad0, A20, c20, A30, c30, rfl, e0, e1, _⟩ := at_T29 hr0 (n : Int) (by omega) (by omega)
  simp only [Int.toNat_natCast] at e0 e1
  have b1 : decide ((n : Int) < 0) = false := decide_eq_false (by omega)
  have b2 : decide ((l0.length : Int) ≤ (n : Int)) = false := decide_eq_false (by omega)
  have b2' : decide (l0.length ≤ n) = false := decide_eq_false (by omega)
  have b3 : decide (a3 < 0) = false := decide_eq_false (by omega)
  have b4 : decide (8 ≤ a3) = false := decide_eq_false (by omega)
  have b5 : ((rd_T29 l0 (n : Int)).f1 == a1) = true := beq_iff_eq.mpr h
  have b6 : ((rd_T29 l0 (n : Int)).f1 != a1) = false := by simp [bne, b5]
  obtain ⟨x, hx⟩ : ∃ x, x = rd_T29 l1 (n : Int) := ⟨_, rfl⟩
  rw [← hx] at hwi ⊢
  have XX := Aside0.mk hx
  have HWI : Aside0 (chancelref03_with.f 40 x.f2 a3 a5 = some L) := ⟨hwi⟩
  have hnz : (n : Int) < (l1.length : Int) := by omega
  have hl1 : l1.length ≤ 9223372036854775807 := by
    have := hcp
    have h0 := LCopy l0 l1 hbig hcp
    omega
  have hu29 := Try.underlying29
  clear hr0 h e0 hx hwi hcp
  generalize (rd_T29 l0 (n : Int)).f1 = ow at e1 b5 b6
  go_enter Try.func20, Try.ntmps20
  go_wp2_with (first
    | (go_at_call 19; refine HCL.out.mono ?_; rintro e w1 ⟨v, rfl, hS, hb⟩; have hN := Kd.S_N hS; obtain ⟨A, c, rfl⟩ := Kd.N_slice hN; obtain ⟨ad, A2, c2, A3, c3, cur, rfl, hblk, q0, q1, q2, q3, z2, z3, l2, l3, F2, F3⟩ := ownN_T29R hN n hn; rw [← XX.out] at q0 q1 q2 q3 l2 l3 F2 F3; obtain ⟨g, had⟩ := N_headR hN; have HAD := Aside0.mk had; have hpb : ad.block = g := (by rw [had]); rw [hpb] at hblk; have HBK := Aside0.mk hblk; have HN := Aside0.mk (Kd.N_mono (Kd.N_lower (Kd.N_bound hN) (Nat.le_refl _)) (ok' := fun _ => True) (fun _ _ => trivial)); have HS := Aside0.mk hS; have HB := Aside0.mk hb; have LL := Aside0.mk l2; have FF := Aside0.mk (Kd.F_now F2); have hgw : w.heap.size ≤ g := Kd.N_base hN g (by rw [had]; simp [Value.ownBlock]); have GW := Aside0.mk hgw; have NR := Aside0.mk (NearR.of_below (some g) (Below.refl w1.heap.size w1)); clear hN hS hb had hblk hpb q0 q1 l2 l3 F2 F3 hgw q3 z3)
    | (go_at_call 30; refine (chancelref03_with.calls 40 A2 c2 x.f2 a3 a5 L w1 FF.out LL.out HWI.out).mono ?_; rintro e w5 ⟨v5, rfl, hR5, hb5⟩; obtain ⟨B5, cb5, rfl⟩ := Kd.R_slice hR5; have hk5 := (hb5.block g (blk_lt HBK.out)).trans HBK.out; have q5b : w5.cell? ⟨(ad.add (n * 4)).block, (ad.add (n * 4)).off + 2, none⟩ = some (.slice A2 x.f2.length c2) := (hb5.cell (by show (ad.add (n * 4)).block < _; rw [p_blockR HAD.out]; exact blk_lt HBK.out)).trans q2; have z5b : w5.frozen? ⟨(ad.add (n * 4)).block, (ad.add (n * 4)).off + 2, none⟩ = false := p_frozenR HAD.out hk5; have HK5 := Aside0.mk hk5; have HR5 := Aside0.mk hR5; have HB5 := Aside0.mk (HB.out.trans (hb5.mono HB.out.size)); have NR5 := Aside0.mk (NR.out.step hb5); clear hR5 hb5 hk5)
    | ((with_reducible refine gate_store (t := 27) (p := 64) rfl ?_); refine store_event (t := 27) (p := 64) (v := .tmp 62) (w1 := w5.setCell ⟨(ad.add (n * 4)).block, (ad.add (n * 4)).off + 2, none⟩ (.slice B5 L.length cb5)) rfl rfl rfl ?hr ?_; (case hr => go_simp); intro w6 hw6; have hcz : n * 4 + 2 < cur.size := SZR HN.out HBK.out HAD.out 2 (by omega); have CZ := Aside0.mk hcz; have HK6 : Aside0 (w6.heap[g]? = some (.cells (cur.setIfInBounds (n * 4 + 2) (.slice B5 L.length cb5)) 29 (0, 0))) := ⟨by rw [hw6]; exact p_setR _ HAD.out HK5.out⟩; have HR6 : Aside0 (Kd.R (Kd.int .i64) 3 w6 w1.heap.size (fun _ => True) (.slice B5 L.length cb5) L) := ⟨by rw [hw6]; exact p_rowR _ HAD.out HR5.out (blk_lt HBK.out)⟩; have HB6 : Aside0 (Below w.heap.size w w6) := ⟨by rw [hw6]; exact p_belowR _ HAD.out HB5.out GW.out⟩; have NR6 : Aside0 (NearR w1 (some g) w6) := ⟨by rw [hw6]; exact p_nearR _ HAD.out NR5.out⟩; clear hw6 q5b z5b hcz))
  go_ret2
  have hF := Kd.F_mono (ok' := fun k_ => w.heap.size ≤ k_) (Kd.R_F (Kd.R_tight rfl HR6.out)) (fun k hk => Nat.le_trans HB.out.size (Kd.R_base HR6.out k hk.symm))
  have hN1 : Kd.N k29 29 w1 w.heap.size (fun k_ => w.heap.size ≤ k_) (.slice (some ad) l1.length c) l1 := Kd.S_N (Kd.S_mono (Kd.S_bound HS.out) (fun k hk => hk.2.1))
  have hV := final_VR (b := w.heap.size) (by rw [← HAD.out]; exact hN1) HBK.out HK6.out hn false B5 cb5 L (Kd.R_reads' HR6.out).2.1 (fun q hq => by have hq1 : q ≠ n * 4 + 2 := hq; rw [Array.getElem?_setIfInBounds_ne (Ne.symm hq1)]) (by simp [CZ.out]) NR6.out hF (fun _ hk => hk)
  rw [← HAD.out, ← XX.out] at hV
  exact ⟨_, rfl, hV, HB6.out⟩
set_option maxHeartbeats 4000000 in
theorem rgrant_true (A0 : Option Addr) (c0 : Nat) (l0 l1 : List (S29)) (a1 a3 : Int) (a5 : Bool) (n : Nat) (L : List Int) (w : World) (hr0 : Kd.C k29 w A0 l0.length l0) (hc0 : l0.length ≤ c0) (hn0 : n < l0.length) (h3 : 0 ≤ a3) (h4 : a3 < 8) (h : (rd_T29 l0 (n : Int)).f1 = a1)
    (hcp : chancelref03_Copy.f 40 l0 = some l1) (hn : n < l1.length) (hwi : chancelref03_with.f 40 (whoOfR (rd_T29 l1 (n : Int)) true) a3 a5 = some L) :
    Calls Try.prog 20 #[.slice A0 l0.length c0, .int .i64 a1, .int .i64 n, .int .i64 a3, .bool true, .bool a5] w fun e w' => ∃ v0_ : Value, e = .returned (.tuple #[v0_, .int .i64 0]) ∧
      Kd.V k29 29 w' w.heap.size (fun k_ => w.heap.size ≤ k_) v0_ (l1.set n (withWhoR (rd_T29 l1 (n : Int)) true L)) ∧ Below w.heap.size w w' := by
  have hbig : l0.length ≤ 9223372036854775807 := hr0.2.1
  have HCL := Aside0.mk (chancelref03_Copy.calls 40 A0 c0 l0 l1 w hr0 hc0 hcp)
  obtain ⟨ad0, A20, c20, A30, c30, rfl, e0, e1, _⟩ := at_T29 hr0 (n : Int) (by omega) (by omega)
  simp only [Int.toNat_natCast] at e0 e1
  have b1 : decide ((n : Int) < 0) = false := decide_eq_false (by omega)
  have b2 : decide ((l0.length : Int) ≤ (n : Int)) = false := decide_eq_false (by omega)
  have b2' : decide (l0.length ≤ n) = false := decide_eq_false (by omega)
  have b3 : decide (a3 < 0) = false := decide_eq_false (by omega)
  have b4 : decide (8 ≤ a3) = false := decide_eq_false (by omega)
  have b5 : ((rd_T29 l0 (n : Int)).f1 == a1) = true := beq_iff_eq.mpr h
  have b6 : ((rd_T29 l0 (n : Int)).f1 != a1) = false := by simp [bne, b5]
  obtain ⟨x, hx⟩ : ∃ x, x = rd_T29 l1 (n : Int) := ⟨_, rfl⟩
  rw [← hx] at hwi ⊢
  have XX := Aside0.mk hx
  have HWI : Aside0 (chancelref03_with.f 40 x.f3 a3 a5 = some L) := ⟨hwi⟩
  have hnz : (n : Int) < (l1.length : Int) := by omega
  have hl1 : l1.length ≤ 9223372036854775807 := by
    have := hcp
    have h0 := LCopy l0 l1 hbig hcp
    omega
  have hu29 := Try.underlying29
  clear hr0 h e0 hx hwi hcp
  generalize (rd_T29 l0 (n : Int)).f1 = ow at e1 b5 b6
  go_enter Try.func20, Try.ntmps20
  go_wp2_with (first
    | (go_at_call 19; refine HCL.out.mono ?_; rintro e w1 ⟨v, rfl, hS, hb⟩; have hN := Kd.S_N hS; obtain ⟨A, c, rfl⟩ := Kd.N_slice hN; obtain ⟨ad, A2, c2, A3, c3, cur, rfl, hblk, q0, q1, q2, q3, z2, z3, l2, l3, F2, F3⟩ := ownN_T29R hN n hn; rw [← XX.out] at q0 q1 q2 q3 l2 l3 F2 F3; obtain ⟨g, had⟩ := N_headR hN; have HAD := Aside0.mk had; have hpb : ad.block = g := (by rw [had]); rw [hpb] at hblk; have HBK := Aside0.mk hblk; have HN := Aside0.mk (Kd.N_mono (Kd.N_lower (Kd.N_bound hN) (Nat.le_refl _)) (ok' := fun _ => True) (fun _ _ => trivial)); have HS := Aside0.mk hS; have HB := Aside0.mk hb; have LL := Aside0.mk l3; have FF := Aside0.mk (Kd.F_now F3); have hgw : w.heap.size ≤ g := Kd.N_base hN g (by rw [had]; simp [Value.ownBlock]); have GW := Aside0.mk hgw; have NR := Aside0.mk (NearR.of_below (some g) (Below.refl w1.heap.size w1)); clear hN hS hb had hblk hpb q0 q1 l2 l3 F2 F3 hgw q2 z2)
    | (go_at_call 30; refine (chancelref03_with.calls 40 A3 c3 x.f3 a3 a5 L w1 FF.out LL.out HWI.out).mono ?_; rintro e w5 ⟨v5, rfl, hR5, hb5⟩; obtain ⟨B5, cb5, rfl⟩ := Kd.R_slice hR5; have hk5 := (hb5.block g (blk_lt HBK.out)).trans HBK.out; have q5b : w5.cell? ⟨(ad.add (n * 4)).block, (ad.add (n * 4)).off + 3, none⟩ = some (.slice A3 x.f3.length c3) := (hb5.cell (by show (ad.add (n * 4)).block < _; rw [p_blockR HAD.out]; exact blk_lt HBK.out)).trans q3; have z5b : w5.frozen? ⟨(ad.add (n * 4)).block, (ad.add (n * 4)).off + 3, none⟩ = false := p_frozenR HAD.out hk5; have HK5 := Aside0.mk hk5; have HR5 := Aside0.mk hR5; have HB5 := Aside0.mk (HB.out.trans (hb5.mono HB.out.size)); have NR5 := Aside0.mk (NR.out.step hb5); clear hR5 hb5 hk5)
    | ((with_reducible refine gate_store (t := 27) (p := 52) rfl ?_); refine store_event (t := 27) (p := 52) (v := .tmp 50) (w1 := w5.setCell ⟨(ad.add (n * 4)).block, (ad.add (n * 4)).off + 3, none⟩ (.slice B5 L.length cb5)) rfl rfl rfl ?hr ?_; (case hr => go_simp); intro w6 hw6; have hcz : n * 4 + 3 < cur.size := SZR HN.out HBK.out HAD.out 3 (by omega); have CZ := Aside0.mk hcz; have HK6 : Aside0 (w6.heap[g]? = some (.cells (cur.setIfInBounds (n * 4 + 3) (.slice B5 L.length cb5)) 29 (0, 0))) := ⟨by rw [hw6]; exact p_setR _ HAD.out HK5.out⟩; have HR6 : Aside0 (Kd.R (Kd.int .i64) 3 w6 w1.heap.size (fun _ => True) (.slice B5 L.length cb5) L) := ⟨by rw [hw6]; exact p_rowR _ HAD.out HR5.out (blk_lt HBK.out)⟩; have HB6 : Aside0 (Below w.heap.size w w6) := ⟨by rw [hw6]; exact p_belowR _ HAD.out HB5.out GW.out⟩; have NR6 : Aside0 (NearR w1 (some g) w6) := ⟨by rw [hw6]; exact p_nearR _ HAD.out NR5.out⟩; clear hw6 q5b z5b hcz))
  go_ret2
  have hF := Kd.F_mono (ok' := fun k_ => w.heap.size ≤ k_) (Kd.R_F (Kd.R_tight rfl HR6.out)) (fun k hk => Nat.le_trans HB.out.size (Kd.R_base HR6.out k hk.symm))
  have hN1 : Kd.N k29 29 w1 w.heap.size (fun k_ => w.heap.size ≤ k_) (.slice (some ad) l1.length c) l1 := Kd.S_N (Kd.S_mono (Kd.S_bound HS.out) (fun k hk => hk.2.1))
  have hV := final_VR (b := w.heap.size) (by rw [← HAD.out]; exact hN1) HBK.out HK6.out hn true B5 cb5 L (Kd.R_reads' HR6.out).2.1 (fun q hq => by have hq1 : q ≠ n * 4 + 3 := hq; rw [Array.getElem?_setIfInBounds_ne (Ne.symm hq1)]) (by simp [CZ.out]) NR6.out hF (fun _ hk => hk)
  rw [← HAD.out, ← XX.out] at hV
  exact ⟨_, rfl, hV, HB6.out⟩
theorem chancelref03_Grant.calls (A0 : Option Addr) (c0 : Nat) (l0 : List (S29)) (a1 a2 a3 : Int) (a4 a5 : Bool) (r1 : List S29) (r2 : Int) (w : World) (hr0 : Kd.C k29 w A0 l0.length l0) (hc0 : l0.length ≤ c0) (h : chancelref03_Grant.f l0 a1 a2 a3 a4 a5 = some (r1, r2)) :
    Calls Try.prog 20 #[.slice A0 l0.length c0, .int .i64 a1, .int .i64 a2, .int .i64 a3, .bool a4, .bool a5] w fun e w' => ∃ v0_ : Value, e = .returned (.tuple #[v0_, .int .i64 r2]) ∧ Kd.V k29 29 w' w.heap.size (fun k_ => w.heap.size ≤ k_) v0_ r1 ∧ Below w.heap.size w w' := by
  unfold chancelref03_Grant.f at h
  by_cases c1 : a2 < 0 ∨ (l0.length : Int) ≤ a2 ∨ a3 < 0 ∨ 8 ≤ a3
  · rw [if_pos c1] at h
    injection h with h
    injection h with h1 h2
    subst h1; subst h2
    refine (rgrant_none A0 c0 l0 a1 a2 a3 a4 a5 w c1).mono ?_
    rintro e w' ⟨rfl, rfl⟩
    exact ⟨_, rfl, Kd.V_nil _ _ _ _ _, Below.refl _ _⟩
  rw [if_neg c1] at h
  obtain ⟨n, rfl⟩ : ∃ n : Nat, a2 = (n : Int) := ⟨a2.toNat, by omega⟩
  by_cases c2 : (rd_T29 l0 (n : Int)).f1 ≠ a1
  · rw [if_pos c2] at h
    injection h with h
    injection h with h1 h2
    subst h1; subst h2
    refine (rgrant_denied A0 c0 l0 a1 a3 n a4 a5 w hr0 (by omega) (by omega) (by omega) c2).mono ?_
    rintro e w' ⟨rfl, rfl⟩
    exact ⟨_, rfl, Kd.V_nil _ _ _ _ _, Below.refl _ _⟩
  rw [if_neg c2] at h
  have c2' : (rd_T29 l0 (n : Int)).f1 = a1 := by simpa using c2
  obtain ⟨l1, hcp, h⟩ := Option.bind_eq_some_iff.mp h
  by_cases c4 : (n : Int) < (l1.length : Int)
  case neg => rw [if_neg c4] at h; cases h
  rw [if_pos c4] at h
  obtain ⟨L, hwi, h⟩ := Option.bind_eq_some_iff.mp h
  injection h with h
  injection h with h1 h2
  subst h1; subst h2
  rw [Int.toNat_natCast]
  cases a4
  · exact rgrant_false A0 c0 l0 l1 a1 a3 a5 n L w hr0 hc0 (by omega) (by omega) (by omega) c2' hcp (by omega) hwi
  · exact rgrant_true A0 c0 l0 l1 a1 a3 a5 n L w hr0 hc0 (by omega) (by omega) (by omega) c2' hcp (by omega) hwi

end Go.Proofs.Ytgjlnjjgpddcnaa.ARightsGrant
