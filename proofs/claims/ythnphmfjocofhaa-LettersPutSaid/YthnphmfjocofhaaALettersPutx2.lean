/- What the functions that the law LettersPut reaches compute, and the row of the law (printed by a program of this session). -/
import Derived.Test.YthnphmfjocofhaaALettersPutx0
import Derived.Test.YthnphmfjocofhaaALettersPutx1
namespace Go.Proofs.Ythnphmfjocofhaa.ALettersPut
open Go.RowKit Go.Proofs.YthnphmfjocofhaaW.PrintWords Go.Proofs.YthnphmfjocofhaaW.PrintLast Go.Proofs.YthnphmfjocofhaaW.PrintMore
attribute [local go_sem] max2_int min2_int max_two min_two max_three min_three max_four min_four   -- for this text's walks alone
set_option linter.unusedVariables false
set_option linter.unusedSimpArgs false

/-! ### chancelref01_Right: function 17 -/
def chancelref01_Right.l0 : Nat → ByteArray → Option (Bool)
  | 0, _ => none
  | k + 1, x0 => if x0.toList = ([] : List UInt8) then (some true) else ((chancelref01_size.f k x0).bind fun bt107 => (if bt107.1 = 1 then (if bt107.2 = 65533 then (some false) else (if 0 ≤ bt107.1 then (if bt107.1 ≤ (x0.size : Int) then (chancelref01_Right.l0 k (x0.extract (bt107.1 : Int).toNat x0.size)) else (none)) else (none))) else (if 0 ≤ bt107.1 then (if bt107.1 ≤ (x0.size : Int) then (chancelref01_Right.l0 k (x0.extract (bt107.1 : Int).toNat x0.size)) else (none)) else (none))))
def chancelref01_Right.f (k : Nat) (a0 : ByteArray) : Option (Bool) := chancelref01_Right.l0 k a0
theorem chancelref01_Right.mono_l : ∀ k, (∀ y0, LeO (chancelref01_Right.l0 k y0) (chancelref01_Right.l0 (k + 1) y0))
  | 0 => fun _ r h => by simp [chancelref01_Right.l0] at h
  | k + 1 => by
    have ih0 := chancelref01_Right.mono_l k
    · intro y0
      unfold chancelref01_Right.l0
      repeat' first
      | (with_reducible exact ih0 _)
      | (with_reducible exact chancelref01_size.mono _ _)
      | (with_reducible exact LeO.refl _)
      | (with_reducible exact LeO.none _)
      | (with_reducible refine LeO.ite ?_ ?_)
      | (with_reducible refine LeO.bind ?_ (fun _ => ?_))
      | exact ih0 _
      | exact chancelref01_size.mono _ _
      | exact LeO.none _
      | refine LeO.ite ?_ ?_
      | refine LeO.bind ?_ (fun _ => ?_)
theorem chancelref01_Right.mono : ∀ a0 k, LeO (chancelref01_Right.f k a0) (chancelref01_Right.f (k + 1) a0) := by
  intro a0 k
  have ih0 := chancelref01_Right.mono_l k
  unfold chancelref01_Right.f
  repeat' first
      | (with_reducible exact ih0 _)
      | (with_reducible exact chancelref01_size.mono _ _)
      | (with_reducible exact LeO.refl _)
      | (with_reducible exact LeO.none _)
      | (with_reducible refine LeO.ite ?_ ?_)
      | (with_reducible refine LeO.bind ?_ (fun _ => ?_))
      | exact ih0 _
      | exact chancelref01_size.mono _ _
      | exact LeO.none _
      | refine LeO.ite ?_ ?_
      | refine LeO.bind ?_ (fun _ => ?_)
set_option maxHeartbeats 8000000 in
set_option maxRecDepth 100000 in
theorem chancelref01_Right.calls (k : Nat) (a0 : ByteArray) (r : Bool) (w : World) (h : chancelref01_Right.f k a0 = some r) :
    Calls Try.prog 17 #[.string a0] w fun e w' => e = .returned (.bool r) ∧ Drawn0 w w' := by
  have H : (chancelref01_Right.l0 k a0) = some r := h
  clear h
  have H' := Aside0.mk H
  clear H
  go_enter Try.func17, Try.ntmps17
  go_wp2
  go_loopg [0] k (fun kq v0 w' => ∃ (x0_1 : ByteArray), v0 = .string x0_1 ∧ Aside0 (chancelref01_Right.l0 kq x0_1 = some r) ∧ Aside0 (kq ≤ k) ∧ Drawn0 w w')
  case atStart => exact ⟨(a0), (by first | rfl | (simp; done) | (simp [*]; done)), H', ⟨Nat.le_refl _⟩, by repeat (first | exact Drawn0.refl _ | apply Drawn0.step)⟩
  case round =>
    clear H'
    try clear c1
    obtain ⟨x0_1, rfl, HA, HK1, ⟨m1, rfl⟩⟩ := hrel
    cases gk with
    | zero => exact absurd HA.out (by simp [chancelref01_Right.l0])
    | succ k1 =>
      have H := HA.out
      clear HA
      simp only [chancelref01_Right.l0] at H
      by_cases c2 : x0_1.toList = ([] : List UInt8)
      · rw [if_pos c2] at H
        have c2b0 : (x0_1.toList == ([] : List UInt8)) = true := beq_iff_eq.mpr c2
        have c2b1 : (x0_1.toList != ([] : List UInt8)) = false := bne_eq_false_iff_eq.mpr c2
        clear c2
        obtain rfl := Option.some.inj H
        go_wp2
        go_ret
        exact ⟨by first | rfl | (simp; done) | (simp [*]; done), by repeat (first | exact Drawn0.refl _ | apply Drawn0.step)⟩
      · rw [if_neg c2] at H
        have c2b0 : (x0_1.toList == ([] : List UInt8)) = false := beq_eq_false_iff_ne.mpr c2
        have c2b1 : (x0_1.toList != ([] : List UInt8)) = true := bne_iff_ne.mpr c2
        replace H := Option.bind_eq_some_iff.mp H
        obtain ⟨⟨t107, t108⟩, A30, H⟩ := H
        replace H : (if t107 = 1 then (if t108 = 65533 then (some false) else (if 0 ≤ t107 then (if t107 ≤ (x0_1.size : Int) then (chancelref01_Right.l0 k1 (x0_1.extract (t107 : Int).toNat x0_1.size)) else (none)) else (none))) else (if 0 ≤ t107 then (if t107 ≤ (x0_1.size : Int) then (chancelref01_Right.l0 k1 (x0_1.extract (t107 : Int).toNat x0_1.size)) else (none)) else (none))) = some r := H
        have A3 := Aside0.mk A30
        clear A30
        by_cases c4 : t107 = 1
        · rw [if_pos c4] at H
          have c4b0 : (t107 == 1) = true := beq_iff_eq.mpr c4
          have c4b1 : (t107 != 1) = false := bne_eq_false_iff_eq.mpr c4
          clear c4
          by_cases c5 : t108 = 65533
          · rw [if_pos c5] at H
            have c5b0 : (t108 == 65533) = true := beq_iff_eq.mpr c5
            have c5b1 : (t108 != 65533) = false := bne_eq_false_iff_eq.mpr c5
            clear c5
            obtain rfl := Option.some.inj H
            go_wp2_with (first | ((with_reducible refine gate_callee (f := 20) rfl ?_); refine goesL_ (some 9) rfl rfl Try.func20 (by kernel_rfl) rfl #[.string x0_1] rfl (by (try simp only [List.map_toArray, List.map_cons, List.map_nil]); first | done | rfl | (simp only [List.length_drop, List.length_take]; rfl)) ?_; (with_reducible refine (chancelref01_size.calls k1 x0_1 t107 t108 _ A3.out).mono ?_); rintro e w' ⟨rfl, ⟨nd, rfl⟩⟩; refine ⟨_, rfl, ?_⟩))
            go_ret
            exact ⟨by first | rfl | (simp; done) | (simp [*]; done), by repeat (first | exact Drawn0.refl _ | apply Drawn0.step)⟩
          · rw [if_neg c5] at H
            have c5b0 : (t108 == 65533) = false := beq_eq_false_iff_ne.mpr c5
            have c5b1 : (t108 != 65533) = true := bne_iff_ne.mpr c5
            by_cases c6 : 0 ≤ t107
            · rw [if_pos c6] at H
              have c6b0 := eq_true c6
              have c6b1 : decide (0 ≤ t107) = true := decide_eq_true c6
              clear c6
              by_cases c7 : t107 ≤ (x0_1.size : Int)
              · rw [if_pos c7] at H
                have c7b0 := eq_true c7
                have c7b1 : decide (t107 ≤ (x0_1.size : Int)) = true := decide_eq_true c7
                clear c7
                have H' := Aside0.mk H
                clear H
                go_wp2_with (first | ((with_reducible refine gate_callee (f := 20) rfl ?_); refine goesL_ (some 9) rfl rfl Try.func20 (by kernel_rfl) rfl #[.string x0_1] rfl (by (try simp only [List.map_toArray, List.map_cons, List.map_nil]); first | done | rfl | (simp only [List.length_drop, List.length_take]; rfl)) ?_; (with_reducible refine (chancelref01_size.calls k1 x0_1 t107 t108 _ A3.out).mono ?_); rintro e w' ⟨rfl, ⟨nd, rfl⟩⟩; refine ⟨_, rfl, ?_⟩))
                go_roundg k1
                case measure => have := HK1.out; omega
                case rel => exact ⟨(x0_1.extract (t107 : Int).toNat x0_1.size), (by first | rfl | (simp; done) | (simp [*]; done)), H', ⟨by have := HK1.out; omega⟩, by repeat (first | exact Drawn0.refl _ | apply Drawn0.step)⟩
              · rw [if_neg c7] at H
                exact absurd H (by simp)
            · rw [if_neg c6] at H
              exact absurd H (by simp)
        · rw [if_neg c4] at H
          have c4b0 : (t107 == 1) = false := beq_eq_false_iff_ne.mpr c4
          have c4b1 : (t107 != 1) = true := bne_iff_ne.mpr c4
          by_cases c8 : 0 ≤ t107
          · rw [if_pos c8] at H
            have c8b0 := eq_true c8
            have c8b1 : decide (0 ≤ t107) = true := decide_eq_true c8
            clear c8
            by_cases c9 : t107 ≤ (x0_1.size : Int)
            · rw [if_pos c9] at H
              have c9b0 := eq_true c9
              have c9b1 : decide (t107 ≤ (x0_1.size : Int)) = true := decide_eq_true c9
              clear c9
              have H' := Aside0.mk H
              clear H
              go_wp2_with (first | ((with_reducible refine gate_callee (f := 20) rfl ?_); refine goesL_ (some 9) rfl rfl Try.func20 (by kernel_rfl) rfl #[.string x0_1] rfl (by (try simp only [List.map_toArray, List.map_cons, List.map_nil]); first | done | rfl | (simp only [List.length_drop, List.length_take]; rfl)) ?_; (with_reducible refine (chancelref01_size.calls k1 x0_1 t107 t108 _ A3.out).mono ?_); rintro e w' ⟨rfl, ⟨nd, rfl⟩⟩; refine ⟨_, rfl, ?_⟩))
              go_roundg k1
              case measure => have := HK1.out; omega
              case rel => exact ⟨(x0_1.extract (t107 : Int).toNat x0_1.size), (by first | rfl | (simp; done) | (simp [*]; done)), H', ⟨by have := HK1.out; omega⟩, by repeat (first | exact Drawn0.refl _ | apply Drawn0.step)⟩
            · rw [if_neg c9] at H
              exact absurd H (by simp)
          · rw [if_neg c8] at H
            exact absurd H (by simp)

/-! ### chancelref01_Letters: function 10 -/
def chancelref01_Letters.l0 : Nat → ByteArray → List Int → Option (List Int)
  | 0, _, _ => none
  | k + 1, x0, x3 => if x0.toList = ([] : List UInt8) then (some x3) else ((chancelref01_size.f k x0).bind fun bt109 => (if x3.length < 35184372088832 then (if 0 ≤ bt109.1 then (if bt109.1 ≤ (x0.size : Int) then (chancelref01_Letters.l0 k (x0.extract (bt109.1 : Int).toNat x0.size) (x3 ++ [bt109.2])) else (none)) else (none)) else (none)))
def chancelref01_Letters.f (k : Nat) (a0 : ByteArray) : Option (List Int) := chancelref01_Letters.l0 k a0 ([] : List Int)
theorem chancelref01_Letters.mono_l : ∀ k, (∀ y0 y1, LeO (chancelref01_Letters.l0 k y0 y1) (chancelref01_Letters.l0 (k + 1) y0 y1))
  | 0 => fun _ _ r h => by simp [chancelref01_Letters.l0] at h
  | k + 1 => by
    have ih0 := chancelref01_Letters.mono_l k
    · intro y0 y1
      unfold chancelref01_Letters.l0
      repeat' first
      | (with_reducible exact ih0 _ _)
      | (with_reducible exact chancelref01_size.mono _ _)
      | (with_reducible exact LeO.refl _)
      | (with_reducible exact LeO.none _)
      | (with_reducible refine LeO.ite ?_ ?_)
      | (with_reducible refine LeO.bind ?_ (fun _ => ?_))
      | exact ih0 _ _
      | exact chancelref01_size.mono _ _
      | exact LeO.none _
      | refine LeO.ite ?_ ?_
      | refine LeO.bind ?_ (fun _ => ?_)
theorem chancelref01_Letters.mono : ∀ a0 k, LeO (chancelref01_Letters.f k a0) (chancelref01_Letters.f (k + 1) a0) := by
  intro a0 k
  have ih0 := chancelref01_Letters.mono_l k
  unfold chancelref01_Letters.f
  repeat' first
      | (with_reducible exact ih0 _ _)
      | (with_reducible exact chancelref01_size.mono _ _)
      | (with_reducible exact LeO.refl _)
      | (with_reducible exact LeO.none _)
      | (with_reducible refine LeO.ite ?_ ?_)
      | (with_reducible refine LeO.bind ?_ (fun _ => ?_))
      | exact ih0 _ _
      | exact chancelref01_size.mono _ _
      | exact LeO.none _
      | refine LeO.ite ?_ ?_
      | refine LeO.bind ?_ (fun _ => ?_)
set_option maxHeartbeats 8000000 in
set_option maxRecDepth 100000 in
theorem chancelref01_Letters.calls (k : Nat) (a0 : ByteArray) (r : List Int) (w : World) (h : chancelref01_Letters.f k a0 = some r) :
    Calls Try.prog 10 #[.string a0] w fun e w' => ∃ v0_ : Value, e = .returned (v0_) ∧ Kd.R (Kd.int .i32) 21 w' w.heap.size (fun _ => True) v0_ r ∧ Below w.heap.size w w' := by
  have HB := Aside0.mk (Below.refl w.heap.size w)
  have H : (chancelref01_Letters.l0 k a0 ([] : List Int)) = some r := h
  clear h
  have H' := Aside0.mk H
  clear H
  go_enter Try.func10, Try.ntmps10
  go_wp2
  go_loopg [0, 3] k (fun kq v0 v3 w' => ∃ (x0_1 : ByteArray) (x3_1 : List Int), v0 = .string x0_1 ∧ Aside0 (chancelref01_Letters.l0 kq x0_1 x3_1 = some r) ∧ Aside0 (kq ≤ k) ∧ Aside0 (Kd.R (Kd.int .i32) 21 w' w.heap.size (fun _ => True) v3 x3_1) ∧ Aside0 (Below w.heap.size w w'))
  case atStart => exact ⟨(a0), (([] : List Int)), (by first | rfl | (simp; done) | (simp [*]; done)), H', ⟨Nat.le_refl _⟩, ⟨by first | exact Kd.R_nil _ _ _ _ _ | exact Kd.N_nil _ _ _ _ _ | exact Kd.V_nil _ _ _ _ _ | exact Kd.Q_nil _ _ _ _ _ | exact Kd.S_nil _ _ _ _ _⟩, ⟨by repeat (first | (with_reducible first | exact HB.out | apply below_alloc | apply pw_below_drewN | apply below_drew1) | exact HB.out)⟩⟩
  case round =>
    clear H'
    try clear c1
    obtain ⟨x0_1, x3_1, rfl, HA, HK1, HO_3, HB⟩ := hrel
    cases gk with
    | zero => exact absurd HA.out (by simp [chancelref01_Letters.l0])
    | succ k1 =>
      have H := HA.out
      clear HA
      simp only [chancelref01_Letters.l0] at H
      by_cases c2 : x0_1.toList = ([] : List UInt8)
      · rw [if_pos c2] at H
        have c2b0 : (x0_1.toList == ([] : List UInt8)) = true := beq_iff_eq.mpr c2
        have c2b1 : (x0_1.toList != ([] : List UInt8)) = false := bne_eq_false_iff_eq.mpr c2
        clear c2
        obtain rfl := Option.some.inj H
        go_wp2
        go_ret
        exact ⟨_, by first | rfl | (simp [errW_none, errW_some] <;> rfl) | (simp [*, errW_none, errW_some] <;> rfl), by (with_reducible repeat (first | apply Kd.R_alloc | apply Kd.R_drewN | apply Kd.R_drew)); exact HO_3.out, by repeat (first | (with_reducible first | exact HB.out | apply below_alloc | apply pw_below_drewN | apply below_drew1) | exact HB.out)⟩
      · rw [if_neg c2] at H
        have c2b0 : (x0_1.toList == ([] : List UInt8)) = false := beq_eq_false_iff_ne.mpr c2
        have c2b1 : (x0_1.toList != ([] : List UInt8)) = true := bne_iff_ne.mpr c2
        replace H := Option.bind_eq_some_iff.mp H
        obtain ⟨⟨t109, t110⟩, A30, H⟩ := H
        replace H : (if x3_1.length < 35184372088832 then (if 0 ≤ t109 then (if t109 ≤ (x0_1.size : Int) then (chancelref01_Letters.l0 k1 (x0_1.extract (t109 : Int).toNat x0_1.size) (x3_1 ++ [t110])) else (none)) else (none)) else (none)) = some r := H
        have A3 := Aside0.mk A30
        clear A30
        by_cases c4 : x3_1.length < 35184372088832
        · rw [if_pos c4] at H
          have LMc4 := Aside0.mk c4
          clear c4
          obtain ⟨y111, hy111⟩ : ∃ y_ : List Int, y_ = (x3_1 ++ [t110]) := ⟨_, rfl⟩
          replace H : (if 0 ≤ t109 then (if t109 ≤ (x0_1.size : Int) then (chancelref01_Letters.l0 k1 (x0_1.extract (t109 : Int).toNat x0_1.size) y111) else (none)) else (none)) = some r := by first | (rw [hy111]; with_reducible exact H) | (have H2_ := (Option.bind_some _ _).symm.trans H; rw [hy111]; with_reducible exact H2_) | (have H2_ := (Option.bind_some _ _).symm.trans H; with_reducible exact H2_) | with_reducible exact H | (rw [hy111]; exact H) | exact H
          have Ny111 := Aside0.mk hy111
          clear hy111
          by_cases c5 : 0 ≤ t109
          · rw [if_pos c5] at H
            have c5b0 := eq_true c5
            have c5b1 : decide (0 ≤ t109) = true := decide_eq_true c5
            clear c5
            by_cases c6 : t109 ≤ (x0_1.size : Int)
            · rw [if_pos c6] at H
              have c6b0 := eq_true c6
              have c6b1 : decide (t109 ≤ (x0_1.size : Int)) = true := decide_eq_true c6
              clear c6
              have H' := Aside0.mk H
              clear H
              go_wp2_with (first | ((with_reducible refine gate_callee (f := 20) rfl ?_); refine goesL_ (some 10) rfl rfl Try.func20 (by kernel_rfl) rfl #[.string x0_1] rfl (by (try simp only [List.map_toArray, List.map_cons, List.map_nil]); first | done | rfl | (simp only [List.length_drop, List.length_take]; rfl)) ?_; (with_reducible refine (chancelref01_size.calls k1 x0_1 t109 t110 _ A3.out).mono ?_); rintro e w' ⟨rfl, ⟨nd, rfl⟩⟩; refine ⟨_, rfl, ?_⟩) | ((with_reducible refine gate_builtin (b := .append) (xs := #[.tmp 13, .tmp 15]) rfl ?_); at_builtin; refine Kd.R_append (Kd.int .i32) (w0 := w) w.heap.size rfl (.tmp 13) (.tmp 15) 22 21 (.int .i32 0) 4 rfl Try.underlying22 info21 rfl (by decide) (by omega) u3 x3_1 t110 [.int .i32 t110] (fun _ => True) (fun _ => False) rfl rfl ?aP (fun _ hk => hk.elim) ?aF ?aO ?aB ?aS ?aL ?_; (case aP => exact rfl); (case aB => exact (by repeat (first | (with_reducible first | exact HB.out | apply below_alloc | apply pw_below_drewN | apply below_drew1) | exact HB.out))); (case aF => exact (fun _ _ => trivial)); (case aO => exact (by (with_reducible repeat (first | apply Kd.R_alloc | apply Kd.R_drewN | apply Kd.R_drew)); exact HO_3.out)); (case aS => exact (below_size (by repeat (first | (with_reducible first | exact HB.out | apply below_alloc | apply pw_below_drewN | apply below_drew1) | exact HB.out)))); (case aL => have := LMc4.out; omega); intro v112 w7 ho hb hg hat; rw [← Ny111.out] at ho; have n0_ := Aside0.mk (hb); have n1_ := Aside0.mk (ho); clear HB; clear HO_3; have HB := n0_; have HO113 := n1_; clear n0_ n1_; clear ho hb hg hat))
              go_roundg k1
              case measure => have := HK1.out; omega
              case rel => exact ⟨(x0_1.extract (t109 : Int).toNat x0_1.size), (y111), (by first | rfl | (simp; done) | (simp [*]; done)), H', ⟨by have := HK1.out; omega⟩, ⟨by (with_reducible repeat (first | apply Kd.R_alloc | apply Kd.R_drewN | apply Kd.R_drew)); exact HO113.out⟩, ⟨by repeat (first | (with_reducible first | exact HB.out | apply below_alloc | apply pw_below_drewN | apply below_drew1) | exact HB.out)⟩⟩
            · rw [if_neg c6] at H
              exact absurd H (by simp)
          · rw [if_neg c5] at H
            exact absurd H (by simp)
        · rw [if_neg c4] at H
          exact absurd H (by simp)

/-! ### chancelref01_Count: function 18 -/
def chancelref01_Count.f (k : Nat) (a0 : ByteArray) : Option (Int) := (chancelref01_Letters.f k a0).bind fun t114 => (some (t114.length : Int))
theorem chancelref01_Count.mono : ∀ a0 k, LeO (chancelref01_Count.f k a0) (chancelref01_Count.f (k + 1) a0) := by
  intro a0 k
  unfold chancelref01_Count.f
  repeat' first
      | (with_reducible exact chancelref01_Letters.mono _ _)
      | (with_reducible exact LeO.refl _)
      | (with_reducible exact LeO.none _)
      | (with_reducible refine LeO.ite ?_ ?_)
      | (with_reducible refine LeO.bind ?_ (fun _ => ?_))
      | exact chancelref01_Letters.mono _ _
      | exact LeO.none _
      | refine LeO.ite ?_ ?_
      | refine LeO.bind ?_ (fun _ => ?_)
set_option maxHeartbeats 8000000 in
set_option maxRecDepth 100000 in
theorem chancelref01_Count.calls (k : Nat) (a0 : ByteArray) (r : Int) (w : World) (h : chancelref01_Count.f k a0 = some r) :
    Calls Try.prog 18 #[.string a0] w fun e w' => e = .returned (.int .i64 r) ∧ Below w.heap.size w w' := by
  have HB := Aside0.mk (Below.refl w.heap.size w)
  have H : ((chancelref01_Letters.f k a0).bind fun t114 => (some (t114.length : Int))) = some r := h
  clear h
  replace H := Option.bind_eq_some_iff.mp H
  obtain ⟨t114, A20, H⟩ := H
  replace H : (some (t114.length : Int)) = some r := H
  have A2 := Aside0.mk A20
  clear A20
  obtain rfl := Option.some.inj H
  go_enter Try.func18, Try.ntmps18
  go_wp2_with (first | ((with_reducible refine gate_callee (f := 10) rfl ?_); refine goesL_ (some 4) rfl rfl Try.func10 (by kernel_rfl) rfl #[.string a0] rfl (by (try simp only [List.map_toArray, List.map_cons, List.map_nil]); first | done | rfl | (simp only [List.length_drop, List.length_take]; rfl)) ?_; (with_reducible refine (chancelref01_Letters.calls k a0 t114 _ A2.out).mono ?_); rintro e w3 ⟨v115, rfl, ho0, hb⟩; refine ⟨_, rfl, ?_⟩; have n0_ := Aside0.mk (Kd.R_lower ho0 (below_size (by repeat (first | (with_reducible first | exact HB.out | apply below_alloc | apply pw_below_drewN | apply below_drew1) | exact HB.out)))); have n1_ := Aside0.mk (below_step (by repeat (first | (with_reducible first | exact HB.out | apply below_alloc | apply pw_below_drewN | apply below_drew1) | exact HB.out)) hb); clear HB; have HO116 := n0_; have HB := n1_; clear n0_ n1_; (try clear hb); (try clear hb2); (try clear hk); (try clear hi); (try clear ho0); obtain ⟨Ao4, co4, eo4⟩ := Kd.R_slice HO116.out; subst eo4))
  go_ret
  exact ⟨by first | rfl | (simp [errW_none, errW_some] <;> rfl) | (simp [*, errW_none, errW_some] <;> rfl), by repeat (first | (with_reducible first | exact HB.out | apply below_alloc | apply pw_below_drewN | apply below_drew1) | exact HB.out)⟩

/-! ### letters_Count: function 19 -/
open Go.Proofs.Ythnphmfjocofhaa.Runes
def letters_Count.f (s : ByteArray) : Option Int := if s.size ≤ 140737488355328 then some ((rs s 0).length : Nat) else none
/-- What a round knows. -/
def letters_Count.Inv (s : ByteArray) (r : Int) (d p n : Nat) : Prop := s.size ≤ 140737488355328 ∧ p ≤ s.size ∧ s.size - p < d ∧ n ≤ p ∧ ((n + (rs s p).length : Nat) : Int) = r
theorem letters_Count.next {s : ByteArray} {r : Int} {d p n : Nat} (h : letters_Count.Inv s r d p n) (hp : p < s.size) : ∃ d', d = d' + 1 ∧ letters_Count.Inv s r d' (p + wid s p) (n + 1) := by
  obtain ⟨h1, h2, h3, h4, h6⟩ := h
  have w1 := wid_pos s p hp
  have w2 := wid_le s p hp
  refine ⟨d - 1, by omega, h1, w2, by omega, by omega, ?_⟩
  rw [← h6, rs_step s p hp, List.length_cons]
  omega
set_option maxHeartbeats 4000000 in
set_option maxRecDepth 100000 in
theorem letters_Count.calls (a0 : ByteArray) (r : Int) (w : World) (h : letters_Count.f a0 = some r) :
    Calls Try.prog 19 #[.string a0] w fun e w' => e = .returned (.int .i64 r) ∧ Below w.heap.size w w' := by
  unfold letters_Count.f at h
  split at h
  case isFalse => cases h
  case isTrue hs =>
    have h0 := Option.some.inj h
    clear h
    have HI := Aside0.mk (show letters_Count.Inv a0 r (a0.size + 1) 0 0 from ⟨hs, by omega, by omega, by omega, by simpa using h0⟩)
    clear h0
    go_enter Try.func19, Try.ntmps19
    go_wp2
    go_loopg [3] (a0.size + 1) (fun dq v3 w' => ∃ p n : Nat, v3 = .int .i64 n ∧ w' = w.iter a0 p ∧ Aside0 (letters_Count.Inv a0 r dq p n))
    case atStart => exact ⟨0, 0, rfl, rfl, HI⟩
    case round =>
      clear HI
      obtain ⟨p, n, rfl, rfl, HI⟩ := hrel
      have hn1 : n ≤ p := HI.out.2.2.2.1
      have hp1 : p ≤ a0.size := HI.out.2.1
      by_cases hp : p < a0.size
      · have hnx : ∀ ty, (Instr.next (.pointer (some ⟨w.heap.size, 0, none⟩)) true ty).run Try.prog (w.iter a0 p) = _ := fun ty => run_next_any w a0 p ty hp
        obtain ⟨d', hd', hI2⟩ := letters_Count.next HI.out hp
        have HD := Aside0.mk hd'
        have HI2 := Aside0.mk hI2
        clear HI hd' hI2
        go_wp2
        go_roundg d'
        case measure => have := HD.out; omega
        case rel => exact ⟨p + wid a0 p, n + 1, by go_num, rfl, HI2⟩
      · have hnx : ∀ ty, (Instr.next (.pointer (some ⟨w.heap.size, 0, none⟩)) true ty).run Try.prog (w.iter a0 p) = _ := fun ty => run_next_end w a0 p ty hp
        have HE := Aside0.mk (show (n : Int) = r by have := HI.out.2.2.2.2; rw [rs_end _ _ hp] at this; simpa using this)
        clear HI
        go_wp2
        go_ret
        exact ⟨by rw [← HE.out]; rfl, iter_below _ _ _⟩

/-! ### chancellaw01_LettersPut: function 7 -/
mutual
def chancellaw01_LettersPut.j0 : Nat → ByteArray → Int → ByteArray → Bool → Option (Bool)
  | 0, _, _, _, _ => none
  | k + 1, x0, x1, x2, x20 => if x20 = true then (some true) else ((letters_Put.f x0 x1 x2).bind fun t118 => ((chancelref01_Put.f k x0 x1 x2).bind fun t119 => (if t118.toList = t119.toList then ((chancelref01_Right.f k x0).bind fun t120 => (if t120 = true then ((chancelref01_Right.f k x2).bind fun t121 => (chancellaw01_LettersPut.j1 k x0 x1 x2 t118 (!t121))) else (chancellaw01_LettersPut.j1 k x0 x1 x2 t118 true))) else (some false))))
def chancellaw01_LettersPut.j1 : Nat → ByteArray → Int → ByteArray → ByteArray → Bool → Option (Bool)
  | 0, _, _, _, _, _ => none
  | k + 1, x0, x1, x2, x7, x38 => if x38 = true then (some true) else ((chancelref01_Count.f k x0).bind fun t122 => ((chancelref01_Count.f k x2).bind fun t123 => ((letters_Cut.f x7 (mn (mx x1 0) t122) (wrap64 ((mn (mx x1 0) t122) + t123))).bind fun t124 => (if t124.toList = x2.toList then ((letters_Cut.f x7 0 (mn (mx x1 0) t122)).bind fun t125 => ((letters_Cut.f x7 (wrap64 ((mn (mx x1 0) t122) + t123)) (wrap64 (t122 + t123))).bind fun t126 => (if t125.size + t126.size ≤ 9223372036854775807 then (if (t125 ++ t126).toList = x0.toList then ((letters_Count.f x7).bind fun t127 => (some (t127 == (wrap64 (t122 + t123))))) else (some false)) else (none)))) else (some false)))))
end
def chancellaw01_LettersPut.f (k : Nat) (a0 : ByteArray) (a1 : Int) (a2 : ByteArray) : Option (Bool) := (letters_Put.f (⟨#[97, 226, 130, 172]⟩ : ByteArray) 1 (⟨#[120]⟩ : ByteArray)).bind fun t117 => (if t117.toList = ([97, 120, 226, 130, 172] : List UInt8) then (if (a0.size : Int) > 5000 then (chancellaw01_LettersPut.j0 k a0 a1 a2 true) else (chancellaw01_LettersPut.j0 k a0 a1 a2 (decide ((a2.size : Int) > 5000)))) else (some false))
theorem chancellaw01_LettersPut.mono_l : ∀ k, (∀ y0 y1 y2 y3, LeO (chancellaw01_LettersPut.j0 k y0 y1 y2 y3) (chancellaw01_LettersPut.j0 (k + 1) y0 y1 y2 y3)) ∧ (∀ y0 y1 y2 y3 y4, LeO (chancellaw01_LettersPut.j1 k y0 y1 y2 y3 y4) (chancellaw01_LettersPut.j1 (k + 1) y0 y1 y2 y3 y4))
  | 0 => ⟨fun _ _ _ _ r h => by simp [chancellaw01_LettersPut.j0] at h, fun _ _ _ _ _ r h => by simp [chancellaw01_LettersPut.j1] at h⟩
  | k + 1 => by
    obtain ⟨ih0, ih1⟩ := chancellaw01_LettersPut.mono_l k
    refine ⟨?_, ?_⟩
    · intro y0 y1 y2 y3
      unfold chancellaw01_LettersPut.j0
      repeat' first
      | (with_reducible exact ih0 _ _ _ _)
      | (with_reducible exact ih1 _ _ _ _ _)
      | (with_reducible exact chancelref01_Count.mono _ _)
      | (with_reducible exact chancelref01_Put.mono _ _ _ _)
      | (with_reducible exact chancelref01_Right.mono _ _)
      | (with_reducible exact LeO.refl _)
      | (with_reducible exact LeO.none _)
      | (with_reducible refine LeO.ite ?_ ?_)
      | (with_reducible refine LeO.bind ?_ (fun _ => ?_))
      | exact ih0 _ _ _ _
      | exact ih1 _ _ _ _ _
      | exact chancelref01_Count.mono _ _
      | exact chancelref01_Put.mono _ _ _ _
      | exact chancelref01_Right.mono _ _
      | exact LeO.none _
      | refine LeO.ite ?_ ?_
      | refine LeO.bind ?_ (fun _ => ?_)
    · intro y0 y1 y2 y3 y4
      unfold chancellaw01_LettersPut.j1
      repeat' first
      | (with_reducible exact ih0 _ _ _ _)
      | (with_reducible exact ih1 _ _ _ _ _)
      | (with_reducible exact chancelref01_Count.mono _ _)
      | (with_reducible exact chancelref01_Put.mono _ _ _ _)
      | (with_reducible exact chancelref01_Right.mono _ _)
      | (with_reducible exact LeO.refl _)
      | (with_reducible exact LeO.none _)
      | (with_reducible refine LeO.ite ?_ ?_)
      | (with_reducible refine LeO.bind ?_ (fun _ => ?_))
      | exact ih0 _ _ _ _
      | exact ih1 _ _ _ _ _
      | exact chancelref01_Count.mono _ _
      | exact chancelref01_Put.mono _ _ _ _
      | exact chancelref01_Right.mono _ _
      | exact LeO.none _
      | refine LeO.ite ?_ ?_
      | refine LeO.bind ?_ (fun _ => ?_)
theorem chancellaw01_LettersPut.mono : ∀ a0 a1 a2 k, LeO (chancellaw01_LettersPut.f k a0 a1 a2) (chancellaw01_LettersPut.f (k + 1) a0 a1 a2) := by
  intro a0 a1 a2 k
  obtain ⟨ih0, ih1⟩ := chancellaw01_LettersPut.mono_l k
  unfold chancellaw01_LettersPut.f
  repeat' first
      | (with_reducible exact ih0 _ _ _ _)
      | (with_reducible exact ih1 _ _ _ _ _)
      | (with_reducible exact chancelref01_Count.mono _ _)
      | (with_reducible exact chancelref01_Put.mono _ _ _ _)
      | (with_reducible exact chancelref01_Right.mono _ _)
      | (with_reducible exact LeO.refl _)
      | (with_reducible exact LeO.none _)
      | (with_reducible refine LeO.ite ?_ ?_)
      | (with_reducible refine LeO.bind ?_ (fun _ => ?_))
      | exact ih0 _ _ _ _
      | exact ih1 _ _ _ _ _
      | exact chancelref01_Count.mono _ _
      | exact chancelref01_Put.mono _ _ _ _
      | exact chancelref01_Right.mono _ _
      | exact LeO.none _
      | refine LeO.ite ?_ ?_
      | refine LeO.bind ?_ (fun _ => ?_)
set_option maxHeartbeats 8000000 in
set_option maxRecDepth 100000 in
theorem chancellaw01_LettersPut.calls (k : Nat) (a0 : ByteArray) (a1 : Int) (a2 : ByteArray) (r : Bool) (w : World) (h : chancellaw01_LettersPut.f k a0 a1 a2 = some r) :
    Calls Try.prog 7 #[.string a0, .int .i64 a1, .string a2] w fun e w' => e = .returned (.bool r) ∧ Below w.heap.size w w' := by
  have HB := Aside0.mk (Below.refl w.heap.size w)
  have H : ((letters_Put.f (⟨#[97, 226, 130, 172]⟩ : ByteArray) 1 (⟨#[120]⟩ : ByteArray)).bind fun t117 => (if t117.toList = ([97, 120, 226, 130, 172] : List UInt8) then (if (a0.size : Int) > 5000 then (chancellaw01_LettersPut.j0 k a0 a1 a2 true) else (chancellaw01_LettersPut.j0 k a0 a1 a2 (decide ((a2.size : Int) > 5000)))) else (some false))) = some r := h
  clear h
  replace H := Option.bind_eq_some_iff.mp H
  obtain ⟨t117, A40, H⟩ := H
  replace H : (if t117.toList = ([97, 120, 226, 130, 172] : List UInt8) then (if (a0.size : Int) > 5000 then (chancellaw01_LettersPut.j0 k a0 a1 a2 true) else (chancellaw01_LettersPut.j0 k a0 a1 a2 (decide ((a2.size : Int) > 5000)))) else (some false)) = some r := H
  have A4 := Aside0.mk A40
  clear A40
  by_cases c5 : t117.toList = ([97, 120, 226, 130, 172] : List UInt8)
  · rw [if_pos c5] at H
    have c5b0 : (t117.toList == ([97, 120, 226, 130, 172] : List UInt8)) = true := beq_iff_eq.mpr c5
    have c5b1 : (t117.toList != ([97, 120, 226, 130, 172] : List UInt8)) = false := bne_eq_false_iff_eq.mpr c5
    clear c5
    have HC6 := Aside0.mk H
    clear H
    go_enter Try.func7, Try.ntmps7
    go_upto_region 3 with (first | ((with_reducible refine gate_callee (f := 15) rfl ?_); refine goesL_ (some 11) rfl rfl Try.func15 (by kernel_rfl) rfl #[.string (⟨#[97, 226, 130, 172]⟩ : ByteArray), .int .i64 1, .string (⟨#[120]⟩ : ByteArray)] rfl (by (try simp only [List.map_toArray, List.map_cons, List.map_nil]); first | done | rfl | (simp only [List.length_drop, List.length_take]; rfl)) ?_; (with_reducible refine (letters_Put.calls (⟨#[97, 226, 130, 172]⟩ : ByteArray) 1 (⟨#[120]⟩ : ByteArray) t117 _ A4.out).mono ?_); rintro e w7 ⟨rfl, hb⟩; refine ⟨_, rfl, ?_⟩; have n0_ := Aside0.mk (below_step (by repeat (first | (with_reducible first | exact HB.out | apply below_alloc | apply pw_below_drewN | apply below_drew1) | exact HB.out)) hb); clear HB; have HB := n0_; clear n0_; (try clear hb); (try clear hb2); (try clear hk); (try clear hi)))
    (try simp only [Act.put, List.setIfInBounds_toArray, List.set_cons_zero, List.set_cons_succ])
    go_cut [20] (fun v20 wc => ∃ (kq : Nat) (x20_5 : Bool), v20 = .bool x20_5 ∧ Aside0 (chancellaw01_LettersPut.j0 kq a0 a1 a2 x20_5 = some r) ∧ Aside0 (kq ≤ k) ∧ Aside0 (Below w.heap.size w wc))
    case first =>
      have H := HC6.out
      clear HC6
      by_cases c8 : (a0.size : Int) > 5000
      · rw [if_pos c8] at H
        have c8b0 : decide (5000 < (a0.size : Int)) = true := decide_eq_true c8
        have c8b1 : decide (5000 < a0.size) = true := decide_eq_true (by omega)
        clear c8
        (first | rw [c8b0] | (simp only [i64_w, i32_w]; rw [c8b0]) | skip)
        have H' := Aside0.mk H
        clear H
        go_wp2
        go_meet
        case rel => exact ⟨_, (true), (by first | rfl | (simp; done) | (simp [*]; done)), H', ⟨by first | omega | exact Nat.le_refl _⟩, ⟨by repeat (first | (with_reducible first | exact HB.out | apply below_alloc | apply pw_below_drewN | apply below_drew1) | exact HB.out)⟩⟩
      · rw [if_neg c8] at H
        have c8b0 : decide (5000 < (a0.size : Int)) = false := decide_eq_false c8
        have c8b1 : decide (5000 < a0.size) = false := decide_eq_false (by omega)
        clear c8
        (first | rw [c8b0] | (simp only [i64_w, i32_w]; rw [c8b0]) | skip)
        have H' := Aside0.mk H
        clear H
        go_wp2
        go_meet
        case rel => exact ⟨_, (decide ((a2.size : Int) > 5000)), (by first | rfl | (simp; done) | (simp [*]; done)), H', ⟨by first | omega | exact Nat.le_refl _⟩, ⟨by repeat (first | (with_reducible first | exact HB.out | apply below_alloc | apply pw_below_drewN | apply below_drew1) | exact HB.out)⟩⟩
    case rest =>
      clear HC6
      try clear c1
      try clear p2
      try clear c5
      try clear c5b0
      try clear c5b1
      try clear c7
      try clear c8
      try clear c8b0
      try clear c8b1
      obtain ⟨kq, x20_5, rfl, HA, HJ5, HB⟩ := hcut
      cases kq with
      | zero => exact absurd HA.out (by simp [chancellaw01_LettersPut.j0])
      | succ kj5 =>
        have H := HA.out
        clear HA
        simp only [chancellaw01_LettersPut.j0] at H
        by_cases c9 : x20_5 = true
        · subst c9
          have H1 : (some true) = some r := by rw [if_pos rfl] at H; exact H
          clear H
          have H := H1
          clear H1
          obtain rfl := Option.some.inj H
          go_wp2
          go_ret
          exact ⟨by first | rfl | (simp [errW_none, errW_some] <;> rfl) | (simp [*, errW_none, errW_some] <;> rfl), by repeat (first | (with_reducible first | exact HB.out | apply below_alloc | apply pw_below_drewN | apply below_drew1) | exact HB.out)⟩
        · replace c9 := Bool.eq_false_iff.mpr c9
          subst c9
          have H1 : ((letters_Put.f a0 a1 a2).bind fun t118 => ((chancelref01_Put.f kj5 a0 a1 a2).bind fun t119 => (if t118.toList = t119.toList then ((chancelref01_Right.f kj5 a0).bind fun t120 => (if t120 = true then ((chancelref01_Right.f kj5 a2).bind fun t121 => (chancellaw01_LettersPut.j1 kj5 a0 a1 a2 t118 (!t121))) else (chancellaw01_LettersPut.j1 kj5 a0 a1 a2 t118 true))) else (some false)))) = some r := by rw [if_neg (show ¬ (false = true) by decide)] at H; exact H
          clear H
          have H := H1
          clear H1
          replace H := Option.bind_eq_some_iff.mp H
          obtain ⟨t118, A100, H⟩ := H
          replace H : ((chancelref01_Put.f kj5 a0 a1 a2).bind fun t119 => (if t118.toList = t119.toList then ((chancelref01_Right.f kj5 a0).bind fun t120 => (if t120 = true then ((chancelref01_Right.f kj5 a2).bind fun t121 => (chancellaw01_LettersPut.j1 kj5 a0 a1 a2 t118 (!t121))) else (chancellaw01_LettersPut.j1 kj5 a0 a1 a2 t118 true))) else (some false))) = some r := H
          have A10 := Aside0.mk A100
          clear A100
          replace H := Option.bind_eq_some_iff.mp H
          obtain ⟨t119, A110, H⟩ := H
          replace H : (if t118.toList = t119.toList then ((chancelref01_Right.f kj5 a0).bind fun t120 => (if t120 = true then ((chancelref01_Right.f kj5 a2).bind fun t121 => (chancellaw01_LettersPut.j1 kj5 a0 a1 a2 t118 (!t121))) else (chancellaw01_LettersPut.j1 kj5 a0 a1 a2 t118 true))) else (some false)) = some r := H
          have A11 := Aside0.mk A110
          clear A110
          by_cases c12 : t118.toList = t119.toList
          · rw [if_pos c12] at H
            have c12b0 : (t118.toList == t119.toList) = true := beq_iff_eq.mpr c12
            have c12b1 : (t118.toList != t119.toList) = false := bne_eq_false_iff_eq.mpr c12
            clear c12
            have HC13 := Aside0.mk H
            clear H
            go_upto_region 8 with (first | ((with_reducible refine gate_callee (f := 15) rfl ?_); refine goesL_ (some 24) rfl rfl Try.func15 (by kernel_rfl) rfl #[.string a0, .int .i64 a1, .string a2] rfl (by (try simp only [List.map_toArray, List.map_cons, List.map_nil]); first | done | rfl | (simp only [List.length_drop, List.length_take]; rfl)) ?_; (with_reducible refine (letters_Put.calls a0 a1 a2 t118 _ A10.out).mono ?_); rintro e w14 ⟨rfl, hb⟩; refine ⟨_, rfl, ?_⟩; have n0_ := Aside0.mk (below_step (by repeat (first | (with_reducible first | exact HB.out | apply below_alloc | apply pw_below_drewN | apply below_drew1) | exact HB.out)) hb); clear HB; have HB := n0_; clear n0_; (try clear hb); (try clear hb2); (try clear hk); (try clear hi)) | ((with_reducible refine gate_callee (f := 16) rfl ?_); refine goesL_ (some 29) rfl rfl Try.func16 (by kernel_rfl) rfl #[.string a0, .int .i64 a1, .string a2] rfl (by (try simp only [List.map_toArray, List.map_cons, List.map_nil]); first | done | rfl | (simp only [List.length_drop, List.length_take]; rfl)) ?_; (with_reducible refine (chancelref01_Put.calls kj5 a0 a1 a2 t119 _ A11.out).mono ?_); rintro e w' ⟨rfl, ⟨nd, rfl⟩⟩; refine ⟨_, rfl, ?_⟩))
            (try simp only [Act.put, List.setIfInBounds_toArray, List.set_cons_zero, List.set_cons_succ])
            go_cut [38] (fun v38 wc => ∃ (kq : Nat) (x38_12 : Bool), v38 = .bool x38_12 ∧ Aside0 (chancellaw01_LettersPut.j1 kq a0 a1 a2 t118 x38_12 = some r) ∧ Aside0 (kq ≤ kj5) ∧ Aside0 (Below w.heap.size w wc))
            case first =>
              have H := HC13.out
              clear HC13
              replace H := Option.bind_eq_some_iff.mp H
              obtain ⟨t120, A150, H⟩ := H
              replace H : (if t120 = true then ((chancelref01_Right.f kj5 a2).bind fun t121 => (chancellaw01_LettersPut.j1 kj5 a0 a1 a2 t118 (!t121))) else (chancellaw01_LettersPut.j1 kj5 a0 a1 a2 t118 true)) = some r := H
              have A15 := Aside0.mk A150
              clear A150
              by_cases c16 : t120 = true
              · subst c16
                have H1 : ((chancelref01_Right.f kj5 a2).bind fun t121 => (chancellaw01_LettersPut.j1 kj5 a0 a1 a2 t118 (!t121))) = some r := by rw [if_pos rfl] at H; exact H
                clear H
                have H := H1
                clear H1
                replace H := Option.bind_eq_some_iff.mp H
                obtain ⟨t121, A170, H⟩ := H
                replace H : (chancellaw01_LettersPut.j1 kj5 a0 a1 a2 t118 (!t121)) = some r := H
                have A17 := Aside0.mk A170
                clear A170
                have H' := Aside0.mk H
                clear H
                go_wp2_with (first | ((with_reducible refine gate_callee (f := 17) rfl ?_); refine goesL_ (some 32) rfl rfl Try.func17 (by kernel_rfl) rfl #[.string a0] rfl (by (try simp only [List.map_toArray, List.map_cons, List.map_nil]); first | done | rfl | (simp only [List.length_drop, List.length_take]; rfl)) ?_; (with_reducible refine (chancelref01_Right.calls kj5 a0 true _ A15.out).mono ?_); rintro e w' ⟨rfl, ⟨nd, rfl⟩⟩; refine ⟨_, rfl, ?_⟩) | (go_at_call 17; (with_reducible refine (chancelref01_Right.calls kj5 a2 t121 _ A17.out).mono ?_); rintro e w' ⟨rfl, ⟨nd, rfl⟩⟩))
                go_meet
                case rel => exact ⟨_, (!t121), (by first | rfl | (simp; done) | (simp [*]; done)), H', ⟨by have := HJ5.out; first | omega | exact Nat.le_refl _⟩, ⟨by repeat (first | (with_reducible first | exact HB.out | apply below_alloc | apply pw_below_drewN | apply below_drew1) | exact HB.out)⟩⟩
              · replace c16 := Bool.eq_false_iff.mpr c16
                subst c16
                have H1 : (chancellaw01_LettersPut.j1 kj5 a0 a1 a2 t118 true) = some r := by rw [if_neg (show ¬ (false = true) by decide)] at H; exact H
                clear H
                have H := H1
                clear H1
                have H' := Aside0.mk H
                clear H
                go_wp2_with (first | ((with_reducible refine gate_callee (f := 17) rfl ?_); refine goesL_ (some 32) rfl rfl Try.func17 (by kernel_rfl) rfl #[.string a0] rfl (by (try simp only [List.map_toArray, List.map_cons, List.map_nil]); first | done | rfl | (simp only [List.length_drop, List.length_take]; rfl)) ?_; (with_reducible refine (chancelref01_Right.calls kj5 a0 false _ A15.out).mono ?_); rintro e w' ⟨rfl, ⟨nd, rfl⟩⟩; refine ⟨_, rfl, ?_⟩))
                go_meet
                case rel => exact ⟨_, (true), (by first | rfl | (simp; done) | (simp [*]; done)), H', ⟨by have := HJ5.out; first | omega | exact Nat.le_refl _⟩, ⟨by repeat (first | (with_reducible first | exact HB.out | apply below_alloc | apply pw_below_drewN | apply below_drew1) | exact HB.out)⟩⟩
            case rest =>
              clear HC13
              try clear c1
              try clear p2
              try clear c5
              try clear c5b0
              try clear c5b1
              try clear c7
              try clear c8
              try clear c8b0
              try clear c8b1
              try clear c9
              try clear c12
              try clear c12b0
              try clear c12b1
              try clear c15
              try clear c16
              try clear c17
              try clear p2
              obtain ⟨kq, x38_12, rfl, HA, HJ12, HB⟩ := hcut
              cases kq with
              | zero => exact absurd HA.out (by simp [chancellaw01_LettersPut.j1])
              | succ kj12 =>
                have H := HA.out
                clear HA
                simp only [chancellaw01_LettersPut.j1] at H
                by_cases c18 : x38_12 = true
                · subst c18
                  have H1 : (some true) = some r := by rw [if_pos rfl] at H; exact H
                  clear H
                  have H := H1
                  clear H1
                  obtain rfl := Option.some.inj H
                  go_wp2
                  go_ret
                  exact ⟨by first | rfl | (simp [errW_none, errW_some] <;> rfl) | (simp [*, errW_none, errW_some] <;> rfl), by repeat (first | (with_reducible first | exact HB.out | apply below_alloc | apply pw_below_drewN | apply below_drew1) | exact HB.out)⟩
                · replace c18 := Bool.eq_false_iff.mpr c18
                  subst c18
                  have H1 : ((chancelref01_Count.f kj12 a0).bind fun t122 => ((chancelref01_Count.f kj12 a2).bind fun t123 => ((letters_Cut.f t118 (mn (mx a1 0) t122) (wrap64 ((mn (mx a1 0) t122) + t123))).bind fun t124 => (if t124.toList = a2.toList then ((letters_Cut.f t118 0 (mn (mx a1 0) t122)).bind fun t125 => ((letters_Cut.f t118 (wrap64 ((mn (mx a1 0) t122) + t123)) (wrap64 (t122 + t123))).bind fun t126 => (if t125.size + t126.size ≤ 9223372036854775807 then (if (t125 ++ t126).toList = a0.toList then ((letters_Count.f t118).bind fun t127 => (some (t127 == (wrap64 (t122 + t123))))) else (some false)) else (none)))) else (some false))))) = some r := by rw [if_neg (show ¬ (false = true) by decide)] at H; exact H
                  clear H
                  have H := H1
                  clear H1
                  replace H := Option.bind_eq_some_iff.mp H
                  obtain ⟨t122, A190, H⟩ := H
                  replace H : ((chancelref01_Count.f kj12 a2).bind fun t123 => ((letters_Cut.f t118 (mn (mx a1 0) t122) (wrap64 ((mn (mx a1 0) t122) + t123))).bind fun t124 => (if t124.toList = a2.toList then ((letters_Cut.f t118 0 (mn (mx a1 0) t122)).bind fun t125 => ((letters_Cut.f t118 (wrap64 ((mn (mx a1 0) t122) + t123)) (wrap64 (t122 + t123))).bind fun t126 => (if t125.size + t126.size ≤ 9223372036854775807 then (if (t125 ++ t126).toList = a0.toList then ((letters_Count.f t118).bind fun t127 => (some (t127 == (wrap64 (t122 + t123))))) else (some false)) else (none)))) else (some false)))) = some r := H
                  have A19 := Aside0.mk A190
                  clear A190
                  obtain ⟨ji20, hji20⟩ : ∃ j_ : Int, (mx a1 0) = j_ := ⟨_, rfl⟩
                  replace H : ((chancelref01_Count.f kj12 a2).bind fun t123 => ((letters_Cut.f t118 (mn (ji20) t122) (wrap64 ((mn (ji20) t122) + t123))).bind fun t124 => (if t124.toList = a2.toList then ((letters_Cut.f t118 0 (mn (ji20) t122)).bind fun t125 => ((letters_Cut.f t118 (wrap64 ((mn (ji20) t122) + t123)) (wrap64 (t122 + t123))).bind fun t126 => (if t125.size + t126.size ≤ 9223372036854775807 then (if (t125 ++ t126).toList = a0.toList then ((letters_Count.f t118).bind fun t127 => (some (t127 == (wrap64 (t122 + t123))))) else (some false)) else (none)))) else (some false)))) = some r := by first | (rw [hji20] at H; exact H) | (simp only [hji20] at H ⊢; exact H)
                  (try rw [hji20] at A19)
                  have hji20_ : (if a1 < 0 then 0 else a1) = ji20 := hji20
                  obtain ⟨ji21, hji21⟩ : ∃ j_ : Int, (mn (ji20) t122) = j_ := ⟨_, rfl⟩
                  replace H : ((chancelref01_Count.f kj12 a2).bind fun t123 => ((letters_Cut.f t118 (ji21) (wrap64 ((ji21) + t123))).bind fun t124 => (if t124.toList = a2.toList then ((letters_Cut.f t118 0 (ji21)).bind fun t125 => ((letters_Cut.f t118 (wrap64 ((ji21) + t123)) (wrap64 (t122 + t123))).bind fun t126 => (if t125.size + t126.size ≤ 9223372036854775807 then (if (t125 ++ t126).toList = a0.toList then ((letters_Count.f t118).bind fun t127 => (some (t127 == (wrap64 (t122 + t123))))) else (some false)) else (none)))) else (some false)))) = some r := by first | (rw [hji21] at H; exact H) | (simp only [hji21] at H ⊢; exact H)
                  (try rw [hji21] at A19)
                  have hji21_ : (if t122 < (ji20) then t122 else (ji20)) = ji21 := hji21
                  replace H := Option.bind_eq_some_iff.mp H
                  obtain ⟨t123, A220, H⟩ := H
                  replace H : ((letters_Cut.f t118 (ji21) (wrap64 ((ji21) + t123))).bind fun t124 => (if t124.toList = a2.toList then ((letters_Cut.f t118 0 (ji21)).bind fun t125 => ((letters_Cut.f t118 (wrap64 ((ji21) + t123)) (wrap64 (t122 + t123))).bind fun t126 => (if t125.size + t126.size ≤ 9223372036854775807 then (if (t125 ++ t126).toList = a0.toList then ((letters_Count.f t118).bind fun t127 => (some (t127 == (wrap64 (t122 + t123))))) else (some false)) else (none)))) else (some false))) = some r := H
                  have A22 := Aside0.mk A220
                  clear A220
                  replace H := Option.bind_eq_some_iff.mp H
                  obtain ⟨t124, A230, H⟩ := H
                  replace H : (if t124.toList = a2.toList then ((letters_Cut.f t118 0 (ji21)).bind fun t125 => ((letters_Cut.f t118 (wrap64 ((ji21) + t123)) (wrap64 (t122 + t123))).bind fun t126 => (if t125.size + t126.size ≤ 9223372036854775807 then (if (t125 ++ t126).toList = a0.toList then ((letters_Count.f t118).bind fun t127 => (some (t127 == (wrap64 (t122 + t123))))) else (some false)) else (none)))) else (some false)) = some r := H
                  have A23 := Aside0.mk A230
                  clear A230
                  by_cases c24 : t124.toList = a2.toList
                  · rw [if_pos c24] at H
                    have c24b0 : (t124.toList == a2.toList) = true := beq_iff_eq.mpr c24
                    have c24b1 : (t124.toList != a2.toList) = false := bne_eq_false_iff_eq.mpr c24
                    clear c24
                    replace H := Option.bind_eq_some_iff.mp H
                    obtain ⟨t125, A250, H⟩ := H
                    replace H : ((letters_Cut.f t118 (wrap64 ((ji21) + t123)) (wrap64 (t122 + t123))).bind fun t126 => (if t125.size + t126.size ≤ 9223372036854775807 then (if (t125 ++ t126).toList = a0.toList then ((letters_Count.f t118).bind fun t127 => (some (t127 == (wrap64 (t122 + t123))))) else (some false)) else (none))) = some r := H
                    have A25 := Aside0.mk A250
                    clear A250
                    replace H := Option.bind_eq_some_iff.mp H
                    obtain ⟨t126, A260, H⟩ := H
                    replace H : (if t125.size + t126.size ≤ 9223372036854775807 then (if (t125 ++ t126).toList = a0.toList then ((letters_Count.f t118).bind fun t127 => (some (t127 == (wrap64 (t122 + t123))))) else (some false)) else (none)) = some r := H
                    have A26 := Aside0.mk A260
                    clear A260
                    by_cases c27 : t125.size + t126.size ≤ 9223372036854775807
                    · rw [if_pos c27] at H
                      have c27b0 := eq_true c27
                      have c27b1 : decide (t125.size + t126.size ≤ 9223372036854775807) = true := decide_eq_true c27
                      try have c27b2 : (9223372036854775807 < t125.size + t126.size) = False := eq_false (Nat.not_lt.2 c27)
                      by_cases c28 : (t125 ++ t126).toList = a0.toList
                      · rw [if_pos c28] at H
                        have c28b0 : ((t125 ++ t126).toList == a0.toList) = true := beq_iff_eq.mpr c28
                        have c28b1 : ((t125 ++ t126).toList != a0.toList) = false := bne_eq_false_iff_eq.mpr c28
                        clear c28
                        replace H := Option.bind_eq_some_iff.mp H
                        obtain ⟨t127, A290, H⟩ := H
                        replace H : (some (t127 == (wrap64 (t122 + t123)))) = some r := H
                        have A29 := Aside0.mk A290
                        clear A290
                        obtain rfl := Option.some.inj H
                        go_wp2_with (first | ((with_reducible refine gate_callee (f := 18) rfl ?_); refine goesL_ (some 40) rfl rfl Try.func18 (by kernel_rfl) rfl #[.string a0] rfl (by (try simp only [List.map_toArray, List.map_cons, List.map_nil]); first | done | rfl | (simp only [List.length_drop, List.length_take]; rfl)) ?_; (with_reducible refine (chancelref01_Count.calls kj12 a0 t122 _ A19.out).mono ?_); rintro e w30 ⟨rfl, hb⟩; refine ⟨_, rfl, ?_⟩; have n0_ := Aside0.mk (below_step (by repeat (first | (with_reducible first | exact HB.out | apply below_alloc | apply pw_below_drewN | apply below_drew1) | exact HB.out)) hb); clear HB; have HB := n0_; clear n0_; (try clear hb); (try clear hb2); (try clear hk); (try clear hi)) | ((with_reducible refine gate_callee (f := 18) rfl ?_); refine goesL_ (some 46) rfl rfl Try.func18 (by kernel_rfl) rfl #[.string a2] rfl (by (try simp only [List.map_toArray, List.map_cons, List.map_nil]); first | done | rfl | (simp only [List.length_drop, List.length_take]; rfl)) ?_; (with_reducible refine (chancelref01_Count.calls kj12 a2 t123 _ A22.out).mono ?_); rintro e w31 ⟨rfl, hb⟩; refine ⟨_, rfl, ?_⟩; have n0_ := Aside0.mk (below_step (by repeat (first | (with_reducible first | exact HB.out | apply below_alloc | apply pw_below_drewN | apply below_drew1) | exact HB.out)) hb); clear HB; have HB := n0_; clear n0_; (try clear hb); (try clear hb2); (try clear hk); (try clear hi)) | ((with_reducible refine gate_callee (f := 13) rfl ?_); refine goesL_ (some 52) rfl rfl Try.func13 (by kernel_rfl) rfl #[.string t118, .int .i64 ji21, .int .i64 (wrap64 ((ji21) + t123))] rfl (by (try simp only [List.map_toArray, List.map_cons, List.map_nil]); first | done | (simp only [hji21]; rfl) | rfl | (simp only [List.length_drop, List.length_take]; rfl)) ?_; (with_reducible refine (letters_Cut.calls t118 ji21 (wrap64 ((ji21) + t123)) t124 _ A23.out).mono ?_); rintro e w32 ⟨rfl, hb⟩; refine ⟨_, rfl, ?_⟩; have n0_ := Aside0.mk (below_step (by repeat (first | (with_reducible first | exact HB.out | apply below_alloc | apply pw_below_drewN | apply below_drew1) | exact HB.out)) hb); clear HB; have HB := n0_; clear n0_; (try clear hb); (try clear hb2); (try clear hk); (try clear hi)) | (go_at_call 13; (with_reducible refine (letters_Cut.calls t118 0 ji21 t125 _ A25.out).mono ?_); rintro e w33 ⟨rfl, hb⟩; have n0_ := Aside0.mk (below_step (by repeat (first | (with_reducible first | exact HB.out | apply below_alloc | apply pw_below_drewN | apply below_drew1) | exact HB.out)) hb); clear HB; have HB := n0_; clear n0_; (try clear hb); (try clear hb2); (try clear hk); (try clear hi)) | (go_at_call 13; (with_reducible refine (letters_Cut.calls t118 (wrap64 ((ji21) + t123)) (wrap64 (t122 + t123)) t126 _ A26.out).mono ?_); rintro e w34 ⟨rfl, hb⟩; have n0_ := Aside0.mk (below_step (by repeat (first | (with_reducible first | exact HB.out | apply below_alloc | apply pw_below_drewN | apply below_drew1) | exact HB.out)) hb); clear HB; have HB := n0_; clear n0_; (try clear hb); (try clear hb2); (try clear hk); (try clear hi)) | (go_at_call 19; (with_reducible refine (letters_Count.calls t118 t127 _ A29.out).mono ?_); rintro e w35 ⟨rfl, hb⟩; have n0_ := Aside0.mk (below_step (by repeat (first | (with_reducible first | exact HB.out | apply below_alloc | apply pw_below_drewN | apply below_drew1) | exact HB.out)) hb); clear HB; have HB := n0_; clear n0_; (try clear hb); (try clear hb2); (try clear hk); (try clear hi)))
                        go_ret
                        exact ⟨by first | rfl | (simp [errW_none, errW_some] <;> rfl) | (simp only [← hji20, ← hji21]; first | rfl | (simp [errW_none, errW_some] <;> rfl)) | (simp [*, errW_none, errW_some] <;> rfl), by repeat (first | (with_reducible first | exact HB.out | apply below_alloc | apply pw_below_drewN | apply below_drew1) | exact HB.out)⟩
                      · rw [if_neg c28] at H
                        have c28b0 : ((t125 ++ t126).toList == a0.toList) = false := beq_eq_false_iff_ne.mpr c28
                        have c28b1 : ((t125 ++ t126).toList != a0.toList) = true := bne_iff_ne.mpr c28
                        obtain rfl := Option.some.inj H
                        go_wp2_with (first | ((with_reducible refine gate_callee (f := 18) rfl ?_); refine goesL_ (some 40) rfl rfl Try.func18 (by kernel_rfl) rfl #[.string a0] rfl (by (try simp only [List.map_toArray, List.map_cons, List.map_nil]); first | done | rfl | (simp only [List.length_drop, List.length_take]; rfl)) ?_; (with_reducible refine (chancelref01_Count.calls kj12 a0 t122 _ A19.out).mono ?_); rintro e w36 ⟨rfl, hb⟩; refine ⟨_, rfl, ?_⟩; have n0_ := Aside0.mk (below_step (by repeat (first | (with_reducible first | exact HB.out | apply below_alloc | apply pw_below_drewN | apply below_drew1) | exact HB.out)) hb); clear HB; have HB := n0_; clear n0_; (try clear hb); (try clear hb2); (try clear hk); (try clear hi)) | ((with_reducible refine gate_callee (f := 18) rfl ?_); refine goesL_ (some 46) rfl rfl Try.func18 (by kernel_rfl) rfl #[.string a2] rfl (by (try simp only [List.map_toArray, List.map_cons, List.map_nil]); first | done | rfl | (simp only [List.length_drop, List.length_take]; rfl)) ?_; (with_reducible refine (chancelref01_Count.calls kj12 a2 t123 _ A22.out).mono ?_); rintro e w37 ⟨rfl, hb⟩; refine ⟨_, rfl, ?_⟩; have n0_ := Aside0.mk (below_step (by repeat (first | (with_reducible first | exact HB.out | apply below_alloc | apply pw_below_drewN | apply below_drew1) | exact HB.out)) hb); clear HB; have HB := n0_; clear n0_; (try clear hb); (try clear hb2); (try clear hk); (try clear hi)) | ((with_reducible refine gate_callee (f := 13) rfl ?_); refine goesL_ (some 52) rfl rfl Try.func13 (by kernel_rfl) rfl #[.string t118, .int .i64 ji21, .int .i64 (wrap64 ((ji21) + t123))] rfl (by (try simp only [List.map_toArray, List.map_cons, List.map_nil]); first | done | (simp only [hji21]; rfl) | rfl | (simp only [List.length_drop, List.length_take]; rfl)) ?_; (with_reducible refine (letters_Cut.calls t118 ji21 (wrap64 ((ji21) + t123)) t124 _ A23.out).mono ?_); rintro e w38 ⟨rfl, hb⟩; refine ⟨_, rfl, ?_⟩; have n0_ := Aside0.mk (below_step (by repeat (first | (with_reducible first | exact HB.out | apply below_alloc | apply pw_below_drewN | apply below_drew1) | exact HB.out)) hb); clear HB; have HB := n0_; clear n0_; (try clear hb); (try clear hb2); (try clear hk); (try clear hi)) | (go_at_call 13; (with_reducible refine (letters_Cut.calls t118 0 ji21 t125 _ A25.out).mono ?_); rintro e w39 ⟨rfl, hb⟩; have n0_ := Aside0.mk (below_step (by repeat (first | (with_reducible first | exact HB.out | apply below_alloc | apply pw_below_drewN | apply below_drew1) | exact HB.out)) hb); clear HB; have HB := n0_; clear n0_; (try clear hb); (try clear hb2); (try clear hk); (try clear hi)) | (go_at_call 13; (with_reducible refine (letters_Cut.calls t118 (wrap64 ((ji21) + t123)) (wrap64 (t122 + t123)) t126 _ A26.out).mono ?_); rintro e w40 ⟨rfl, hb⟩; have n0_ := Aside0.mk (below_step (by repeat (first | (with_reducible first | exact HB.out | apply below_alloc | apply pw_below_drewN | apply below_drew1) | exact HB.out)) hb); clear HB; have HB := n0_; clear n0_; (try clear hb); (try clear hb2); (try clear hk); (try clear hi)))
                        go_ret
                        exact ⟨by first | rfl | (simp [errW_none, errW_some] <;> rfl) | (simp only [← hji20, ← hji21]; first | rfl | (simp [errW_none, errW_some] <;> rfl)) | (simp [*, errW_none, errW_some] <;> rfl), by repeat (first | (with_reducible first | exact HB.out | apply below_alloc | apply pw_below_drewN | apply below_drew1) | exact HB.out)⟩
                    · rw [if_neg c27] at H
                      exact absurd H (by simp)
                  · rw [if_neg c24] at H
                    have c24b0 : (t124.toList == a2.toList) = false := beq_eq_false_iff_ne.mpr c24
                    have c24b1 : (t124.toList != a2.toList) = true := bne_iff_ne.mpr c24
                    obtain rfl := Option.some.inj H
                    go_wp2_with (first | ((with_reducible refine gate_callee (f := 18) rfl ?_); refine goesL_ (some 40) rfl rfl Try.func18 (by kernel_rfl) rfl #[.string a0] rfl (by (try simp only [List.map_toArray, List.map_cons, List.map_nil]); first | done | rfl | (simp only [List.length_drop, List.length_take]; rfl)) ?_; (with_reducible refine (chancelref01_Count.calls kj12 a0 t122 _ A19.out).mono ?_); rintro e w41 ⟨rfl, hb⟩; refine ⟨_, rfl, ?_⟩; have n0_ := Aside0.mk (below_step (by repeat (first | (with_reducible first | exact HB.out | apply below_alloc | apply pw_below_drewN | apply below_drew1) | exact HB.out)) hb); clear HB; have HB := n0_; clear n0_; (try clear hb); (try clear hb2); (try clear hk); (try clear hi)) | ((with_reducible refine gate_callee (f := 18) rfl ?_); refine goesL_ (some 46) rfl rfl Try.func18 (by kernel_rfl) rfl #[.string a2] rfl (by (try simp only [List.map_toArray, List.map_cons, List.map_nil]); first | done | rfl | (simp only [List.length_drop, List.length_take]; rfl)) ?_; (with_reducible refine (chancelref01_Count.calls kj12 a2 t123 _ A22.out).mono ?_); rintro e w42 ⟨rfl, hb⟩; refine ⟨_, rfl, ?_⟩; have n0_ := Aside0.mk (below_step (by repeat (first | (with_reducible first | exact HB.out | apply below_alloc | apply pw_below_drewN | apply below_drew1) | exact HB.out)) hb); clear HB; have HB := n0_; clear n0_; (try clear hb); (try clear hb2); (try clear hk); (try clear hi)) | ((with_reducible refine gate_callee (f := 13) rfl ?_); refine goesL_ (some 52) rfl rfl Try.func13 (by kernel_rfl) rfl #[.string t118, .int .i64 ji21, .int .i64 (wrap64 ((ji21) + t123))] rfl (by (try simp only [List.map_toArray, List.map_cons, List.map_nil]); first | done | (simp only [hji21]; rfl) | rfl | (simp only [List.length_drop, List.length_take]; rfl)) ?_; (with_reducible refine (letters_Cut.calls t118 ji21 (wrap64 ((ji21) + t123)) t124 _ A23.out).mono ?_); rintro e w43 ⟨rfl, hb⟩; refine ⟨_, rfl, ?_⟩; have n0_ := Aside0.mk (below_step (by repeat (first | (with_reducible first | exact HB.out | apply below_alloc | apply pw_below_drewN | apply below_drew1) | exact HB.out)) hb); clear HB; have HB := n0_; clear n0_; (try clear hb); (try clear hb2); (try clear hk); (try clear hi)))
                    go_ret
                    exact ⟨by first | rfl | (simp [errW_none, errW_some] <;> rfl) | (simp only [← hji20, ← hji21]; first | rfl | (simp [errW_none, errW_some] <;> rfl)) | (simp [*, errW_none, errW_some] <;> rfl), by repeat (first | (with_reducible first | exact HB.out | apply below_alloc | apply pw_below_drewN | apply below_drew1) | exact HB.out)⟩
          · rw [if_neg c12] at H
            have c12b0 : (t118.toList == t119.toList) = false := beq_eq_false_iff_ne.mpr c12
            have c12b1 : (t118.toList != t119.toList) = true := bne_iff_ne.mpr c12
            obtain rfl := Option.some.inj H
            go_wp2_with (first | ((with_reducible refine gate_callee (f := 15) rfl ?_); refine goesL_ (some 24) rfl rfl Try.func15 (by kernel_rfl) rfl #[.string a0, .int .i64 a1, .string a2] rfl (by (try simp only [List.map_toArray, List.map_cons, List.map_nil]); first | done | rfl | (simp only [List.length_drop, List.length_take]; rfl)) ?_; (with_reducible refine (letters_Put.calls a0 a1 a2 t118 _ A10.out).mono ?_); rintro e w44 ⟨rfl, hb⟩; refine ⟨_, rfl, ?_⟩; have n0_ := Aside0.mk (below_step (by repeat (first | (with_reducible first | exact HB.out | apply below_alloc | apply pw_below_drewN | apply below_drew1) | exact HB.out)) hb); clear HB; have HB := n0_; clear n0_; (try clear hb); (try clear hb2); (try clear hk); (try clear hi)) | ((with_reducible refine gate_callee (f := 16) rfl ?_); refine goesL_ (some 29) rfl rfl Try.func16 (by kernel_rfl) rfl #[.string a0, .int .i64 a1, .string a2] rfl (by (try simp only [List.map_toArray, List.map_cons, List.map_nil]); first | done | rfl | (simp only [List.length_drop, List.length_take]; rfl)) ?_; (with_reducible refine (chancelref01_Put.calls kj5 a0 a1 a2 t119 _ A11.out).mono ?_); rintro e w' ⟨rfl, ⟨nd, rfl⟩⟩; refine ⟨_, rfl, ?_⟩))
            go_ret
            exact ⟨by first | rfl | (simp [errW_none, errW_some] <;> rfl) | (simp [*, errW_none, errW_some] <;> rfl), by repeat (first | (with_reducible first | exact HB.out | apply below_alloc | apply pw_below_drewN | apply below_drew1) | exact HB.out)⟩
  · rw [if_neg c5] at H
    have c5b0 : (t117.toList == ([97, 120, 226, 130, 172] : List UInt8)) = false := beq_eq_false_iff_ne.mpr c5
    have c5b1 : (t117.toList != ([97, 120, 226, 130, 172] : List UInt8)) = true := bne_iff_ne.mpr c5
    obtain rfl := Option.some.inj H
    go_enter Try.func7, Try.ntmps7
    go_wp2_with (first | ((with_reducible refine gate_callee (f := 15) rfl ?_); refine goesL_ (some 11) rfl rfl Try.func15 (by kernel_rfl) rfl #[.string (⟨#[97, 226, 130, 172]⟩ : ByteArray), .int .i64 1, .string (⟨#[120]⟩ : ByteArray)] rfl (by (try simp only [List.map_toArray, List.map_cons, List.map_nil]); first | done | rfl | (simp only [List.length_drop, List.length_take]; rfl)) ?_; (with_reducible refine (letters_Put.calls (⟨#[97, 226, 130, 172]⟩ : ByteArray) 1 (⟨#[120]⟩ : ByteArray) t117 _ A4.out).mono ?_); rintro e w45 ⟨rfl, hb⟩; refine ⟨_, rfl, ?_⟩; have n0_ := Aside0.mk (below_step (by repeat (first | (with_reducible first | exact HB.out | apply below_alloc | apply pw_below_drewN | apply below_drew1) | exact HB.out)) hb); clear HB; have HB := n0_; clear n0_; (try clear hb); (try clear hb2); (try clear hk); (try clear hi)))
    go_ret
    exact ⟨by first | rfl | (simp [errW_none, errW_some] <;> rfl) | (simp [*, errW_none, errW_some] <;> rfl), by repeat (first | (with_reducible first | exact HB.out | apply below_alloc | apply pw_below_drewN | apply below_drew1) | exact HB.out)⟩

/-- THE ONE PURE STATEMENT of chancellaw01_LettersPut: yours. -/
def chancellaw01_LettersPut.Pure : Prop := ∀ (a0 : ByteArray) (a1 : Int) (a2 : ByteArray), a0.size ≤ 140737488351232 → (Lit.int .i64 a1).wf = true → a2.size ≤ 140737488351232 → ∃ k, chancellaw01_LettersPut.f k a0 a1 a2 = some true
theorem chancellaw01_LettersPut.walk (P : chancellaw01_LettersPut.Pure) (a0 : ByteArray) (a1 : Int) (a2 : ByteArray) (w : World) (w0 : a0.size ≤ 140737488351232) (w1 : (Lit.int .i64 a1).wf = true) (w2 : a2.size ≤ 140737488351232)  :
    Calls Try.prog 7 #[.string a0, .int .i64 a1, .string a2] w fun e w' => e = .returned (.bool true) ∧ Below w.heap.size w w' := by
  obtain ⟨k, h⟩ := P a0 a1 a2 w0 w1 w2
  refine (chancellaw01_LettersPut.calls k a0 a1 a2 true w h).mono ?_
  rintro e w' ⟨rfl, hd⟩
  exact ⟨rfl, hd⟩

end Go.Proofs.Ythnphmfjocofhaa.ALettersPut
