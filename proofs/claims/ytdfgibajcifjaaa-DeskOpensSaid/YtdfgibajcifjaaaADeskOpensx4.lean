/- What the functions that the law DeskOpens reaches compute, and the row of the law (printed by a program of this session). -/
import Derived.Test.YtdfgibajcifjaaaADeskOpensx0
import Derived.Test.YtdfgibajcifjaaaADeskOpensx2
import Derived.Test.YtdfgibajcifjaaaADeskOpensx3
namespace Go.Proofs.Ytdfgibajcifjaaa.ADeskOpens
open Go.RowKit Go.Proofs.YtdfgibajcifjaaaW.PrintWords Go.Proofs.YtdfgibajcifjaaaW.PrintLast Go.Proofs.YtdfgibajcifjaaaW.PrintMore
attribute [local go_sem] max2_int min2_int max_two min_two max_three min_three max_four min_four   -- for this text's walks alone
set_option linter.unusedVariables false
set_option linter.unusedSimpArgs false

/-! ### chancellaw11_DeskOpens: function 5 -/
def chancellaw11_DeskOpens.j0 : Nat → Bool → List (S28) → ByteArray → Int → Int → Int → Int → Int → ByteArray → Option (Bool)
  | 0, _, _, _, _, _, _, _, _, _ => none
  | k + 1, x26, x128000, x128001, x128002, x128003, x128004, x128005, x128006, x128007 => if x26 = true then (some false) else ((chancellaw11_right.f k x128000 x128001 x128002 x128003 x128004 x128005 x128006 x128007).bind fun t133 => (if t133 = true then ((desk_Open.f x128000 x128001 x128002 x128004 x128005 x128006).bind fun bt134 => ((chancelref11_Open.f k x128000 x128001 x128002 x128004 x128005 x128006).bind fun bt138 => (if bt134.2 = bt138.2 then ((chancelref11_Same.f k bt134.1 bt138.1).bind fun t142 => (some t142)) else (some false)))) else (some true)))
def chancellaw11_DeskOpens.f (k : Nat) (l0_0 : List (S28)) (a0_1 : ByteArray) (a0_2 : Int) (a0_3 : Int) (a0_4 : Int) (a0_5 : Int) (a0_6 : Int) (a0_7 : ByteArray) : Option (Bool) := (desk_Open.f ([] : List (S28)) (⟨#[97]⟩ : ByteArray) 3 5 9 1).bind fun bt128 => (if bt128.2 = 0 then (if (bt128.1.length : Int) = 1 then (if 0 < (bt128.1.length : Int) then (chancellaw11_DeskOpens.j0 k (((rd_T28 bt128.1 0).f1) != 3) l0_0 a0_1 a0_2 a0_3 a0_4 a0_5 a0_6 a0_7) else (none)) else (chancellaw11_DeskOpens.j0 k true l0_0 a0_1 a0_2 a0_3 a0_4 a0_5 a0_6 a0_7)) else (chancellaw11_DeskOpens.j0 k true l0_0 a0_1 a0_2 a0_3 a0_4 a0_5 a0_6 a0_7))
theorem chancellaw11_DeskOpens.mono_l : ∀ k, (∀ y0 y1 y2 y3 y4 y5 y6 y7 y8, LeO (chancellaw11_DeskOpens.j0 k y0 y1 y2 y3 y4 y5 y6 y7 y8) (chancellaw11_DeskOpens.j0 (k + 1) y0 y1 y2 y3 y4 y5 y6 y7 y8))
  | 0 => fun _ _ _ _ _ _ _ _ _ r h => by simp [chancellaw11_DeskOpens.j0] at h
  | k + 1 => by
    have ih0 := chancellaw11_DeskOpens.mono_l k
    · intro y0 y1 y2 y3 y4 y5 y6 y7 y8
      unfold chancellaw11_DeskOpens.j0
      repeat' first
      | (with_reducible exact ih0 _ _ _ _ _ _ _ _ _)
      | (with_reducible exact chancellaw11_right.mono _ _ _ _ _ _ _ _ _)
      | (with_reducible exact chancelref11_Open.mono _ _ _ _ _ _ _)
      | (with_reducible exact chancelref11_Same.mono _ _ _)
      | (with_reducible exact LeO.refl _)
      | (with_reducible exact LeO.none _)
      | (with_reducible refine LeO.ite ?_ ?_)
      | (with_reducible refine LeO.bind ?_ (fun _ => ?_))
      | exact ih0 _ _ _ _ _ _ _ _ _
      | exact chancellaw11_right.mono _ _ _ _ _ _ _ _ _
      | exact chancelref11_Open.mono _ _ _ _ _ _ _
      | exact chancelref11_Same.mono _ _ _
      | exact LeO.none _
      | refine LeO.ite ?_ ?_
      | refine LeO.bind ?_ (fun _ => ?_)
theorem chancellaw11_DeskOpens.mono : ∀ a0 a1 a2 a3 a4 a5 a6 a7 k, LeO (chancellaw11_DeskOpens.f k a0 a1 a2 a3 a4 a5 a6 a7) (chancellaw11_DeskOpens.f (k + 1) a0 a1 a2 a3 a4 a5 a6 a7) := by
  intro a0 a1 a2 a3 a4 a5 a6 a7 k
  have ih0 := chancellaw11_DeskOpens.mono_l k
  unfold chancellaw11_DeskOpens.f
  repeat' first
      | (with_reducible exact ih0 _ _ _ _ _ _ _ _ _)
      | (with_reducible exact chancellaw11_right.mono _ _ _ _ _ _ _ _ _)
      | (with_reducible exact chancelref11_Open.mono _ _ _ _ _ _ _)
      | (with_reducible exact chancelref11_Same.mono _ _ _)
      | (with_reducible exact LeO.refl _)
      | (with_reducible exact LeO.none _)
      | (with_reducible refine LeO.ite ?_ ?_)
      | (with_reducible refine LeO.bind ?_ (fun _ => ?_))
      | exact ih0 _ _ _ _ _ _ _ _ _
      | exact chancellaw11_right.mono _ _ _ _ _ _ _ _ _
      | exact chancelref11_Open.mono _ _ _ _ _ _ _
      | exact chancelref11_Same.mono _ _ _
      | exact LeO.none _
      | refine LeO.ite ?_ ?_
      | refine LeO.bind ?_ (fun _ => ?_)
set_option maxHeartbeats 8000000 in
set_option maxRecDepth 100000 in
theorem chancellaw11_DeskOpens.calls (k : Nat) (A0_0 : Option Addr) (c0_0 : Nat) (l0_0 : List (S28)) (a0_1 : ByteArray) (a0_2 : Int) (a0_3 : Int) (a0_4 : Int) (a0_5 : Int) (a0_6 : Int) (a0_7 : ByteArray) (r : Bool) (w : World) (hr0_0 : Kd.C k28 w A0_0 l0_0.length l0_0) (hc0_0 : l0_0.length ≤ c0_0) (h : chancellaw11_DeskOpens.f k l0_0 a0_1 a0_2 a0_3 a0_4 a0_5 a0_6 a0_7 = some r) :
    Calls Try.prog 5 #[.agg #[.slice A0_0 l0_0.length c0_0, .string a0_1, .int .i64 a0_2, .int .i64 a0_3, .int .i64 a0_4, .int .i64 a0_5, .int .i64 a0_6, .string a0_7]] w fun e w' => e = .returned (.bool r) ∧ Below w.heap.size w w' := by
  have hu24 := Try.underlying24
  have HR0_0 := Aside0.mk hr0_0
  have HC0_0 := Aside0.mk hc0_0
  clear hr0_0 hc0_0
  have HB := Aside0.mk (Below.refl w.heap.size w)
  have H : ((desk_Open.f ([] : List (S28)) (⟨#[97]⟩ : ByteArray) 3 5 9 1).bind fun bt128 => (if bt128.2 = 0 then (if (bt128.1.length : Int) = 1 then (if 0 < (bt128.1.length : Int) then (chancellaw11_DeskOpens.j0 k (((rd_T28 bt128.1 0).f1) != 3) l0_0 a0_1 a0_2 a0_3 a0_4 a0_5 a0_6 a0_7) else (none)) else (chancellaw11_DeskOpens.j0 k true l0_0 a0_1 a0_2 a0_3 a0_4 a0_5 a0_6 a0_7)) else (chancellaw11_DeskOpens.j0 k true l0_0 a0_1 a0_2 a0_3 a0_4 a0_5 a0_6 a0_7))) = some r := h
  clear h
  replace H := Option.bind_eq_some_iff.mp H
  obtain ⟨⟨t128, t131⟩, A20, H⟩ := H
  replace H : (if t131 = 0 then (if (t128.length : Int) = 1 then (if 0 < (t128.length : Int) then (chancellaw11_DeskOpens.j0 k (((rd_T28 t128 0).f1) != 3) l0_0 a0_1 a0_2 a0_3 a0_4 a0_5 a0_6 a0_7) else (none)) else (chancellaw11_DeskOpens.j0 k true l0_0 a0_1 a0_2 a0_3 a0_4 a0_5 a0_6 a0_7)) else (chancellaw11_DeskOpens.j0 k true l0_0 a0_1 a0_2 a0_3 a0_4 a0_5 a0_6 a0_7)) = some r := H
  have A2 := Aside0.mk A20
  clear A20
  have HC3 := Aside0.mk H
  clear H
  go_enter Try.func5, Try.ntmps5
  go_upto_region 2 with (first | ((with_reducible refine gate_dst (N := 1) rfl ?_); (try (refine gate_guard (by rfl) ?_; dsimp only)); refine box_event ?hg (N := 1) ?hd (cs := #[.slice A0_0 l0_0.length c0_0, .string a0_1, .int .i64 a0_2, .int .i64 a0_3, .int .i64 a0_4, .int .i64 a0_5, .int .i64 a0_6, .string a0_7]) (t := 24) ?hr ?_; (case hd => rfl); (case hg => rfl); (case hr => first | (go_simp; done) | (go_simp; rfl)); intro gb127 hg w4 hbox hb; have n0_ := Aside0.mk (below_step (by repeat (first | (with_reducible first | exact HB.out | apply below_alloc | apply pw_below_drewN | apply below_drew1) | exact HB.out)) hb); have n1_ := Aside0.mk (hbox); have n2_ := Aside0.mk ((by rw [hg]; exact (below_size (by repeat (first | (with_reducible first | exact HB.out | apply below_alloc | apply pw_below_drewN | apply below_drew1) | exact HB.out))) : w.heap.size ≤ gb127)); have n3_ := Aside0.mk ((by rw [hg]; exact (below_size (by repeat (first | (with_reducible first | exact HB.out | apply below_alloc | apply pw_below_drewN | apply below_drew1) | exact HB.out))) : w.heap.size ≤ gb127)); clear HB; have HB := n0_; have BK127 := n1_; have GW127 := n2_; have GE127 := n3_; clear n0_ n1_ n2_ n3_; clear hb hbox hg) | ((with_reducible refine gate_callee (f := 17) rfl ?_); refine goesL_ (some 10) rfl rfl Try.func17 (by kernel_rfl) rfl #[.slice none 0 0, .string (⟨#[97]⟩ : ByteArray), .int .i64 3, .int .i64 5, .int .i64 9, .int .i64 1] rfl (by (try simp only [List.map_toArray, List.map_cons, List.map_nil]); first | done | rfl | (simp only [List.length_drop, List.length_take]; rfl)) ?_; (refine (desk_Open.calls (fun k_ => False) _ _ ([] : List (S28)) (⟨#[97]⟩ : ByteArray) 3 5 9 1 t128 t131 _ ?side1 A2.out).mono ?_); (case side1 => exact Kd.V_nil _ _ _ _ _); rintro e w5 ⟨v129, rfl, ho0, hb⟩; refine ⟨_, rfl, ?_⟩; have n0_ := Aside0.mk (Kd.V_lower (Kd.V_mono (ok' := fun k_ => k_ ≠ gb127) ho0 (fun k_ hk_ => Or.elim hk_ (fun hs_ => (hs_).elim) (fun hn_ => (Kd.freshB (g := gb127) (o := .cells #[.slice A0_0 l0_0.length c0_0, .string a0_1, .int .i64 a0_2, .int .i64 a0_3, .int .i64 a0_4, .int .i64 a0_5, .int .i64 a0_6, .string a0_7] 24 (0, 0)) (by (with_reducible repeat (first | refine blk_drewN ?_ _ | refine blk_drew ?_ | refine blk_alloc ?_ _)); exact BK127.out) k_ hn_)))) (below_size (by repeat (first | (with_reducible first | exact HB.out | apply below_alloc | apply pw_below_drewN | apply below_drew1 | refine below_set ?_ GE127.out) | exact HB.out)))); have n1_ := Aside0.mk (blk_below (g := gb127) (o := .cells #[.slice A0_0 l0_0.length c0_0, .string a0_1, .int .i64 a0_2, .int .i64 a0_3, .int .i64 a0_4, .int .i64 a0_5, .int .i64 a0_6, .string a0_7] 24 (0, 0)) (by (with_reducible repeat (first | refine blk_drewN ?_ _ | refine blk_drew ?_ | refine blk_alloc ?_ _)); exact BK127.out) hb); have n2_ := Aside0.mk (below_step (by repeat (first | (with_reducible first | exact HB.out | apply below_alloc | apply pw_below_drewN | apply below_drew1 | refine below_set ?_ GE127.out) | exact HB.out)) hb); clear BK127; clear HB; have HO130 := n0_; have BK127 := n1_; have HB := n2_; clear n0_ n1_ n2_; (try clear hb); (try clear hb2); (try clear hk); (try clear hi); (try clear ho0)))
  (try simp only [Act.put, List.setIfInBounds_toArray, List.set_cons_zero, List.set_cons_succ])
  go_cut [26] (fun v26 wc => ∃ (kq : Nat) (x26_2 : Bool), v26 = .bool x26_2 ∧ Aside0 (chancellaw11_DeskOpens.j0 kq x26_2 l0_0 a0_1 a0_2 a0_3 a0_4 a0_5 a0_6 a0_7 = some r) ∧ Aside0 (kq ≤ k) ∧ Aside0 (wc.heap[gb127]? = some (.cells #[(.slice A0_0 l0_0.length c0_0), .string a0_1, .int .i64 a0_2, .int .i64 a0_3, .int .i64 a0_4, .int .i64 a0_5, .int .i64 a0_6, .string a0_7] 24 (0, 0))) ∧ Aside0 (Below w.heap.size w wc))
  case first =>
    have H := HC3.out
    clear HC3
    by_cases c6 : t131 = 0
    · rw [if_pos c6] at H
      have c6b0 : (t131 == 0) = true := beq_iff_eq.mpr c6
      have c6b1 : (t131 != 0) = false := bne_eq_false_iff_eq.mpr c6
      clear c6
      (first | rw [c6b0] | (simp only [i64_w, i32_w]; rw [c6b0]) | skip)
      by_cases c7 : (t128.length : Int) = 1
      · rw [if_pos c7] at H
        have c7b0 : ((t128.length : Int) == 1) = true := beq_iff_eq.mpr c7
        have c7b1 : ((t128.length : Int) != 1) = false := bne_eq_false_iff_eq.mpr c7
        clear c7
        by_cases c8 : 0 < (t128.length : Int)
        · rw [if_pos c8] at H
          have c8b0 : decide (0 < (t128.length : Int)) = true := decide_eq_true c8
          have c8b1 : decide (0 < t128.length) = true := decide_eq_true (by omega)
          clear c8
          have H' := Aside0.mk H
          clear H
          obtain ⟨Ao9, co9, eo9⟩ := Kd.V_slice HO130.out
          subst eo9
          have p132 : 0 ≤ (0 : Int) := (by omega)
          have q132 : 0 < (t128.length : Int) := of_decide_eq_true (by first | (with_reducible assumption) | assumption)
          obtain ⟨ad132, e132, hx132_0, hx132_1, hx132_2, hx132_3, hx132_4⟩ := at_T28 (Kd.V_reads' HO130.out).2.2 0 p132 q132
          cases e132
          have qi132 : (0 < t128.length) = True := eq_true (by omega)
          (try rw [show ((0 : Int)).toNat = 0 from rfl] at hx132_0)
          (try rw [show 0 * 5 = 0 from rfl] at hx132_0)
          (try rw [Addr.add_zero'] at hx132_0)
          (try rw [show ((0 : Int)).toNat = 0 from rfl] at hx132_1)
          (try rw [show 0 * 5 = 0 from rfl] at hx132_1)
          (try rw [Addr.add_zero'] at hx132_1)
          (try rw [show ((0 : Int)).toNat = 0 from rfl] at hx132_2)
          (try rw [show 0 * 5 = 0 from rfl] at hx132_2)
          (try rw [Addr.add_zero'] at hx132_2)
          (try rw [show ((0 : Int)).toNat = 0 from rfl] at hx132_3)
          (try rw [show 0 * 5 = 0 from rfl] at hx132_3)
          (try rw [Addr.add_zero'] at hx132_3)
          (try rw [show ((0 : Int)).toNat = 0 from rfl] at hx132_4)
          (try rw [show 0 * 5 = 0 from rfl] at hx132_4)
          (try rw [Addr.add_zero'] at hx132_4)
          replace p132 := eq_true p132
          replace q132 := eq_true q132
          go_wp2
          go_meet
          case rel => exact ⟨_, ((((rd_T28 t128 0).f1) != 3)), (by first | rfl | (simp; done) | (simp [*]; done)), H', ⟨by first | omega | exact Nat.le_refl _⟩, ⟨by (with_reducible repeat (first | refine blk_drewN ?_ _ | refine blk_drew ?_ | refine blk_alloc ?_ _)); exact BK127.out⟩, ⟨by repeat (first | (with_reducible first | exact HB.out | apply below_alloc | apply pw_below_drewN | apply below_drew1 | refine below_set ?_ GE127.out) | exact HB.out)⟩⟩
        · rw [if_neg c8] at H
          exact absurd H (by simp)
      · rw [if_neg c7] at H
        have c7b0 : ((t128.length : Int) == 1) = false := beq_eq_false_iff_ne.mpr c7
        have c7b1 : ((t128.length : Int) != 1) = true := bne_iff_ne.mpr c7
        have H' := Aside0.mk H
        clear H
        obtain ⟨Ao10, co10, eo10⟩ := Kd.V_slice HO130.out
        subst eo10
        go_wp2
        go_meet
        case rel => exact ⟨_, (true), (by first | rfl | (simp; done) | (simp [*]; done)), H', ⟨by first | omega | exact Nat.le_refl _⟩, ⟨by (with_reducible repeat (first | refine blk_drewN ?_ _ | refine blk_drew ?_ | refine blk_alloc ?_ _)); exact BK127.out⟩, ⟨by repeat (first | (with_reducible first | exact HB.out | apply below_alloc | apply pw_below_drewN | apply below_drew1 | refine below_set ?_ GE127.out) | exact HB.out)⟩⟩
    · rw [if_neg c6] at H
      have c6b0 : (t131 == 0) = false := beq_eq_false_iff_ne.mpr c6
      have c6b1 : (t131 != 0) = true := bne_iff_ne.mpr c6
      (first | rw [c6b0] | (simp only [i64_w, i32_w]; rw [c6b0]) | skip)
      have H' := Aside0.mk H
      clear H
      go_wp2
      go_meet
      case rel => exact ⟨_, (true), (by first | rfl | (simp; done) | (simp [*]; done)), H', ⟨by first | omega | exact Nat.le_refl _⟩, ⟨by (with_reducible repeat (first | refine blk_drewN ?_ _ | refine blk_drew ?_ | refine blk_alloc ?_ _)); exact BK127.out⟩, ⟨by repeat (first | (with_reducible first | exact HB.out | apply below_alloc | apply pw_below_drewN | apply below_drew1 | refine below_set ?_ GE127.out) | exact HB.out)⟩⟩
  case rest =>
    clear HC3
    try clear c1
    try clear p1
    try clear q1
    try clear hx1
    try clear qi1
    try clear p2
    try clear c5
    try clear c6
    try clear c6b0
    try clear c6b1
    try clear c7
    try clear c7b0
    try clear c7b1
    try clear c8
    try clear c8b0
    try clear c8b1
    try clear hx132_0
    try clear hx132_1
    try clear hx132_2
    try clear hx132_3
    try clear hx132_4
    try clear p132
    try clear q132
    obtain ⟨kq, x26_2, rfl, HA, HJ2, BK127, HB⟩ := hcut
    cases kq with
    | zero => exact absurd HA.out (by simp [chancellaw11_DeskOpens.j0])
    | succ kj2 =>
      have H := HA.out
      clear HA
      simp only [chancellaw11_DeskOpens.j0] at H
      by_cases c11 : x26_2 = true
      · subst c11
        have H1 : (some false) = some r := by rw [if_pos rfl] at H; exact H
        clear H
        have H := H1
        clear H1
        obtain rfl := Option.some.inj H
        go_wp2
        go_ret
        exact ⟨by first | rfl | (simp [errW_none, errW_some] <;> rfl) | (simp [*, errW_none, errW_some] <;> rfl), by repeat (first | (with_reducible first | exact HB.out | apply below_alloc | apply pw_below_drewN | apply below_drew1 | refine below_set ?_ GE127.out) | exact HB.out)⟩
      · replace c11 := Bool.eq_false_iff.mpr c11
        subst c11
        have H1 : ((chancellaw11_right.f kj2 l0_0 a0_1 a0_2 a0_3 a0_4 a0_5 a0_6 a0_7).bind fun t133 => (if t133 = true then ((desk_Open.f l0_0 a0_1 a0_2 a0_4 a0_5 a0_6).bind fun bt134 => ((chancelref11_Open.f kj2 l0_0 a0_1 a0_2 a0_4 a0_5 a0_6).bind fun bt138 => (if bt134.2 = bt138.2 then ((chancelref11_Same.f kj2 bt134.1 bt138.1).bind fun t142 => (some t142)) else (some false)))) else (some true))) = some r := by rw [if_neg (show ¬ (false = true) by decide)] at H; exact H
        clear H
        have H := H1
        clear H1
        replace H := Option.bind_eq_some_iff.mp H
        obtain ⟨t133, A120, H⟩ := H
        replace H : (if t133 = true then ((desk_Open.f l0_0 a0_1 a0_2 a0_4 a0_5 a0_6).bind fun bt134 => ((chancelref11_Open.f kj2 l0_0 a0_1 a0_2 a0_4 a0_5 a0_6).bind fun bt138 => (if bt134.2 = bt138.2 then ((chancelref11_Same.f kj2 bt134.1 bt138.1).bind fun t142 => (some t142)) else (some false)))) else (some true)) = some r := H
        have A12 := Aside0.mk A120
        clear A120
        by_cases c13 : t133 = true
        · subst c13
          have H1 : ((desk_Open.f l0_0 a0_1 a0_2 a0_4 a0_5 a0_6).bind fun bt134 => ((chancelref11_Open.f kj2 l0_0 a0_1 a0_2 a0_4 a0_5 a0_6).bind fun bt138 => (if bt134.2 = bt138.2 then ((chancelref11_Same.f kj2 bt134.1 bt138.1).bind fun t142 => (some t142)) else (some false)))) = some r := by rw [if_pos rfl] at H; exact H
          clear H
          have H := H1
          clear H1
          replace H := Option.bind_eq_some_iff.mp H
          obtain ⟨⟨t134, t137⟩, A140, H⟩ := H
          replace H : ((chancelref11_Open.f kj2 l0_0 a0_1 a0_2 a0_4 a0_5 a0_6).bind fun bt138 => (if t137 = bt138.2 then ((chancelref11_Same.f kj2 t134 bt138.1).bind fun t142 => (some t142)) else (some false))) = some r := H
          have A14 := Aside0.mk A140
          clear A140
          replace H := Option.bind_eq_some_iff.mp H
          obtain ⟨⟨t138, t141⟩, A150, H⟩ := H
          replace H : (if t137 = t141 then ((chancelref11_Same.f kj2 t134 t138).bind fun t142 => (some t142)) else (some false)) = some r := H
          have A15 := Aside0.mk A150
          clear A150
          by_cases c16 : t137 = t141
          · rw [if_pos c16] at H
            have c16b0 : (t137 == t141) = true := beq_iff_eq.mpr c16
            have c16b1 : (t137 != t141) = false := bne_eq_false_iff_eq.mpr c16
            clear c16
            replace H := Option.bind_eq_some_iff.mp H
            obtain ⟨t142, A170, H⟩ := H
            replace H : (some t142) = some r := H
            have A17 := Aside0.mk A170
            clear A170
            obtain rfl := Option.some.inj H
            have hcz18_0 : wc.cell? ⟨gb127, 0, none⟩ = some (.slice A0_0 l0_0.length c0_0) := (blk_cell BK127.out 0).trans rfl
            have hcz18_1 : wc.cell? ⟨gb127, 1, none⟩ = some (.string a0_1) := (blk_cell BK127.out 1).trans rfl
            have hcz18_2 : wc.cell? ⟨gb127, 2, none⟩ = some (.int .i64 a0_2) := (blk_cell BK127.out 2).trans rfl
            have hcz18_3 : wc.cell? ⟨gb127, 3, none⟩ = some (.int .i64 a0_3) := (blk_cell BK127.out 3).trans rfl
            have hcz18_4 : wc.cell? ⟨gb127, 4, none⟩ = some (.int .i64 a0_4) := (blk_cell BK127.out 4).trans rfl
            have hcz18_5 : wc.cell? ⟨gb127, 5, none⟩ = some (.int .i64 a0_5) := (blk_cell BK127.out 5).trans rfl
            have hcz18_6 : wc.cell? ⟨gb127, 6, none⟩ = some (.int .i64 a0_6) := (blk_cell BK127.out 6).trans rfl
            have hcz18_7 : wc.cell? ⟨gb127, 7, none⟩ = some (.string a0_7) := (blk_cell BK127.out 7).trans rfl
            have hfz18_0 := blk_frozen BK127.out 0
            have hfz18_1 := blk_frozen BK127.out 1
            have hfz18_2 := blk_frozen BK127.out 2
            have hfz18_3 := blk_frozen BK127.out 3
            have hfz18_4 := blk_frozen BK127.out 4
            have hfz18_5 := blk_frozen BK127.out 5
            have hfz18_6 := blk_frozen BK127.out 6
            have hfz18_7 := blk_frozen BK127.out 7
            go_wp2_with (first | ((with_reducible refine gate_callee (f := 8) rfl ?_); refine goesL_ (some 28) rfl rfl Try.func8 (by kernel_rfl) rfl #[.agg #[.slice A0_0 l0_0.length c0_0, .string a0_1, .int .i64 a0_2, .int .i64 a0_3, .int .i64 a0_4, .int .i64 a0_5, .int .i64 a0_6, .string a0_7]] rfl (by (try simp only [List.map_toArray, List.map_cons, List.map_nil]); first | done | rfl | (simp only [List.length_drop, List.length_take]; rfl)) ?_; (with_reducible refine (chancellaw11_right.calls kj2 _ _ l0_0 a0_1 a0_2 a0_3 a0_4 a0_5 a0_6 a0_7 true _ ?side1 ?side2 A12.out).mono ?_); (case side1 => repeat (first | exact (Kd.C_below HR0_0.out HB.out) | (with_reducible refine Kd.C_alloc ?_ _) | (with_reducible refine Kd.C_drewN ?_ _) | (with_reducible refine Kd.C_drew ?_))); (case side2 => exact HC0_0.out); rintro e w19 ⟨rfl, hb⟩; refine ⟨_, rfl, ?_⟩; have n0_ := Aside0.mk (blk_below (g := gb127) (o := .cells #[.slice A0_0 l0_0.length c0_0, .string a0_1, .int .i64 a0_2, .int .i64 a0_3, .int .i64 a0_4, .int .i64 a0_5, .int .i64 a0_6, .string a0_7] 24 (0, 0)) (by (with_reducible repeat (first | refine blk_drewN ?_ _ | refine blk_drew ?_ | refine blk_alloc ?_ _)); exact BK127.out) hb); have n1_ := Aside0.mk (below_step (by repeat (first | (with_reducible first | exact HB.out | apply below_alloc | apply pw_below_drewN | apply below_drew1 | refine below_set ?_ GE127.out) | exact HB.out)) hb); clear BK127; clear HB; have BK127 := n0_; have HB := n1_; clear n0_ n1_; (try clear hb); (try clear hb2); (try clear hk); (try clear hi); have hcz20_0 : w19.cell? ⟨gb127, 0, none⟩ = some (.slice A0_0 l0_0.length c0_0) := (blk_cell BK127.out 0).trans rfl; have hcz20_1 : w19.cell? ⟨gb127, 1, none⟩ = some (.string a0_1) := (blk_cell BK127.out 1).trans rfl; have hcz20_2 : w19.cell? ⟨gb127, 2, none⟩ = some (.int .i64 a0_2) := (blk_cell BK127.out 2).trans rfl; have hcz20_3 : w19.cell? ⟨gb127, 3, none⟩ = some (.int .i64 a0_3) := (blk_cell BK127.out 3).trans rfl; have hcz20_4 : w19.cell? ⟨gb127, 4, none⟩ = some (.int .i64 a0_4) := (blk_cell BK127.out 4).trans rfl; have hcz20_5 : w19.cell? ⟨gb127, 5, none⟩ = some (.int .i64 a0_5) := (blk_cell BK127.out 5).trans rfl; have hcz20_6 : w19.cell? ⟨gb127, 6, none⟩ = some (.int .i64 a0_6) := (blk_cell BK127.out 6).trans rfl; have hcz20_7 : w19.cell? ⟨gb127, 7, none⟩ = some (.string a0_7) := (blk_cell BK127.out 7).trans rfl; have hfz20_0 := blk_frozen BK127.out 0; have hfz20_1 := blk_frozen BK127.out 1; have hfz20_2 := blk_frozen BK127.out 2; have hfz20_3 := blk_frozen BK127.out 3; have hfz20_4 := blk_frozen BK127.out 4; have hfz20_5 := blk_frozen BK127.out 5; have hfz20_6 := blk_frozen BK127.out 6; have hfz20_7 := blk_frozen BK127.out 7) | ((with_reducible refine gate_callee (f := 17) rfl ?_); refine goesL_ (some 43) rfl rfl Try.func17 (by kernel_rfl) rfl #[.slice A0_0 l0_0.length c0_0, .string a0_1, .int .i64 a0_2, .int .i64 a0_4, .int .i64 a0_5, .int .i64 a0_6] rfl (by (try simp only [List.map_toArray, List.map_cons, List.map_nil]); first | done | rfl | (simp only [List.length_drop, List.length_take]; rfl)) ?_; (with_reducible refine (desk_Open.calls (fun k_ => k_ < w.heap.size) _ _ l0_0 a0_1 a0_2 a0_4 a0_5 a0_6 t134 t137 _ ?side1 A14.out).mono ?_); (case side1 => exact Kd.V_mk HC0_0.out (Kd.F_below (Kd.C_F k28_heap HR0_0.out) (by repeat (first | (with_reducible first | exact HB.out | apply below_alloc | apply pw_below_drewN | apply below_drew1 | refine below_set ?_ GE127.out) | exact HB.out)))); rintro e w21 ⟨v135, rfl, ho0, hb⟩; refine ⟨_, rfl, ?_⟩; have n0_ := Aside0.mk (Kd.V_lower (Kd.V_mono (ok' := fun k_ => k_ ≠ gb127) ho0 (fun k_ hk_ => Or.elim hk_ (fun hs_ => fun e_ => Nat.not_le.2 hs_ (by rw [e_]; exact GW127.out)) (fun hn_ => (Kd.freshB (g := gb127) (o := .cells #[.slice A0_0 l0_0.length c0_0, .string a0_1, .int .i64 a0_2, .int .i64 a0_3, .int .i64 a0_4, .int .i64 a0_5, .int .i64 a0_6, .string a0_7] 24 (0, 0)) (by (with_reducible repeat (first | refine blk_drewN ?_ _ | refine blk_drew ?_ | refine blk_alloc ?_ _)); exact BK127.out) k_ hn_)))) (below_size (by repeat (first | (with_reducible first | exact HB.out | apply below_alloc | apply pw_below_drewN | apply below_drew1 | refine below_set ?_ GE127.out) | exact HB.out)))); have n1_ := Aside0.mk (blk_below (g := gb127) (o := .cells #[.slice A0_0 l0_0.length c0_0, .string a0_1, .int .i64 a0_2, .int .i64 a0_3, .int .i64 a0_4, .int .i64 a0_5, .int .i64 a0_6, .string a0_7] 24 (0, 0)) (by (with_reducible repeat (first | refine blk_drewN ?_ _ | refine blk_drew ?_ | refine blk_alloc ?_ _)); exact BK127.out) hb); have n2_ := Aside0.mk (below_step (by repeat (first | (with_reducible first | exact HB.out | apply below_alloc | apply pw_below_drewN | apply below_drew1 | refine below_set ?_ GE127.out) | exact HB.out)) hb); clear BK127; clear HB; have HO136 := n0_; have BK127 := n1_; have HB := n2_; clear n0_ n1_ n2_; (try clear hb); (try clear hb2); (try clear hk); (try clear hi); (try clear ho0); have hcz22_0 : w21.cell? ⟨gb127, 0, none⟩ = some (.slice A0_0 l0_0.length c0_0) := (blk_cell BK127.out 0).trans rfl; have hcz22_1 : w21.cell? ⟨gb127, 1, none⟩ = some (.string a0_1) := (blk_cell BK127.out 1).trans rfl; have hcz22_2 : w21.cell? ⟨gb127, 2, none⟩ = some (.int .i64 a0_2) := (blk_cell BK127.out 2).trans rfl; have hcz22_3 : w21.cell? ⟨gb127, 3, none⟩ = some (.int .i64 a0_3) := (blk_cell BK127.out 3).trans rfl; have hcz22_4 : w21.cell? ⟨gb127, 4, none⟩ = some (.int .i64 a0_4) := (blk_cell BK127.out 4).trans rfl; have hcz22_5 : w21.cell? ⟨gb127, 5, none⟩ = some (.int .i64 a0_5) := (blk_cell BK127.out 5).trans rfl; have hcz22_6 : w21.cell? ⟨gb127, 6, none⟩ = some (.int .i64 a0_6) := (blk_cell BK127.out 6).trans rfl; have hcz22_7 : w21.cell? ⟨gb127, 7, none⟩ = some (.string a0_7) := (blk_cell BK127.out 7).trans rfl; have hfz22_0 := blk_frozen BK127.out 0; have hfz22_1 := blk_frozen BK127.out 1; have hfz22_2 := blk_frozen BK127.out 2; have hfz22_3 := blk_frozen BK127.out 3; have hfz22_4 := blk_frozen BK127.out 4; have hfz22_5 := blk_frozen BK127.out 5; have hfz22_6 := blk_frozen BK127.out 6; have hfz22_7 := blk_frozen BK127.out 7) | ((with_reducible refine gate_callee (f := 18) rfl ?_); refine goesL_ (some 59) rfl rfl Try.func18 (by kernel_rfl) rfl #[.slice A0_0 l0_0.length c0_0, .string a0_1, .int .i64 a0_2, .int .i64 a0_4, .int .i64 a0_5, .int .i64 a0_6] rfl (by (try simp only [List.map_toArray, List.map_cons, List.map_nil]); first | done | rfl | (simp only [List.length_drop, List.length_take]; rfl)) ?_; (with_reducible refine (chancelref11_Open.calls kj2 (fun k_ => k_ < w.heap.size) _ _ l0_0 a0_1 a0_2 a0_4 a0_5 a0_6 t138 t141 _ ?side1 A15.out).mono ?_); (case side1 => exact Kd.V_mk HC0_0.out (Kd.F_below (Kd.C_F k28_heap HR0_0.out) (by repeat (first | (with_reducible first | exact HB.out | apply below_alloc | apply pw_below_drewN | apply below_drew1 | refine below_set ?_ GE127.out) | exact HB.out)))); rintro e w23 ⟨v139, rfl, ho0, hb⟩; refine ⟨_, rfl, ?_⟩; have n0_ := Aside0.mk (Kd.V_below (by (with_reducible repeat (first | apply Kd.V_alloc | apply Kd.V_drewN | apply Kd.V_drew)); exact HO136.out) hb); have n1_ := Aside0.mk (Kd.V_lower (Kd.V_mono (ok' := fun k_ => k_ ≠ gb127) ho0 (fun k_ hk_ => Or.elim hk_ (fun hs_ => fun e_ => Nat.not_le.2 hs_ (by rw [e_]; exact GW127.out)) (fun hn_ => (Kd.freshB (g := gb127) (o := .cells #[.slice A0_0 l0_0.length c0_0, .string a0_1, .int .i64 a0_2, .int .i64 a0_3, .int .i64 a0_4, .int .i64 a0_5, .int .i64 a0_6, .string a0_7] 24 (0, 0)) (by (with_reducible repeat (first | refine blk_drewN ?_ _ | refine blk_drew ?_ | refine blk_alloc ?_ _)); exact BK127.out) k_ hn_)))) (below_size (by repeat (first | (with_reducible first | exact HB.out | apply below_alloc | apply pw_below_drewN | apply below_drew1 | refine below_set ?_ GE127.out) | exact HB.out)))); have n2_ := Aside0.mk (blk_below (g := gb127) (o := .cells #[.slice A0_0 l0_0.length c0_0, .string a0_1, .int .i64 a0_2, .int .i64 a0_3, .int .i64 a0_4, .int .i64 a0_5, .int .i64 a0_6, .string a0_7] 24 (0, 0)) (by (with_reducible repeat (first | refine blk_drewN ?_ _ | refine blk_drew ?_ | refine blk_alloc ?_ _)); exact BK127.out) hb); have n3_ := Aside0.mk (below_step (by repeat (first | (with_reducible first | exact HB.out | apply below_alloc | apply pw_below_drewN | apply below_drew1 | refine below_set ?_ GE127.out) | exact HB.out)) hb); clear HO136; clear BK127; clear HB; have HO136 := n0_; have HO140 := n1_; have BK127 := n2_; have HB := n3_; clear n0_ n1_ n2_ n3_; (try clear hb); (try clear hb2); (try clear hk); (try clear hi); (try clear ho0); obtain ⟨Ao24, co24, eo24⟩ := Kd.V_slice HO136.out; subst eo24; obtain ⟨Ao25, co25, eo25⟩ := Kd.V_slice HO140.out; subst eo25) | (go_at_call 14; (with_reducible refine (chancelref11_Same.calls kj2 _ _ t134 _ _ t138 t142 _ ?side1 ?side2 ?side3 ?side4 A17.out).mono ?_); (case side1 => repeat (first | exact (Kd.V_reads' HO136.out).2.2 | (with_reducible refine Kd.C_alloc ?_ _) | (with_reducible refine Kd.C_drewN ?_ _) | (with_reducible refine Kd.C_drew ?_))); (case side2 => exact (Kd.V_reads' HO136.out).2.1); (case side3 => repeat (first | exact (Kd.V_reads' HO140.out).2.2 | (with_reducible refine Kd.C_alloc ?_ _) | (with_reducible refine Kd.C_drewN ?_ _) | (with_reducible refine Kd.C_drew ?_))); (case side4 => exact (Kd.V_reads' HO140.out).2.1); rintro e w' ⟨rfl, ⟨nd, rfl⟩⟩))
            go_ret
            exact ⟨by first | rfl | (simp [errW_none, errW_some] <;> rfl) | (simp [*, errW_none, errW_some] <;> rfl), by repeat (first | (with_reducible first | exact HB.out | apply below_alloc | apply pw_below_drewN | apply below_drew1 | refine below_set ?_ GE127.out) | exact HB.out)⟩
          · rw [if_neg c16] at H
            have c16b0 : (t137 == t141) = false := beq_eq_false_iff_ne.mpr c16
            have c16b1 : (t137 != t141) = true := bne_iff_ne.mpr c16
            obtain rfl := Option.some.inj H
            have hcz26_0 : wc.cell? ⟨gb127, 0, none⟩ = some (.slice A0_0 l0_0.length c0_0) := (blk_cell BK127.out 0).trans rfl
            have hcz26_1 : wc.cell? ⟨gb127, 1, none⟩ = some (.string a0_1) := (blk_cell BK127.out 1).trans rfl
            have hcz26_2 : wc.cell? ⟨gb127, 2, none⟩ = some (.int .i64 a0_2) := (blk_cell BK127.out 2).trans rfl
            have hcz26_3 : wc.cell? ⟨gb127, 3, none⟩ = some (.int .i64 a0_3) := (blk_cell BK127.out 3).trans rfl
            have hcz26_4 : wc.cell? ⟨gb127, 4, none⟩ = some (.int .i64 a0_4) := (blk_cell BK127.out 4).trans rfl
            have hcz26_5 : wc.cell? ⟨gb127, 5, none⟩ = some (.int .i64 a0_5) := (blk_cell BK127.out 5).trans rfl
            have hcz26_6 : wc.cell? ⟨gb127, 6, none⟩ = some (.int .i64 a0_6) := (blk_cell BK127.out 6).trans rfl
            have hcz26_7 : wc.cell? ⟨gb127, 7, none⟩ = some (.string a0_7) := (blk_cell BK127.out 7).trans rfl
            have hfz26_0 := blk_frozen BK127.out 0
            have hfz26_1 := blk_frozen BK127.out 1
            have hfz26_2 := blk_frozen BK127.out 2
            have hfz26_3 := blk_frozen BK127.out 3
            have hfz26_4 := blk_frozen BK127.out 4
            have hfz26_5 := blk_frozen BK127.out 5
            have hfz26_6 := blk_frozen BK127.out 6
            have hfz26_7 := blk_frozen BK127.out 7
            go_wp2_with (first | ((with_reducible refine gate_callee (f := 8) rfl ?_); refine goesL_ (some 28) rfl rfl Try.func8 (by kernel_rfl) rfl #[.agg #[.slice A0_0 l0_0.length c0_0, .string a0_1, .int .i64 a0_2, .int .i64 a0_3, .int .i64 a0_4, .int .i64 a0_5, .int .i64 a0_6, .string a0_7]] rfl (by (try simp only [List.map_toArray, List.map_cons, List.map_nil]); first | done | rfl | (simp only [List.length_drop, List.length_take]; rfl)) ?_; (with_reducible refine (chancellaw11_right.calls kj2 _ _ l0_0 a0_1 a0_2 a0_3 a0_4 a0_5 a0_6 a0_7 true _ ?side1 ?side2 A12.out).mono ?_); (case side1 => repeat (first | exact (Kd.C_below HR0_0.out HB.out) | (with_reducible refine Kd.C_alloc ?_ _) | (with_reducible refine Kd.C_drewN ?_ _) | (with_reducible refine Kd.C_drew ?_))); (case side2 => exact HC0_0.out); rintro e w27 ⟨rfl, hb⟩; refine ⟨_, rfl, ?_⟩; have n0_ := Aside0.mk (blk_below (g := gb127) (o := .cells #[.slice A0_0 l0_0.length c0_0, .string a0_1, .int .i64 a0_2, .int .i64 a0_3, .int .i64 a0_4, .int .i64 a0_5, .int .i64 a0_6, .string a0_7] 24 (0, 0)) (by (with_reducible repeat (first | refine blk_drewN ?_ _ | refine blk_drew ?_ | refine blk_alloc ?_ _)); exact BK127.out) hb); have n1_ := Aside0.mk (below_step (by repeat (first | (with_reducible first | exact HB.out | apply below_alloc | apply pw_below_drewN | apply below_drew1 | refine below_set ?_ GE127.out) | exact HB.out)) hb); clear BK127; clear HB; have BK127 := n0_; have HB := n1_; clear n0_ n1_; (try clear hb); (try clear hb2); (try clear hk); (try clear hi); have hcz28_0 : w27.cell? ⟨gb127, 0, none⟩ = some (.slice A0_0 l0_0.length c0_0) := (blk_cell BK127.out 0).trans rfl; have hcz28_1 : w27.cell? ⟨gb127, 1, none⟩ = some (.string a0_1) := (blk_cell BK127.out 1).trans rfl; have hcz28_2 : w27.cell? ⟨gb127, 2, none⟩ = some (.int .i64 a0_2) := (blk_cell BK127.out 2).trans rfl; have hcz28_3 : w27.cell? ⟨gb127, 3, none⟩ = some (.int .i64 a0_3) := (blk_cell BK127.out 3).trans rfl; have hcz28_4 : w27.cell? ⟨gb127, 4, none⟩ = some (.int .i64 a0_4) := (blk_cell BK127.out 4).trans rfl; have hcz28_5 : w27.cell? ⟨gb127, 5, none⟩ = some (.int .i64 a0_5) := (blk_cell BK127.out 5).trans rfl; have hcz28_6 : w27.cell? ⟨gb127, 6, none⟩ = some (.int .i64 a0_6) := (blk_cell BK127.out 6).trans rfl; have hcz28_7 : w27.cell? ⟨gb127, 7, none⟩ = some (.string a0_7) := (blk_cell BK127.out 7).trans rfl; have hfz28_0 := blk_frozen BK127.out 0; have hfz28_1 := blk_frozen BK127.out 1; have hfz28_2 := blk_frozen BK127.out 2; have hfz28_3 := blk_frozen BK127.out 3; have hfz28_4 := blk_frozen BK127.out 4; have hfz28_5 := blk_frozen BK127.out 5; have hfz28_6 := blk_frozen BK127.out 6; have hfz28_7 := blk_frozen BK127.out 7) | ((with_reducible refine gate_callee (f := 17) rfl ?_); refine goesL_ (some 43) rfl rfl Try.func17 (by kernel_rfl) rfl #[.slice A0_0 l0_0.length c0_0, .string a0_1, .int .i64 a0_2, .int .i64 a0_4, .int .i64 a0_5, .int .i64 a0_6] rfl (by (try simp only [List.map_toArray, List.map_cons, List.map_nil]); first | done | rfl | (simp only [List.length_drop, List.length_take]; rfl)) ?_; (with_reducible refine (desk_Open.calls (fun k_ => k_ < w.heap.size) _ _ l0_0 a0_1 a0_2 a0_4 a0_5 a0_6 t134 t137 _ ?side1 A14.out).mono ?_); (case side1 => exact Kd.V_mk HC0_0.out (Kd.F_below (Kd.C_F k28_heap HR0_0.out) (by repeat (first | (with_reducible first | exact HB.out | apply below_alloc | apply pw_below_drewN | apply below_drew1 | refine below_set ?_ GE127.out) | exact HB.out)))); rintro e w29 ⟨v135, rfl, ho0, hb⟩; refine ⟨_, rfl, ?_⟩; have n0_ := Aside0.mk (Kd.V_lower (Kd.V_mono (ok' := fun k_ => k_ ≠ gb127) ho0 (fun k_ hk_ => Or.elim hk_ (fun hs_ => fun e_ => Nat.not_le.2 hs_ (by rw [e_]; exact GW127.out)) (fun hn_ => (Kd.freshB (g := gb127) (o := .cells #[.slice A0_0 l0_0.length c0_0, .string a0_1, .int .i64 a0_2, .int .i64 a0_3, .int .i64 a0_4, .int .i64 a0_5, .int .i64 a0_6, .string a0_7] 24 (0, 0)) (by (with_reducible repeat (first | refine blk_drewN ?_ _ | refine blk_drew ?_ | refine blk_alloc ?_ _)); exact BK127.out) k_ hn_)))) (below_size (by repeat (first | (with_reducible first | exact HB.out | apply below_alloc | apply pw_below_drewN | apply below_drew1 | refine below_set ?_ GE127.out) | exact HB.out)))); have n1_ := Aside0.mk (blk_below (g := gb127) (o := .cells #[.slice A0_0 l0_0.length c0_0, .string a0_1, .int .i64 a0_2, .int .i64 a0_3, .int .i64 a0_4, .int .i64 a0_5, .int .i64 a0_6, .string a0_7] 24 (0, 0)) (by (with_reducible repeat (first | refine blk_drewN ?_ _ | refine blk_drew ?_ | refine blk_alloc ?_ _)); exact BK127.out) hb); have n2_ := Aside0.mk (below_step (by repeat (first | (with_reducible first | exact HB.out | apply below_alloc | apply pw_below_drewN | apply below_drew1 | refine below_set ?_ GE127.out) | exact HB.out)) hb); clear BK127; clear HB; have HO136 := n0_; have BK127 := n1_; have HB := n2_; clear n0_ n1_ n2_; (try clear hb); (try clear hb2); (try clear hk); (try clear hi); (try clear ho0); have hcz30_0 : w29.cell? ⟨gb127, 0, none⟩ = some (.slice A0_0 l0_0.length c0_0) := (blk_cell BK127.out 0).trans rfl; have hcz30_1 : w29.cell? ⟨gb127, 1, none⟩ = some (.string a0_1) := (blk_cell BK127.out 1).trans rfl; have hcz30_2 : w29.cell? ⟨gb127, 2, none⟩ = some (.int .i64 a0_2) := (blk_cell BK127.out 2).trans rfl; have hcz30_3 : w29.cell? ⟨gb127, 3, none⟩ = some (.int .i64 a0_3) := (blk_cell BK127.out 3).trans rfl; have hcz30_4 : w29.cell? ⟨gb127, 4, none⟩ = some (.int .i64 a0_4) := (blk_cell BK127.out 4).trans rfl; have hcz30_5 : w29.cell? ⟨gb127, 5, none⟩ = some (.int .i64 a0_5) := (blk_cell BK127.out 5).trans rfl; have hcz30_6 : w29.cell? ⟨gb127, 6, none⟩ = some (.int .i64 a0_6) := (blk_cell BK127.out 6).trans rfl; have hcz30_7 : w29.cell? ⟨gb127, 7, none⟩ = some (.string a0_7) := (blk_cell BK127.out 7).trans rfl; have hfz30_0 := blk_frozen BK127.out 0; have hfz30_1 := blk_frozen BK127.out 1; have hfz30_2 := blk_frozen BK127.out 2; have hfz30_3 := blk_frozen BK127.out 3; have hfz30_4 := blk_frozen BK127.out 4; have hfz30_5 := blk_frozen BK127.out 5; have hfz30_6 := blk_frozen BK127.out 6; have hfz30_7 := blk_frozen BK127.out 7) | ((with_reducible refine gate_callee (f := 18) rfl ?_); refine goesL_ (some 59) rfl rfl Try.func18 (by kernel_rfl) rfl #[.slice A0_0 l0_0.length c0_0, .string a0_1, .int .i64 a0_2, .int .i64 a0_4, .int .i64 a0_5, .int .i64 a0_6] rfl (by (try simp only [List.map_toArray, List.map_cons, List.map_nil]); first | done | rfl | (simp only [List.length_drop, List.length_take]; rfl)) ?_; (with_reducible refine (chancelref11_Open.calls kj2 (fun k_ => k_ < w.heap.size) _ _ l0_0 a0_1 a0_2 a0_4 a0_5 a0_6 t138 t141 _ ?side1 A15.out).mono ?_); (case side1 => exact Kd.V_mk HC0_0.out (Kd.F_below (Kd.C_F k28_heap HR0_0.out) (by repeat (first | (with_reducible first | exact HB.out | apply below_alloc | apply pw_below_drewN | apply below_drew1 | refine below_set ?_ GE127.out) | exact HB.out)))); rintro e w31 ⟨v139, rfl, ho0, hb⟩; refine ⟨_, rfl, ?_⟩; have n0_ := Aside0.mk (Kd.V_below (by (with_reducible repeat (first | apply Kd.V_alloc | apply Kd.V_drewN | apply Kd.V_drew)); exact HO136.out) hb); have n1_ := Aside0.mk (Kd.V_lower (Kd.V_mono (ok' := fun k_ => k_ ≠ gb127) ho0 (fun k_ hk_ => Or.elim hk_ (fun hs_ => fun e_ => Nat.not_le.2 hs_ (by rw [e_]; exact GW127.out)) (fun hn_ => (Kd.freshB (g := gb127) (o := .cells #[.slice A0_0 l0_0.length c0_0, .string a0_1, .int .i64 a0_2, .int .i64 a0_3, .int .i64 a0_4, .int .i64 a0_5, .int .i64 a0_6, .string a0_7] 24 (0, 0)) (by (with_reducible repeat (first | refine blk_drewN ?_ _ | refine blk_drew ?_ | refine blk_alloc ?_ _)); exact BK127.out) k_ hn_)))) (below_size (by repeat (first | (with_reducible first | exact HB.out | apply below_alloc | apply pw_below_drewN | apply below_drew1 | refine below_set ?_ GE127.out) | exact HB.out)))); have n2_ := Aside0.mk (blk_below (g := gb127) (o := .cells #[.slice A0_0 l0_0.length c0_0, .string a0_1, .int .i64 a0_2, .int .i64 a0_3, .int .i64 a0_4, .int .i64 a0_5, .int .i64 a0_6, .string a0_7] 24 (0, 0)) (by (with_reducible repeat (first | refine blk_drewN ?_ _ | refine blk_drew ?_ | refine blk_alloc ?_ _)); exact BK127.out) hb); have n3_ := Aside0.mk (below_step (by repeat (first | (with_reducible first | exact HB.out | apply below_alloc | apply pw_below_drewN | apply below_drew1 | refine below_set ?_ GE127.out) | exact HB.out)) hb); clear HO136; clear BK127; clear HB; have HO136 := n0_; have HO140 := n1_; have BK127 := n2_; have HB := n3_; clear n0_ n1_ n2_ n3_; (try clear hb); (try clear hb2); (try clear hk); (try clear hi); (try clear ho0)))
            go_ret
            exact ⟨by first | rfl | (simp [errW_none, errW_some] <;> rfl) | (simp [*, errW_none, errW_some] <;> rfl), by repeat (first | (with_reducible first | exact HB.out | apply below_alloc | apply pw_below_drewN | apply below_drew1 | refine below_set ?_ GE127.out) | exact HB.out)⟩
        · replace c13 := Bool.eq_false_iff.mpr c13
          subst c13
          have H1 : (some true) = some r := by rw [if_neg (show ¬ (false = true) by decide)] at H; exact H
          clear H
          have H := H1
          clear H1
          obtain rfl := Option.some.inj H
          have hcz32_0 : wc.cell? ⟨gb127, 0, none⟩ = some (.slice A0_0 l0_0.length c0_0) := (blk_cell BK127.out 0).trans rfl
          have hcz32_1 : wc.cell? ⟨gb127, 1, none⟩ = some (.string a0_1) := (blk_cell BK127.out 1).trans rfl
          have hcz32_2 : wc.cell? ⟨gb127, 2, none⟩ = some (.int .i64 a0_2) := (blk_cell BK127.out 2).trans rfl
          have hcz32_3 : wc.cell? ⟨gb127, 3, none⟩ = some (.int .i64 a0_3) := (blk_cell BK127.out 3).trans rfl
          have hcz32_4 : wc.cell? ⟨gb127, 4, none⟩ = some (.int .i64 a0_4) := (blk_cell BK127.out 4).trans rfl
          have hcz32_5 : wc.cell? ⟨gb127, 5, none⟩ = some (.int .i64 a0_5) := (blk_cell BK127.out 5).trans rfl
          have hcz32_6 : wc.cell? ⟨gb127, 6, none⟩ = some (.int .i64 a0_6) := (blk_cell BK127.out 6).trans rfl
          have hcz32_7 : wc.cell? ⟨gb127, 7, none⟩ = some (.string a0_7) := (blk_cell BK127.out 7).trans rfl
          have hfz32_0 := blk_frozen BK127.out 0
          have hfz32_1 := blk_frozen BK127.out 1
          have hfz32_2 := blk_frozen BK127.out 2
          have hfz32_3 := blk_frozen BK127.out 3
          have hfz32_4 := blk_frozen BK127.out 4
          have hfz32_5 := blk_frozen BK127.out 5
          have hfz32_6 := blk_frozen BK127.out 6
          have hfz32_7 := blk_frozen BK127.out 7
          go_wp2_with (first | ((with_reducible refine gate_callee (f := 8) rfl ?_); refine goesL_ (some 28) rfl rfl Try.func8 (by kernel_rfl) rfl #[.agg #[.slice A0_0 l0_0.length c0_0, .string a0_1, .int .i64 a0_2, .int .i64 a0_3, .int .i64 a0_4, .int .i64 a0_5, .int .i64 a0_6, .string a0_7]] rfl (by (try simp only [List.map_toArray, List.map_cons, List.map_nil]); first | done | rfl | (simp only [List.length_drop, List.length_take]; rfl)) ?_; (with_reducible refine (chancellaw11_right.calls kj2 _ _ l0_0 a0_1 a0_2 a0_3 a0_4 a0_5 a0_6 a0_7 false _ ?side1 ?side2 A12.out).mono ?_); (case side1 => repeat (first | exact (Kd.C_below HR0_0.out HB.out) | (with_reducible refine Kd.C_alloc ?_ _) | (with_reducible refine Kd.C_drewN ?_ _) | (with_reducible refine Kd.C_drew ?_))); (case side2 => exact HC0_0.out); rintro e w33 ⟨rfl, hb⟩; refine ⟨_, rfl, ?_⟩; have n0_ := Aside0.mk (blk_below (g := gb127) (o := .cells #[.slice A0_0 l0_0.length c0_0, .string a0_1, .int .i64 a0_2, .int .i64 a0_3, .int .i64 a0_4, .int .i64 a0_5, .int .i64 a0_6, .string a0_7] 24 (0, 0)) (by (with_reducible repeat (first | refine blk_drewN ?_ _ | refine blk_drew ?_ | refine blk_alloc ?_ _)); exact BK127.out) hb); have n1_ := Aside0.mk (below_step (by repeat (first | (with_reducible first | exact HB.out | apply below_alloc | apply pw_below_drewN | apply below_drew1 | refine below_set ?_ GE127.out) | exact HB.out)) hb); clear BK127; clear HB; have BK127 := n0_; have HB := n1_; clear n0_ n1_; (try clear hb); (try clear hb2); (try clear hk); (try clear hi)))
          go_ret
          exact ⟨by first | rfl | (simp [errW_none, errW_some] <;> rfl) | (simp [*, errW_none, errW_some] <;> rfl), by repeat (first | (with_reducible first | exact HB.out | apply below_alloc | apply pw_below_drewN | apply below_drew1 | refine below_set ?_ GE127.out) | exact HB.out)⟩

/-- THE ONE PURE STATEMENT of chancellaw11_DeskOpens: yours. -/
def chancellaw11_DeskOpens.Pure : Prop := ∀ (l0_0 : List (S28)) (a0_1 : ByteArray) (a0_2 : Int) (a0_3 : Int) (a0_4 : Int) (a0_5 : Int) (a0_6 : Int) (a0_7 : ByteArray), (fun l : List (S28) => l.length ≤ maxLen ∧ ∀ a ∈ l, (fun b : S28 => (fun s : ByteArray => s.size ≤ maxLen) b.f0 ∧ (fun n : Int => (Lit.int .i64 n).wf = true) b.f1 ∧ (fun n : Int => (Lit.int .i64 n).wf = true) b.f2 ∧ (fun n : Int => (Lit.int .i64 n).wf = true) b.f3 ∧ (fun s : ByteArray => s.size ≤ maxLen) b.f4) a) l0_0 → (fun s : ByteArray => s.size ≤ maxLen) a0_1 → (fun n : Int => (Lit.int .i64 n).wf = true) a0_2 → (fun n : Int => (Lit.int .i64 n).wf = true) a0_3 → (fun n : Int => (Lit.int .i64 n).wf = true) a0_4 → (fun n : Int => (Lit.int .i64 n).wf = true) a0_5 → (fun n : Int => (Lit.int .i64 n).wf = true) a0_6 → (fun s : ByteArray => s.size ≤ maxLen) a0_7 → ∃ k, chancellaw11_DeskOpens.f k l0_0 a0_1 a0_2 a0_3 a0_4 a0_5 a0_6 a0_7 = some true
theorem chancellaw11_DeskOpens.walk (P : chancellaw11_DeskOpens.Pure)  (w : World)  (A0_0 : Option Addr) (c0_0 : Nat) (l0_0 : List (S28)) (hr0_0 : Kd.C k28 w A0_0 l0_0.length l0_0) (hc0_0 : l0_0.length ≤ c0_0) (a0_1 : ByteArray) (a0_2 : Int) (a0_3 : Int) (a0_4 : Int) (a0_5 : Int) (a0_6 : Int) (a0_7 : ByteArray) (g0_0 : (fun l : List (S28) => l.length ≤ maxLen ∧ ∀ a ∈ l, (fun b : S28 => (fun s : ByteArray => s.size ≤ maxLen) b.f0 ∧ (fun n : Int => (Lit.int .i64 n).wf = true) b.f1 ∧ (fun n : Int => (Lit.int .i64 n).wf = true) b.f2 ∧ (fun n : Int => (Lit.int .i64 n).wf = true) b.f3 ∧ (fun s : ByteArray => s.size ≤ maxLen) b.f4) a) l0_0) (g0_1 : (fun s : ByteArray => s.size ≤ maxLen) a0_1) (g0_2 : (fun n : Int => (Lit.int .i64 n).wf = true) a0_2) (g0_3 : (fun n : Int => (Lit.int .i64 n).wf = true) a0_3) (g0_4 : (fun n : Int => (Lit.int .i64 n).wf = true) a0_4) (g0_5 : (fun n : Int => (Lit.int .i64 n).wf = true) a0_5) (g0_6 : (fun n : Int => (Lit.int .i64 n).wf = true) a0_6) (g0_7 : (fun s : ByteArray => s.size ≤ maxLen) a0_7) :
    Calls Try.prog 5 #[.agg #[.slice A0_0 l0_0.length c0_0, .string a0_1, .int .i64 a0_2, .int .i64 a0_3, .int .i64 a0_4, .int .i64 a0_5, .int .i64 a0_6, .string a0_7]] w fun e w' => e = .returned (.bool true) ∧ Below w.heap.size w w' := by
  obtain ⟨k, h⟩ := P l0_0 a0_1 a0_2 a0_3 a0_4 a0_5 a0_6 a0_7 g0_0 g0_1 g0_2 g0_3 g0_4 g0_5 g0_6 g0_7
  refine (chancellaw11_DeskOpens.calls k A0_0 c0_0 l0_0 a0_1 a0_2 a0_3 a0_4 a0_5 a0_6 a0_7 true w hr0_0 hc0_0 h).mono ?_
  rintro e w' ⟨rfl, hd⟩
  exact ⟨rfl, hd⟩

end Go.Proofs.Ytdfgibajcifjaaa.ADeskOpens
