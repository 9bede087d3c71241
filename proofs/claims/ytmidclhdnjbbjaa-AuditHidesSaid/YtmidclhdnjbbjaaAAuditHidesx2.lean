/- What the functions that the law AuditHides reaches compute, and the row of the law (printed by a program of this session). -/
import Derived.Test.YtmidclhdnjbbjaaAAuditHidesx0
namespace Go.Proofs.Ytmidclhdnjbbjaa.AAuditHides
open Go.RowKit Go.Proofs.YtmidclhdnjbbjaaW.PrintWords Go.Proofs.YtmidclhdnjbbjaaW.PrintLast Go.Proofs.YtmidclhdnjbbjaaW.PrintMore
attribute [local go_sem] max2_int min2_int max_two min_two max_three min_three max_four min_four   -- for this text's walks alone
set_option linter.unusedVariables false
set_option linter.unusedSimpArgs false

/-! ### audit_Sees: function 14 -/
/-! ### slices_Index_int_int: function 31 -/
def slices_Index_int_int.l0 : Nat → List Int → Int → Int → Int → Option (Int)
  | 0, _, _, _, _ => none
  | k + 1, x0, x1, x7, x8 => if x8 < x7 then (if 0 ≤ x8 then (if x8 < (x0.length : Int) then (if x1 = (rd x0 x8) then (some x8) else (slices_Index_int_int.l0 k x0 x1 x7 (wrap64 (x8 + 1)))) else (none)) else (none)) else (some (-1))
def slices_Index_int_int.f (k : Nat) (l0 : List Int) (a1 : Int) : Option (Int) := slices_Index_int_int.l0 k l0 a1 (l0.length : Int) 0
theorem slices_Index_int_int.mono_l : ∀ k, (∀ y0 y1 y2 y3, LeO (slices_Index_int_int.l0 k y0 y1 y2 y3) (slices_Index_int_int.l0 (k + 1) y0 y1 y2 y3))
  | 0 => fun _ _ _ _ r h => by simp [slices_Index_int_int.l0] at h
  | k + 1 => by
    have ih0 := slices_Index_int_int.mono_l k
    · intro y0 y1 y2 y3
      unfold slices_Index_int_int.l0
      repeat' first
      | (with_reducible exact ih0 _ _ _ _)
      | (with_reducible exact LeO.refl _)
      | (with_reducible exact LeO.none _)
      | (with_reducible refine LeO.ite ?_ ?_)
      | (with_reducible refine LeO.bind ?_ (fun _ => ?_))
      | exact ih0 _ _ _ _
      | exact LeO.none _
      | refine LeO.ite ?_ ?_
      | refine LeO.bind ?_ (fun _ => ?_)
theorem slices_Index_int_int.mono : ∀ a0 a1 k, LeO (slices_Index_int_int.f k a0 a1) (slices_Index_int_int.f (k + 1) a0 a1) := by
  intro a0 a1 k
  have ih0 := slices_Index_int_int.mono_l k
  unfold slices_Index_int_int.f
  repeat' first
      | (with_reducible exact ih0 _ _ _ _)
      | (with_reducible exact LeO.refl _)
      | (with_reducible exact LeO.none _)
      | (with_reducible refine LeO.ite ?_ ?_)
      | (with_reducible refine LeO.bind ?_ (fun _ => ?_))
      | exact ih0 _ _ _ _
      | exact LeO.none _
      | refine LeO.ite ?_ ?_
      | refine LeO.bind ?_ (fun _ => ?_)
set_option maxHeartbeats 8000000 in
set_option maxRecDepth 100000 in
theorem slices_Index_int_int.calls (k : Nat) (A0 : Option Addr) (c0 : Nat) (l0 : List Int) (a1 : Int) (r : Int) (w : World) (hr0 : Kd.C (Kd.int .i64) w A0 l0.length l0) (hc0 : l0.length ≤ c0) (h : slices_Index_int_int.f k l0 a1 = some r) :
    Calls Try.prog 26 #[.slice A0 l0.length c0, .int .i64 a1] w fun e w' => e = .returned (.int .i64 r) ∧ Drawn0 w w' := by
  have HR0 := Aside0.mk hr0
  have HC0 := Aside0.mk hc0
  clear hr0 hc0
  have H : (slices_Index_int_int.l0 k l0 a1 (l0.length : Int) 0) = some r := h
  clear h
  have H' := Aside0.mk H
  clear H
  go_enter Try.func26, Try.ntmps26
  go_wp2
  go_loopg [8] k (fun kq v8 w' => ∃ (x8_1 : Int), v8 = .int .i64 x8_1 ∧ Aside0 (slices_Index_int_int.l0 kq l0 a1 (l0.length : Int) x8_1 = some r) ∧ Aside0 (kq ≤ k) ∧ Drawn0 w w')
  case atStart => exact ⟨(0), (by first | rfl | (simp; done) | (simp [*]; done)), H', ⟨Nat.le_refl _⟩, by repeat (first | exact Drawn0.refl _ | apply Drawn0.step)⟩
  case round =>
    clear H'
    try clear p2
    obtain ⟨x8_1, rfl, HA, HK1, ⟨m1, rfl⟩⟩ := hrel
    cases gk with
    | zero => exact absurd HA.out (by simp [slices_Index_int_int.l0])
    | succ k1 =>
      have H := HA.out
      clear HA
      simp only [slices_Index_int_int.l0] at H
      by_cases c3 : x8_1 < (l0.length : Int)
      · rw [if_pos c3] at H
        have c3b0 : decide (x8_1 < (l0.length : Int)) = true := decide_eq_true c3
        clear c3
        by_cases c4 : 0 ≤ x8_1
        · rw [if_pos c4] at H
          have c4b0 : decide (0 ≤ x8_1) = true := decide_eq_true c4
          clear c4
          by_cases c5 : x8_1 < (l0.length : Int)
          · rw [if_pos c5] at H
            have c5b0 : decide (x8_1 < (l0.length : Int)) = true := decide_eq_true c5
            clear c5
            by_cases c6 : a1 = (rd l0 x8_1)
            · rw [if_pos c6] at H
              have c6b0 : (a1 == (rd l0 x8_1)) = true := beq_iff_eq.mpr c6
              have c6b1 : (a1 != (rd l0 x8_1)) = false := bne_eq_false_iff_eq.mpr c6
              clear c6
              obtain rfl := Option.some.inj H
              have p118 : 0 ≤ (x8_1 : Int) := of_decide_eq_true (by first | (with_reducible assumption) | assumption)
              have q118 : x8_1 < (l0.length : Int) := of_decide_eq_true (by first | (with_reducible assumption) | assumption)
              obtain ⟨ad118, e118, hx118_0⟩ := Kd.at_int HR0.out x8_1 p118 q118
              cases e118
              replace p118 := eq_true p118
              replace q118 := eq_true q118
              go_wp2
              go_ret
              exact ⟨by first | rfl | (simp; done) | (simp [*]; done), by repeat (first | exact Drawn0.refl _ | apply Drawn0.step)⟩
            · rw [if_neg c6] at H
              have c6b0 : (a1 == (rd l0 x8_1)) = false := beq_eq_false_iff_ne.mpr c6
              have c6b1 : (a1 != (rd l0 x8_1)) = true := bne_iff_ne.mpr c6
              have H' := Aside0.mk H
              clear H
              have p118 : 0 ≤ (x8_1 : Int) := of_decide_eq_true (by first | (with_reducible assumption) | assumption)
              have q118 : x8_1 < (l0.length : Int) := of_decide_eq_true (by first | (with_reducible assumption) | assumption)
              obtain ⟨ad118, e118, hx118_0⟩ := Kd.at_int HR0.out x8_1 p118 q118
              cases e118
              replace p118 := eq_true p118
              replace q118 := eq_true q118
              go_wp2
              go_roundg k1
              case measure => have := HK1.out; omega
              case rel => exact ⟨(wrap64 (x8_1 + 1)), (by first | rfl | (simp; done) | (simp [*]; done)), H', ⟨by have := HK1.out; omega⟩, by repeat (first | exact Drawn0.refl _ | apply Drawn0.step)⟩
          · rw [if_neg c5] at H
            exact absurd H (by simp)
        · rw [if_neg c4] at H
          exact absurd H (by simp)
      · rw [if_neg c3] at H
        have c3b0 : decide (x8_1 < (l0.length : Int)) = false := decide_eq_false c3
        clear c3
        obtain rfl := Option.some.inj H
        go_wp2
        go_ret
        exact ⟨by first | rfl | (simp; done) | (simp [*]; done), by repeat (first | exact Drawn0.refl _ | apply Drawn0.step)⟩

/-! ### slices_Contains_int_int: function 23 -/
def slices_Contains_int_int.f (k : Nat) (l0 : List Int) (a1 : Int) : Option (Bool) := (slices_Index_int_int.f k l0 a1).bind fun t119 => (some (decide (t119 ≥ 0)))
theorem slices_Contains_int_int.mono : ∀ a0 a1 k, LeO (slices_Contains_int_int.f k a0 a1) (slices_Contains_int_int.f (k + 1) a0 a1) := by
  intro a0 a1 k
  unfold slices_Contains_int_int.f
  repeat' first
      | (with_reducible exact slices_Index_int_int.mono _ _ _)
      | (with_reducible exact LeO.refl _)
      | (with_reducible exact LeO.none _)
      | (with_reducible refine LeO.ite ?_ ?_)
      | (with_reducible refine LeO.bind ?_ (fun _ => ?_))
      | exact slices_Index_int_int.mono _ _ _
      | exact LeO.none _
      | refine LeO.ite ?_ ?_
      | refine LeO.bind ?_ (fun _ => ?_)
set_option maxHeartbeats 8000000 in
set_option maxRecDepth 100000 in
theorem slices_Contains_int_int.calls (k : Nat) (A0 : Option Addr) (c0 : Nat) (l0 : List Int) (a1 : Int) (r : Bool) (w : World) (hr0 : Kd.C (Kd.int .i64) w A0 l0.length l0) (hc0 : l0.length ≤ c0) (h : slices_Contains_int_int.f k l0 a1 = some r) :
    Calls Try.prog 25 #[.slice A0 l0.length c0, .int .i64 a1] w fun e w' => e = .returned (.bool r) ∧ Drawn0 w w' := by
  have HR0 := Aside0.mk hr0
  have HC0 := Aside0.mk hc0
  clear hr0 hc0
  have H : ((slices_Index_int_int.f k l0 a1).bind fun t119 => (some (decide (t119 ≥ 0)))) = some r := h
  clear h
  replace H := Option.bind_eq_some_iff.mp H
  obtain ⟨t119, A30, H⟩ := H
  replace H : (some (decide (t119 ≥ 0))) = some r := H
  have A3 := Aside0.mk A30
  clear A30
  obtain rfl := Option.some.inj H
  go_enter Try.func25, Try.ntmps25
  go_wp2_with (first | ((with_reducible refine gate_callee (f := 26) rfl ?_); refine goesL_ (some 7) rfl rfl Try.func26 (by kernel_rfl) rfl #[.slice A0 l0.length c0, .int .i64 a1] rfl (by (try simp only [List.map_toArray, List.map_cons, List.map_nil]); first | done | rfl | (simp only [List.length_drop, List.length_take]; rfl)) ?_; (with_reducible refine (slices_Index_int_int.calls k _ _ l0 a1 t119 _ ?side1 ?side2 A3.out).mono ?_); (case side1 => repeat (first | exact HR0.out | (with_reducible refine Kd.C_alloc ?_ _) | (with_reducible refine Kd.C_drewN ?_ _) | (with_reducible refine Kd.C_drew ?_))); (case side2 => exact HC0.out); rintro e w' ⟨rfl, ⟨nd, rfl⟩⟩; refine ⟨_, rfl, ?_⟩))
  go_ret
  exact ⟨by first | rfl | (simp; done) | (simp [*]; done), by repeat (first | exact Drawn0.refl _ | apply Drawn0.step)⟩
/-- Is the user on the whole path of a label? (d: how long the path may be) -/
def onPath (l : List S46) (user : Int) (write : Bool) : Nat → Nat → Bool
  | 0, _ => false
  | d + 1, i => (if write then (rd_T46 l (i : Int)).f3 else (rd_T46 l (i : Int)).f2).contains user && (decide ((rd_T46 l (i : Int)).f0 < 0) || decide ((rd_T46 l (i : Int)).f0 ≥ (i : Int)) || onPath l user write d (rd_T46 l (i : Int)).f0.toNat)
def may (l : List S46) (user label : Int) (write : Bool) : Bool := decide (0 ≤ label) && decide (label < (l.length : Int)) && onPath l user write (label.toNat + 1) label.toNat
theorem index_loop (l : List Int) (v : Int) (hl : l.length ≤ 9223372036854775807) : ∀ (d k i : Nat), l.length - i = d → d < k → i ≤ l.length →
    ∃ r : Int, slices_Index_int_int.l0 k l v (l.length : Int) (i : Int) = some r ∧ decide (r ≥ 0) = (l.drop i).contains v := by
  intro d
  induction d with
  | zero =>
    intro k i hd hk hi
    obtain ⟨k, rfl⟩ : ∃ m, k = m + 1 := ⟨k - 1, by omega⟩
    refine ⟨-1, by simp only [slices_Index_int_int.l0]; rw [if_neg (by omega)], ?_⟩
    rw [List.drop_eq_nil_of_le (by omega)]; rfl
  | succ d ih =>
    intro k i hd hk hi
    obtain ⟨k, rfl⟩ : ∃ m, k = m + 1 := ⟨k - 1, by omega⟩
    have hlt : i < l.length := by omega
    have hrd : rd l (i : Int) = l[i] := by simp [rd, hlt]
    simp only [slices_Index_int_int.l0]
    rw [if_pos (by omega), if_pos (by omega), if_pos (by omega), hrd, List.drop_eq_getElem_cons hlt]
    by_cases h : v = l[i]
    · refine ⟨(i : Int), by rw [if_pos h], ?_⟩
      rw [List.contains_cons, beq_iff_eq.mpr h, Bool.true_or]
      exact decide_eq_true (by omega)
    · obtain ⟨r, h1, h2⟩ := ih k (i + 1) (by omega) (by omega) (by omega)
      refine ⟨r, ?_, ?_⟩
      · rw [if_neg h, show wrap64 ((i : Int) + 1) = ((i + 1 : Nat) : Int) by unfold wrap64; omega]; exact h1
      · rw [List.contains_cons, beq_eq_false_iff_ne.mpr h, Bool.false_or]; exact h2
theorem contains_tells (l : List Int) (v : Int) (hl : l.length ≤ 9223372036854775807) : slices_Contains_int_int.f (l.length + 1) l v = some (l.contains v) := by
  obtain ⟨r, h1, h2⟩ := index_loop l v hl l.length (l.length + 1) 0 (by omega) (by omega) (by omega)
  unfold slices_Contains_int_int.f slices_Index_int_int.f
  rw [show ((0 : Nat) : Int) = 0 from rfl] at h1
  rw [h1]
  simp only [Option.bind_some]
  rw [h2, List.drop_zero]
def rights_May.f (l0 : List (S46)) (a1 : Int) (a2 : Int) (a3 : Bool) : Option (Bool) := some (may l0 a1 a2 a3)
set_option maxHeartbeats 4000000 in
set_option maxRecDepth 100000 in
theorem rights_May.calls (A0 : Option Addr) (c0 : Nat) (l0 : List (S46)) (a1 : Int) (a2 : Int) (a3 : Bool) (r : Bool) (w : World) (hr0 : Kd.C k46 w A0 l0.length l0) (hc0 : l0.length ≤ c0) (h : rights_May.f l0 a1 a2 a3 = some r) :
    Calls Try.prog 23 #[.slice A0 l0.length c0, .int .i64 a1, .int .i64 a2, .bool a3] w fun e w' => e = .returned (.bool r) ∧ Below w.heap.size w w' := by
  have hu46 := Try.underlying46
  have HR0 := Aside0.mk hr0
  have hn : l0.length ≤ 9223372036854775807 := hr0.2.1
  clear hr0 hc0
  have HB := Aside0.mk (Below.refl w.heap.size w)
  have H : may l0 a1 a2 a3 = r := Option.some.inj h
  clear h
  unfold may at H
  by_cases c1 : 0 ≤ a2
  · by_cases c2 : a2 < (l0.length : Int)
    · obtain ⟨i0, rfl⟩ := Int.eq_ofNat_of_zero_le c1
      have H2 := Aside0.mk (show i0 < i0 + 1 ∧ onPath l0 a1 a3 (i0 + 1) i0 = r from ⟨by omega, by rw [← H]; simp [c2]⟩)
      have c2' : i0 < l0.length := by omega
      have c3 := Aside0.mk c2'
      have c2b0 : decide ((l0.length : Int) ≤ (i0 : Int)) = false := decide_eq_false (by omega)
      have c2b1 : decide (l0.length ≤ i0) = false := decide_eq_false (by omega)
      have c1b0 : decide ((i0 : Int) < 0) = false := decide_eq_false (by omega)
      clear H c1 c2
      go_enter Try.func23, Try.ntmps23
      go_wp2
      go_loopg [2] (i0 + 1) (fun dq v2 w' => ∃ i : Nat, v2 = .int .i64 i ∧ Aside0 (i < l0.length) ∧ Aside0 (i < dq ∧ onPath l0 a1 a3 dq i = r) ∧ Aside0 (Below w.heap.size w w'))
      case atStart => exact ⟨i0, rfl, c3, H2, HB⟩
      case round =>
        clear H2 HB c3 c2b0 c2b1 c1b0 c2'
        obtain ⟨i, rfl, hi, H, HB⟩ := hrel
        cases gk with
        | zero => exact absurd H.out.1 (by omega)
        | succ gk =>
          have hlt : i < l0.length := hi.out
          obtain ⟨x, hx⟩ : ∃ x : S46, x = rd_T46 l0 (i : Int) := ⟨_, rfl⟩
          obtain ⟨ad, A2, c2, A3, c3, e102, hx0, hx1, hx2, hx3, hl2, hi2, hl3, hi3⟩ := at_T46 HR0.out (i : Int) (by omega) (by omega)
          cases e102
          have H1 := Aside0.mk H.out.1
          have H2 := H.out.2
          rw [onPath] at H2
          rw [← hx] at hx0 hx1 hx2 hx3 hl2 hi2 hl3 hi3 H2
          clear H hx
          replace hx0 := (HB.out.cell (World.block_lt_of_cell? w _ hx0)).trans hx0
          replace hx1 := (HB.out.cell (World.block_lt_of_cell? w _ hx1)).trans hx1
          replace hx2 := (HB.out.cell (World.block_lt_of_cell? w _ hx2)).trans hx2
          replace hx3 := (HB.out.cell (World.block_lt_of_cell? w _ hx3)).trans hx3
          simp only [Int.toNat_natCast] at hx0 hx1 hx2 hx3
          have HR2 := Aside0.mk hi2
          have HR3 := Aside0.mk hi3
          have HC2 := Aside0.mk hl2
          have HC3 := Aside0.mk hl3
          have N2 := Aside0.mk hi2.2.1
          have N3 := Aside0.mk hi3.2.1
          clear hi2 hi3 hl2 hl3
          cases a3 with
          | false =>
            rw [if_neg (by decide)] at H2
            obtain ⟨b, hb⟩ : ∃ b : Bool, b = x.f2.contains a1 := ⟨_, rfl⟩
            have HCt := Aside0.mk ((contains_tells x.f2 a1 N2.out).trans (congrArg some hb.symm))
            rw [← hb] at H2
            clear hb
            cases b with
            | false =>
              obtain rfl : false = r := by rw [← H2]; simp
              clear H2
              go_wp2_with (first | ((with_reducible refine gate_dst (N := 9) rfl ?_); (try (refine gate_guard (by rfl) ?_; dsimp only)); refine box_event ?hg (N := 9) ?hd (cs := #[.int .i64 0, .int .i64 0, .slice none 0 0, .slice none 0 0]) (t := 46) ?hr ?_; (case hd => rfl); (case hg => rfl); (case hr => first | (go_simp; done) | (go_simp; rfl)); intro gb hg w25 hbox hb; have n0_ := Aside0.mk (below_step (by repeat (first | (with_reducible first | exact HB.out | apply below_alloc | apply pw_below_drewN | apply below_drew1) | exact HB.out)) hb); have n1_ := Aside0.mk (hbox); have n2_ := Aside0.mk ((by rw [hg]; exact (below_size (by repeat (first | (with_reducible first | exact HB.out | apply below_alloc | apply pw_below_drewN | apply below_drew1) | exact HB.out))) : w.heap.size ≤ gb)); clear HB; have HB := n0_; have BK := n1_; have GE := n2_; clear n0_ n1_ n2_; clear hb hbox hg; have hcz0 : w25.cell? ⟨gb, 0, none⟩ = some (.int .i64 0) := (blk_cell BK.out 0).trans rfl; have hcz1 : w25.cell? ⟨gb, 1, none⟩ = some (.int .i64 0) := (blk_cell BK.out 1).trans rfl; have hcz2 : w25.cell? ⟨gb, 2, none⟩ = some (.slice none 0 0) := (blk_cell BK.out 2).trans rfl; have hcz3 : w25.cell? ⟨gb, 3, none⟩ = some (.slice none 0 0) := (blk_cell BK.out 3).trans rfl; have hfz0 := blk_frozen BK.out 0; have hfz1 := blk_frozen BK.out 1; have hfz2 := blk_frozen BK.out 2; have hfz3 := blk_frozen BK.out 3) | (go_at_call 25; (with_reducible refine (slices_Contains_int_int.calls _ _ _ x.f2 a1 false _ ?side1 ?side2 HCt.out).mono ?_); (case side1 => exact Kd.C_below HR2.out (by repeat (first | (with_reducible first | exact HB.out | apply below_alloc | apply pw_below_drewN | apply below_drew1 | refine below_set ?_ GE.out) | exact HB.out))); (case side2 => exact HC2.out); rintro e w' ⟨rfl, ⟨nd, rfl⟩⟩))
              go_ret
              exact ⟨rfl, by repeat (first | (with_reducible first | exact HB.out | apply below_alloc | apply pw_below_drewN | apply below_drew1 | refine below_set ?_ GE.out) | exact HB.out)⟩
            | true =>
              rw [Bool.true_and] at H2
              by_cases d1 : x.f0 < 0
              · have d1b : decide (x.f0 < 0) = true := decide_eq_true d1
                obtain rfl : true = r := by rw [← H2]; simp [d1]
                clear H2 d1
                go_wp2_with (first | ((with_reducible refine gate_dst (N := 9) rfl ?_); (try (refine gate_guard (by rfl) ?_; dsimp only)); refine box_event ?hg (N := 9) ?hd (cs := #[.int .i64 0, .int .i64 0, .slice none 0 0, .slice none 0 0]) (t := 46) ?hr ?_; (case hd => rfl); (case hg => rfl); (case hr => first | (go_simp; done) | (go_simp; rfl)); intro gb hg w25 hbox hb; have n0_ := Aside0.mk (below_step (by repeat (first | (with_reducible first | exact HB.out | apply below_alloc | apply pw_below_drewN | apply below_drew1) | exact HB.out)) hb); have n1_ := Aside0.mk (hbox); have n2_ := Aside0.mk ((by rw [hg]; exact (below_size (by repeat (first | (with_reducible first | exact HB.out | apply below_alloc | apply pw_below_drewN | apply below_drew1) | exact HB.out))) : w.heap.size ≤ gb)); clear HB; have HB := n0_; have BK := n1_; have GE := n2_; clear n0_ n1_ n2_; clear hb hbox hg; have hcz0 : w25.cell? ⟨gb, 0, none⟩ = some (.int .i64 0) := (blk_cell BK.out 0).trans rfl; have hcz1 : w25.cell? ⟨gb, 1, none⟩ = some (.int .i64 0) := (blk_cell BK.out 1).trans rfl; have hcz2 : w25.cell? ⟨gb, 2, none⟩ = some (.slice none 0 0) := (blk_cell BK.out 2).trans rfl; have hcz3 : w25.cell? ⟨gb, 3, none⟩ = some (.slice none 0 0) := (blk_cell BK.out 3).trans rfl; have hfz0 := blk_frozen BK.out 0; have hfz1 := blk_frozen BK.out 1; have hfz2 := blk_frozen BK.out 2; have hfz3 := blk_frozen BK.out 3) | (go_at_call 25; (with_reducible refine (slices_Contains_int_int.calls _ _ _ x.f2 a1 true _ ?side1 ?side2 HCt.out).mono ?_); (case side1 => exact Kd.C_below HR2.out (by repeat (first | (with_reducible first | exact HB.out | apply below_alloc | apply pw_below_drewN | apply below_drew1 | refine below_set ?_ GE.out) | exact HB.out))); (case side2 => exact HC2.out); rintro e w' ⟨rfl, ⟨nd, rfl⟩⟩))
                go_ret
                exact ⟨rfl, by repeat (first | (with_reducible first | exact HB.out | apply below_alloc | apply pw_below_drewN | apply below_drew1 | refine below_set ?_ GE.out) | exact HB.out)⟩
              · have d1b : decide (x.f0 < 0) = false := decide_eq_false d1
                by_cases d2 : x.f0 ≥ (i : Int)
                · have d2b : decide (x.f0 ≥ (i : Int)) = true := decide_eq_true d2
                  obtain rfl : true = r := by rw [← H2]; simp [d2]
                  clear H2 d1 d2
                  go_wp2_with (first | ((with_reducible refine gate_dst (N := 9) rfl ?_); (try (refine gate_guard (by rfl) ?_; dsimp only)); refine box_event ?hg (N := 9) ?hd (cs := #[.int .i64 0, .int .i64 0, .slice none 0 0, .slice none 0 0]) (t := 46) ?hr ?_; (case hd => rfl); (case hg => rfl); (case hr => first | (go_simp; done) | (go_simp; rfl)); intro gb hg w25 hbox hb; have n0_ := Aside0.mk (below_step (by repeat (first | (with_reducible first | exact HB.out | apply below_alloc | apply pw_below_drewN | apply below_drew1) | exact HB.out)) hb); have n1_ := Aside0.mk (hbox); have n2_ := Aside0.mk ((by rw [hg]; exact (below_size (by repeat (first | (with_reducible first | exact HB.out | apply below_alloc | apply pw_below_drewN | apply below_drew1) | exact HB.out))) : w.heap.size ≤ gb)); clear HB; have HB := n0_; have BK := n1_; have GE := n2_; clear n0_ n1_ n2_; clear hb hbox hg; have hcz0 : w25.cell? ⟨gb, 0, none⟩ = some (.int .i64 0) := (blk_cell BK.out 0).trans rfl; have hcz1 : w25.cell? ⟨gb, 1, none⟩ = some (.int .i64 0) := (blk_cell BK.out 1).trans rfl; have hcz2 : w25.cell? ⟨gb, 2, none⟩ = some (.slice none 0 0) := (blk_cell BK.out 2).trans rfl; have hcz3 : w25.cell? ⟨gb, 3, none⟩ = some (.slice none 0 0) := (blk_cell BK.out 3).trans rfl; have hfz0 := blk_frozen BK.out 0; have hfz1 := blk_frozen BK.out 1; have hfz2 := blk_frozen BK.out 2; have hfz3 := blk_frozen BK.out 3) | (go_at_call 25; (with_reducible refine (slices_Contains_int_int.calls _ _ _ x.f2 a1 true _ ?side1 ?side2 HCt.out).mono ?_); (case side1 => exact Kd.C_below HR2.out (by repeat (first | (with_reducible first | exact HB.out | apply below_alloc | apply pw_below_drewN | apply below_drew1 | refine below_set ?_ GE.out) | exact HB.out))); (case side2 => exact HC2.out); rintro e w' ⟨rfl, ⟨nd, rfl⟩⟩))
                  go_ret
                  exact ⟨rfl, by repeat (first | (with_reducible first | exact HB.out | apply below_alloc | apply pw_below_drewN | apply below_drew1 | refine below_set ?_ GE.out) | exact HB.out)⟩
                · have d2b : decide (x.f0 ≥ (i : Int)) = false := decide_eq_false d2
                  have H3 := Aside0.mk (show x.f0.toNat < gk ∧ onPath l0 a1 false gk x.f0.toNat = r from ⟨by have := H1.out; omega, by rw [← H2]; simp [d1, d2]⟩)
                  have H4 := Aside0.mk (show x.f0.toNat < l0.length by omega)
                  have H5 := Aside0.mk (show x.f0 = (x.f0.toNat : Int) by omega)
                  clear H2 d1 d2
                  go_wp2_with (first | ((with_reducible refine gate_dst (N := 9) rfl ?_); (try (refine gate_guard (by rfl) ?_; dsimp only)); refine box_event ?hg (N := 9) ?hd (cs := #[.int .i64 0, .int .i64 0, .slice none 0 0, .slice none 0 0]) (t := 46) ?hr ?_; (case hd => rfl); (case hg => rfl); (case hr => first | (go_simp; done) | (go_simp; rfl)); intro gb hg w25 hbox hb; have n0_ := Aside0.mk (below_step (by repeat (first | (with_reducible first | exact HB.out | apply below_alloc | apply pw_below_drewN | apply below_drew1) | exact HB.out)) hb); have n1_ := Aside0.mk (hbox); have n2_ := Aside0.mk ((by rw [hg]; exact (below_size (by repeat (first | (with_reducible first | exact HB.out | apply below_alloc | apply pw_below_drewN | apply below_drew1) | exact HB.out))) : w.heap.size ≤ gb)); clear HB; have HB := n0_; have BK := n1_; have GE := n2_; clear n0_ n1_ n2_; clear hb hbox hg; have hcz0 : w25.cell? ⟨gb, 0, none⟩ = some (.int .i64 0) := (blk_cell BK.out 0).trans rfl; have hcz1 : w25.cell? ⟨gb, 1, none⟩ = some (.int .i64 0) := (blk_cell BK.out 1).trans rfl; have hcz2 : w25.cell? ⟨gb, 2, none⟩ = some (.slice none 0 0) := (blk_cell BK.out 2).trans rfl; have hcz3 : w25.cell? ⟨gb, 3, none⟩ = some (.slice none 0 0) := (blk_cell BK.out 3).trans rfl; have hfz0 := blk_frozen BK.out 0; have hfz1 := blk_frozen BK.out 1; have hfz2 := blk_frozen BK.out 2; have hfz3 := blk_frozen BK.out 3) | (go_at_call 25; (with_reducible refine (slices_Contains_int_int.calls _ _ _ x.f2 a1 true _ ?side1 ?side2 HCt.out).mono ?_); (case side1 => exact Kd.C_below HR2.out (by repeat (first | (with_reducible first | exact HB.out | apply below_alloc | apply pw_below_drewN | apply below_drew1 | refine below_set ?_ GE.out) | exact HB.out))); (case side2 => exact HC2.out); rintro e w' ⟨rfl, ⟨nd, rfl⟩⟩))
                  go_roundg gk
                  case measure => omega
                  case rel => exact ⟨x.f0.toNat, by rw [← H5.out], H4, H3, ⟨by repeat (first | (with_reducible first | exact HB.out | apply below_alloc | apply pw_below_drewN | apply below_drew1 | refine below_set ?_ GE.out) | exact HB.out)⟩⟩
          | true =>
            rw [if_pos rfl] at H2
            obtain ⟨b, hb⟩ : ∃ b : Bool, b = x.f3.contains a1 := ⟨_, rfl⟩
            have HCt := Aside0.mk ((contains_tells x.f3 a1 N3.out).trans (congrArg some hb.symm))
            rw [← hb] at H2
            clear hb
            cases b with
            | false =>
              obtain rfl : false = r := by rw [← H2]; simp
              clear H2
              go_wp2_with (first | ((with_reducible refine gate_dst (N := 9) rfl ?_); (try (refine gate_guard (by rfl) ?_; dsimp only)); refine box_event ?hg (N := 9) ?hd (cs := #[.int .i64 0, .int .i64 0, .slice none 0 0, .slice none 0 0]) (t := 46) ?hr ?_; (case hd => rfl); (case hg => rfl); (case hr => first | (go_simp; done) | (go_simp; rfl)); intro gb hg w25 hbox hb; have n0_ := Aside0.mk (below_step (by repeat (first | (with_reducible first | exact HB.out | apply below_alloc | apply pw_below_drewN | apply below_drew1) | exact HB.out)) hb); have n1_ := Aside0.mk (hbox); have n2_ := Aside0.mk ((by rw [hg]; exact (below_size (by repeat (first | (with_reducible first | exact HB.out | apply below_alloc | apply pw_below_drewN | apply below_drew1) | exact HB.out))) : w.heap.size ≤ gb)); clear HB; have HB := n0_; have BK := n1_; have GE := n2_; clear n0_ n1_ n2_; clear hb hbox hg; have hcz0 : w25.cell? ⟨gb, 0, none⟩ = some (.int .i64 0) := (blk_cell BK.out 0).trans rfl; have hcz1 : w25.cell? ⟨gb, 1, none⟩ = some (.int .i64 0) := (blk_cell BK.out 1).trans rfl; have hcz2 : w25.cell? ⟨gb, 2, none⟩ = some (.slice none 0 0) := (blk_cell BK.out 2).trans rfl; have hcz3 : w25.cell? ⟨gb, 3, none⟩ = some (.slice none 0 0) := (blk_cell BK.out 3).trans rfl; have hfz0 := blk_frozen BK.out 0; have hfz1 := blk_frozen BK.out 1; have hfz2 := blk_frozen BK.out 2; have hfz3 := blk_frozen BK.out 3) | (go_at_call 25; (with_reducible refine (slices_Contains_int_int.calls _ _ _ x.f3 a1 false _ ?side1 ?side2 HCt.out).mono ?_); (case side1 => exact Kd.C_below HR3.out (by repeat (first | (with_reducible first | exact HB.out | apply below_alloc | apply pw_below_drewN | apply below_drew1 | refine below_set ?_ GE.out) | exact HB.out))); (case side2 => exact HC3.out); rintro e w' ⟨rfl, ⟨nd, rfl⟩⟩))
              go_ret
              exact ⟨rfl, by repeat (first | (with_reducible first | exact HB.out | apply below_alloc | apply pw_below_drewN | apply below_drew1 | refine below_set ?_ GE.out) | exact HB.out)⟩
            | true =>
              rw [Bool.true_and] at H2
              by_cases d1 : x.f0 < 0
              · have d1b : decide (x.f0 < 0) = true := decide_eq_true d1
                obtain rfl : true = r := by rw [← H2]; simp [d1]
                clear H2 d1
                go_wp2_with (first | ((with_reducible refine gate_dst (N := 9) rfl ?_); (try (refine gate_guard (by rfl) ?_; dsimp only)); refine box_event ?hg (N := 9) ?hd (cs := #[.int .i64 0, .int .i64 0, .slice none 0 0, .slice none 0 0]) (t := 46) ?hr ?_; (case hd => rfl); (case hg => rfl); (case hr => first | (go_simp; done) | (go_simp; rfl)); intro gb hg w25 hbox hb; have n0_ := Aside0.mk (below_step (by repeat (first | (with_reducible first | exact HB.out | apply below_alloc | apply pw_below_drewN | apply below_drew1) | exact HB.out)) hb); have n1_ := Aside0.mk (hbox); have n2_ := Aside0.mk ((by rw [hg]; exact (below_size (by repeat (first | (with_reducible first | exact HB.out | apply below_alloc | apply pw_below_drewN | apply below_drew1) | exact HB.out))) : w.heap.size ≤ gb)); clear HB; have HB := n0_; have BK := n1_; have GE := n2_; clear n0_ n1_ n2_; clear hb hbox hg; have hcz0 : w25.cell? ⟨gb, 0, none⟩ = some (.int .i64 0) := (blk_cell BK.out 0).trans rfl; have hcz1 : w25.cell? ⟨gb, 1, none⟩ = some (.int .i64 0) := (blk_cell BK.out 1).trans rfl; have hcz2 : w25.cell? ⟨gb, 2, none⟩ = some (.slice none 0 0) := (blk_cell BK.out 2).trans rfl; have hcz3 : w25.cell? ⟨gb, 3, none⟩ = some (.slice none 0 0) := (blk_cell BK.out 3).trans rfl; have hfz0 := blk_frozen BK.out 0; have hfz1 := blk_frozen BK.out 1; have hfz2 := blk_frozen BK.out 2; have hfz3 := blk_frozen BK.out 3) | (go_at_call 25; (with_reducible refine (slices_Contains_int_int.calls _ _ _ x.f3 a1 true _ ?side1 ?side2 HCt.out).mono ?_); (case side1 => exact Kd.C_below HR3.out (by repeat (first | (with_reducible first | exact HB.out | apply below_alloc | apply pw_below_drewN | apply below_drew1 | refine below_set ?_ GE.out) | exact HB.out))); (case side2 => exact HC3.out); rintro e w' ⟨rfl, ⟨nd, rfl⟩⟩))
                go_ret
                exact ⟨rfl, by repeat (first | (with_reducible first | exact HB.out | apply below_alloc | apply pw_below_drewN | apply below_drew1 | refine below_set ?_ GE.out) | exact HB.out)⟩
              · have d1b : decide (x.f0 < 0) = false := decide_eq_false d1
                by_cases d2 : x.f0 ≥ (i : Int)
                · have d2b : decide (x.f0 ≥ (i : Int)) = true := decide_eq_true d2
                  obtain rfl : true = r := by rw [← H2]; simp [d2]
                  clear H2 d1 d2
                  go_wp2_with (first | ((with_reducible refine gate_dst (N := 9) rfl ?_); (try (refine gate_guard (by rfl) ?_; dsimp only)); refine box_event ?hg (N := 9) ?hd (cs := #[.int .i64 0, .int .i64 0, .slice none 0 0, .slice none 0 0]) (t := 46) ?hr ?_; (case hd => rfl); (case hg => rfl); (case hr => first | (go_simp; done) | (go_simp; rfl)); intro gb hg w25 hbox hb; have n0_ := Aside0.mk (below_step (by repeat (first | (with_reducible first | exact HB.out | apply below_alloc | apply pw_below_drewN | apply below_drew1) | exact HB.out)) hb); have n1_ := Aside0.mk (hbox); have n2_ := Aside0.mk ((by rw [hg]; exact (below_size (by repeat (first | (with_reducible first | exact HB.out | apply below_alloc | apply pw_below_drewN | apply below_drew1) | exact HB.out))) : w.heap.size ≤ gb)); clear HB; have HB := n0_; have BK := n1_; have GE := n2_; clear n0_ n1_ n2_; clear hb hbox hg; have hcz0 : w25.cell? ⟨gb, 0, none⟩ = some (.int .i64 0) := (blk_cell BK.out 0).trans rfl; have hcz1 : w25.cell? ⟨gb, 1, none⟩ = some (.int .i64 0) := (blk_cell BK.out 1).trans rfl; have hcz2 : w25.cell? ⟨gb, 2, none⟩ = some (.slice none 0 0) := (blk_cell BK.out 2).trans rfl; have hcz3 : w25.cell? ⟨gb, 3, none⟩ = some (.slice none 0 0) := (blk_cell BK.out 3).trans rfl; have hfz0 := blk_frozen BK.out 0; have hfz1 := blk_frozen BK.out 1; have hfz2 := blk_frozen BK.out 2; have hfz3 := blk_frozen BK.out 3) | (go_at_call 25; (with_reducible refine (slices_Contains_int_int.calls _ _ _ x.f3 a1 true _ ?side1 ?side2 HCt.out).mono ?_); (case side1 => exact Kd.C_below HR3.out (by repeat (first | (with_reducible first | exact HB.out | apply below_alloc | apply pw_below_drewN | apply below_drew1 | refine below_set ?_ GE.out) | exact HB.out))); (case side2 => exact HC3.out); rintro e w' ⟨rfl, ⟨nd, rfl⟩⟩))
                  go_ret
                  exact ⟨rfl, by repeat (first | (with_reducible first | exact HB.out | apply below_alloc | apply pw_below_drewN | apply below_drew1 | refine below_set ?_ GE.out) | exact HB.out)⟩
                · have d2b : decide (x.f0 ≥ (i : Int)) = false := decide_eq_false d2
                  have H3 := Aside0.mk (show x.f0.toNat < gk ∧ onPath l0 a1 true gk x.f0.toNat = r from ⟨by have := H1.out; omega, by rw [← H2]; simp [d1, d2]⟩)
                  have H4 := Aside0.mk (show x.f0.toNat < l0.length by omega)
                  have H5 := Aside0.mk (show x.f0 = (x.f0.toNat : Int) by omega)
                  clear H2 d1 d2
                  go_wp2_with (first | ((with_reducible refine gate_dst (N := 9) rfl ?_); (try (refine gate_guard (by rfl) ?_; dsimp only)); refine box_event ?hg (N := 9) ?hd (cs := #[.int .i64 0, .int .i64 0, .slice none 0 0, .slice none 0 0]) (t := 46) ?hr ?_; (case hd => rfl); (case hg => rfl); (case hr => first | (go_simp; done) | (go_simp; rfl)); intro gb hg w25 hbox hb; have n0_ := Aside0.mk (below_step (by repeat (first | (with_reducible first | exact HB.out | apply below_alloc | apply pw_below_drewN | apply below_drew1) | exact HB.out)) hb); have n1_ := Aside0.mk (hbox); have n2_ := Aside0.mk ((by rw [hg]; exact (below_size (by repeat (first | (with_reducible first | exact HB.out | apply below_alloc | apply pw_below_drewN | apply below_drew1) | exact HB.out))) : w.heap.size ≤ gb)); clear HB; have HB := n0_; have BK := n1_; have GE := n2_; clear n0_ n1_ n2_; clear hb hbox hg; have hcz0 : w25.cell? ⟨gb, 0, none⟩ = some (.int .i64 0) := (blk_cell BK.out 0).trans rfl; have hcz1 : w25.cell? ⟨gb, 1, none⟩ = some (.int .i64 0) := (blk_cell BK.out 1).trans rfl; have hcz2 : w25.cell? ⟨gb, 2, none⟩ = some (.slice none 0 0) := (blk_cell BK.out 2).trans rfl; have hcz3 : w25.cell? ⟨gb, 3, none⟩ = some (.slice none 0 0) := (blk_cell BK.out 3).trans rfl; have hfz0 := blk_frozen BK.out 0; have hfz1 := blk_frozen BK.out 1; have hfz2 := blk_frozen BK.out 2; have hfz3 := blk_frozen BK.out 3) | (go_at_call 25; (with_reducible refine (slices_Contains_int_int.calls _ _ _ x.f3 a1 true _ ?side1 ?side2 HCt.out).mono ?_); (case side1 => exact Kd.C_below HR3.out (by repeat (first | (with_reducible first | exact HB.out | apply below_alloc | apply pw_below_drewN | apply below_drew1 | refine below_set ?_ GE.out) | exact HB.out))); (case side2 => exact HC3.out); rintro e w' ⟨rfl, ⟨nd, rfl⟩⟩))
                  go_roundg gk
                  case measure => omega
                  case rel => exact ⟨x.f0.toNat, by rw [← H5.out], H4, H3, ⟨by repeat (first | (with_reducible first | exact HB.out | apply below_alloc | apply pw_below_drewN | apply below_drew1 | refine below_set ?_ GE.out) | exact HB.out)⟩⟩
    · have c2b0 : decide ((l0.length : Int) ≤ a2) = true := decide_eq_true (by omega)
      have c1b0 : decide (a2 < 0) = false := decide_eq_false (by omega)
      obtain rfl : false = r := by rw [← H]; simp [c2]
      clear H c1 c2
      go_enter Try.func23, Try.ntmps23
      go_wp2
      go_ret
      exact ⟨rfl, HB.out⟩
  · have c1b0 : decide (a2 < 0) = true := decide_eq_true (by omega)
    obtain rfl : false = r := by rw [← H]; simp [c1]
    clear H c1
    go_enter Try.func23, Try.ntmps23
    go_wp2
    go_ret
    exact ⟨rfl, HB.out⟩
def audit_Sees.f (l0 : List (S46)) (a1 : Int) (a2_0 : Int) (a2_1 : Int) (a2_2 : Int) (l2_3 : List Int) (l2_4 : List Int) : Option (Bool) := some (decide (a2_0 = a1) || !(l2_4.any (fun n => !may l0 a1 n false)))
/-- What the closure of audit.Sees answers, in every world behind one in which what it reads lies. -/
theorem sees_pred (A0 : Option Addr) (c0 : Nat) (l0 : List (S46)) (a1 : Int) (B0 B1 : Nat) (w W : World) (x : Int) (hr0 : Kd.C k46 w A0 l0.length l0) (hc0 : l0.length ≤ c0)
    (h0 : w.cell? ⟨B0, 0, none⟩ = some (.slice A0 l0.length c0)) (h1 : w.cell? ⟨B1, 0, none⟩ = some (.int .i64 a1)) (hb : Below w.heap.size w W) (r : Bool) (hr : (!may l0 a1 x false) = r) :
    Calls Try.prog 22 #[.int .i64 x, .pointer (some ⟨B0, 0, none⟩), .pointer (some ⟨B1, 0, none⟩)] W fun e w' => e = .returned (.bool r) ∧ Below w.heap.size w w' := by
  have e0 : W.cell? ⟨B0, 0, none⟩ = some (.slice A0 l0.length c0) := (hb.cell (World.block_lt_of_cell? w _ h0)).trans h0
  have e1 : W.cell? ⟨B1, 0, none⟩ = some (.int .i64 a1) := (hb.cell (World.block_lt_of_cell? w _ h1)).trans h1
  have HR := Aside0.mk (Kd.C_below hr0 hb)
  have HB := Aside0.mk hb
  have HC := Aside0.mk hc0
  clear hb hr0 hc0 h0 h1
  obtain ⟨b, hm⟩ : ∃ b : Bool, b = may l0 a1 x false := ⟨_, rfl⟩
  rw [← hm] at hr
  have HM := Aside0.mk (show rights_May.f l0 a1 x false = some b from congrArg some hm.symm)
  clear hm
  subst hr
  go_enter Try.func22, Try.ntmps22
  go_wp2_with (go_at_call 23; (with_reducible refine (rights_May.calls _ _ l0 a1 x false b _ ?side1 ?side2 HM.out).mono ?_); (case side1 => exact HR.out); (case side2 => exact HC.out); rintro e w' ⟨rfl, hb'⟩)
  go_ret
  exact ⟨rfl, HB.out.trans (hb'.mono HB.out.size)⟩
set_option maxHeartbeats 2000000 in
theorem indexFunc_calls (g : Nat) (eg : ∀ args w, (callFunc g args).run Try.prog w = .ok (.enter g args) w) (A : Option Addr) (c : Nat) (zs : List Int) (p : Int → Bool) (lb : Array Value) (w : World) (hr : Kd.C (Kd.int .i64) w A zs.length zs)
    (hp : ∀ (W : World) (x : Int) (r : Bool), Below w.heap.size w W → p x = r → Calls Try.prog g (#[.int .i64 x] ++ lb) W fun e w' => e = .returned (.bool r) ∧ Below w.heap.size w w') :
    Calls Try.prog 24 #[.slice A zs.length c, .func (.func g) #[] lb] w fun e w' => (∃ r : Int, e = .returned (.int .i64 r) ∧ decide (r ≥ 0) = zs.any p) ∧ Below w.heap.size w w' := by
  have hbig : zs.length ≤ 9223372036854775807 := hr.2.1
  have HR := Aside0.mk hr
  clear hr
  go_enter Try.func24, Try.ntmps24
  go_wp2
  go_loopg [5, 8] zs.length (fun gg _ s8 wr => ∃ kk : Nat, kk ≤ zs.length ∧ zs.length - kk ≤ gg ∧ s8 = .int .i64 kk ∧ Aside (Below w.heap.size w wr) ∧ Aside (∀ j, j < kk → p (rd zs j) = false))
  case atStart => exact ⟨0, Nat.zero_le _, by omega, rfl, Below.refl _ w, fun j hj => absurd hj (Nat.not_lt_zero _)⟩
  case round =>
    obtain ⟨kk, hkk, hg, rfl, BW, AL⟩ := hrel
    by_cases hlt : kk < zs.length
    · have hltz : (kk : Int) < (zs.length : Int) := by omega
      obtain ⟨ad, rfl, l2⟩ := Kd.at_int HR.out (kk : Int) (by omega) (by omega)
      have l3 := (BW.out.cell (World.block_lt_of_cell? w _ l2)).trans l2
      clear l2
      rw [Int.toNat_natCast] at l3
      obtain ⟨q, hq⟩ : ∃ q : Bool, q = p (rd zs (kk : Int)) := ⟨_, rfl⟩
      have hcall := hp wr (rd zs (kk : Int)) q BW.out hq.symm
      clear hp
      obtain ⟨y, hy⟩ : ∃ y, y = rd zs (kk : Int) := ⟨_, rfl⟩
      rw [← hy] at l3 hcall
      have B := Aside0.mk (show p (rd zs (kk : Int)) = q from hq.symm)
      clear hq hy
      obtain ⟨ab, ao, as_⟩ := ad
      cases q with
      | true =>
        go_wp2
        refine hcall.mono ?_
        rintro e w' ⟨rfl, hb'⟩
        clear hcall l3
        go_wp2
        go_ret
        refine ⟨⟨(kk : Int), rfl, ?_⟩, hb'⟩
        rw [decide_eq_true (show (kk : Int) ≥ 0 by omega)]
        exact (List.any_eq_true.mpr ⟨rd zs (kk : Int), by unfold rd; rw [Int.toNat_natCast, List.getD_eq_getElem?_getD, List.getElem?_eq_getElem hlt, Option.getD_some]; exact List.getElem_mem _, B.out⟩).symm
      | false =>
        go_wp2
        refine hcall.mono ?_
        rintro e w' ⟨rfl, hb'⟩
        clear hcall l3
        go_wp2
        go_roundg (zs.length - (kk + 1))
        case measure => omega
        case rel =>
          refine ⟨kk + 1, by omega, by omega, by go_num, hb', (show Aside _ from fun j hj => ?_)⟩
          by_cases e : j = kk
          · subst e
            exact B.out
          · exact AL.out j (by omega)
    · have hltz : decide ((kk : Int) < (zs.length : Int)) = false := decide_eq_false (by omega)
      have : kk = zs.length := by omega
      subst this
      go_wp2
      go_ret
      refine ⟨⟨-1, rfl, ?_⟩, BW.out⟩
      rw [decide_eq_false (show ¬ (-1 : Int) ≥ 0 by omega)]
      refine (List.any_eq_false.mpr fun x hx => ?_).symm
      obtain ⟨j, hj, rfl⟩ := List.getElem_of_mem hx
      have := AL.out j hj
      unfold rd at this
      rw [Int.toNat_natCast, List.getD_eq_getElem?_getD, List.getElem?_eq_getElem hj, Option.getD_some] at this
      rw [this]; decide
set_option maxHeartbeats 2000000 in
theorem containsFunc_calls (g : Nat) (eg : ∀ args w, (callFunc g args).run Try.prog w = .ok (.enter g args) w) (A : Option Addr) (c : Nat) (zs : List Int) (p : Int → Bool) (lb : Array Value) (w : World) (hr : Kd.C (Kd.int .i64) w A zs.length zs)
    (hp : ∀ (W : World) (x : Int) (r : Bool), Below w.heap.size w W → p x = r → Calls Try.prog g (#[.int .i64 x] ++ lb) W fun e w' => e = .returned (.bool r) ∧ Below w.heap.size w w') :
    Calls Try.prog 21 #[.slice A zs.length c, .func (.func g) #[] lb] w fun e w' => e = .returned (.bool (zs.any p)) ∧ Below w.heap.size w w' := by
  have hC := Aside0.mk (indexFunc_calls g eg A c zs p lb w hr hp)
  clear hr hp
  generalize zs.any p = q at hC
  go_enter Try.func21, Try.ntmps21
  go_wp2_with (go_at_call 24; refine hC.out.mono ?_; rintro e w' ⟨⟨r, rfl, hr⟩, hb'⟩)
  go_ret
  exact ⟨by rw [← hr]; rfl, hb'⟩
theorem audit_Sees.calls (A0 : Option Addr) (c0 : Nat) (l0 : List (S46)) (a1 : Int) (a2_0 : Int) (a2_1 : Int) (a2_2 : Int) (A2_3 : Option Addr) (c2_3 : Nat) (l2_3 : List Int) (A2_4 : Option Addr) (c2_4 : Nat) (l2_4 : List Int) (r : Bool) (w : World) (hr0 : Kd.C k46 w A0 l0.length l0) (hc0 : l0.length ≤ c0) (hr2_3 : Kd.C (Kd.int .i64) w A2_3 l2_3.length l2_3) (hc2_3 : l2_3.length ≤ c2_3) (hr2_4 : Kd.C (Kd.int .i64) w A2_4 l2_4.length l2_4) (hc2_4 : l2_4.length ≤ c2_4) (h : audit_Sees.f l0 a1 a2_0 a2_1 a2_2 l2_3 l2_4 = some r) :
    Calls Try.prog 14 #[.slice A0 l0.length c0, .int .i64 a1, .agg #[.int .i64 a2_0, .int .i64 a2_1, .int .i64 a2_2, .slice A2_3 l2_3.length c2_3, .slice A2_4 l2_4.length c2_4]] w fun e w' => e = .returned (.bool r) ∧ Below w.heap.size w w' := by
  have H : (decide (a2_0 = a1) || !(l2_4.any (fun n => !may l0 a1 n false))) = r := Option.some.inj h
  have HR0 := Aside0.mk hr0
  have HR4 := Aside0.mk hr2_4
  have HC0 := Aside0.mk hc0
  have HB := Aside0.mk (Below.refl w.heap.size w)
  clear h hr0 hr2_3 hr2_4 hc0
  by_cases c1 : a2_0 = a1
  · have c1b : decide (a2_0 = a1) = true := decide_eq_true c1
    obtain rfl : true = r := by rw [← H, c1b]; rfl
    clear H c1b
    subst c1
    go_enter Try.func14, Try.ntmps14
    go_wp2
    go_ret
    exact ⟨rfl, by repeat (first | (with_reducible first | exact HB.out | apply below_alloc) | exact HB.out)⟩
  · have c1b : decide (a2_0 = a1) = false := decide_eq_false c1
    have c1c : (a2_0 == a1) = false := beq_eq_false_iff_ne.mpr c1
    have c1d : (a2_0 != a1) = true := bne_iff_ne.mpr c1
    obtain ⟨b, hb⟩ : ∃ b : Bool, b = l2_4.any (fun n => !may l0 a1 n false) := ⟨_, rfl⟩
    obtain rfl : (!b) = r := by rw [← H, c1b, hb]; rfl
    have Hb := Aside0.mk hb
    clear H hb c1
    have e0 : (((w.alloc (.cells #[.slice A0 l0.length c0] 31)).alloc (.cells #[.int .i64 a1] 3)).alloc (.cells #[.int .i64 a2_0, .int .i64 a2_1, .int .i64 a2_2, .slice A2_3 l2_3.length c2_3, .slice A2_4 l2_4.length c2_4] 25)).cell? ⟨w.heap.size, 0, none⟩ = some (.slice A0 l0.length c0) := by
      rw [World.cell?_alloc_past _ _ _ (by simp; try omega), World.cell?_alloc_past _ _ _ (by simp), World.cell?_alloc_at _ _ _ _ rfl]; rfl
    have e1 : (((w.alloc (.cells #[.slice A0 l0.length c0] 31)).alloc (.cells #[.int .i64 a1] 3)).alloc (.cells #[.int .i64 a2_0, .int .i64 a2_1, .int .i64 a2_2, .slice A2_3 l2_3.length c2_3, .slice A2_4 l2_4.length c2_4] 25)).cell? ⟨w.heap.size + 1, 0, none⟩ = some (.int .i64 a1) := by
      rw [World.cell?_alloc_past _ _ _ (by simp), World.cell?_alloc_at _ _ _ _ (by simp)]; rfl
    have BL : Below w.heap.size w (((w.alloc (.cells #[.slice A0 l0.length c0] 31)).alloc (.cells #[.int .i64 a1] 3)).alloc (.cells #[.int .i64 a2_0, .int .i64 a2_1, .int .i64 a2_2, .slice A2_3 l2_3.length c2_3, .slice A2_4 l2_4.length c2_4] 25)) := by repeat (first | (with_reducible first | exact HB.out | apply below_alloc) | exact HB.out)
    obtain ⟨w3, hw3⟩ : ∃ w3, w3 = (((w.alloc (.cells #[.slice A0 l0.length c0] 31)).alloc (.cells #[.int .i64 a1] 3)).alloc (.cells #[.int .i64 a2_0, .int .i64 a2_1, .int .i64 a2_2, .slice A2_3 l2_3.length c2_3, .slice A2_4 l2_4.length c2_4] 25)) := ⟨_, rfl⟩
    rw [← hw3] at e0 e1 BL
    have hC := containsFunc_calls 22 (enters_of Try.func22 (by kernel_rfl) rfl) A2_4 c2_4 l2_4 (fun n => !may l0 a1 n false) #[.pointer (some ⟨w.heap.size, 0, none⟩), .pointer (some ⟨w.heap.size + 1, 0, none⟩)] w3 (Kd.C_below HR4.out BL)
      (fun W x r hb hr => sees_pred A0 c0 l0 a1 w.heap.size (w.heap.size + 1) w3 W x (Kd.C_below HR0.out BL) HC0.out e0 e1 hb r hr)
    rw [← Hb.out] at hC
    have HCC := Aside0.mk hC
    have HBL := Aside0.mk BL
    clear hC e0 e1 BL
    subst hw3
    go_enter Try.func14, Try.ntmps14
    go_wp2_with (go_at_call 21; refine HCC.out.mono ?_; rintro e w' ⟨rfl, hb'⟩)
    go_ret
    exact ⟨rfl, HBL.out.trans (hb'.mono HBL.out.size)⟩

/-! ### audit_Page: function 12 -/
def audit_Page.l0 : Nat → List (S46) → Int → Int → List (S25) → Int → List (S25) → Int → Int → Option ((List (S25)))
  | 0, _, _, _, _, _, _, _, _ => none
  | k + 1, x0, x1, x4, x11, x12, x17, x18, x19 => if x19 < x18 then (if 0 ≤ x19 then (if x19 < (x17.length : Int) then ((audit_Sees.f x0 x1 ((rd_T25 x17 x19).f0) ((rd_T25 x17 x19).f1) ((rd_T25 x17 x19).f2) ((rd_T25 x17 x19).f3) ((rd_T25 x17 x19).f4)).bind fun t128 => (if t128 = true then (if x12 > 0 then (audit_Page.l0 k x0 x1 x4 x11 (wrap64 (x12 - 1)) x17 x18 (wrap64 (x19 + 1))) else (if (x11.length : Int) < (mn x4 10) then (if x11.length < 1954687338268 then (audit_Page.l0 k x0 x1 x4 (x11 ++ [(⟨(rd_T25 x17 x19).f0, (rd_T25 x17 x19).f1, (rd_T25 x17 x19).f2, (rd_T25 x17 x19).f3, (rd_T25 x17 x19).f4⟩ : S25)]) x12 x17 x18 (wrap64 (x19 + 1))) else (none)) else (audit_Page.l0 k x0 x1 x4 x11 x12 x17 x18 (wrap64 (x19 + 1))))) else (audit_Page.l0 k x0 x1 x4 x11 x12 x17 x18 (wrap64 (x19 + 1))))) else (none)) else (none)) else (some x11)
def audit_Page.f (k : Nat) (l0 : List (S46)) (a1 : Int) (l2 : List (S25)) (a3 : Int) (a4 : Int) : Option ((List (S25))) := audit_Page.l0 k l0 a1 a4 ([] : List (S25)) (mx a3 0) l2 (l2.length : Int) 0
theorem audit_Page.mono_l : ∀ k, (∀ y0 y1 y2 y3 y4 y5 y6 y7, LeO (audit_Page.l0 k y0 y1 y2 y3 y4 y5 y6 y7) (audit_Page.l0 (k + 1) y0 y1 y2 y3 y4 y5 y6 y7))
  | 0 => fun _ _ _ _ _ _ _ _ r h => by simp [audit_Page.l0] at h
  | k + 1 => by
    have ih0 := audit_Page.mono_l k
    · intro y0 y1 y2 y3 y4 y5 y6 y7
      unfold audit_Page.l0
      repeat' first
      | (with_reducible exact ih0 _ _ _ _ _ _ _ _)
      | (with_reducible exact LeO.refl _)
      | (with_reducible exact LeO.none _)
      | (with_reducible refine LeO.ite ?_ ?_)
      | (with_reducible refine LeO.bind ?_ (fun _ => ?_))
      | exact ih0 _ _ _ _ _ _ _ _
      | exact LeO.none _
      | refine LeO.ite ?_ ?_
      | refine LeO.bind ?_ (fun _ => ?_)
theorem audit_Page.mono : ∀ a0 a1 a2 a3 a4 k, LeO (audit_Page.f k a0 a1 a2 a3 a4) (audit_Page.f (k + 1) a0 a1 a2 a3 a4) := by
  intro a0 a1 a2 a3 a4 k
  have ih0 := audit_Page.mono_l k
  unfold audit_Page.f
  repeat' first
      | (with_reducible exact ih0 _ _ _ _ _ _ _ _)
      | (with_reducible exact LeO.refl _)
      | (with_reducible exact LeO.none _)
      | (with_reducible refine LeO.ite ?_ ?_)
      | (with_reducible refine LeO.bind ?_ (fun _ => ?_))
      | exact ih0 _ _ _ _ _ _ _ _
      | exact LeO.none _
      | refine LeO.ite ?_ ?_
      | refine LeO.bind ?_ (fun _ => ?_)
set_option maxHeartbeats 8000000 in
set_option maxRecDepth 100000 in
theorem audit_Page.calls (k : Nat) (A0 : Option Addr) (c0 : Nat) (l0 : List (S46)) (a1 : Int) (P2_ : Nat → Prop) (A2 : Option Addr) (c2 : Nat) (l2 : List (S25)) (a3 : Int) (a4 : Int) (r : List (S25)) (w : World) (hr0 : Kd.C k46 w A0 l0.length l0) (hc0 : l0.length ≤ c0) (hs2 : Kd.V k25 25 w w.heap.size (fun k_ => P2_ k_) (.slice A2 l2.length c2) l2) (h : audit_Page.f k l0 a1 l2 a3 a4 = some r) :
    Calls Try.prog 12 #[.slice A0 l0.length c0, .int .i64 a1, .slice A2 l2.length c2, .int .i64 a3, .int .i64 a4] w fun e w' => ∃ v0_ : Value, e = .returned (v0_) ∧ Kd.N k25 25 w' w.heap.size (fun k_ => (P2_ k_ ∨ w.heap.size ≤ k_)) v0_ r ∧ Below w.heap.size w w' := by
  have hu25 := Try.underlying25
  have HR0 := Aside0.mk hr0
  have HC0 := Aside0.mk hc0
  clear hr0 hc0
  have HO2 := Aside0.mk (show Kd.V k25 25 w w.heap.size (fun k_ => (P2_ k_ ∨ w.heap.size ≤ k_)) (.slice A2 l2.length c2) l2 from Kd.V_mono hs2 (fun k_ hk => .inl hk))
  have HB := Aside0.mk (Below.refl w.heap.size w)
  have H : (audit_Page.l0 k l0 a1 a4 ([] : List (S25)) (mx a3 0) l2 (l2.length : Int) 0) = some r := h
  clear h
  obtain ⟨ji6, hji6⟩ : ∃ j_ : Int, (mx a3 0) = j_ := ⟨_, rfl⟩
  replace H : (audit_Page.l0 k l0 a1 a4 ([] : List (S25)) ji6 l2 (l2.length : Int) 0) = some r := by first | (rw [hji6] at H; exact H) | (simp only [hji6] at H ⊢; exact H)
  (try (have hji6l : 0 ≤ ji6 := by (rw [← hji6]; unfold mx; (repeat' split) <;> omega)))
  (try (have hji6m : 0 ≤ ji6 := by omega))
  have hji6_ : (if a3 < 0 then 0 else a3) = ji6 := hji6
  have H' := Aside0.mk H
  clear H
  go_enter Try.func12, Try.ntmps12
  go_wp2
  go_loopg [11, 12, 19] k (fun kq v11 v12 v19 w' => ∃ (x11_1 : List (S25)) (x12_1 : Int) (x19_1 : Int), v12 = .int .i64 x12_1 ∧ v19 = .int .i64 x19_1 ∧ Aside0 (audit_Page.l0 kq l0 a1 a4 x11_1 x12_1 l2 (l2.length : Int) x19_1 = some r) ∧ Aside0 (kq ≤ k) ∧ Aside0 (Kd.N k25 25 w' w.heap.size (fun k_ => (P2_ k_ ∨ w.heap.size ≤ k_)) v11 x11_1) ∧ Aside0 (Kd.V k25 25 w' w.heap.size (fun k_ => (P2_ k_ ∨ w.heap.size ≤ k_) ∧ some k_ ≠ (v11 : Value).ownBlock) (.slice A2 l2.length c2) l2) ∧ Aside0 (Below w.heap.size w w'))
  case atStart => exact ⟨(([] : List (S25))), (ji6), (0), (by first | rfl | (simp; done) | (simp only [← hji6] <;> (first | rfl | simp)) | (simp [*]; done)), (by first | rfl | (simp; done) | (simp [*]; done)), H', ⟨Nat.le_refl _⟩, ⟨by first | exact Kd.S_nil _ _ _ _ _ | exact Kd.N_nil _ _ _ _ _ | exact Kd.V_nil _ _ _ _ _ | exact Kd.Q_nil _ _ _ _ _ | exact Kd.R_nil _ _ _ _ _⟩, ⟨by (with_reducible repeat (first | apply Kd.V_alloc | apply Kd.V_drewN | apply Kd.V_drew)); exact Kd.V_mono HO2.out (fun _ hk => ⟨hk, (by simp [Value.ownBlock])⟩)⟩, ⟨by repeat (first | (with_reducible first | exact HB.out | apply below_alloc | apply pw_below_drewN | apply below_drew1) | exact HB.out)⟩⟩
  case round =>
    clear H'
    try clear c1
    try clear c2
    try clear p2
    obtain ⟨x11_1, x12_1, x19_1, rfl, rfl, HA, HK1, HO_11, HO_17, HB⟩ := hrel
    cases gk with
    | zero => exact absurd HA.out (by simp [audit_Page.l0])
    | succ k1 =>
      have H := HA.out
      clear HA
      simp only [audit_Page.l0] at H
      by_cases c7 : x19_1 < (l2.length : Int)
      · rw [if_pos c7] at H
        have c7b0 : decide (x19_1 < (l2.length : Int)) = true := decide_eq_true c7
        clear c7
        by_cases c8 : 0 ≤ x19_1
        · rw [if_pos c8] at H
          have c8b0 : decide (0 ≤ x19_1) = true := decide_eq_true c8
          clear c8
          by_cases c9 : x19_1 < (l2.length : Int)
          · rw [if_pos c9] at H
            have c9b0 : decide (x19_1 < (l2.length : Int)) = true := decide_eq_true c9
            clear c9
            replace H := Option.bind_eq_some_iff.mp H
            obtain ⟨t128, A100, H⟩ := H
            replace H : (if t128 = true then (if x12_1 > 0 then (audit_Page.l0 k1 l0 a1 a4 x11_1 (wrap64 (x12_1 - 1)) l2 (l2.length : Int) (wrap64 (x19_1 + 1))) else (if (x11_1.length : Int) < (mn a4 10) then (if x11_1.length < 1954687338268 then (audit_Page.l0 k1 l0 a1 a4 (x11_1 ++ [(⟨(rd_T25 l2 x19_1).f0, (rd_T25 l2 x19_1).f1, (rd_T25 l2 x19_1).f2, (rd_T25 l2 x19_1).f3, (rd_T25 l2 x19_1).f4⟩ : S25)]) x12_1 l2 (l2.length : Int) (wrap64 (x19_1 + 1))) else (none)) else (audit_Page.l0 k1 l0 a1 a4 x11_1 x12_1 l2 (l2.length : Int) (wrap64 (x19_1 + 1))))) else (audit_Page.l0 k1 l0 a1 a4 x11_1 x12_1 l2 (l2.length : Int) (wrap64 (x19_1 + 1)))) = some r := H
            have A10 := Aside0.mk A100
            clear A100
            by_cases c11 : t128 = true
            · subst c11
              have H1 : (if x12_1 > 0 then (audit_Page.l0 k1 l0 a1 a4 x11_1 (wrap64 (x12_1 - 1)) l2 (l2.length : Int) (wrap64 (x19_1 + 1))) else (if (x11_1.length : Int) < (mn a4 10) then (if x11_1.length < 1954687338268 then (audit_Page.l0 k1 l0 a1 a4 (x11_1 ++ [(⟨(rd_T25 l2 x19_1).f0, (rd_T25 l2 x19_1).f1, (rd_T25 l2 x19_1).f2, (rd_T25 l2 x19_1).f3, (rd_T25 l2 x19_1).f4⟩ : S25)]) x12_1 l2 (l2.length : Int) (wrap64 (x19_1 + 1))) else (none)) else (audit_Page.l0 k1 l0 a1 a4 x11_1 x12_1 l2 (l2.length : Int) (wrap64 (x19_1 + 1))))) = some r := by rw [if_pos rfl] at H; exact H
              clear H
              have H := H1
              clear H1
              by_cases c12 : x12_1 > 0
              · rw [if_pos c12] at H
                have c12b0 : decide (0 < x12_1) = true := decide_eq_true c12
                clear c12
                have H' := Aside0.mk H
                clear H
                have p126 : 0 ≤ (x19_1 : Int) := of_decide_eq_true (by first | (with_reducible assumption) | assumption)
                have q126 : x19_1 < (l2.length : Int) := of_decide_eq_true (by first | (with_reducible assumption) | assumption)
                obtain ⟨ad126, A126_3, c126_3, A126_4, c126_4, e126, hx126_0, hx126_1, hx126_2, hx126_3, hx126_4, hl126_3, hi126_3, hl126_4, hi126_4⟩ := at_T25 (Kd.V_reads' HO_17.out).2.2 x19_1 p126 q126
                cases e126
                obtain ⟨ce126, hce126, hMe126, hcc126⟩ := Kd.V_get HO_17.out z25 x19_1 p126 (by first | exact q126 | exact of_decide_eq_true (by first | (with_reducible assumption) | assumption) | (have e_ := (Kd.V_reads' HO_17.out).1; omega))
                obtain ⟨ua126_3, uc126_3, ua126_4, uc126_4, rfl, ul126_3, ge126_3, ul126_4, ge126_4⟩ := k25_openF hMe126
                have hv126_3 := hcc126 3 _ rfl
                rw [add_field _ _ 3 (by omega)] at hv126_3
                replace hv126_3 := Option.some.inj (hv126_3.symm.trans hx126_3)
                injection hv126_3 with hva_ hvn_ hvc_
                rw [hva_] at ge126_3
                rw [hvc_] at ul126_3
                have HL126_3 := Aside0.mk (show Kd.V (Kd.int .i64) 3 _ w.heap.size _ _ ((rd_T25 l2 x19_1).f3) from Kd.V_mk ul126_3 ge126_3)
                clear hva_ hvn_ hvc_ ge126_3 ul126_3
                have hv126_4 := hcc126 4 _ rfl
                rw [add_field _ _ 4 (by omega)] at hv126_4
                replace hv126_4 := Option.some.inj (hv126_4.symm.trans hx126_4)
                injection hv126_4 with hva_ hvn_ hvc_
                rw [hva_] at ge126_4
                rw [hvc_] at ul126_4
                have HL126_4 := Aside0.mk (show Kd.V (Kd.int .i64) 3 _ w.heap.size _ _ ((rd_T25 l2 x19_1).f4) from Kd.V_mk ul126_4 ge126_4)
                clear hva_ hvn_ hvc_ ge126_4 ul126_4
                clear hcc126 hce126
                have HR126_3 := Aside0.mk hi126_3
                have HC126_3 := Aside0.mk hl126_3
                clear hi126_3 hl126_3
                have HR126_4 := Aside0.mk hi126_4
                have HC126_4 := Aside0.mk hl126_4
                clear hi126_4 hl126_4
                replace p126 := eq_true p126
                replace q126 := eq_true q126
                go_wp2_with (first | ((with_reducible refine gate_dst (N := 14) rfl ?_); refine box_event ?hg (N := 14) ?hd (cs := #[.int .i64 0, .int .i64 0, .int .i64 0, .slice none 0 0, .slice none 0 0]) (t := 25) ?hr ?_; (case hd => rfl); (case hg => rfl); (case hr => first | (go_simp; done) | (go_simp; rfl)); intro gb127 hg w13 hbox hb; have n0_ := Aside0.mk (Kd.N_below (Kd.N_elderB (by (with_reducible repeat (first | apply Kd.N_alloc | apply Kd.N_drewN | apply Kd.N_drew)); exact HO_11.out) gb127 (Nat.le_of_eq hg.symm)) hb); have n1_ := Aside0.mk (Kd.V_below (Kd.V_elderB (by (with_reducible repeat (first | apply Kd.V_alloc | apply Kd.V_drewN | apply Kd.V_drew)); exact HO_17.out) gb127 (Nat.le_of_eq hg.symm)) hb); have n2_ := Aside0.mk (Kd.V_below (Kd.V_elderB (by (with_reducible repeat (first | apply Kd.V_alloc | apply Kd.V_drewN | apply Kd.V_drew)); exact HL126_3.out) gb127 (Nat.le_of_eq hg.symm)) hb); have n3_ := Aside0.mk (Kd.V_below (Kd.V_elderB (by (with_reducible repeat (first | apply Kd.V_alloc | apply Kd.V_drewN | apply Kd.V_drew)); exact HL126_4.out) gb127 (Nat.le_of_eq hg.symm)) hb); have n4_ := Aside0.mk (Kd.C_below (by repeat (first | (with_reducible exact HR126_3.out) | (with_reducible refine Kd.C_alloc ?_ _) | (with_reducible refine Kd.C_drewN ?_ _) | (with_reducible refine Kd.C_drew ?_) | exact HR126_3.out)) hb); have n5_ := Aside0.mk (Kd.C_below (by repeat (first | (with_reducible exact HR126_4.out) | (with_reducible refine Kd.C_alloc ?_ _) | (with_reducible refine Kd.C_drewN ?_ _) | (with_reducible refine Kd.C_drew ?_) | exact HR126_4.out)) hb); have n6_ := Aside0.mk (below_step (by repeat (first | (with_reducible first | exact HB.out | apply below_alloc | apply pw_below_drewN | apply below_drew1) | exact HB.out)) hb); have n7_ := Aside0.mk (hbox); have n8_ := Aside0.mk ((by rw [hg]; exact (below_size (by repeat (first | (with_reducible first | exact HB.out | apply below_alloc | apply pw_below_drewN | apply below_drew1) | exact HB.out))) : w.heap.size ≤ gb127)); have n9_ := Aside0.mk ((by rw [hg]; exact (below_size (by repeat (first | (with_reducible first | exact HB.out | apply below_alloc | apply pw_below_drewN | apply below_drew1) | exact HB.out))) : w.heap.size ≤ gb127)); clear HO_11; clear HO_17; clear HL126_3; clear HL126_4; clear HR126_3; clear HR126_4; clear HB; have HO_11 := n0_; have HO_17 := n1_; have HL126_3 := n2_; have HL126_4 := n3_; have HR126_3 := n4_; have HR126_4 := n5_; have HB := n6_; have BK127 := n7_; have GW127 := n8_; have GE127 := n9_; clear n0_ n1_ n2_ n3_ n4_ n5_ n6_ n7_ n8_ n9_; clear hb hbox hg; have hcz14_0 : w13.cell? ⟨gb127, 0, none⟩ = some (.int .i64 0) := (blk_cell BK127.out 0).trans rfl; have hcz14_1 : w13.cell? ⟨gb127, 1, none⟩ = some (.int .i64 0) := (blk_cell BK127.out 1).trans rfl; have hcz14_2 : w13.cell? ⟨gb127, 2, none⟩ = some (.int .i64 0) := (blk_cell BK127.out 2).trans rfl; have hcz14_3 : w13.cell? ⟨gb127, 3, none⟩ = some (.slice none 0 0) := (blk_cell BK127.out 3).trans rfl; have hcz14_4 : w13.cell? ⟨gb127, 4, none⟩ = some (.slice none 0 0) := (blk_cell BK127.out 4).trans rfl; have hfz14_0 := blk_frozen BK127.out 0; have hfz14_1 := blk_frozen BK127.out 1; have hfz14_2 := blk_frozen BK127.out 2; have hfz14_3 := blk_frozen BK127.out 3; have hfz14_4 := blk_frozen BK127.out 4) | ((with_reducible refine gate_callee (f := 14) rfl ?_); refine goesL_ (some 27) rfl rfl Try.func14 (by kernel_rfl) rfl #[.slice A0 l0.length c0, .int .i64 a1, .agg #[.int .i64 ((rd_T25 l2 x19_1).f0), .int .i64 ((rd_T25 l2 x19_1).f1), .int .i64 ((rd_T25 l2 x19_1).f2), .slice A126_3 ((rd_T25 l2 x19_1).f3).length c126_3, .slice A126_4 ((rd_T25 l2 x19_1).f4).length c126_4]] rfl (by (try simp only [List.map_toArray, List.map_cons, List.map_nil]); first | done | rfl | (simp only [List.length_drop, List.length_take]; rfl)) ?_; (with_reducible refine (audit_Sees.calls _ _ l0 a1 ((rd_T25 l2 x19_1).f0) ((rd_T25 l2 x19_1).f1) ((rd_T25 l2 x19_1).f2) _ _ ((rd_T25 l2 x19_1).f3) _ _ ((rd_T25 l2 x19_1).f4) true _ ?side1 ?side2 ?side3 ?side4 ?side5 ?side6 A10.out).mono ?_); (case side1 => exact Kd.C_below HR0.out (by repeat (first | (with_reducible first | exact HB.out | apply below_alloc | apply pw_below_drewN | apply below_drew1 | refine below_set ?_ GE127.out) | exact HB.out))); (case side2 => exact HC0.out); (case side3 => repeat (first | exact ((Kd.V_reads' (by (with_reducible repeat (first | apply Kd.V_alloc | apply Kd.V_drewN | apply Kd.V_drew)); exact (Kd.V_mono (Kd.V_far (p := ⟨gb127, 4, none⟩) (Kd.V_far (p := ⟨gb127, 3, none⟩) (Kd.V_far (p := ⟨gb127, 2, none⟩) (Kd.V_far (p := ⟨gb127, 1, none⟩) (Kd.V_far (p := ⟨gb127, 0, none⟩) (Kd.V_mono HL126_3.out (fun k_ hk => (⟨hk, hk.2⟩ : _ ∧ k_ ≠ gb127))) (fun _ hk => hk.2) (.int .i64 ((rd_T25 l2 x19_1).f0))) (fun _ hk => hk.2) (.int .i64 ((rd_T25 l2 x19_1).f1))) (fun _ hk => hk.2) (.int .i64 ((rd_T25 l2 x19_1).f2))) (fun _ hk => hk.2) (.slice A126_3 ((rd_T25 l2 x19_1).f3).length c126_3)) (fun _ hk => hk.2) (.slice A126_4 ((rd_T25 l2 x19_1).f4).length c126_4)) (fun _ h_ => h_.1)))).2.2) | (with_reducible refine Kd.C_alloc ?_ _) | (with_reducible refine Kd.C_drewN ?_ _) | (with_reducible refine Kd.C_drew ?_))); (case side4 => exact HC126_3.out); (case side5 => repeat (first | exact ((Kd.V_reads' (by (with_reducible repeat (first | apply Kd.V_alloc | apply Kd.V_drewN | apply Kd.V_drew)); exact (Kd.V_mono (Kd.V_far (p := ⟨gb127, 4, none⟩) (Kd.V_far (p := ⟨gb127, 3, none⟩) (Kd.V_far (p := ⟨gb127, 2, none⟩) (Kd.V_far (p := ⟨gb127, 1, none⟩) (Kd.V_far (p := ⟨gb127, 0, none⟩) (Kd.V_mono HL126_4.out (fun k_ hk => (⟨hk, hk.2⟩ : _ ∧ k_ ≠ gb127))) (fun _ hk => hk.2) (.int .i64 ((rd_T25 l2 x19_1).f0))) (fun _ hk => hk.2) (.int .i64 ((rd_T25 l2 x19_1).f1))) (fun _ hk => hk.2) (.int .i64 ((rd_T25 l2 x19_1).f2))) (fun _ hk => hk.2) (.slice A126_3 ((rd_T25 l2 x19_1).f3).length c126_3)) (fun _ hk => hk.2) (.slice A126_4 ((rd_T25 l2 x19_1).f4).length c126_4)) (fun _ h_ => h_.1)))).2.2) | (with_reducible refine Kd.C_alloc ?_ _) | (with_reducible refine Kd.C_drewN ?_ _) | (with_reducible refine Kd.C_drew ?_))); (case side6 => exact HC126_4.out); rintro e w15 ⟨rfl, hb⟩; refine ⟨_, rfl, ?_⟩; have n0_ := Aside0.mk (Kd.N_below (by (with_reducible repeat (first | apply Kd.N_alloc | apply Kd.N_drewN | apply Kd.N_drew)); exact (Kd.N_mono (Kd.N_far (p := ⟨gb127, 4, none⟩) (Kd.N_far (p := ⟨gb127, 3, none⟩) (Kd.N_far (p := ⟨gb127, 2, none⟩) (Kd.N_far (p := ⟨gb127, 1, none⟩) (Kd.N_far (p := ⟨gb127, 0, none⟩) (Kd.N_mono HO_11.out (fun k_ hk => (⟨hk, hk.2⟩ : _ ∧ k_ ≠ gb127))) (fun _ hk => hk.2) (.int .i64 ((rd_T25 l2 x19_1).f0))) (fun _ hk => hk.2) (.int .i64 ((rd_T25 l2 x19_1).f1))) (fun _ hk => hk.2) (.int .i64 ((rd_T25 l2 x19_1).f2))) (fun _ hk => hk.2) (.slice A126_3 ((rd_T25 l2 x19_1).f3).length c126_3)) (fun _ hk => hk.2) (.slice A126_4 ((rd_T25 l2 x19_1).f4).length c126_4)) (fun _ h_ => h_.1))) hb); have n1_ := Aside0.mk (Kd.V_below (by (with_reducible repeat (first | apply Kd.V_alloc | apply Kd.V_drewN | apply Kd.V_drew)); exact (Kd.V_mono (Kd.V_far (p := ⟨gb127, 4, none⟩) (Kd.V_far (p := ⟨gb127, 3, none⟩) (Kd.V_far (p := ⟨gb127, 2, none⟩) (Kd.V_far (p := ⟨gb127, 1, none⟩) (Kd.V_far (p := ⟨gb127, 0, none⟩) (Kd.V_mono HO_17.out (fun k_ hk => (⟨hk, hk.2⟩ : _ ∧ k_ ≠ gb127))) (fun _ hk => hk.2) (.int .i64 ((rd_T25 l2 x19_1).f0))) (fun _ hk => hk.2) (.int .i64 ((rd_T25 l2 x19_1).f1))) (fun _ hk => hk.2) (.int .i64 ((rd_T25 l2 x19_1).f2))) (fun _ hk => hk.2) (.slice A126_3 ((rd_T25 l2 x19_1).f3).length c126_3)) (fun _ hk => hk.2) (.slice A126_4 ((rd_T25 l2 x19_1).f4).length c126_4)) (fun _ h_ => h_.1))) hb); have n2_ := Aside0.mk (Kd.V_below (by (with_reducible repeat (first | apply Kd.V_alloc | apply Kd.V_drewN | apply Kd.V_drew)); exact (Kd.V_mono (Kd.V_far (p := ⟨gb127, 4, none⟩) (Kd.V_far (p := ⟨gb127, 3, none⟩) (Kd.V_far (p := ⟨gb127, 2, none⟩) (Kd.V_far (p := ⟨gb127, 1, none⟩) (Kd.V_far (p := ⟨gb127, 0, none⟩) (Kd.V_mono HL126_3.out (fun k_ hk => (⟨hk, hk.2⟩ : _ ∧ k_ ≠ gb127))) (fun _ hk => hk.2) (.int .i64 ((rd_T25 l2 x19_1).f0))) (fun _ hk => hk.2) (.int .i64 ((rd_T25 l2 x19_1).f1))) (fun _ hk => hk.2) (.int .i64 ((rd_T25 l2 x19_1).f2))) (fun _ hk => hk.2) (.slice A126_3 ((rd_T25 l2 x19_1).f3).length c126_3)) (fun _ hk => hk.2) (.slice A126_4 ((rd_T25 l2 x19_1).f4).length c126_4)) (fun _ h_ => h_.1))) hb); have n3_ := Aside0.mk (Kd.V_below (by (with_reducible repeat (first | apply Kd.V_alloc | apply Kd.V_drewN | apply Kd.V_drew)); exact (Kd.V_mono (Kd.V_far (p := ⟨gb127, 4, none⟩) (Kd.V_far (p := ⟨gb127, 3, none⟩) (Kd.V_far (p := ⟨gb127, 2, none⟩) (Kd.V_far (p := ⟨gb127, 1, none⟩) (Kd.V_far (p := ⟨gb127, 0, none⟩) (Kd.V_mono HL126_4.out (fun k_ hk => (⟨hk, hk.2⟩ : _ ∧ k_ ≠ gb127))) (fun _ hk => hk.2) (.int .i64 ((rd_T25 l2 x19_1).f0))) (fun _ hk => hk.2) (.int .i64 ((rd_T25 l2 x19_1).f1))) (fun _ hk => hk.2) (.int .i64 ((rd_T25 l2 x19_1).f2))) (fun _ hk => hk.2) (.slice A126_3 ((rd_T25 l2 x19_1).f3).length c126_3)) (fun _ hk => hk.2) (.slice A126_4 ((rd_T25 l2 x19_1).f4).length c126_4)) (fun _ h_ => h_.1))) hb); have n4_ := Aside0.mk (Kd.C_below ((Kd.V_reads' (by (with_reducible repeat (first | apply Kd.V_alloc | apply Kd.V_drewN | apply Kd.V_drew)); exact (Kd.V_mono (Kd.V_far (p := ⟨gb127, 4, none⟩) (Kd.V_far (p := ⟨gb127, 3, none⟩) (Kd.V_far (p := ⟨gb127, 2, none⟩) (Kd.V_far (p := ⟨gb127, 1, none⟩) (Kd.V_far (p := ⟨gb127, 0, none⟩) (Kd.V_mono HL126_3.out (fun k_ hk => (⟨hk, hk.2⟩ : _ ∧ k_ ≠ gb127))) (fun _ hk => hk.2) (.int .i64 ((rd_T25 l2 x19_1).f0))) (fun _ hk => hk.2) (.int .i64 ((rd_T25 l2 x19_1).f1))) (fun _ hk => hk.2) (.int .i64 ((rd_T25 l2 x19_1).f2))) (fun _ hk => hk.2) (.slice A126_3 ((rd_T25 l2 x19_1).f3).length c126_3)) (fun _ hk => hk.2) (.slice A126_4 ((rd_T25 l2 x19_1).f4).length c126_4)) (fun _ h_ => h_.1)))).2.2) hb); have n5_ := Aside0.mk (Kd.C_below ((Kd.V_reads' (by (with_reducible repeat (first | apply Kd.V_alloc | apply Kd.V_drewN | apply Kd.V_drew)); exact (Kd.V_mono (Kd.V_far (p := ⟨gb127, 4, none⟩) (Kd.V_far (p := ⟨gb127, 3, none⟩) (Kd.V_far (p := ⟨gb127, 2, none⟩) (Kd.V_far (p := ⟨gb127, 1, none⟩) (Kd.V_far (p := ⟨gb127, 0, none⟩) (Kd.V_mono HL126_4.out (fun k_ hk => (⟨hk, hk.2⟩ : _ ∧ k_ ≠ gb127))) (fun _ hk => hk.2) (.int .i64 ((rd_T25 l2 x19_1).f0))) (fun _ hk => hk.2) (.int .i64 ((rd_T25 l2 x19_1).f1))) (fun _ hk => hk.2) (.int .i64 ((rd_T25 l2 x19_1).f2))) (fun _ hk => hk.2) (.slice A126_3 ((rd_T25 l2 x19_1).f3).length c126_3)) (fun _ hk => hk.2) (.slice A126_4 ((rd_T25 l2 x19_1).f4).length c126_4)) (fun _ h_ => h_.1)))).2.2) hb); have n6_ := Aside0.mk (blk_below (g := gb127) (o := .cells #[.int .i64 ((rd_T25 l2 x19_1).f0), .int .i64 ((rd_T25 l2 x19_1).f1), .int .i64 ((rd_T25 l2 x19_1).f2), .slice A126_3 ((rd_T25 l2 x19_1).f3).length c126_3, .slice A126_4 ((rd_T25 l2 x19_1).f4).length c126_4] 25 (0, 0)) (by (with_reducible repeat (first | refine blk_drewN ?_ _ | refine blk_drew ?_ | refine blk_alloc ?_ _)); refine blk_put (cs := #[.int .i64 ((rd_T25 l2 x19_1).f0), .int .i64 ((rd_T25 l2 x19_1).f1), .int .i64 ((rd_T25 l2 x19_1).f2), .slice A126_3 ((rd_T25 l2 x19_1).f3).length c126_3, .slice none 0 0]) ?_ 4 _ rfl; (with_reducible repeat (first | refine blk_drewN ?_ _ | refine blk_drew ?_ | refine blk_alloc ?_ _)); refine blk_put (cs := #[.int .i64 ((rd_T25 l2 x19_1).f0), .int .i64 ((rd_T25 l2 x19_1).f1), .int .i64 ((rd_T25 l2 x19_1).f2), .slice none 0 0, .slice none 0 0]) ?_ 3 _ rfl; (with_reducible repeat (first | refine blk_drewN ?_ _ | refine blk_drew ?_ | refine blk_alloc ?_ _)); refine blk_put (cs := #[.int .i64 ((rd_T25 l2 x19_1).f0), .int .i64 ((rd_T25 l2 x19_1).f1), .int .i64 0, .slice none 0 0, .slice none 0 0]) ?_ 2 _ rfl; (with_reducible repeat (first | refine blk_drewN ?_ _ | refine blk_drew ?_ | refine blk_alloc ?_ _)); refine blk_put (cs := #[.int .i64 ((rd_T25 l2 x19_1).f0), .int .i64 0, .int .i64 0, .slice none 0 0, .slice none 0 0]) ?_ 1 _ rfl; (with_reducible repeat (first | refine blk_drewN ?_ _ | refine blk_drew ?_ | refine blk_alloc ?_ _)); refine blk_put (cs := #[.int .i64 0, .int .i64 0, .int .i64 0, .slice none 0 0, .slice none 0 0]) ?_ 0 _ rfl; (with_reducible repeat (first | refine blk_drewN ?_ _ | refine blk_drew ?_ | refine blk_alloc ?_ _)); exact BK127.out) hb); have n7_ := Aside0.mk (below_step (by repeat (first | (with_reducible first | exact HB.out | apply below_alloc | apply pw_below_drewN | apply below_drew1 | refine below_set ?_ GE127.out) | exact HB.out)) hb); clear HO_11; clear HO_17; clear HL126_3; clear HL126_4; clear HR126_3; clear HR126_4; clear BK127; clear HB; have HO_11 := n0_; have HO_17 := n1_; have HL126_3 := n2_; have HL126_4 := n3_; have HR126_3 := n4_; have HR126_4 := n5_; have BK127 := n6_; have HB := n7_; clear n0_ n1_ n2_ n3_ n4_ n5_ n6_ n7_; (try clear hb); (try clear hb2); (try clear hk); (try clear hi)))
                go_roundg k1
                case measure => have := HK1.out; omega
                case rel => exact ⟨(x11_1), (wrap64 (x12_1 - 1)), (wrap64 (x19_1 + 1)), (by first | rfl | (simp; done) | (simp [*]; done)), (by first | rfl | (simp; done) | (simp [*]; done)), H', ⟨by have := HK1.out; omega⟩, ⟨by (with_reducible repeat (first | apply Kd.N_alloc | apply Kd.N_drewN | apply Kd.N_drew)); exact Kd.N_mono HO_11.out (fun _ hk => hk.1)⟩, ⟨by (with_reducible repeat (first | apply Kd.V_alloc | apply Kd.V_drewN | apply Kd.V_drew)); exact Kd.V_mono HO_17.out (fun _ hk => ⟨hk.1.1, hk.1.2⟩)⟩, ⟨by repeat (first | (with_reducible first | exact HB.out | apply below_alloc | apply pw_below_drewN | apply below_drew1 | refine below_set ?_ GE127.out) | exact HB.out)⟩⟩
              · rw [if_neg c12] at H
                have c12b0 : decide (0 < x12_1) = false := decide_eq_false c12
                clear c12
                obtain ⟨ji16, hji16⟩ : ∃ j_ : Int, (mn a4 10) = j_ := ⟨_, rfl⟩
                replace H : (if (x11_1.length : Int) < (ji16) then (if x11_1.length < 1954687338268 then (audit_Page.l0 k1 l0 a1 a4 (x11_1 ++ [(⟨(rd_T25 l2 x19_1).f0, (rd_T25 l2 x19_1).f1, (rd_T25 l2 x19_1).f2, (rd_T25 l2 x19_1).f3, (rd_T25 l2 x19_1).f4⟩ : S25)]) x12_1 l2 (l2.length : Int) (wrap64 (x19_1 + 1))) else (none)) else (audit_Page.l0 k1 l0 a1 a4 x11_1 x12_1 l2 (l2.length : Int) (wrap64 (x19_1 + 1)))) = some r := by first | (rw [hji16] at H; exact H) | (simp only [hji16] at H ⊢; exact H)
                (try rw [hji16] at A10)
                have hji16_ : (if 10 < a4 then 10 else a4) = ji16 := hji16
                by_cases c17 : (x11_1.length : Int) < (ji16)
                · rw [if_pos c17] at H
                  have c17b0 : decide ((x11_1.length : Int) < (ji16)) = true := decide_eq_true c17
                  clear c17
                  by_cases c18 : x11_1.length < 1954687338268
                  · rw [if_pos c18] at H
                    have LMc18 := Aside0.mk c18
                    clear c18
                    obtain ⟨y129, hy129⟩ : ∃ y_ : List (S25), y_ = (x11_1 ++ [(⟨(rd_T25 l2 x19_1).f0, (rd_T25 l2 x19_1).f1, (rd_T25 l2 x19_1).f2, (rd_T25 l2 x19_1).f3, (rd_T25 l2 x19_1).f4⟩ : S25)]) := ⟨_, rfl⟩
                    replace H : (audit_Page.l0 k1 l0 a1 a4 y129 x12_1 l2 (l2.length : Int) (wrap64 (x19_1 + 1))) = some r := by first | (rw [hy129]; with_reducible exact H) | (have H2_ := (Option.bind_some _ _).symm.trans H; rw [hy129]; with_reducible exact H2_) | (have H2_ := (Option.bind_some _ _).symm.trans H; with_reducible exact H2_) | with_reducible exact H | (rw [hy129]; exact H) | exact H
                    have Ny129 := Aside0.mk hy129
                    clear hy129
                    have H' := Aside0.mk H
                    clear H
                    have p126 : 0 ≤ (x19_1 : Int) := of_decide_eq_true (by first | (with_reducible assumption) | assumption)
                    have q126 : x19_1 < (l2.length : Int) := of_decide_eq_true (by first | (with_reducible assumption) | assumption)
                    obtain ⟨ad126, A126_3, c126_3, A126_4, c126_4, e126, hx126_0, hx126_1, hx126_2, hx126_3, hx126_4, hl126_3, hi126_3, hl126_4, hi126_4⟩ := at_T25 (Kd.V_reads' HO_17.out).2.2 x19_1 p126 q126
                    cases e126
                    obtain ⟨ce126, hce126, hMe126, hcc126⟩ := Kd.V_get HO_17.out z25 x19_1 p126 (by first | exact q126 | exact of_decide_eq_true (by first | (with_reducible assumption) | assumption) | (have e_ := (Kd.V_reads' HO_17.out).1; omega))
                    obtain ⟨ua126_3, uc126_3, ua126_4, uc126_4, rfl, ul126_3, ge126_3, ul126_4, ge126_4⟩ := k25_openF hMe126
                    have hv126_3 := hcc126 3 _ rfl
                    rw [add_field _ _ 3 (by omega)] at hv126_3
                    replace hv126_3 := Option.some.inj (hv126_3.symm.trans hx126_3)
                    injection hv126_3 with hva_ hvn_ hvc_
                    rw [hva_] at ge126_3
                    rw [hvc_] at ul126_3
                    have HL126_3 := Aside0.mk (show Kd.V (Kd.int .i64) 3 _ w.heap.size _ _ ((rd_T25 l2 x19_1).f3) from Kd.V_mk ul126_3 ge126_3)
                    clear hva_ hvn_ hvc_ ge126_3 ul126_3
                    have hv126_4 := hcc126 4 _ rfl
                    rw [add_field _ _ 4 (by omega)] at hv126_4
                    replace hv126_4 := Option.some.inj (hv126_4.symm.trans hx126_4)
                    injection hv126_4 with hva_ hvn_ hvc_
                    rw [hva_] at ge126_4
                    rw [hvc_] at ul126_4
                    have HL126_4 := Aside0.mk (show Kd.V (Kd.int .i64) 3 _ w.heap.size _ _ ((rd_T25 l2 x19_1).f4) from Kd.V_mk ul126_4 ge126_4)
                    clear hva_ hvn_ hvc_ ge126_4 ul126_4
                    clear hcc126 hce126
                    have HR126_3 := Aside0.mk hi126_3
                    have HC126_3 := Aside0.mk hl126_3
                    clear hi126_3 hl126_3
                    have HR126_4 := Aside0.mk hi126_4
                    have HC126_4 := Aside0.mk hl126_4
                    clear hi126_4 hl126_4
                    replace p126 := eq_true p126
                    replace q126 := eq_true q126
                    go_wp2_with (first | ((with_reducible refine gate_dst (N := 14) rfl ?_); refine box_event ?hg (N := 14) ?hd (cs := #[.int .i64 0, .int .i64 0, .int .i64 0, .slice none 0 0, .slice none 0 0]) (t := 25) ?hr ?_; (case hd => rfl); (case hg => rfl); (case hr => first | (go_simp; done) | (go_simp; rfl)); intro gb127 hg w19 hbox hb; have n0_ := Aside0.mk (Kd.N_below (Kd.N_elderB (by (with_reducible repeat (first | apply Kd.N_alloc | apply Kd.N_drewN | apply Kd.N_drew)); exact HO_11.out) gb127 (Nat.le_of_eq hg.symm)) hb); have n1_ := Aside0.mk (Kd.V_below (Kd.V_elderB (by (with_reducible repeat (first | apply Kd.V_alloc | apply Kd.V_drewN | apply Kd.V_drew)); exact HO_17.out) gb127 (Nat.le_of_eq hg.symm)) hb); have n2_ := Aside0.mk (Kd.V_below (Kd.V_elderB (by (with_reducible repeat (first | apply Kd.V_alloc | apply Kd.V_drewN | apply Kd.V_drew)); exact HL126_3.out) gb127 (Nat.le_of_eq hg.symm)) hb); have n3_ := Aside0.mk (Kd.V_below (Kd.V_elderB (by (with_reducible repeat (first | apply Kd.V_alloc | apply Kd.V_drewN | apply Kd.V_drew)); exact HL126_4.out) gb127 (Nat.le_of_eq hg.symm)) hb); have n4_ := Aside0.mk (Kd.C_below (by repeat (first | (with_reducible exact HR126_3.out) | (with_reducible refine Kd.C_alloc ?_ _) | (with_reducible refine Kd.C_drewN ?_ _) | (with_reducible refine Kd.C_drew ?_) | exact HR126_3.out)) hb); have n5_ := Aside0.mk (Kd.C_below (by repeat (first | (with_reducible exact HR126_4.out) | (with_reducible refine Kd.C_alloc ?_ _) | (with_reducible refine Kd.C_drewN ?_ _) | (with_reducible refine Kd.C_drew ?_) | exact HR126_4.out)) hb); have n6_ := Aside0.mk (below_step (by repeat (first | (with_reducible first | exact HB.out | apply below_alloc | apply pw_below_drewN | apply below_drew1) | exact HB.out)) hb); have n7_ := Aside0.mk (hbox); have n8_ := Aside0.mk ((by rw [hg]; exact (below_size (by repeat (first | (with_reducible first | exact HB.out | apply below_alloc | apply pw_below_drewN | apply below_drew1) | exact HB.out))) : w.heap.size ≤ gb127)); have n9_ := Aside0.mk ((by rw [hg]; exact (below_size (by repeat (first | (with_reducible first | exact HB.out | apply below_alloc | apply pw_below_drewN | apply below_drew1) | exact HB.out))) : w.heap.size ≤ gb127)); clear HO_11; clear HO_17; clear HL126_3; clear HL126_4; clear HR126_3; clear HR126_4; clear HB; have HO_11 := n0_; have HO_17 := n1_; have HL126_3 := n2_; have HL126_4 := n3_; have HR126_3 := n4_; have HR126_4 := n5_; have HB := n6_; have BK127 := n7_; have GW127 := n8_; have GE127 := n9_; clear n0_ n1_ n2_ n3_ n4_ n5_ n6_ n7_ n8_ n9_; clear hb hbox hg; have hcz20_0 : w19.cell? ⟨gb127, 0, none⟩ = some (.int .i64 0) := (blk_cell BK127.out 0).trans rfl; have hcz20_1 : w19.cell? ⟨gb127, 1, none⟩ = some (.int .i64 0) := (blk_cell BK127.out 1).trans rfl; have hcz20_2 : w19.cell? ⟨gb127, 2, none⟩ = some (.int .i64 0) := (blk_cell BK127.out 2).trans rfl; have hcz20_3 : w19.cell? ⟨gb127, 3, none⟩ = some (.slice none 0 0) := (blk_cell BK127.out 3).trans rfl; have hcz20_4 : w19.cell? ⟨gb127, 4, none⟩ = some (.slice none 0 0) := (blk_cell BK127.out 4).trans rfl; have hfz20_0 := blk_frozen BK127.out 0; have hfz20_1 := blk_frozen BK127.out 1; have hfz20_2 := blk_frozen BK127.out 2; have hfz20_3 := blk_frozen BK127.out 3; have hfz20_4 := blk_frozen BK127.out 4) | ((with_reducible refine gate_callee (f := 14) rfl ?_); refine goesL_ (some 27) rfl rfl Try.func14 (by kernel_rfl) rfl #[.slice A0 l0.length c0, .int .i64 a1, .agg #[.int .i64 ((rd_T25 l2 x19_1).f0), .int .i64 ((rd_T25 l2 x19_1).f1), .int .i64 ((rd_T25 l2 x19_1).f2), .slice A126_3 ((rd_T25 l2 x19_1).f3).length c126_3, .slice A126_4 ((rd_T25 l2 x19_1).f4).length c126_4]] rfl (by (try simp only [List.map_toArray, List.map_cons, List.map_nil]); first | done | rfl | (simp only [List.length_drop, List.length_take]; rfl)) ?_; (with_reducible refine (audit_Sees.calls _ _ l0 a1 ((rd_T25 l2 x19_1).f0) ((rd_T25 l2 x19_1).f1) ((rd_T25 l2 x19_1).f2) _ _ ((rd_T25 l2 x19_1).f3) _ _ ((rd_T25 l2 x19_1).f4) true _ ?side1 ?side2 ?side3 ?side4 ?side5 ?side6 A10.out).mono ?_); (case side1 => exact Kd.C_below HR0.out (by repeat (first | (with_reducible first | exact HB.out | apply below_alloc | apply pw_below_drewN | apply below_drew1 | refine below_set ?_ GE127.out) | exact HB.out))); (case side2 => exact HC0.out); (case side3 => repeat (first | exact ((Kd.V_reads' (by (with_reducible repeat (first | apply Kd.V_alloc | apply Kd.V_drewN | apply Kd.V_drew)); exact (Kd.V_mono (Kd.V_far (p := ⟨gb127, 4, none⟩) (Kd.V_far (p := ⟨gb127, 3, none⟩) (Kd.V_far (p := ⟨gb127, 2, none⟩) (Kd.V_far (p := ⟨gb127, 1, none⟩) (Kd.V_far (p := ⟨gb127, 0, none⟩) (Kd.V_mono HL126_3.out (fun k_ hk => (⟨hk, hk.2⟩ : _ ∧ k_ ≠ gb127))) (fun _ hk => hk.2) (.int .i64 ((rd_T25 l2 x19_1).f0))) (fun _ hk => hk.2) (.int .i64 ((rd_T25 l2 x19_1).f1))) (fun _ hk => hk.2) (.int .i64 ((rd_T25 l2 x19_1).f2))) (fun _ hk => hk.2) (.slice A126_3 ((rd_T25 l2 x19_1).f3).length c126_3)) (fun _ hk => hk.2) (.slice A126_4 ((rd_T25 l2 x19_1).f4).length c126_4)) (fun _ h_ => h_.1)))).2.2) | (with_reducible refine Kd.C_alloc ?_ _) | (with_reducible refine Kd.C_drewN ?_ _) | (with_reducible refine Kd.C_drew ?_))); (case side4 => exact HC126_3.out); (case side5 => repeat (first | exact ((Kd.V_reads' (by (with_reducible repeat (first | apply Kd.V_alloc | apply Kd.V_drewN | apply Kd.V_drew)); exact (Kd.V_mono (Kd.V_far (p := ⟨gb127, 4, none⟩) (Kd.V_far (p := ⟨gb127, 3, none⟩) (Kd.V_far (p := ⟨gb127, 2, none⟩) (Kd.V_far (p := ⟨gb127, 1, none⟩) (Kd.V_far (p := ⟨gb127, 0, none⟩) (Kd.V_mono HL126_4.out (fun k_ hk => (⟨hk, hk.2⟩ : _ ∧ k_ ≠ gb127))) (fun _ hk => hk.2) (.int .i64 ((rd_T25 l2 x19_1).f0))) (fun _ hk => hk.2) (.int .i64 ((rd_T25 l2 x19_1).f1))) (fun _ hk => hk.2) (.int .i64 ((rd_T25 l2 x19_1).f2))) (fun _ hk => hk.2) (.slice A126_3 ((rd_T25 l2 x19_1).f3).length c126_3)) (fun _ hk => hk.2) (.slice A126_4 ((rd_T25 l2 x19_1).f4).length c126_4)) (fun _ h_ => h_.1)))).2.2) | (with_reducible refine Kd.C_alloc ?_ _) | (with_reducible refine Kd.C_drewN ?_ _) | (with_reducible refine Kd.C_drew ?_))); (case side6 => exact HC126_4.out); rintro e w21 ⟨rfl, hb⟩; refine ⟨_, rfl, ?_⟩; have n0_ := Aside0.mk (Kd.N_below (by (with_reducible repeat (first | apply Kd.N_alloc | apply Kd.N_drewN | apply Kd.N_drew)); exact (Kd.N_mono (Kd.N_far (p := ⟨gb127, 4, none⟩) (Kd.N_far (p := ⟨gb127, 3, none⟩) (Kd.N_far (p := ⟨gb127, 2, none⟩) (Kd.N_far (p := ⟨gb127, 1, none⟩) (Kd.N_far (p := ⟨gb127, 0, none⟩) (Kd.N_mono HO_11.out (fun k_ hk => (⟨hk, hk.2⟩ : _ ∧ k_ ≠ gb127))) (fun _ hk => hk.2) (.int .i64 ((rd_T25 l2 x19_1).f0))) (fun _ hk => hk.2) (.int .i64 ((rd_T25 l2 x19_1).f1))) (fun _ hk => hk.2) (.int .i64 ((rd_T25 l2 x19_1).f2))) (fun _ hk => hk.2) (.slice A126_3 ((rd_T25 l2 x19_1).f3).length c126_3)) (fun _ hk => hk.2) (.slice A126_4 ((rd_T25 l2 x19_1).f4).length c126_4)) (fun _ h_ => h_.1))) hb); have n1_ := Aside0.mk (Kd.V_below (by (with_reducible repeat (first | apply Kd.V_alloc | apply Kd.V_drewN | apply Kd.V_drew)); exact (Kd.V_mono (Kd.V_far (p := ⟨gb127, 4, none⟩) (Kd.V_far (p := ⟨gb127, 3, none⟩) (Kd.V_far (p := ⟨gb127, 2, none⟩) (Kd.V_far (p := ⟨gb127, 1, none⟩) (Kd.V_far (p := ⟨gb127, 0, none⟩) (Kd.V_mono HO_17.out (fun k_ hk => (⟨hk, hk.2⟩ : _ ∧ k_ ≠ gb127))) (fun _ hk => hk.2) (.int .i64 ((rd_T25 l2 x19_1).f0))) (fun _ hk => hk.2) (.int .i64 ((rd_T25 l2 x19_1).f1))) (fun _ hk => hk.2) (.int .i64 ((rd_T25 l2 x19_1).f2))) (fun _ hk => hk.2) (.slice A126_3 ((rd_T25 l2 x19_1).f3).length c126_3)) (fun _ hk => hk.2) (.slice A126_4 ((rd_T25 l2 x19_1).f4).length c126_4)) (fun _ h_ => h_.1))) hb); have n2_ := Aside0.mk (Kd.V_below (by (with_reducible repeat (first | apply Kd.V_alloc | apply Kd.V_drewN | apply Kd.V_drew)); exact (Kd.V_mono (Kd.V_far (p := ⟨gb127, 4, none⟩) (Kd.V_far (p := ⟨gb127, 3, none⟩) (Kd.V_far (p := ⟨gb127, 2, none⟩) (Kd.V_far (p := ⟨gb127, 1, none⟩) (Kd.V_far (p := ⟨gb127, 0, none⟩) (Kd.V_mono HL126_3.out (fun k_ hk => (⟨hk, hk.2⟩ : _ ∧ k_ ≠ gb127))) (fun _ hk => hk.2) (.int .i64 ((rd_T25 l2 x19_1).f0))) (fun _ hk => hk.2) (.int .i64 ((rd_T25 l2 x19_1).f1))) (fun _ hk => hk.2) (.int .i64 ((rd_T25 l2 x19_1).f2))) (fun _ hk => hk.2) (.slice A126_3 ((rd_T25 l2 x19_1).f3).length c126_3)) (fun _ hk => hk.2) (.slice A126_4 ((rd_T25 l2 x19_1).f4).length c126_4)) (fun _ h_ => h_.1))) hb); have n3_ := Aside0.mk (Kd.V_below (by (with_reducible repeat (first | apply Kd.V_alloc | apply Kd.V_drewN | apply Kd.V_drew)); exact (Kd.V_mono (Kd.V_far (p := ⟨gb127, 4, none⟩) (Kd.V_far (p := ⟨gb127, 3, none⟩) (Kd.V_far (p := ⟨gb127, 2, none⟩) (Kd.V_far (p := ⟨gb127, 1, none⟩) (Kd.V_far (p := ⟨gb127, 0, none⟩) (Kd.V_mono HL126_4.out (fun k_ hk => (⟨hk, hk.2⟩ : _ ∧ k_ ≠ gb127))) (fun _ hk => hk.2) (.int .i64 ((rd_T25 l2 x19_1).f0))) (fun _ hk => hk.2) (.int .i64 ((rd_T25 l2 x19_1).f1))) (fun _ hk => hk.2) (.int .i64 ((rd_T25 l2 x19_1).f2))) (fun _ hk => hk.2) (.slice A126_3 ((rd_T25 l2 x19_1).f3).length c126_3)) (fun _ hk => hk.2) (.slice A126_4 ((rd_T25 l2 x19_1).f4).length c126_4)) (fun _ h_ => h_.1))) hb); have n4_ := Aside0.mk (Kd.C_below ((Kd.V_reads' (by (with_reducible repeat (first | apply Kd.V_alloc | apply Kd.V_drewN | apply Kd.V_drew)); exact (Kd.V_mono (Kd.V_far (p := ⟨gb127, 4, none⟩) (Kd.V_far (p := ⟨gb127, 3, none⟩) (Kd.V_far (p := ⟨gb127, 2, none⟩) (Kd.V_far (p := ⟨gb127, 1, none⟩) (Kd.V_far (p := ⟨gb127, 0, none⟩) (Kd.V_mono HL126_3.out (fun k_ hk => (⟨hk, hk.2⟩ : _ ∧ k_ ≠ gb127))) (fun _ hk => hk.2) (.int .i64 ((rd_T25 l2 x19_1).f0))) (fun _ hk => hk.2) (.int .i64 ((rd_T25 l2 x19_1).f1))) (fun _ hk => hk.2) (.int .i64 ((rd_T25 l2 x19_1).f2))) (fun _ hk => hk.2) (.slice A126_3 ((rd_T25 l2 x19_1).f3).length c126_3)) (fun _ hk => hk.2) (.slice A126_4 ((rd_T25 l2 x19_1).f4).length c126_4)) (fun _ h_ => h_.1)))).2.2) hb); have n5_ := Aside0.mk (Kd.C_below ((Kd.V_reads' (by (with_reducible repeat (first | apply Kd.V_alloc | apply Kd.V_drewN | apply Kd.V_drew)); exact (Kd.V_mono (Kd.V_far (p := ⟨gb127, 4, none⟩) (Kd.V_far (p := ⟨gb127, 3, none⟩) (Kd.V_far (p := ⟨gb127, 2, none⟩) (Kd.V_far (p := ⟨gb127, 1, none⟩) (Kd.V_far (p := ⟨gb127, 0, none⟩) (Kd.V_mono HL126_4.out (fun k_ hk => (⟨hk, hk.2⟩ : _ ∧ k_ ≠ gb127))) (fun _ hk => hk.2) (.int .i64 ((rd_T25 l2 x19_1).f0))) (fun _ hk => hk.2) (.int .i64 ((rd_T25 l2 x19_1).f1))) (fun _ hk => hk.2) (.int .i64 ((rd_T25 l2 x19_1).f2))) (fun _ hk => hk.2) (.slice A126_3 ((rd_T25 l2 x19_1).f3).length c126_3)) (fun _ hk => hk.2) (.slice A126_4 ((rd_T25 l2 x19_1).f4).length c126_4)) (fun _ h_ => h_.1)))).2.2) hb); have n6_ := Aside0.mk (blk_below (g := gb127) (o := .cells #[.int .i64 ((rd_T25 l2 x19_1).f0), .int .i64 ((rd_T25 l2 x19_1).f1), .int .i64 ((rd_T25 l2 x19_1).f2), .slice A126_3 ((rd_T25 l2 x19_1).f3).length c126_3, .slice A126_4 ((rd_T25 l2 x19_1).f4).length c126_4] 25 (0, 0)) (by (with_reducible repeat (first | refine blk_drewN ?_ _ | refine blk_drew ?_ | refine blk_alloc ?_ _)); refine blk_put (cs := #[.int .i64 ((rd_T25 l2 x19_1).f0), .int .i64 ((rd_T25 l2 x19_1).f1), .int .i64 ((rd_T25 l2 x19_1).f2), .slice A126_3 ((rd_T25 l2 x19_1).f3).length c126_3, .slice none 0 0]) ?_ 4 _ rfl; (with_reducible repeat (first | refine blk_drewN ?_ _ | refine blk_drew ?_ | refine blk_alloc ?_ _)); refine blk_put (cs := #[.int .i64 ((rd_T25 l2 x19_1).f0), .int .i64 ((rd_T25 l2 x19_1).f1), .int .i64 ((rd_T25 l2 x19_1).f2), .slice none 0 0, .slice none 0 0]) ?_ 3 _ rfl; (with_reducible repeat (first | refine blk_drewN ?_ _ | refine blk_drew ?_ | refine blk_alloc ?_ _)); refine blk_put (cs := #[.int .i64 ((rd_T25 l2 x19_1).f0), .int .i64 ((rd_T25 l2 x19_1).f1), .int .i64 0, .slice none 0 0, .slice none 0 0]) ?_ 2 _ rfl; (with_reducible repeat (first | refine blk_drewN ?_ _ | refine blk_drew ?_ | refine blk_alloc ?_ _)); refine blk_put (cs := #[.int .i64 ((rd_T25 l2 x19_1).f0), .int .i64 0, .int .i64 0, .slice none 0 0, .slice none 0 0]) ?_ 1 _ rfl; (with_reducible repeat (first | refine blk_drewN ?_ _ | refine blk_drew ?_ | refine blk_alloc ?_ _)); refine blk_put (cs := #[.int .i64 0, .int .i64 0, .int .i64 0, .slice none 0 0, .slice none 0 0]) ?_ 0 _ rfl; (with_reducible repeat (first | refine blk_drewN ?_ _ | refine blk_drew ?_ | refine blk_alloc ?_ _)); exact BK127.out) hb); have n7_ := Aside0.mk (below_step (by repeat (first | (with_reducible first | exact HB.out | apply below_alloc | apply pw_below_drewN | apply below_drew1 | refine below_set ?_ GE127.out) | exact HB.out)) hb); clear HO_11; clear HO_17; clear HL126_3; clear HL126_4; clear HR126_3; clear HR126_4; clear BK127; clear HB; have HO_11 := n0_; have HO_17 := n1_; have HL126_3 := n2_; have HL126_4 := n3_; have HR126_3 := n4_; have HR126_4 := n5_; have BK127 := n6_; have HB := n7_; clear n0_ n1_ n2_ n3_ n4_ n5_ n6_ n7_; (try clear hb); (try clear hb2); (try clear hk); (try clear hi); obtain ⟨Ao22, co22, eo22⟩ := Kd.N_slice HO_11.out; subst eo22; have hcz23_0 : w21.cell? ⟨gb127, 0, none⟩ = some (.int .i64 ((rd_T25 l2 x19_1).f0)) := (blk_cell BK127.out 0).trans rfl; have hcz23_1 : w21.cell? ⟨gb127, 1, none⟩ = some (.int .i64 ((rd_T25 l2 x19_1).f1)) := (blk_cell BK127.out 1).trans rfl; have hcz23_2 : w21.cell? ⟨gb127, 2, none⟩ = some (.int .i64 ((rd_T25 l2 x19_1).f2)) := (blk_cell BK127.out 2).trans rfl; have hcz23_3 : w21.cell? ⟨gb127, 3, none⟩ = some (.slice A126_3 ((rd_T25 l2 x19_1).f3).length c126_3) := (blk_cell BK127.out 3).trans rfl; have hcz23_4 : w21.cell? ⟨gb127, 4, none⟩ = some (.slice A126_4 ((rd_T25 l2 x19_1).f4).length c126_4) := (blk_cell BK127.out 4).trans rfl; have hfz23_0 := blk_frozen BK127.out 0; have hfz23_1 := blk_frozen BK127.out 1; have hfz23_2 := blk_frozen BK127.out 2; have hfz23_3 := blk_frozen BK127.out 3; have hfz23_4 := blk_frozen BK127.out 4) | ((with_reducible refine gate_builtin (b := .append) (xs := #[.tmp 40, .tmp 42]) rfl ?_); at_builtin; refine Kd.N_append k25 (w0 := w) w.heap.size rfl (.tmp 40) (.tmp 42) 22 25 (.agg #[(.int .i64 0), (.int .i64 0), (.int .i64 0), (.slice none 0 0), (.slice none 0 0)]) 72 rfl Try.underlying22 info25 rfl (by decide) (by omega) (.slice Ao22 x11_1.length co22) x11_1 (⟨(rd_T25 l2 x19_1).f0, (rd_T25 l2 x19_1).f1, (rd_T25 l2 x19_1).f2, (rd_T25 l2 x19_1).f3, (rd_T25 l2 x19_1).f4⟩ : S25) [.int .i64 ((rd_T25 l2 x19_1).f0), .int .i64 ((rd_T25 l2 x19_1).f1), .int .i64 ((rd_T25 l2 x19_1).f2), .slice A126_3 ((rd_T25 l2 x19_1).f3).length c126_3, .slice A126_4 ((rd_T25 l2 x19_1).f4).length c126_4] (fun k_ => (P2_ k_ ∨ w.heap.size ≤ k_) ∧ k_ ≠ gb127) (fun k_ => ((fun k_ => (P2_ k_ ∨ w.heap.size ≤ k_) ∧ k_ ≠ gb127)) k_ ∧ some k_ ≠ (.slice Ao22 x11_1.length co22 : Value).ownBlock) rfl rfl ?aP (fun _ hk => hk) ?aF ?aO ?aB ?aS ?aL ?_; (case aP => exact (k25_mkF _ _ (⟨(rd_T25 l2 x19_1).f0, (rd_T25 l2 x19_1).f1, (rd_T25 l2 x19_1).f2, (rd_T25 l2 x19_1).f3, (rd_T25 l2 x19_1).f4⟩ : S25) (Kd.V_reads' (Kd.V_mono (ok' := (fun k_ => ((fun k_ => (P2_ k_ ∨ w.heap.size ≤ k_) ∧ k_ ≠ gb127)) k_ ∧ some k_ ≠ (.slice Ao22 x11_1.length co22 : Value).ownBlock)) (HL126_3.out) (fun k_ hk => ⟨⟨hk.1.1, hk.2⟩, hk.1.2⟩))).2.1 (Kd.V_F (Kd.V_mono (ok' := (fun k_ => ((fun k_ => (P2_ k_ ∨ w.heap.size ≤ k_) ∧ k_ ≠ gb127)) k_ ∧ some k_ ≠ (.slice Ao22 x11_1.length co22 : Value).ownBlock)) (HL126_3.out) (fun k_ hk => ⟨⟨hk.1.1, hk.2⟩, hk.1.2⟩))) (Kd.V_reads' (Kd.V_mono (ok' := (fun k_ => ((fun k_ => (P2_ k_ ∨ w.heap.size ≤ k_) ∧ k_ ≠ gb127)) k_ ∧ some k_ ≠ (.slice Ao22 x11_1.length co22 : Value).ownBlock)) (HL126_4.out) (fun k_ hk => ⟨⟨hk.1.1, hk.2⟩, hk.1.2⟩))).2.1 (Kd.V_F (Kd.V_mono (ok' := (fun k_ => ((fun k_ => (P2_ k_ ∨ w.heap.size ≤ k_) ∧ k_ ≠ gb127)) k_ ∧ some k_ ≠ (.slice Ao22 x11_1.length co22 : Value).ownBlock)) (HL126_4.out) (fun k_ hk => ⟨⟨hk.1.1, hk.2⟩, hk.1.2⟩))))); (case aB => exact (by repeat (first | (with_reducible first | exact HB.out | apply below_alloc | apply pw_below_drewN | apply below_drew1 | refine below_set ?_ GE127.out) | exact HB.out))); (case aF => exact (fun k_ hk => ⟨(.inr (Nat.le_trans (below_size (by repeat (first | (with_reducible first | exact HB.out | apply below_alloc | apply pw_below_drewN | apply below_drew1 | refine below_set ?_ GE127.out) | exact HB.out))) hk)), Kd.freshB (g := gb127) (o := .cells #[.int .i64 ((rd_T25 l2 x19_1).f0), .int .i64 ((rd_T25 l2 x19_1).f1), .int .i64 ((rd_T25 l2 x19_1).f2), .slice A126_3 ((rd_T25 l2 x19_1).f3).length c126_3, .slice A126_4 ((rd_T25 l2 x19_1).f4).length c126_4] 25 (0, 0)) (by (with_reducible repeat (first | refine blk_drewN ?_ _ | refine blk_drew ?_ | refine blk_alloc ?_ _)); exact BK127.out) k_ hk⟩)); (case aO => exact (by (with_reducible repeat (first | apply Kd.N_alloc | apply Kd.N_drewN | apply Kd.N_drew)); exact HO_11.out)); (case aS => exact (below_size (by repeat (first | (with_reducible first | exact HB.out | apply below_alloc | apply pw_below_drewN | apply below_drew1 | refine below_set ?_ GE127.out) | exact HB.out)))); (case aL => have := LMc18.out; omega); intro v130 w24 ho hb hg hat; rw [← Ny129.out] at ho; have n0_ := Aside0.mk (Kd.V_afterv (ok := (fun k_ => (P2_ k_ ∨ w.heap.size ≤ k_) ∧ k_ ≠ gb127)) (by (with_reducible repeat (first | apply Kd.V_alloc | apply Kd.V_drewN | apply Kd.V_drew)); exact Kd.V_mono HO_17.out (fun _ hk => ⟨⟨hk.1.1, hk.2⟩, hk.1.2⟩)) hg hat); have n1_ := Aside0.mk (Kd.V_afterv (ok := (fun k_ => (P2_ k_ ∨ w.heap.size ≤ k_) ∧ k_ ≠ gb127)) (by (with_reducible repeat (first | apply Kd.V_alloc | apply Kd.V_drewN | apply Kd.V_drew)); exact Kd.V_mono HL126_3.out (fun _ hk => ⟨⟨hk.1.1, hk.2⟩, hk.1.2⟩)) hg hat); have n2_ := Aside0.mk (Kd.V_afterv (ok := (fun k_ => (P2_ k_ ∨ w.heap.size ≤ k_) ∧ k_ ≠ gb127)) (by (with_reducible repeat (first | apply Kd.V_alloc | apply Kd.V_drewN | apply Kd.V_drew)); exact Kd.V_mono HL126_4.out (fun _ hk => ⟨⟨hk.1.1, hk.2⟩, hk.1.2⟩)) hg hat); have n3_ := Aside0.mk (blk_grown (g := gb127) (o := .cells #[.int .i64 ((rd_T25 l2 x19_1).f0), .int .i64 ((rd_T25 l2 x19_1).f1), .int .i64 ((rd_T25 l2 x19_1).f2), .slice A126_3 ((rd_T25 l2 x19_1).f3).length c126_3, .slice A126_4 ((rd_T25 l2 x19_1).f4).length c126_4] 25 (0, 0)) (by (with_reducible repeat (first | refine blk_drewN ?_ _ | refine blk_drew ?_ | refine blk_alloc ?_ _)); exact BK127.out) hg (Kd.N_away HO_11.out (fun _ hk => hk.2))); have n4_ := Aside0.mk (hb); have n5_ := Aside0.mk (ho); clear HO_17; clear HL126_3; clear HL126_4; clear BK127; clear HB; clear HO_11; have HO_17 := n0_; have HL126_3 := n1_; have HL126_4 := n2_; have BK127 := n3_; have HB := n4_; have HO131 := n5_; clear n0_ n1_ n2_ n3_ n4_ n5_; clear ho hb hg hat))
                    go_roundg k1
                    case measure => have := HK1.out; omega
                    case rel => exact ⟨(y129), (x12_1), (wrap64 (x19_1 + 1)), (by first | rfl | (simp; done) | (simp [*]; done)), (by first | rfl | (simp; done) | (simp [*]; done)), H', ⟨by have := HK1.out; omega⟩, ⟨by (with_reducible repeat (first | apply Kd.N_alloc | apply Kd.N_drewN | apply Kd.N_drew)); exact Kd.N_mono HO131.out (fun _ hk => hk.1)⟩, ⟨by (with_reducible repeat (first | apply Kd.V_alloc | apply Kd.V_drewN | apply Kd.V_drew)); exact Kd.V_mono HO_17.out (fun _ hk => ⟨hk.1.1, hk.2⟩)⟩, ⟨by repeat (first | (with_reducible first | exact HB.out | apply below_alloc | apply pw_below_drewN | apply below_drew1 | refine below_set ?_ GE127.out) | exact HB.out)⟩⟩
                  · rw [if_neg c18] at H
                    exact absurd H (by simp)
                · rw [if_neg c17] at H
                  have c17b0 : decide ((x11_1.length : Int) < (ji16)) = false := decide_eq_false c17
                  clear c17
                  have H' := Aside0.mk H
                  clear H
                  have p126 : 0 ≤ (x19_1 : Int) := of_decide_eq_true (by first | (with_reducible assumption) | assumption)
                  have q126 : x19_1 < (l2.length : Int) := of_decide_eq_true (by first | (with_reducible assumption) | assumption)
                  obtain ⟨ad126, A126_3, c126_3, A126_4, c126_4, e126, hx126_0, hx126_1, hx126_2, hx126_3, hx126_4, hl126_3, hi126_3, hl126_4, hi126_4⟩ := at_T25 (Kd.V_reads' HO_17.out).2.2 x19_1 p126 q126
                  cases e126
                  obtain ⟨ce126, hce126, hMe126, hcc126⟩ := Kd.V_get HO_17.out z25 x19_1 p126 (by first | exact q126 | exact of_decide_eq_true (by first | (with_reducible assumption) | assumption) | (have e_ := (Kd.V_reads' HO_17.out).1; omega))
                  obtain ⟨ua126_3, uc126_3, ua126_4, uc126_4, rfl, ul126_3, ge126_3, ul126_4, ge126_4⟩ := k25_openF hMe126
                  have hv126_3 := hcc126 3 _ rfl
                  rw [add_field _ _ 3 (by omega)] at hv126_3
                  replace hv126_3 := Option.some.inj (hv126_3.symm.trans hx126_3)
                  injection hv126_3 with hva_ hvn_ hvc_
                  rw [hva_] at ge126_3
                  rw [hvc_] at ul126_3
                  have HL126_3 := Aside0.mk (show Kd.V (Kd.int .i64) 3 _ w.heap.size _ _ ((rd_T25 l2 x19_1).f3) from Kd.V_mk ul126_3 ge126_3)
                  clear hva_ hvn_ hvc_ ge126_3 ul126_3
                  have hv126_4 := hcc126 4 _ rfl
                  rw [add_field _ _ 4 (by omega)] at hv126_4
                  replace hv126_4 := Option.some.inj (hv126_4.symm.trans hx126_4)
                  injection hv126_4 with hva_ hvn_ hvc_
                  rw [hva_] at ge126_4
                  rw [hvc_] at ul126_4
                  have HL126_4 := Aside0.mk (show Kd.V (Kd.int .i64) 3 _ w.heap.size _ _ ((rd_T25 l2 x19_1).f4) from Kd.V_mk ul126_4 ge126_4)
                  clear hva_ hvn_ hvc_ ge126_4 ul126_4
                  clear hcc126 hce126
                  have HR126_3 := Aside0.mk hi126_3
                  have HC126_3 := Aside0.mk hl126_3
                  clear hi126_3 hl126_3
                  have HR126_4 := Aside0.mk hi126_4
                  have HC126_4 := Aside0.mk hl126_4
                  clear hi126_4 hl126_4
                  replace p126 := eq_true p126
                  replace q126 := eq_true q126
                  go_wp2_with (first | ((with_reducible refine gate_dst (N := 14) rfl ?_); refine box_event ?hg (N := 14) ?hd (cs := #[.int .i64 0, .int .i64 0, .int .i64 0, .slice none 0 0, .slice none 0 0]) (t := 25) ?hr ?_; (case hd => rfl); (case hg => rfl); (case hr => first | (go_simp; done) | (go_simp; rfl)); intro gb127 hg w25 hbox hb; have n0_ := Aside0.mk (Kd.N_below (Kd.N_elderB (by (with_reducible repeat (first | apply Kd.N_alloc | apply Kd.N_drewN | apply Kd.N_drew)); exact HO_11.out) gb127 (Nat.le_of_eq hg.symm)) hb); have n1_ := Aside0.mk (Kd.V_below (Kd.V_elderB (by (with_reducible repeat (first | apply Kd.V_alloc | apply Kd.V_drewN | apply Kd.V_drew)); exact HO_17.out) gb127 (Nat.le_of_eq hg.symm)) hb); have n2_ := Aside0.mk (Kd.V_below (Kd.V_elderB (by (with_reducible repeat (first | apply Kd.V_alloc | apply Kd.V_drewN | apply Kd.V_drew)); exact HL126_3.out) gb127 (Nat.le_of_eq hg.symm)) hb); have n3_ := Aside0.mk (Kd.V_below (Kd.V_elderB (by (with_reducible repeat (first | apply Kd.V_alloc | apply Kd.V_drewN | apply Kd.V_drew)); exact HL126_4.out) gb127 (Nat.le_of_eq hg.symm)) hb); have n4_ := Aside0.mk (Kd.C_below (by repeat (first | (with_reducible exact HR126_3.out) | (with_reducible refine Kd.C_alloc ?_ _) | (with_reducible refine Kd.C_drewN ?_ _) | (with_reducible refine Kd.C_drew ?_) | exact HR126_3.out)) hb); have n5_ := Aside0.mk (Kd.C_below (by repeat (first | (with_reducible exact HR126_4.out) | (with_reducible refine Kd.C_alloc ?_ _) | (with_reducible refine Kd.C_drewN ?_ _) | (with_reducible refine Kd.C_drew ?_) | exact HR126_4.out)) hb); have n6_ := Aside0.mk (below_step (by repeat (first | (with_reducible first | exact HB.out | apply below_alloc | apply pw_below_drewN | apply below_drew1) | exact HB.out)) hb); have n7_ := Aside0.mk (hbox); have n8_ := Aside0.mk ((by rw [hg]; exact (below_size (by repeat (first | (with_reducible first | exact HB.out | apply below_alloc | apply pw_below_drewN | apply below_drew1) | exact HB.out))) : w.heap.size ≤ gb127)); have n9_ := Aside0.mk ((by rw [hg]; exact (below_size (by repeat (first | (with_reducible first | exact HB.out | apply below_alloc | apply pw_below_drewN | apply below_drew1) | exact HB.out))) : w.heap.size ≤ gb127)); clear HO_11; clear HO_17; clear HL126_3; clear HL126_4; clear HR126_3; clear HR126_4; clear HB; have HO_11 := n0_; have HO_17 := n1_; have HL126_3 := n2_; have HL126_4 := n3_; have HR126_3 := n4_; have HR126_4 := n5_; have HB := n6_; have BK127 := n7_; have GW127 := n8_; have GE127 := n9_; clear n0_ n1_ n2_ n3_ n4_ n5_ n6_ n7_ n8_ n9_; clear hb hbox hg; have hcz26_0 : w25.cell? ⟨gb127, 0, none⟩ = some (.int .i64 0) := (blk_cell BK127.out 0).trans rfl; have hcz26_1 : w25.cell? ⟨gb127, 1, none⟩ = some (.int .i64 0) := (blk_cell BK127.out 1).trans rfl; have hcz26_2 : w25.cell? ⟨gb127, 2, none⟩ = some (.int .i64 0) := (blk_cell BK127.out 2).trans rfl; have hcz26_3 : w25.cell? ⟨gb127, 3, none⟩ = some (.slice none 0 0) := (blk_cell BK127.out 3).trans rfl; have hcz26_4 : w25.cell? ⟨gb127, 4, none⟩ = some (.slice none 0 0) := (blk_cell BK127.out 4).trans rfl; have hfz26_0 := blk_frozen BK127.out 0; have hfz26_1 := blk_frozen BK127.out 1; have hfz26_2 := blk_frozen BK127.out 2; have hfz26_3 := blk_frozen BK127.out 3; have hfz26_4 := blk_frozen BK127.out 4) | ((with_reducible refine gate_callee (f := 14) rfl ?_); refine goesL_ (some 27) rfl rfl Try.func14 (by kernel_rfl) rfl #[.slice A0 l0.length c0, .int .i64 a1, .agg #[.int .i64 ((rd_T25 l2 x19_1).f0), .int .i64 ((rd_T25 l2 x19_1).f1), .int .i64 ((rd_T25 l2 x19_1).f2), .slice A126_3 ((rd_T25 l2 x19_1).f3).length c126_3, .slice A126_4 ((rd_T25 l2 x19_1).f4).length c126_4]] rfl (by (try simp only [List.map_toArray, List.map_cons, List.map_nil]); first | done | rfl | (simp only [List.length_drop, List.length_take]; rfl)) ?_; (with_reducible refine (audit_Sees.calls _ _ l0 a1 ((rd_T25 l2 x19_1).f0) ((rd_T25 l2 x19_1).f1) ((rd_T25 l2 x19_1).f2) _ _ ((rd_T25 l2 x19_1).f3) _ _ ((rd_T25 l2 x19_1).f4) true _ ?side1 ?side2 ?side3 ?side4 ?side5 ?side6 A10.out).mono ?_); (case side1 => exact Kd.C_below HR0.out (by repeat (first | (with_reducible first | exact HB.out | apply below_alloc | apply pw_below_drewN | apply below_drew1 | refine below_set ?_ GE127.out) | exact HB.out))); (case side2 => exact HC0.out); (case side3 => repeat (first | exact ((Kd.V_reads' (by (with_reducible repeat (first | apply Kd.V_alloc | apply Kd.V_drewN | apply Kd.V_drew)); exact (Kd.V_mono (Kd.V_far (p := ⟨gb127, 4, none⟩) (Kd.V_far (p := ⟨gb127, 3, none⟩) (Kd.V_far (p := ⟨gb127, 2, none⟩) (Kd.V_far (p := ⟨gb127, 1, none⟩) (Kd.V_far (p := ⟨gb127, 0, none⟩) (Kd.V_mono HL126_3.out (fun k_ hk => (⟨hk, hk.2⟩ : _ ∧ k_ ≠ gb127))) (fun _ hk => hk.2) (.int .i64 ((rd_T25 l2 x19_1).f0))) (fun _ hk => hk.2) (.int .i64 ((rd_T25 l2 x19_1).f1))) (fun _ hk => hk.2) (.int .i64 ((rd_T25 l2 x19_1).f2))) (fun _ hk => hk.2) (.slice A126_3 ((rd_T25 l2 x19_1).f3).length c126_3)) (fun _ hk => hk.2) (.slice A126_4 ((rd_T25 l2 x19_1).f4).length c126_4)) (fun _ h_ => h_.1)))).2.2) | (with_reducible refine Kd.C_alloc ?_ _) | (with_reducible refine Kd.C_drewN ?_ _) | (with_reducible refine Kd.C_drew ?_))); (case side4 => exact HC126_3.out); (case side5 => repeat (first | exact ((Kd.V_reads' (by (with_reducible repeat (first | apply Kd.V_alloc | apply Kd.V_drewN | apply Kd.V_drew)); exact (Kd.V_mono (Kd.V_far (p := ⟨gb127, 4, none⟩) (Kd.V_far (p := ⟨gb127, 3, none⟩) (Kd.V_far (p := ⟨gb127, 2, none⟩) (Kd.V_far (p := ⟨gb127, 1, none⟩) (Kd.V_far (p := ⟨gb127, 0, none⟩) (Kd.V_mono HL126_4.out (fun k_ hk => (⟨hk, hk.2⟩ : _ ∧ k_ ≠ gb127))) (fun _ hk => hk.2) (.int .i64 ((rd_T25 l2 x19_1).f0))) (fun _ hk => hk.2) (.int .i64 ((rd_T25 l2 x19_1).f1))) (fun _ hk => hk.2) (.int .i64 ((rd_T25 l2 x19_1).f2))) (fun _ hk => hk.2) (.slice A126_3 ((rd_T25 l2 x19_1).f3).length c126_3)) (fun _ hk => hk.2) (.slice A126_4 ((rd_T25 l2 x19_1).f4).length c126_4)) (fun _ h_ => h_.1)))).2.2) | (with_reducible refine Kd.C_alloc ?_ _) | (with_reducible refine Kd.C_drewN ?_ _) | (with_reducible refine Kd.C_drew ?_))); (case side6 => exact HC126_4.out); rintro e w27 ⟨rfl, hb⟩; refine ⟨_, rfl, ?_⟩; have n0_ := Aside0.mk (Kd.N_below (by (with_reducible repeat (first | apply Kd.N_alloc | apply Kd.N_drewN | apply Kd.N_drew)); exact (Kd.N_mono (Kd.N_far (p := ⟨gb127, 4, none⟩) (Kd.N_far (p := ⟨gb127, 3, none⟩) (Kd.N_far (p := ⟨gb127, 2, none⟩) (Kd.N_far (p := ⟨gb127, 1, none⟩) (Kd.N_far (p := ⟨gb127, 0, none⟩) (Kd.N_mono HO_11.out (fun k_ hk => (⟨hk, hk.2⟩ : _ ∧ k_ ≠ gb127))) (fun _ hk => hk.2) (.int .i64 ((rd_T25 l2 x19_1).f0))) (fun _ hk => hk.2) (.int .i64 ((rd_T25 l2 x19_1).f1))) (fun _ hk => hk.2) (.int .i64 ((rd_T25 l2 x19_1).f2))) (fun _ hk => hk.2) (.slice A126_3 ((rd_T25 l2 x19_1).f3).length c126_3)) (fun _ hk => hk.2) (.slice A126_4 ((rd_T25 l2 x19_1).f4).length c126_4)) (fun _ h_ => h_.1))) hb); have n1_ := Aside0.mk (Kd.V_below (by (with_reducible repeat (first | apply Kd.V_alloc | apply Kd.V_drewN | apply Kd.V_drew)); exact (Kd.V_mono (Kd.V_far (p := ⟨gb127, 4, none⟩) (Kd.V_far (p := ⟨gb127, 3, none⟩) (Kd.V_far (p := ⟨gb127, 2, none⟩) (Kd.V_far (p := ⟨gb127, 1, none⟩) (Kd.V_far (p := ⟨gb127, 0, none⟩) (Kd.V_mono HO_17.out (fun k_ hk => (⟨hk, hk.2⟩ : _ ∧ k_ ≠ gb127))) (fun _ hk => hk.2) (.int .i64 ((rd_T25 l2 x19_1).f0))) (fun _ hk => hk.2) (.int .i64 ((rd_T25 l2 x19_1).f1))) (fun _ hk => hk.2) (.int .i64 ((rd_T25 l2 x19_1).f2))) (fun _ hk => hk.2) (.slice A126_3 ((rd_T25 l2 x19_1).f3).length c126_3)) (fun _ hk => hk.2) (.slice A126_4 ((rd_T25 l2 x19_1).f4).length c126_4)) (fun _ h_ => h_.1))) hb); have n2_ := Aside0.mk (Kd.V_below (by (with_reducible repeat (first | apply Kd.V_alloc | apply Kd.V_drewN | apply Kd.V_drew)); exact (Kd.V_mono (Kd.V_far (p := ⟨gb127, 4, none⟩) (Kd.V_far (p := ⟨gb127, 3, none⟩) (Kd.V_far (p := ⟨gb127, 2, none⟩) (Kd.V_far (p := ⟨gb127, 1, none⟩) (Kd.V_far (p := ⟨gb127, 0, none⟩) (Kd.V_mono HL126_3.out (fun k_ hk => (⟨hk, hk.2⟩ : _ ∧ k_ ≠ gb127))) (fun _ hk => hk.2) (.int .i64 ((rd_T25 l2 x19_1).f0))) (fun _ hk => hk.2) (.int .i64 ((rd_T25 l2 x19_1).f1))) (fun _ hk => hk.2) (.int .i64 ((rd_T25 l2 x19_1).f2))) (fun _ hk => hk.2) (.slice A126_3 ((rd_T25 l2 x19_1).f3).length c126_3)) (fun _ hk => hk.2) (.slice A126_4 ((rd_T25 l2 x19_1).f4).length c126_4)) (fun _ h_ => h_.1))) hb); have n3_ := Aside0.mk (Kd.V_below (by (with_reducible repeat (first | apply Kd.V_alloc | apply Kd.V_drewN | apply Kd.V_drew)); exact (Kd.V_mono (Kd.V_far (p := ⟨gb127, 4, none⟩) (Kd.V_far (p := ⟨gb127, 3, none⟩) (Kd.V_far (p := ⟨gb127, 2, none⟩) (Kd.V_far (p := ⟨gb127, 1, none⟩) (Kd.V_far (p := ⟨gb127, 0, none⟩) (Kd.V_mono HL126_4.out (fun k_ hk => (⟨hk, hk.2⟩ : _ ∧ k_ ≠ gb127))) (fun _ hk => hk.2) (.int .i64 ((rd_T25 l2 x19_1).f0))) (fun _ hk => hk.2) (.int .i64 ((rd_T25 l2 x19_1).f1))) (fun _ hk => hk.2) (.int .i64 ((rd_T25 l2 x19_1).f2))) (fun _ hk => hk.2) (.slice A126_3 ((rd_T25 l2 x19_1).f3).length c126_3)) (fun _ hk => hk.2) (.slice A126_4 ((rd_T25 l2 x19_1).f4).length c126_4)) (fun _ h_ => h_.1))) hb); have n4_ := Aside0.mk (Kd.C_below ((Kd.V_reads' (by (with_reducible repeat (first | apply Kd.V_alloc | apply Kd.V_drewN | apply Kd.V_drew)); exact (Kd.V_mono (Kd.V_far (p := ⟨gb127, 4, none⟩) (Kd.V_far (p := ⟨gb127, 3, none⟩) (Kd.V_far (p := ⟨gb127, 2, none⟩) (Kd.V_far (p := ⟨gb127, 1, none⟩) (Kd.V_far (p := ⟨gb127, 0, none⟩) (Kd.V_mono HL126_3.out (fun k_ hk => (⟨hk, hk.2⟩ : _ ∧ k_ ≠ gb127))) (fun _ hk => hk.2) (.int .i64 ((rd_T25 l2 x19_1).f0))) (fun _ hk => hk.2) (.int .i64 ((rd_T25 l2 x19_1).f1))) (fun _ hk => hk.2) (.int .i64 ((rd_T25 l2 x19_1).f2))) (fun _ hk => hk.2) (.slice A126_3 ((rd_T25 l2 x19_1).f3).length c126_3)) (fun _ hk => hk.2) (.slice A126_4 ((rd_T25 l2 x19_1).f4).length c126_4)) (fun _ h_ => h_.1)))).2.2) hb); have n5_ := Aside0.mk (Kd.C_below ((Kd.V_reads' (by (with_reducible repeat (first | apply Kd.V_alloc | apply Kd.V_drewN | apply Kd.V_drew)); exact (Kd.V_mono (Kd.V_far (p := ⟨gb127, 4, none⟩) (Kd.V_far (p := ⟨gb127, 3, none⟩) (Kd.V_far (p := ⟨gb127, 2, none⟩) (Kd.V_far (p := ⟨gb127, 1, none⟩) (Kd.V_far (p := ⟨gb127, 0, none⟩) (Kd.V_mono HL126_4.out (fun k_ hk => (⟨hk, hk.2⟩ : _ ∧ k_ ≠ gb127))) (fun _ hk => hk.2) (.int .i64 ((rd_T25 l2 x19_1).f0))) (fun _ hk => hk.2) (.int .i64 ((rd_T25 l2 x19_1).f1))) (fun _ hk => hk.2) (.int .i64 ((rd_T25 l2 x19_1).f2))) (fun _ hk => hk.2) (.slice A126_3 ((rd_T25 l2 x19_1).f3).length c126_3)) (fun _ hk => hk.2) (.slice A126_4 ((rd_T25 l2 x19_1).f4).length c126_4)) (fun _ h_ => h_.1)))).2.2) hb); have n6_ := Aside0.mk (blk_below (g := gb127) (o := .cells #[.int .i64 ((rd_T25 l2 x19_1).f0), .int .i64 ((rd_T25 l2 x19_1).f1), .int .i64 ((rd_T25 l2 x19_1).f2), .slice A126_3 ((rd_T25 l2 x19_1).f3).length c126_3, .slice A126_4 ((rd_T25 l2 x19_1).f4).length c126_4] 25 (0, 0)) (by (with_reducible repeat (first | refine blk_drewN ?_ _ | refine blk_drew ?_ | refine blk_alloc ?_ _)); refine blk_put (cs := #[.int .i64 ((rd_T25 l2 x19_1).f0), .int .i64 ((rd_T25 l2 x19_1).f1), .int .i64 ((rd_T25 l2 x19_1).f2), .slice A126_3 ((rd_T25 l2 x19_1).f3).length c126_3, .slice none 0 0]) ?_ 4 _ rfl; (with_reducible repeat (first | refine blk_drewN ?_ _ | refine blk_drew ?_ | refine blk_alloc ?_ _)); refine blk_put (cs := #[.int .i64 ((rd_T25 l2 x19_1).f0), .int .i64 ((rd_T25 l2 x19_1).f1), .int .i64 ((rd_T25 l2 x19_1).f2), .slice none 0 0, .slice none 0 0]) ?_ 3 _ rfl; (with_reducible repeat (first | refine blk_drewN ?_ _ | refine blk_drew ?_ | refine blk_alloc ?_ _)); refine blk_put (cs := #[.int .i64 ((rd_T25 l2 x19_1).f0), .int .i64 ((rd_T25 l2 x19_1).f1), .int .i64 0, .slice none 0 0, .slice none 0 0]) ?_ 2 _ rfl; (with_reducible repeat (first | refine blk_drewN ?_ _ | refine blk_drew ?_ | refine blk_alloc ?_ _)); refine blk_put (cs := #[.int .i64 ((rd_T25 l2 x19_1).f0), .int .i64 0, .int .i64 0, .slice none 0 0, .slice none 0 0]) ?_ 1 _ rfl; (with_reducible repeat (first | refine blk_drewN ?_ _ | refine blk_drew ?_ | refine blk_alloc ?_ _)); refine blk_put (cs := #[.int .i64 0, .int .i64 0, .int .i64 0, .slice none 0 0, .slice none 0 0]) ?_ 0 _ rfl; (with_reducible repeat (first | refine blk_drewN ?_ _ | refine blk_drew ?_ | refine blk_alloc ?_ _)); exact BK127.out) hb); have n7_ := Aside0.mk (below_step (by repeat (first | (with_reducible first | exact HB.out | apply below_alloc | apply pw_below_drewN | apply below_drew1 | refine below_set ?_ GE127.out) | exact HB.out)) hb); clear HO_11; clear HO_17; clear HL126_3; clear HL126_4; clear HR126_3; clear HR126_4; clear BK127; clear HB; have HO_11 := n0_; have HO_17 := n1_; have HL126_3 := n2_; have HL126_4 := n3_; have HR126_3 := n4_; have HR126_4 := n5_; have BK127 := n6_; have HB := n7_; clear n0_ n1_ n2_ n3_ n4_ n5_ n6_ n7_; (try clear hb); (try clear hb2); (try clear hk); (try clear hi); obtain ⟨Ao28, co28, eo28⟩ := Kd.N_slice HO_11.out; subst eo28))
                  go_roundg k1
                  case measure => have := HK1.out; omega
                  case rel => exact ⟨(x11_1), (x12_1), (wrap64 (x19_1 + 1)), (by first | rfl | (simp; done) | (simp [*]; done)), (by first | rfl | (simp; done) | (simp [*]; done)), H', ⟨by have := HK1.out; omega⟩, ⟨by (with_reducible repeat (first | apply Kd.N_alloc | apply Kd.N_drewN | apply Kd.N_drew)); exact Kd.N_mono HO_11.out (fun _ hk => hk.1)⟩, ⟨by (with_reducible repeat (first | apply Kd.V_alloc | apply Kd.V_drewN | apply Kd.V_drew)); exact Kd.V_mono HO_17.out (fun _ hk => ⟨hk.1.1, hk.1.2⟩)⟩, ⟨by repeat (first | (with_reducible first | exact HB.out | apply below_alloc | apply pw_below_drewN | apply below_drew1 | refine below_set ?_ GE127.out) | exact HB.out)⟩⟩
            · replace c11 := Bool.eq_false_iff.mpr c11
              subst c11
              have H1 : (audit_Page.l0 k1 l0 a1 a4 x11_1 x12_1 l2 (l2.length : Int) (wrap64 (x19_1 + 1))) = some r := by rw [if_neg (show ¬ (false = true) by decide)] at H; exact H
              clear H
              have H := H1
              clear H1
              have H' := Aside0.mk H
              clear H
              have p126 : 0 ≤ (x19_1 : Int) := of_decide_eq_true (by first | (with_reducible assumption) | assumption)
              have q126 : x19_1 < (l2.length : Int) := of_decide_eq_true (by first | (with_reducible assumption) | assumption)
              obtain ⟨ad126, A126_3, c126_3, A126_4, c126_4, e126, hx126_0, hx126_1, hx126_2, hx126_3, hx126_4, hl126_3, hi126_3, hl126_4, hi126_4⟩ := at_T25 (Kd.V_reads' HO_17.out).2.2 x19_1 p126 q126
              cases e126
              obtain ⟨ce126, hce126, hMe126, hcc126⟩ := Kd.V_get HO_17.out z25 x19_1 p126 (by first | exact q126 | exact of_decide_eq_true (by first | (with_reducible assumption) | assumption) | (have e_ := (Kd.V_reads' HO_17.out).1; omega))
              obtain ⟨ua126_3, uc126_3, ua126_4, uc126_4, rfl, ul126_3, ge126_3, ul126_4, ge126_4⟩ := k25_openF hMe126
              have hv126_3 := hcc126 3 _ rfl
              rw [add_field _ _ 3 (by omega)] at hv126_3
              replace hv126_3 := Option.some.inj (hv126_3.symm.trans hx126_3)
              injection hv126_3 with hva_ hvn_ hvc_
              rw [hva_] at ge126_3
              rw [hvc_] at ul126_3
              have HL126_3 := Aside0.mk (show Kd.V (Kd.int .i64) 3 _ w.heap.size _ _ ((rd_T25 l2 x19_1).f3) from Kd.V_mk ul126_3 ge126_3)
              clear hva_ hvn_ hvc_ ge126_3 ul126_3
              have hv126_4 := hcc126 4 _ rfl
              rw [add_field _ _ 4 (by omega)] at hv126_4
              replace hv126_4 := Option.some.inj (hv126_4.symm.trans hx126_4)
              injection hv126_4 with hva_ hvn_ hvc_
              rw [hva_] at ge126_4
              rw [hvc_] at ul126_4
              have HL126_4 := Aside0.mk (show Kd.V (Kd.int .i64) 3 _ w.heap.size _ _ ((rd_T25 l2 x19_1).f4) from Kd.V_mk ul126_4 ge126_4)
              clear hva_ hvn_ hvc_ ge126_4 ul126_4
              clear hcc126 hce126
              have HR126_3 := Aside0.mk hi126_3
              have HC126_3 := Aside0.mk hl126_3
              clear hi126_3 hl126_3
              have HR126_4 := Aside0.mk hi126_4
              have HC126_4 := Aside0.mk hl126_4
              clear hi126_4 hl126_4
              replace p126 := eq_true p126
              replace q126 := eq_true q126
              go_wp2_with (first | ((with_reducible refine gate_dst (N := 14) rfl ?_); refine box_event ?hg (N := 14) ?hd (cs := #[.int .i64 0, .int .i64 0, .int .i64 0, .slice none 0 0, .slice none 0 0]) (t := 25) ?hr ?_; (case hd => rfl); (case hg => rfl); (case hr => first | (go_simp; done) | (go_simp; rfl)); intro gb127 hg w29 hbox hb; have n0_ := Aside0.mk (Kd.N_below (Kd.N_elderB (by (with_reducible repeat (first | apply Kd.N_alloc | apply Kd.N_drewN | apply Kd.N_drew)); exact HO_11.out) gb127 (Nat.le_of_eq hg.symm)) hb); have n1_ := Aside0.mk (Kd.V_below (Kd.V_elderB (by (with_reducible repeat (first | apply Kd.V_alloc | apply Kd.V_drewN | apply Kd.V_drew)); exact HO_17.out) gb127 (Nat.le_of_eq hg.symm)) hb); have n2_ := Aside0.mk (Kd.V_below (Kd.V_elderB (by (with_reducible repeat (first | apply Kd.V_alloc | apply Kd.V_drewN | apply Kd.V_drew)); exact HL126_3.out) gb127 (Nat.le_of_eq hg.symm)) hb); have n3_ := Aside0.mk (Kd.V_below (Kd.V_elderB (by (with_reducible repeat (first | apply Kd.V_alloc | apply Kd.V_drewN | apply Kd.V_drew)); exact HL126_4.out) gb127 (Nat.le_of_eq hg.symm)) hb); have n4_ := Aside0.mk (Kd.C_below (by repeat (first | (with_reducible exact HR126_3.out) | (with_reducible refine Kd.C_alloc ?_ _) | (with_reducible refine Kd.C_drewN ?_ _) | (with_reducible refine Kd.C_drew ?_) | exact HR126_3.out)) hb); have n5_ := Aside0.mk (Kd.C_below (by repeat (first | (with_reducible exact HR126_4.out) | (with_reducible refine Kd.C_alloc ?_ _) | (with_reducible refine Kd.C_drewN ?_ _) | (with_reducible refine Kd.C_drew ?_) | exact HR126_4.out)) hb); have n6_ := Aside0.mk (below_step (by repeat (first | (with_reducible first | exact HB.out | apply below_alloc | apply pw_below_drewN | apply below_drew1) | exact HB.out)) hb); have n7_ := Aside0.mk (hbox); have n8_ := Aside0.mk ((by rw [hg]; exact (below_size (by repeat (first | (with_reducible first | exact HB.out | apply below_alloc | apply pw_below_drewN | apply below_drew1) | exact HB.out))) : w.heap.size ≤ gb127)); have n9_ := Aside0.mk ((by rw [hg]; exact (below_size (by repeat (first | (with_reducible first | exact HB.out | apply below_alloc | apply pw_below_drewN | apply below_drew1) | exact HB.out))) : w.heap.size ≤ gb127)); clear HO_11; clear HO_17; clear HL126_3; clear HL126_4; clear HR126_3; clear HR126_4; clear HB; have HO_11 := n0_; have HO_17 := n1_; have HL126_3 := n2_; have HL126_4 := n3_; have HR126_3 := n4_; have HR126_4 := n5_; have HB := n6_; have BK127 := n7_; have GW127 := n8_; have GE127 := n9_; clear n0_ n1_ n2_ n3_ n4_ n5_ n6_ n7_ n8_ n9_; clear hb hbox hg; have hcz30_0 : w29.cell? ⟨gb127, 0, none⟩ = some (.int .i64 0) := (blk_cell BK127.out 0).trans rfl; have hcz30_1 : w29.cell? ⟨gb127, 1, none⟩ = some (.int .i64 0) := (blk_cell BK127.out 1).trans rfl; have hcz30_2 : w29.cell? ⟨gb127, 2, none⟩ = some (.int .i64 0) := (blk_cell BK127.out 2).trans rfl; have hcz30_3 : w29.cell? ⟨gb127, 3, none⟩ = some (.slice none 0 0) := (blk_cell BK127.out 3).trans rfl; have hcz30_4 : w29.cell? ⟨gb127, 4, none⟩ = some (.slice none 0 0) := (blk_cell BK127.out 4).trans rfl; have hfz30_0 := blk_frozen BK127.out 0; have hfz30_1 := blk_frozen BK127.out 1; have hfz30_2 := blk_frozen BK127.out 2; have hfz30_3 := blk_frozen BK127.out 3; have hfz30_4 := blk_frozen BK127.out 4) | ((with_reducible refine gate_callee (f := 14) rfl ?_); refine goesL_ (some 27) rfl rfl Try.func14 (by kernel_rfl) rfl #[.slice A0 l0.length c0, .int .i64 a1, .agg #[.int .i64 ((rd_T25 l2 x19_1).f0), .int .i64 ((rd_T25 l2 x19_1).f1), .int .i64 ((rd_T25 l2 x19_1).f2), .slice A126_3 ((rd_T25 l2 x19_1).f3).length c126_3, .slice A126_4 ((rd_T25 l2 x19_1).f4).length c126_4]] rfl (by (try simp only [List.map_toArray, List.map_cons, List.map_nil]); first | done | rfl | (simp only [List.length_drop, List.length_take]; rfl)) ?_; (with_reducible refine (audit_Sees.calls _ _ l0 a1 ((rd_T25 l2 x19_1).f0) ((rd_T25 l2 x19_1).f1) ((rd_T25 l2 x19_1).f2) _ _ ((rd_T25 l2 x19_1).f3) _ _ ((rd_T25 l2 x19_1).f4) false _ ?side1 ?side2 ?side3 ?side4 ?side5 ?side6 A10.out).mono ?_); (case side1 => exact Kd.C_below HR0.out (by repeat (first | (with_reducible first | exact HB.out | apply below_alloc | apply pw_below_drewN | apply below_drew1 | refine below_set ?_ GE127.out) | exact HB.out))); (case side2 => exact HC0.out); (case side3 => repeat (first | exact ((Kd.V_reads' (by (with_reducible repeat (first | apply Kd.V_alloc | apply Kd.V_drewN | apply Kd.V_drew)); exact (Kd.V_mono (Kd.V_far (p := ⟨gb127, 4, none⟩) (Kd.V_far (p := ⟨gb127, 3, none⟩) (Kd.V_far (p := ⟨gb127, 2, none⟩) (Kd.V_far (p := ⟨gb127, 1, none⟩) (Kd.V_far (p := ⟨gb127, 0, none⟩) (Kd.V_mono HL126_3.out (fun k_ hk => (⟨hk, hk.2⟩ : _ ∧ k_ ≠ gb127))) (fun _ hk => hk.2) (.int .i64 ((rd_T25 l2 x19_1).f0))) (fun _ hk => hk.2) (.int .i64 ((rd_T25 l2 x19_1).f1))) (fun _ hk => hk.2) (.int .i64 ((rd_T25 l2 x19_1).f2))) (fun _ hk => hk.2) (.slice A126_3 ((rd_T25 l2 x19_1).f3).length c126_3)) (fun _ hk => hk.2) (.slice A126_4 ((rd_T25 l2 x19_1).f4).length c126_4)) (fun _ h_ => h_.1)))).2.2) | (with_reducible refine Kd.C_alloc ?_ _) | (with_reducible refine Kd.C_drewN ?_ _) | (with_reducible refine Kd.C_drew ?_))); (case side4 => exact HC126_3.out); (case side5 => repeat (first | exact ((Kd.V_reads' (by (with_reducible repeat (first | apply Kd.V_alloc | apply Kd.V_drewN | apply Kd.V_drew)); exact (Kd.V_mono (Kd.V_far (p := ⟨gb127, 4, none⟩) (Kd.V_far (p := ⟨gb127, 3, none⟩) (Kd.V_far (p := ⟨gb127, 2, none⟩) (Kd.V_far (p := ⟨gb127, 1, none⟩) (Kd.V_far (p := ⟨gb127, 0, none⟩) (Kd.V_mono HL126_4.out (fun k_ hk => (⟨hk, hk.2⟩ : _ ∧ k_ ≠ gb127))) (fun _ hk => hk.2) (.int .i64 ((rd_T25 l2 x19_1).f0))) (fun _ hk => hk.2) (.int .i64 ((rd_T25 l2 x19_1).f1))) (fun _ hk => hk.2) (.int .i64 ((rd_T25 l2 x19_1).f2))) (fun _ hk => hk.2) (.slice A126_3 ((rd_T25 l2 x19_1).f3).length c126_3)) (fun _ hk => hk.2) (.slice A126_4 ((rd_T25 l2 x19_1).f4).length c126_4)) (fun _ h_ => h_.1)))).2.2) | (with_reducible refine Kd.C_alloc ?_ _) | (with_reducible refine Kd.C_drewN ?_ _) | (with_reducible refine Kd.C_drew ?_))); (case side6 => exact HC126_4.out); rintro e w31 ⟨rfl, hb⟩; refine ⟨_, rfl, ?_⟩; have n0_ := Aside0.mk (Kd.N_below (by (with_reducible repeat (first | apply Kd.N_alloc | apply Kd.N_drewN | apply Kd.N_drew)); exact (Kd.N_mono (Kd.N_far (p := ⟨gb127, 4, none⟩) (Kd.N_far (p := ⟨gb127, 3, none⟩) (Kd.N_far (p := ⟨gb127, 2, none⟩) (Kd.N_far (p := ⟨gb127, 1, none⟩) (Kd.N_far (p := ⟨gb127, 0, none⟩) (Kd.N_mono HO_11.out (fun k_ hk => (⟨hk, hk.2⟩ : _ ∧ k_ ≠ gb127))) (fun _ hk => hk.2) (.int .i64 ((rd_T25 l2 x19_1).f0))) (fun _ hk => hk.2) (.int .i64 ((rd_T25 l2 x19_1).f1))) (fun _ hk => hk.2) (.int .i64 ((rd_T25 l2 x19_1).f2))) (fun _ hk => hk.2) (.slice A126_3 ((rd_T25 l2 x19_1).f3).length c126_3)) (fun _ hk => hk.2) (.slice A126_4 ((rd_T25 l2 x19_1).f4).length c126_4)) (fun _ h_ => h_.1))) hb); have n1_ := Aside0.mk (Kd.V_below (by (with_reducible repeat (first | apply Kd.V_alloc | apply Kd.V_drewN | apply Kd.V_drew)); exact (Kd.V_mono (Kd.V_far (p := ⟨gb127, 4, none⟩) (Kd.V_far (p := ⟨gb127, 3, none⟩) (Kd.V_far (p := ⟨gb127, 2, none⟩) (Kd.V_far (p := ⟨gb127, 1, none⟩) (Kd.V_far (p := ⟨gb127, 0, none⟩) (Kd.V_mono HO_17.out (fun k_ hk => (⟨hk, hk.2⟩ : _ ∧ k_ ≠ gb127))) (fun _ hk => hk.2) (.int .i64 ((rd_T25 l2 x19_1).f0))) (fun _ hk => hk.2) (.int .i64 ((rd_T25 l2 x19_1).f1))) (fun _ hk => hk.2) (.int .i64 ((rd_T25 l2 x19_1).f2))) (fun _ hk => hk.2) (.slice A126_3 ((rd_T25 l2 x19_1).f3).length c126_3)) (fun _ hk => hk.2) (.slice A126_4 ((rd_T25 l2 x19_1).f4).length c126_4)) (fun _ h_ => h_.1))) hb); have n2_ := Aside0.mk (Kd.V_below (by (with_reducible repeat (first | apply Kd.V_alloc | apply Kd.V_drewN | apply Kd.V_drew)); exact (Kd.V_mono (Kd.V_far (p := ⟨gb127, 4, none⟩) (Kd.V_far (p := ⟨gb127, 3, none⟩) (Kd.V_far (p := ⟨gb127, 2, none⟩) (Kd.V_far (p := ⟨gb127, 1, none⟩) (Kd.V_far (p := ⟨gb127, 0, none⟩) (Kd.V_mono HL126_3.out (fun k_ hk => (⟨hk, hk.2⟩ : _ ∧ k_ ≠ gb127))) (fun _ hk => hk.2) (.int .i64 ((rd_T25 l2 x19_1).f0))) (fun _ hk => hk.2) (.int .i64 ((rd_T25 l2 x19_1).f1))) (fun _ hk => hk.2) (.int .i64 ((rd_T25 l2 x19_1).f2))) (fun _ hk => hk.2) (.slice A126_3 ((rd_T25 l2 x19_1).f3).length c126_3)) (fun _ hk => hk.2) (.slice A126_4 ((rd_T25 l2 x19_1).f4).length c126_4)) (fun _ h_ => h_.1))) hb); have n3_ := Aside0.mk (Kd.V_below (by (with_reducible repeat (first | apply Kd.V_alloc | apply Kd.V_drewN | apply Kd.V_drew)); exact (Kd.V_mono (Kd.V_far (p := ⟨gb127, 4, none⟩) (Kd.V_far (p := ⟨gb127, 3, none⟩) (Kd.V_far (p := ⟨gb127, 2, none⟩) (Kd.V_far (p := ⟨gb127, 1, none⟩) (Kd.V_far (p := ⟨gb127, 0, none⟩) (Kd.V_mono HL126_4.out (fun k_ hk => (⟨hk, hk.2⟩ : _ ∧ k_ ≠ gb127))) (fun _ hk => hk.2) (.int .i64 ((rd_T25 l2 x19_1).f0))) (fun _ hk => hk.2) (.int .i64 ((rd_T25 l2 x19_1).f1))) (fun _ hk => hk.2) (.int .i64 ((rd_T25 l2 x19_1).f2))) (fun _ hk => hk.2) (.slice A126_3 ((rd_T25 l2 x19_1).f3).length c126_3)) (fun _ hk => hk.2) (.slice A126_4 ((rd_T25 l2 x19_1).f4).length c126_4)) (fun _ h_ => h_.1))) hb); have n4_ := Aside0.mk (Kd.C_below ((Kd.V_reads' (by (with_reducible repeat (first | apply Kd.V_alloc | apply Kd.V_drewN | apply Kd.V_drew)); exact (Kd.V_mono (Kd.V_far (p := ⟨gb127, 4, none⟩) (Kd.V_far (p := ⟨gb127, 3, none⟩) (Kd.V_far (p := ⟨gb127, 2, none⟩) (Kd.V_far (p := ⟨gb127, 1, none⟩) (Kd.V_far (p := ⟨gb127, 0, none⟩) (Kd.V_mono HL126_3.out (fun k_ hk => (⟨hk, hk.2⟩ : _ ∧ k_ ≠ gb127))) (fun _ hk => hk.2) (.int .i64 ((rd_T25 l2 x19_1).f0))) (fun _ hk => hk.2) (.int .i64 ((rd_T25 l2 x19_1).f1))) (fun _ hk => hk.2) (.int .i64 ((rd_T25 l2 x19_1).f2))) (fun _ hk => hk.2) (.slice A126_3 ((rd_T25 l2 x19_1).f3).length c126_3)) (fun _ hk => hk.2) (.slice A126_4 ((rd_T25 l2 x19_1).f4).length c126_4)) (fun _ h_ => h_.1)))).2.2) hb); have n5_ := Aside0.mk (Kd.C_below ((Kd.V_reads' (by (with_reducible repeat (first | apply Kd.V_alloc | apply Kd.V_drewN | apply Kd.V_drew)); exact (Kd.V_mono (Kd.V_far (p := ⟨gb127, 4, none⟩) (Kd.V_far (p := ⟨gb127, 3, none⟩) (Kd.V_far (p := ⟨gb127, 2, none⟩) (Kd.V_far (p := ⟨gb127, 1, none⟩) (Kd.V_far (p := ⟨gb127, 0, none⟩) (Kd.V_mono HL126_4.out (fun k_ hk => (⟨hk, hk.2⟩ : _ ∧ k_ ≠ gb127))) (fun _ hk => hk.2) (.int .i64 ((rd_T25 l2 x19_1).f0))) (fun _ hk => hk.2) (.int .i64 ((rd_T25 l2 x19_1).f1))) (fun _ hk => hk.2) (.int .i64 ((rd_T25 l2 x19_1).f2))) (fun _ hk => hk.2) (.slice A126_3 ((rd_T25 l2 x19_1).f3).length c126_3)) (fun _ hk => hk.2) (.slice A126_4 ((rd_T25 l2 x19_1).f4).length c126_4)) (fun _ h_ => h_.1)))).2.2) hb); have n6_ := Aside0.mk (blk_below (g := gb127) (o := .cells #[.int .i64 ((rd_T25 l2 x19_1).f0), .int .i64 ((rd_T25 l2 x19_1).f1), .int .i64 ((rd_T25 l2 x19_1).f2), .slice A126_3 ((rd_T25 l2 x19_1).f3).length c126_3, .slice A126_4 ((rd_T25 l2 x19_1).f4).length c126_4] 25 (0, 0)) (by (with_reducible repeat (first | refine blk_drewN ?_ _ | refine blk_drew ?_ | refine blk_alloc ?_ _)); refine blk_put (cs := #[.int .i64 ((rd_T25 l2 x19_1).f0), .int .i64 ((rd_T25 l2 x19_1).f1), .int .i64 ((rd_T25 l2 x19_1).f2), .slice A126_3 ((rd_T25 l2 x19_1).f3).length c126_3, .slice none 0 0]) ?_ 4 _ rfl; (with_reducible repeat (first | refine blk_drewN ?_ _ | refine blk_drew ?_ | refine blk_alloc ?_ _)); refine blk_put (cs := #[.int .i64 ((rd_T25 l2 x19_1).f0), .int .i64 ((rd_T25 l2 x19_1).f1), .int .i64 ((rd_T25 l2 x19_1).f2), .slice none 0 0, .slice none 0 0]) ?_ 3 _ rfl; (with_reducible repeat (first | refine blk_drewN ?_ _ | refine blk_drew ?_ | refine blk_alloc ?_ _)); refine blk_put (cs := #[.int .i64 ((rd_T25 l2 x19_1).f0), .int .i64 ((rd_T25 l2 x19_1).f1), .int .i64 0, .slice none 0 0, .slice none 0 0]) ?_ 2 _ rfl; (with_reducible repeat (first | refine blk_drewN ?_ _ | refine blk_drew ?_ | refine blk_alloc ?_ _)); refine blk_put (cs := #[.int .i64 ((rd_T25 l2 x19_1).f0), .int .i64 0, .int .i64 0, .slice none 0 0, .slice none 0 0]) ?_ 1 _ rfl; (with_reducible repeat (first | refine blk_drewN ?_ _ | refine blk_drew ?_ | refine blk_alloc ?_ _)); refine blk_put (cs := #[.int .i64 0, .int .i64 0, .int .i64 0, .slice none 0 0, .slice none 0 0]) ?_ 0 _ rfl; (with_reducible repeat (first | refine blk_drewN ?_ _ | refine blk_drew ?_ | refine blk_alloc ?_ _)); exact BK127.out) hb); have n7_ := Aside0.mk (below_step (by repeat (first | (with_reducible first | exact HB.out | apply below_alloc | apply pw_below_drewN | apply below_drew1 | refine below_set ?_ GE127.out) | exact HB.out)) hb); clear HO_11; clear HO_17; clear HL126_3; clear HL126_4; clear HR126_3; clear HR126_4; clear BK127; clear HB; have HO_11 := n0_; have HO_17 := n1_; have HL126_3 := n2_; have HL126_4 := n3_; have HR126_3 := n4_; have HR126_4 := n5_; have BK127 := n6_; have HB := n7_; clear n0_ n1_ n2_ n3_ n4_ n5_ n6_ n7_; (try clear hb); (try clear hb2); (try clear hk); (try clear hi)))
              go_roundg k1
              case measure => have := HK1.out; omega
              case rel => exact ⟨(x11_1), (x12_1), (wrap64 (x19_1 + 1)), (by first | rfl | (simp; done) | (simp [*]; done)), (by first | rfl | (simp; done) | (simp [*]; done)), H', ⟨by have := HK1.out; omega⟩, ⟨by (with_reducible repeat (first | apply Kd.N_alloc | apply Kd.N_drewN | apply Kd.N_drew)); exact Kd.N_mono HO_11.out (fun _ hk => hk.1)⟩, ⟨by (with_reducible repeat (first | apply Kd.V_alloc | apply Kd.V_drewN | apply Kd.V_drew)); exact Kd.V_mono HO_17.out (fun _ hk => ⟨hk.1.1, hk.1.2⟩)⟩, ⟨by repeat (first | (with_reducible first | exact HB.out | apply below_alloc | apply pw_below_drewN | apply below_drew1 | refine below_set ?_ GE127.out) | exact HB.out)⟩⟩
          · rw [if_neg c9] at H
            exact absurd H (by simp)
        · rw [if_neg c8] at H
          exact absurd H (by simp)
      · rw [if_neg c7] at H
        have c7b0 : decide (x19_1 < (l2.length : Int)) = false := decide_eq_false c7
        clear c7
        obtain rfl := Option.some.inj H
        go_wp2
        go_ret
        exact ⟨_, by first | rfl | (simp [errW_none, errW_some] <;> rfl) | (simp only [← hji6]; first | rfl | (simp [errW_none, errW_some] <;> rfl)) | (simp [*, errW_none, errW_some] <;> rfl), by (with_reducible repeat (first | apply Kd.N_alloc | apply Kd.N_drewN | apply Kd.N_drew)); exact HO_11.out, by repeat (first | (with_reducible first | exact HB.out | apply below_alloc | apply pw_below_drewN | apply below_drew1) | exact HB.out)⟩

end Go.Proofs.Ytmidclhdnjbbjaa.AAuditHides
