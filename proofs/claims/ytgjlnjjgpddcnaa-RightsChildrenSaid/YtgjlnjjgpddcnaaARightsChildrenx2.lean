/- What the functions that the law RightsChildren reaches compute, and the row of the law (printed by a program of this session). -/
import Derived.Test.YtgjlnjjgpddcnaaARightsChildrenx0
import Derived.Test.YtgjlnjjgpddcnaaARightsChildrenx1
namespace Go.Proofs.Ytgjlnjjgpddcnaa.ARightsChildren
open Go.RowKit Go.Proofs.YtgjlnjjgpddcnaaW.PrintWords Go.Proofs.YtgjlnjjgpddcnaaW.PrintLast Go.Proofs.YtgjlnjjgpddcnaaW.PrintMore
attribute [local go_sem] max2_int min2_int max_two min_two max_three min_three max_four min_four   -- for this text's walks alone
set_option linter.unusedVariables false
set_option linter.unusedSimpArgs false

/-! ### rights_May: function 13 -/
/-- Is the user on the whole path of a label? (d: how long the path may be) -/
def onPath (l : List S29) (user : Int) (write : Bool) : Nat → Nat → Bool
  | 0, _ => false
  | d + 1, i => (if write then (rd_T29 l (i : Int)).f3 else (rd_T29 l (i : Int)).f2).contains user && (decide ((rd_T29 l (i : Int)).f0 < 0) || decide ((rd_T29 l (i : Int)).f0 ≥ (i : Int)) || onPath l user write d (rd_T29 l (i : Int)).f0.toNat)
def may (l : List S29) (user label : Int) (write : Bool) : Bool := decide (0 ≤ label) && decide (label < (l.length : Int)) && onPath l user write (label.toNat + 1) label.toNat
theorem index_loop (l : List Int) (v : Int) (hl : l.length ≤ 9223372036854775807) : ∀ (d k i : Nat), l.length - i = d → d < k → i ≤ l.length →
    ∃ r : Int, slices_Index_int_int.l0 k l v (l.length : Int) (i : Int) = some r ∧ decide (r ≥ 0) = (l.drop i).contains v := by
  intro d
  induction d with
  | zero =>
    intro k i hd hk hi
    obtain ⟨k, rfl⟩ : ∃ m, k = m + 1 := ⟨k - 1, by omega⟩
    refine ⟨-1, by simp only [slices_Index_int_int.l0]; rw [if_neg (by omega)], ?_⟩
    rw [List.drop_eq_nil_of_le (by omega)]; rfl
  | succ d ih =>
    intro k i hd hk hi
    obtain ⟨k, rfl⟩ : ∃ m, k = m + 1 := ⟨k - 1, by omega⟩
    have hlt : i < l.length := by omega
    have hrd : rd l (i : Int) = l[i] := by simp [rd, hlt]
    simp only [slices_Index_int_int.l0]
    rw [if_pos (by omega), if_pos (by omega), if_pos (by omega), hrd, List.drop_eq_getElem_cons hlt]
    by_cases h : v = l[i]
    · refine ⟨(i : Int), by rw [if_pos h], ?_⟩
      rw [List.contains_cons, beq_iff_eq.mpr h, Bool.true_or]
      exact decide_eq_true (by omega)
    · obtain ⟨r, h1, h2⟩ := ih k (i + 1) (by omega) (by omega) (by omega)
      refine ⟨r, ?_, ?_⟩
      · rw [if_neg h, show wrap64 ((i : Int) + 1) = ((i + 1 : Nat) : Int) by unfold wrap64; omega]; exact h1
      · rw [List.contains_cons, beq_eq_false_iff_ne.mpr h, Bool.false_or]; exact h2
theorem contains_tells (l : List Int) (v : Int) (hl : l.length ≤ 9223372036854775807) : slices_Contains_int_int.f (l.length + 1) l v = some (l.contains v) := by
  obtain ⟨r, h1, h2⟩ := index_loop l v hl l.length (l.length + 1) 0 (by omega) (by omega) (by omega)
  unfold slices_Contains_int_int.f slices_Index_int_int.f
  rw [show ((0 : Nat) : Int) = 0 from rfl] at h1
  rw [h1]
  simp only [Option.bind_some]
  rw [h2, List.drop_zero]
def rights_May.f (l0 : List (S29)) (a1 : Int) (a2 : Int) (a3 : Bool) : Option (Bool) := some (may l0 a1 a2 a3)
set_option maxHeartbeats 4000000 in
set_option maxRecDepth 100000 in
theorem rights_May.calls (A0 : Option Addr) (c0 : Nat) (l0 : List (S29)) (a1 : Int) (a2 : Int) (a3 : Bool) (r : Bool) (w : World) (hr0 : Kd.C k29 w A0 l0.length l0) (hc0 : l0.length ≤ c0) (h : rights_May.f l0 a1 a2 a3 = some r) :
    Calls Try.prog 13 #[.slice A0 l0.length c0, .int .i64 a1, .int .i64 a2, .bool a3] w fun e w' => e = .returned (.bool r) ∧ Below w.heap.size w w' := by
  have hu29 := Try.underlying29
  have HR0 := Aside0.mk hr0
  have hn : l0.length ≤ 9223372036854775807 := hr0.2.1
  clear hr0 hc0
  have HB := Aside0.mk (Below.refl w.heap.size w)
  have H : may l0 a1 a2 a3 = r := Option.some.inj h
  clear h
  unfold may at H
  by_cases c1 : 0 ≤ a2
  · by_cases c2 : a2 < (l0.length : Int)
    · obtain ⟨i0, rfl⟩ := Int.eq_ofNat_of_zero_le c1
      have H2 := Aside0.mk (show i0 < i0 + 1 ∧ onPath l0 a1 a3 (i0 + 1) i0 = r from ⟨by omega, by rw [← H]; simp [c2]⟩)
      have c2' : i0 < l0.length := by omega
      have c3 := Aside0.mk c2'
      have c2b0 : decide ((l0.length : Int) ≤ (i0 : Int)) = false := decide_eq_false (by omega)
      have c2b1 : decide (l0.length ≤ i0) = false := decide_eq_false (by omega)
      have c1b0 : decide ((i0 : Int) < 0) = false := decide_eq_false (by omega)
      clear H c1 c2
      go_enter Try.func13, Try.ntmps13
      go_wp2
      go_loopg [2] (i0 + 1) (fun dq v2 w' => ∃ i : Nat, v2 = .int .i64 i ∧ Aside0 (i < l0.length) ∧ Aside0 (i < dq ∧ onPath l0 a1 a3 dq i = r) ∧ Aside0 (Below w.heap.size w w'))
      case atStart => exact ⟨i0, rfl, c3, H2, HB⟩
      case round =>
        clear H2 HB c3 c2b0 c2b1 c1b0 c2'
        obtain ⟨i, rfl, hi, H, HB⟩ := hrel
        cases gk with
        | zero => exact absurd H.out.1 (by omega)
        | succ gk =>
          have hlt : i < l0.length := hi.out
          obtain ⟨x, hx⟩ : ∃ x : S29, x = rd_T29 l0 (i : Int) := ⟨_, rfl⟩
          obtain ⟨ad, A2, c2, A3, c3, e102, hx0, hx1, hx2, hx3, hl2, hi2, hl3, hi3⟩ := at_T29 HR0.out (i : Int) (by omega) (by omega)
          cases e102
          have H1 := Aside0.mk H.out.1
          have H2 := H.out.2
          rw [onPath] at H2
          rw [← hx] at hx0 hx1 hx2 hx3 hl2 hi2 hl3 hi3 H2
          clear H hx
          replace hx0 := (HB.out.cell (World.block_lt_of_cell? w _ hx0)).trans hx0
          replace hx1 := (HB.out.cell (World.block_lt_of_cell? w _ hx1)).trans hx1
          replace hx2 := (HB.out.cell (World.block_lt_of_cell? w _ hx2)).trans hx2
          replace hx3 := (HB.out.cell (World.block_lt_of_cell? w _ hx3)).trans hx3
          simp only [Int.toNat_natCast] at hx0 hx1 hx2 hx3
          have HR2 := Aside0.mk hi2
          have HR3 := Aside0.mk hi3
          have HC2 := Aside0.mk hl2
          have HC3 := Aside0.mk hl3
          have N2 := Aside0.mk hi2.2.1
          have N3 := Aside0.mk hi3.2.1
          clear hi2 hi3 hl2 hl3
          cases a3 with
          | false =>
            rw [if_neg (by decide)] at H2
            obtain ⟨b, hb⟩ : ∃ b : Bool, b = x.f2.contains a1 := ⟨_, rfl⟩
            have HCt := Aside0.mk ((contains_tells x.f2 a1 N2.out).trans (congrArg some hb.symm))
            rw [← hb] at H2
            clear hb
            cases b with
            | false =>
              obtain rfl : false = r := by rw [← H2]; simp
              clear H2
              go_wp2_with (first | ((with_reducible refine gate_dst (N := 9) rfl ?_); (try (refine gate_guard (by rfl) ?_; dsimp only)); refine box_event ?hg (N := 9) ?hd (cs := #[.int .i64 0, .int .i64 0, .slice none 0 0, .slice none 0 0]) (t := 29) ?hr ?_; (case hd => rfl); (case hg => rfl); (case hr => first | (go_simp; done) | (go_simp; rfl)); intro gb hg w25 hbox hb; have n0_ := Aside0.mk (below_step (by repeat (first | (with_reducible first | exact HB.out | apply below_alloc | apply pw_below_drewN | apply below_drew1) | exact HB.out)) hb); have n1_ := Aside0.mk (hbox); have n2_ := Aside0.mk ((by rw [hg]; exact (below_size (by repeat (first | (with_reducible first | exact HB.out | apply below_alloc | apply pw_below_drewN | apply below_drew1) | exact HB.out))) : w.heap.size ≤ gb)); clear HB; have HB := n0_; have BK := n1_; have GE := n2_; clear n0_ n1_ n2_; clear hb hbox hg; have hcz0 : w25.cell? ⟨gb, 0, none⟩ = some (.int .i64 0) := (blk_cell BK.out 0).trans rfl; have hcz1 : w25.cell? ⟨gb, 1, none⟩ = some (.int .i64 0) := (blk_cell BK.out 1).trans rfl; have hcz2 : w25.cell? ⟨gb, 2, none⟩ = some (.slice none 0 0) := (blk_cell BK.out 2).trans rfl; have hcz3 : w25.cell? ⟨gb, 3, none⟩ = some (.slice none 0 0) := (blk_cell BK.out 3).trans rfl; have hfz0 := blk_frozen BK.out 0; have hfz1 := blk_frozen BK.out 1; have hfz2 := blk_frozen BK.out 2; have hfz3 := blk_frozen BK.out 3) | (go_at_call 23; (with_reducible refine (slices_Contains_int_int.calls _ _ _ x.f2 a1 false _ ?side1 ?side2 HCt.out).mono ?_); (case side1 => exact Kd.C_below HR2.out (by repeat (first | (with_reducible first | exact HB.out | apply below_alloc | apply pw_below_drewN | apply below_drew1 | refine below_set ?_ GE.out) | exact HB.out))); (case side2 => exact HC2.out); rintro e w' ⟨rfl, ⟨nd, rfl⟩⟩))
              go_ret
              exact ⟨rfl, by repeat (first | (with_reducible first | exact HB.out | apply below_alloc | apply pw_below_drewN | apply below_drew1 | refine below_set ?_ GE.out) | exact HB.out)⟩
            | true =>
              rw [Bool.true_and] at H2
              by_cases d1 : x.f0 < 0
              · have d1b : decide (x.f0 < 0) = true := decide_eq_true d1
                obtain rfl : true = r := by rw [← H2]; simp [d1]
                clear H2 d1
                go_wp2_with (first | ((with_reducible refine gate_dst (N := 9) rfl ?_); (try (refine gate_guard (by rfl) ?_; dsimp only)); refine box_event ?hg (N := 9) ?hd (cs := #[.int .i64 0, .int .i64 0, .slice none 0 0, .slice none 0 0]) (t := 29) ?hr ?_; (case hd => rfl); (case hg => rfl); (case hr => first | (go_simp; done) | (go_simp; rfl)); intro gb hg w25 hbox hb; have n0_ := Aside0.mk (below_step (by repeat (first | (with_reducible first | exact HB.out | apply below_alloc | apply pw_below_drewN | apply below_drew1) | exact HB.out)) hb); have n1_ := Aside0.mk (hbox); have n2_ := Aside0.mk ((by rw [hg]; exact (below_size (by repeat (first | (with_reducible first | exact HB.out | apply below_alloc | apply pw_below_drewN | apply below_drew1) | exact HB.out))) : w.heap.size ≤ gb)); clear HB; have HB := n0_; have BK := n1_; have GE := n2_; clear n0_ n1_ n2_; clear hb hbox hg; have hcz0 : w25.cell? ⟨gb, 0, none⟩ = some (.int .i64 0) := (blk_cell BK.out 0).trans rfl; have hcz1 : w25.cell? ⟨gb, 1, none⟩ = some (.int .i64 0) := (blk_cell BK.out 1).trans rfl; have hcz2 : w25.cell? ⟨gb, 2, none⟩ = some (.slice none 0 0) := (blk_cell BK.out 2).trans rfl; have hcz3 : w25.cell? ⟨gb, 3, none⟩ = some (.slice none 0 0) := (blk_cell BK.out 3).trans rfl; have hfz0 := blk_frozen BK.out 0; have hfz1 := blk_frozen BK.out 1; have hfz2 := blk_frozen BK.out 2; have hfz3 := blk_frozen BK.out 3) | (go_at_call 23; (with_reducible refine (slices_Contains_int_int.calls _ _ _ x.f2 a1 true _ ?side1 ?side2 HCt.out).mono ?_); (case side1 => exact Kd.C_below HR2.out (by repeat (first | (with_reducible first | exact HB.out | apply below_alloc | apply pw_below_drewN | apply below_drew1 | refine below_set ?_ GE.out) | exact HB.out))); (case side2 => exact HC2.out); rintro e w' ⟨rfl, ⟨nd, rfl⟩⟩))
                go_ret
                exact ⟨rfl, by repeat (first | (with_reducible first | exact HB.out | apply below_alloc | apply pw_below_drewN | apply below_drew1 | refine below_set ?_ GE.out) | exact HB.out)⟩
              · have d1b : decide (x.f0 < 0) = false := decide_eq_false d1
                by_cases d2 : x.f0 ≥ (i : Int)
                · have d2b : decide (x.f0 ≥ (i : Int)) = true := decide_eq_true d2
                  obtain rfl : true = r := by rw [← H2]; simp [d2]
                  clear H2 d1 d2
                  go_wp2_with (first | ((with_reducible refine gate_dst (N := 9) rfl ?_); (try (refine gate_guard (by rfl) ?_; dsimp only)); refine box_event ?hg (N := 9) ?hd (cs := #[.int .i64 0, .int .i64 0, .slice none 0 0, .slice none 0 0]) (t := 29) ?hr ?_; (case hd => rfl); (case hg => rfl); (case hr => first | (go_simp; done) | (go_simp; rfl)); intro gb hg w25 hbox hb; have n0_ := Aside0.mk (below_step (by repeat (first | (with_reducible first | exact HB.out | apply below_alloc | apply pw_below_drewN | apply below_drew1) | exact HB.out)) hb); have n1_ := Aside0.mk (hbox); have n2_ := Aside0.mk ((by rw [hg]; exact (below_size (by repeat (first | (with_reducible first | exact HB.out | apply below_alloc | apply pw_below_drewN | apply below_drew1) | exact HB.out))) : w.heap.size ≤ gb)); clear HB; have HB := n0_; have BK := n1_; have GE := n2_; clear n0_ n1_ n2_; clear hb hbox hg; have hcz0 : w25.cell? ⟨gb, 0, none⟩ = some (.int .i64 0) := (blk_cell BK.out 0).trans rfl; have hcz1 : w25.cell? ⟨gb, 1, none⟩ = some (.int .i64 0) := (blk_cell BK.out 1).trans rfl; have hcz2 : w25.cell? ⟨gb, 2, none⟩ = some (.slice none 0 0) := (blk_cell BK.out 2).trans rfl; have hcz3 : w25.cell? ⟨gb, 3, none⟩ = some (.slice none 0 0) := (blk_cell BK.out 3).trans rfl; have hfz0 := blk_frozen BK.out 0; have hfz1 := blk_frozen BK.out 1; have hfz2 := blk_frozen BK.out 2; have hfz3 := blk_frozen BK.out 3) | (go_at_call 23; (with_reducible refine (slices_Contains_int_int.calls _ _ _ x.f2 a1 true _ ?side1 ?side2 HCt.out).mono ?_); (case side1 => exact Kd.C_below HR2.out (by repeat (first | (with_reducible first | exact HB.out | apply below_alloc | apply pw_below_drewN | apply below_drew1 | refine below_set ?_ GE.out) | exact HB.out))); (case side2 => exact HC2.out); rintro e w' ⟨rfl, ⟨nd, rfl⟩⟩))
                  go_ret
                  exact ⟨rfl, by repeat (first | (with_reducible first | exact HB.out | apply below_alloc | apply pw_below_drewN | apply below_drew1 | refine below_set ?_ GE.out) | exact HB.out)⟩
                · have d2b : decide (x.f0 ≥ (i : Int)) = false := decide_eq_false d2
                  have H3 := Aside0.mk (show x.f0.toNat < gk ∧ onPath l0 a1 false gk x.f0.toNat = r from ⟨by have := H1.out; omega, by rw [← H2]; simp [d1, d2]⟩)
                  have H4 := Aside0.mk (show x.f0.toNat < l0.length by omega)
                  have H5 := Aside0.mk (show x.f0 = (x.f0.toNat : Int) by omega)
                  clear H2 d1 d2
                  go_wp2_with (first | ((with_reducible refine gate_dst (N := 9) rfl ?_); (try (refine gate_guard (by rfl) ?_; dsimp only)); refine box_event ?hg (N := 9) ?hd (cs := #[.int .i64 0, .int .i64 0, .slice none 0 0, .slice none 0 0]) (t := 29) ?hr ?_; (case hd => rfl); (case hg => rfl); (case hr => first | (go_simp; done) | (go_simp; rfl)); intro gb hg w25 hbox hb; have n0_ := Aside0.mk (below_step (by repeat (first | (with_reducible first | exact HB.out | apply below_alloc | apply pw_below_drewN | apply below_drew1) | exact HB.out)) hb); have n1_ := Aside0.mk (hbox); have n2_ := Aside0.mk ((by rw [hg]; exact (below_size (by repeat (first | (with_reducible first | exact HB.out | apply below_alloc | apply pw_below_drewN | apply below_drew1) | exact HB.out))) : w.heap.size ≤ gb)); clear HB; have HB := n0_; have BK := n1_; have GE := n2_; clear n0_ n1_ n2_; clear hb hbox hg; have hcz0 : w25.cell? ⟨gb, 0, none⟩ = some (.int .i64 0) := (blk_cell BK.out 0).trans rfl; have hcz1 : w25.cell? ⟨gb, 1, none⟩ = some (.int .i64 0) := (blk_cell BK.out 1).trans rfl; have hcz2 : w25.cell? ⟨gb, 2, none⟩ = some (.slice none 0 0) := (blk_cell BK.out 2).trans rfl; have hcz3 : w25.cell? ⟨gb, 3, none⟩ = some (.slice none 0 0) := (blk_cell BK.out 3).trans rfl; have hfz0 := blk_frozen BK.out 0; have hfz1 := blk_frozen BK.out 1; have hfz2 := blk_frozen BK.out 2; have hfz3 := blk_frozen BK.out 3) | (go_at_call 23; (with_reducible refine (slices_Contains_int_int.calls _ _ _ x.f2 a1 true _ ?side1 ?side2 HCt.out).mono ?_); (case side1 => exact Kd.C_below HR2.out (by repeat (first | (with_reducible first | exact HB.out | apply below_alloc | apply pw_below_drewN | apply below_drew1 | refine below_set ?_ GE.out) | exact HB.out))); (case side2 => exact HC2.out); rintro e w' ⟨rfl, ⟨nd, rfl⟩⟩))
                  go_roundg gk
                  case measure => omega
                  case rel => exact ⟨x.f0.toNat, by rw [← H5.out], H4, H3, ⟨by repeat (first | (with_reducible first | exact HB.out | apply below_alloc | apply pw_below_drewN | apply below_drew1 | refine below_set ?_ GE.out) | exact HB.out)⟩⟩
          | true =>
            rw [if_pos rfl] at H2
            obtain ⟨b, hb⟩ : ∃ b : Bool, b = x.f3.contains a1 := ⟨_, rfl⟩
            have HCt := Aside0.mk ((contains_tells x.f3 a1 N3.out).trans (congrArg some hb.symm))
            rw [← hb] at H2
            clear hb
            cases b with
            | false =>
              obtain rfl : false = r := by rw [← H2]; simp
              clear H2
              go_wp2_with (first | ((with_reducible refine gate_dst (N := 9) rfl ?_); (try (refine gate_guard (by rfl) ?_; dsimp only)); refine box_event ?hg (N := 9) ?hd (cs := #[.int .i64 0, .int .i64 0, .slice none 0 0, .slice none 0 0]) (t := 29) ?hr ?_; (case hd => rfl); (case hg => rfl); (case hr => first | (go_simp; done) | (go_simp; rfl)); intro gb hg w25 hbox hb; have n0_ := Aside0.mk (below_step (by repeat (first | (with_reducible first | exact HB.out | apply below_alloc | apply pw_below_drewN | apply below_drew1) | exact HB.out)) hb); have n1_ := Aside0.mk (hbox); have n2_ := Aside0.mk ((by rw [hg]; exact (below_size (by repeat (first | (with_reducible first | exact HB.out | apply below_alloc | apply pw_below_drewN | apply below_drew1) | exact HB.out))) : w.heap.size ≤ gb)); clear HB; have HB := n0_; have BK := n1_; have GE := n2_; clear n0_ n1_ n2_; clear hb hbox hg; have hcz0 : w25.cell? ⟨gb, 0, none⟩ = some (.int .i64 0) := (blk_cell BK.out 0).trans rfl; have hcz1 : w25.cell? ⟨gb, 1, none⟩ = some (.int .i64 0) := (blk_cell BK.out 1).trans rfl; have hcz2 : w25.cell? ⟨gb, 2, none⟩ = some (.slice none 0 0) := (blk_cell BK.out 2).trans rfl; have hcz3 : w25.cell? ⟨gb, 3, none⟩ = some (.slice none 0 0) := (blk_cell BK.out 3).trans rfl; have hfz0 := blk_frozen BK.out 0; have hfz1 := blk_frozen BK.out 1; have hfz2 := blk_frozen BK.out 2; have hfz3 := blk_frozen BK.out 3) | (go_at_call 23; (with_reducible refine (slices_Contains_int_int.calls _ _ _ x.f3 a1 false _ ?side1 ?side2 HCt.out).mono ?_); (case side1 => exact Kd.C_below HR3.out (by repeat (first | (with_reducible first | exact HB.out | apply below_alloc | apply pw_below_drewN | apply below_drew1 | refine below_set ?_ GE.out) | exact HB.out))); (case side2 => exact HC3.out); rintro e w' ⟨rfl, ⟨nd, rfl⟩⟩))
              go_ret
              exact ⟨rfl, by repeat (first | (with_reducible first | exact HB.out | apply below_alloc | apply pw_below_drewN | apply below_drew1 | refine below_set ?_ GE.out) | exact HB.out)⟩
            | true =>
              rw [Bool.true_and] at H2
              by_cases d1 : x.f0 < 0
              · have d1b : decide (x.f0 < 0) = true := decide_eq_true d1
                obtain rfl : true = r := by rw [← H2]; simp [d1]
                clear H2 d1
                go_wp2_with (first | ((with_reducible refine gate_dst (N := 9) rfl ?_); (try (refine gate_guard (by rfl) ?_; dsimp only)); refine box_event ?hg (N := 9) ?hd (cs := #[.int .i64 0, .int .i64 0, .slice none 0 0, .slice none 0 0]) (t := 29) ?hr ?_; (case hd => rfl); (case hg => rfl); (case hr => first | (go_simp; done) | (go_simp; rfl)); intro gb hg w25 hbox hb; have n0_ := Aside0.mk (below_step (by repeat (first | (with_reducible first | exact HB.out | apply below_alloc | apply pw_below_drewN | apply below_drew1) | exact HB.out)) hb); have n1_ := Aside0.mk (hbox); have n2_ := Aside0.mk ((by rw [hg]; exact (below_size (by repeat (first | (with_reducible first | exact HB.out | apply below_alloc | apply pw_below_drewN | apply below_drew1) | exact HB.out))) : w.heap.size ≤ gb)); clear HB; have HB := n0_; have BK := n1_; have GE := n2_; clear n0_ n1_ n2_; clear hb hbox hg; have hcz0 : w25.cell? ⟨gb, 0, none⟩ = some (.int .i64 0) := (blk_cell BK.out 0).trans rfl; have hcz1 : w25.cell? ⟨gb, 1, none⟩ = some (.int .i64 0) := (blk_cell BK.out 1).trans rfl; have hcz2 : w25.cell? ⟨gb, 2, none⟩ = some (.slice none 0 0) := (blk_cell BK.out 2).trans rfl; have hcz3 : w25.cell? ⟨gb, 3, none⟩ = some (.slice none 0 0) := (blk_cell BK.out 3).trans rfl; have hfz0 := blk_frozen BK.out 0; have hfz1 := blk_frozen BK.out 1; have hfz2 := blk_frozen BK.out 2; have hfz3 := blk_frozen BK.out 3) | (go_at_call 23; (with_reducible refine (slices_Contains_int_int.calls _ _ _ x.f3 a1 true _ ?side1 ?side2 HCt.out).mono ?_); (case side1 => exact Kd.C_below HR3.out (by repeat (first | (with_reducible first | exact HB.out | apply below_alloc | apply pw_below_drewN | apply below_drew1 | refine below_set ?_ GE.out) | exact HB.out))); (case side2 => exact HC3.out); rintro e w' ⟨rfl, ⟨nd, rfl⟩⟩))
                go_ret
                exact ⟨rfl, by repeat (first | (with_reducible first | exact HB.out | apply below_alloc | apply pw_below_drewN | apply below_drew1 | refine below_set ?_ GE.out) | exact HB.out)⟩
              · have d1b : decide (x.f0 < 0) = false := decide_eq_false d1
                by_cases d2 : x.f0 ≥ (i : Int)
                · have d2b : decide (x.f0 ≥ (i : Int)) = true := decide_eq_true d2
                  obtain rfl : true = r := by rw [← H2]; simp [d2]
                  clear H2 d1 d2
                  go_wp2_with (first | ((with_reducible refine gate_dst (N := 9) rfl ?_); (try (refine gate_guard (by rfl) ?_; dsimp only)); refine box_event ?hg (N := 9) ?hd (cs := #[.int .i64 0, .int .i64 0, .slice none 0 0, .slice none 0 0]) (t := 29) ?hr ?_; (case hd => rfl); (case hg => rfl); (case hr => first | (go_simp; done) | (go_simp; rfl)); intro gb hg w25 hbox hb; have n0_ := Aside0.mk (below_step (by repeat (first | (with_reducible first | exact HB.out | apply below_alloc | apply pw_below_drewN | apply below_drew1) | exact HB.out)) hb); have n1_ := Aside0.mk (hbox); have n2_ := Aside0.mk ((by rw [hg]; exact (below_size (by repeat (first | (with_reducible first | exact HB.out | apply below_alloc | apply pw_below_drewN | apply below_drew1) | exact HB.out))) : w.heap.size ≤ gb)); clear HB; have HB := n0_; have BK := n1_; have GE := n2_; clear n0_ n1_ n2_; clear hb hbox hg; have hcz0 : w25.cell? ⟨gb, 0, none⟩ = some (.int .i64 0) := (blk_cell BK.out 0).trans rfl; have hcz1 : w25.cell? ⟨gb, 1, none⟩ = some (.int .i64 0) := (blk_cell BK.out 1).trans rfl; have hcz2 : w25.cell? ⟨gb, 2, none⟩ = some (.slice none 0 0) := (blk_cell BK.out 2).trans rfl; have hcz3 : w25.cell? ⟨gb, 3, none⟩ = some (.slice none 0 0) := (blk_cell BK.out 3).trans rfl; have hfz0 := blk_frozen BK.out 0; have hfz1 := blk_frozen BK.out 1; have hfz2 := blk_frozen BK.out 2; have hfz3 := blk_frozen BK.out 3) | (go_at_call 23; (with_reducible refine (slices_Contains_int_int.calls _ _ _ x.f3 a1 true _ ?side1 ?side2 HCt.out).mono ?_); (case side1 => exact Kd.C_below HR3.out (by repeat (first | (with_reducible first | exact HB.out | apply below_alloc | apply pw_below_drewN | apply below_drew1 | refine below_set ?_ GE.out) | exact HB.out))); (case side2 => exact HC3.out); rintro e w' ⟨rfl, ⟨nd, rfl⟩⟩))
                  go_ret
                  exact ⟨rfl, by repeat (first | (with_reducible first | exact HB.out | apply below_alloc | apply pw_below_drewN | apply below_drew1 | refine below_set ?_ GE.out) | exact HB.out)⟩
                · have d2b : decide (x.f0 ≥ (i : Int)) = false := decide_eq_false d2
                  have H3 := Aside0.mk (show x.f0.toNat < gk ∧ onPath l0 a1 true gk x.f0.toNat = r from ⟨by have := H1.out; omega, by rw [← H2]; simp [d1, d2]⟩)
                  have H4 := Aside0.mk (show x.f0.toNat < l0.length by omega)
                  have H5 := Aside0.mk (show x.f0 = (x.f0.toNat : Int) by omega)
                  clear H2 d1 d2
                  go_wp2_with (first | ((with_reducible refine gate_dst (N := 9) rfl ?_); (try (refine gate_guard (by rfl) ?_; dsimp only)); refine box_event ?hg (N := 9) ?hd (cs := #[.int .i64 0, .int .i64 0, .slice none 0 0, .slice none 0 0]) (t := 29) ?hr ?_; (case hd => rfl); (case hg => rfl); (case hr => first | (go_simp; done) | (go_simp; rfl)); intro gb hg w25 hbox hb; have n0_ := Aside0.mk (below_step (by repeat (first | (with_reducible first | exact HB.out | apply below_alloc | apply pw_below_drewN | apply below_drew1) | exact HB.out)) hb); have n1_ := Aside0.mk (hbox); have n2_ := Aside0.mk ((by rw [hg]; exact (below_size (by repeat (first | (with_reducible first | exact HB.out | apply below_alloc | apply pw_below_drewN | apply below_drew1) | exact HB.out))) : w.heap.size ≤ gb)); clear HB; have HB := n0_; have BK := n1_; have GE := n2_; clear n0_ n1_ n2_; clear hb hbox hg; have hcz0 : w25.cell? ⟨gb, 0, none⟩ = some (.int .i64 0) := (blk_cell BK.out 0).trans rfl; have hcz1 : w25.cell? ⟨gb, 1, none⟩ = some (.int .i64 0) := (blk_cell BK.out 1).trans rfl; have hcz2 : w25.cell? ⟨gb, 2, none⟩ = some (.slice none 0 0) := (blk_cell BK.out 2).trans rfl; have hcz3 : w25.cell? ⟨gb, 3, none⟩ = some (.slice none 0 0) := (blk_cell BK.out 3).trans rfl; have hfz0 := blk_frozen BK.out 0; have hfz1 := blk_frozen BK.out 1; have hfz2 := blk_frozen BK.out 2; have hfz3 := blk_frozen BK.out 3) | (go_at_call 23; (with_reducible refine (slices_Contains_int_int.calls _ _ _ x.f3 a1 true _ ?side1 ?side2 HCt.out).mono ?_); (case side1 => exact Kd.C_below HR3.out (by repeat (first | (with_reducible first | exact HB.out | apply below_alloc | apply pw_below_drewN | apply below_drew1 | refine below_set ?_ GE.out) | exact HB.out))); (case side2 => exact HC3.out); rintro e w' ⟨rfl, ⟨nd, rfl⟩⟩))
                  go_roundg gk
                  case measure => omega
                  case rel => exact ⟨x.f0.toNat, by rw [← H5.out], H4, H3, ⟨by repeat (first | (with_reducible first | exact HB.out | apply below_alloc | apply pw_below_drewN | apply below_drew1 | refine below_set ?_ GE.out) | exact HB.out)⟩⟩
    · have c2b0 : decide ((l0.length : Int) ≤ a2) = true := decide_eq_true (by omega)
      have c1b0 : decide (a2 < 0) = false := decide_eq_false (by omega)
      obtain rfl : false = r := by rw [← H]; simp [c2]
      clear H c1 c2
      go_enter Try.func13, Try.ntmps13
      go_wp2
      go_ret
      exact ⟨rfl, HB.out⟩
  · have c1b0 : decide (a2 < 0) = true := decide_eq_true (by omega)
    obtain rfl : false = r := by rw [← H]; simp [c1]
    clear H c1
    go_enter Try.func13, Try.ntmps13
    go_wp2
    go_ret
    exact ⟨rfl, HB.out⟩

/-! ### chancellaw03_RightsChildren: function 4 -/
mutual
def chancellaw03_RightsChildren.j0 : Nat → List (S29) → Int → Bool → Bool → Option (Bool)
  | 0, _, _, _, _ => none
  | k + 1, x0, x1, x2, x15 => if x15 = true then (some false) else ((chancelref03_Right.f k x0 8).bind fun t134 => (if t134 = true then (chancellaw03_RightsChildren.l0 k x0 x1 x2 x0 (x0.length : Int) 0) else (some true)))
def chancellaw03_RightsChildren.l0 : Nat → List (S29) → Int → Bool → List (S29) → Int → Int → Option (Bool)
  | 0, _, _, _, _, _, _ => none
  | k + 1, x0, x1, x2, x19, x20, x21 => if x21 < x20 then (if 0 ≤ x21 then (if x21 < (x19.length : Int) then ((rights_May.f x0 x1 x21 x2).bind fun t137 => (if t137 = true then (if ((rd_T29 x19 x21).f0) ≥ 0 then ((rights_May.f x0 x1 ((rd_T29 x19 x21).f0) x2).bind fun t138 => (if t138 = true then (chancellaw03_RightsChildren.l0 k x0 x1 x2 x19 x20 (wrap64 (x21 + 1))) else (some false))) else (chancellaw03_RightsChildren.l0 k x0 x1 x2 x19 x20 (wrap64 (x21 + 1)))) else (chancellaw03_RightsChildren.l0 k x0 x1 x2 x19 x20 (wrap64 (x21 + 1))))) else (none)) else (none)) else (some true)
end
def chancellaw03_RightsChildren.f (k : Nat) (l0 : List (S29)) (a1 : Int) (a2 : Bool) : Option (Bool) := (chancellaw03_two.f).bind fun t126 => ((rights_May.f t126 0 1 false).bind fun t129 => (if t129 = true then ((chancellaw03_two.f).bind fun t130 => ((rights_May.f t130 2 1 false).bind fun t133 => (chancellaw03_RightsChildren.j0 k l0 a1 a2 t133))) else (chancellaw03_RightsChildren.j0 k l0 a1 a2 true)))
theorem chancellaw03_RightsChildren.mono_l : ∀ k, (∀ y0 y1 y2 y3, LeO (chancellaw03_RightsChildren.j0 k y0 y1 y2 y3) (chancellaw03_RightsChildren.j0 (k + 1) y0 y1 y2 y3)) ∧ (∀ y0 y1 y2 y3 y4 y5, LeO (chancellaw03_RightsChildren.l0 k y0 y1 y2 y3 y4 y5) (chancellaw03_RightsChildren.l0 (k + 1) y0 y1 y2 y3 y4 y5))
  | 0 => ⟨fun _ _ _ _ r h => by simp [chancellaw03_RightsChildren.j0] at h, fun _ _ _ _ _ _ r h => by simp [chancellaw03_RightsChildren.l0] at h⟩
  | k + 1 => by
    obtain ⟨ih0, ih1⟩ := chancellaw03_RightsChildren.mono_l k
    refine ⟨?_, ?_⟩
    · intro y0 y1 y2 y3
      unfold chancellaw03_RightsChildren.j0
      repeat' first
      | (with_reducible exact ih0 _ _ _ _)
      | (with_reducible exact ih1 _ _ _ _ _ _)
      | (with_reducible exact chancelref03_Right.mono _ _ _)
      | (with_reducible exact LeO.refl _)
      | (with_reducible exact LeO.none _)
      | (with_reducible refine LeO.ite ?_ ?_)
      | (with_reducible refine LeO.bind ?_ (fun _ => ?_))
      | exact ih0 _ _ _ _
      | exact ih1 _ _ _ _ _ _
      | exact chancelref03_Right.mono _ _ _
      | exact LeO.none _
      | refine LeO.ite ?_ ?_
      | refine LeO.bind ?_ (fun _ => ?_)
    · intro y0 y1 y2 y3 y4 y5
      unfold chancellaw03_RightsChildren.l0
      repeat' first
      | (with_reducible exact ih0 _ _ _ _)
      | (with_reducible exact ih1 _ _ _ _ _ _)
      | (with_reducible exact chancelref03_Right.mono _ _ _)
      | (with_reducible exact LeO.refl _)
      | (with_reducible exact LeO.none _)
      | (with_reducible refine LeO.ite ?_ ?_)
      | (with_reducible refine LeO.bind ?_ (fun _ => ?_))
      | exact ih0 _ _ _ _
      | exact ih1 _ _ _ _ _ _
      | exact chancelref03_Right.mono _ _ _
      | exact LeO.none _
      | refine LeO.ite ?_ ?_
      | refine LeO.bind ?_ (fun _ => ?_)
theorem chancellaw03_RightsChildren.mono : ∀ a0 a1 a2 k, LeO (chancellaw03_RightsChildren.f k a0 a1 a2) (chancellaw03_RightsChildren.f (k + 1) a0 a1 a2) := by
  intro a0 a1 a2 k
  obtain ⟨ih0, ih1⟩ := chancellaw03_RightsChildren.mono_l k
  unfold chancellaw03_RightsChildren.f
  repeat' first
      | (with_reducible exact ih0 _ _ _ _)
      | (with_reducible exact ih1 _ _ _ _ _ _)
      | (with_reducible exact chancelref03_Right.mono _ _ _)
      | (with_reducible exact LeO.refl _)
      | (with_reducible exact LeO.none _)
      | (with_reducible refine LeO.ite ?_ ?_)
      | (with_reducible refine LeO.bind ?_ (fun _ => ?_))
      | exact ih0 _ _ _ _
      | exact ih1 _ _ _ _ _ _
      | exact chancelref03_Right.mono _ _ _
      | exact LeO.none _
      | refine LeO.ite ?_ ?_
      | refine LeO.bind ?_ (fun _ => ?_)
set_option maxHeartbeats 8000000 in
set_option maxRecDepth 100000 in
theorem chancellaw03_RightsChildren.calls (k : Nat) (A0 : Option Addr) (c0 : Nat) (l0 : List (S29)) (a1 : Int) (a2 : Bool) (r : Bool) (w : World) (hr0 : Kd.C k29 w A0 l0.length l0) (hc0 : l0.length ≤ c0) (h : chancellaw03_RightsChildren.f k l0 a1 a2 = some r) :
    Calls Try.prog 4 #[.slice A0 l0.length c0, .int .i64 a1, .bool a2] w fun e w' => e = .returned (.bool r) ∧ Below w.heap.size w w' := by
  have hu29 := Try.underlying29
  have HR0 := Aside0.mk hr0
  have HC0 := Aside0.mk hc0
  clear hr0 hc0
  have HB := Aside0.mk (Below.refl w.heap.size w)
  have H : ((chancellaw03_two.f).bind fun t126 => ((rights_May.f t126 0 1 false).bind fun t129 => (if t129 = true then ((chancellaw03_two.f).bind fun t130 => ((rights_May.f t130 2 1 false).bind fun t133 => (chancellaw03_RightsChildren.j0 k l0 a1 a2 t133))) else (chancellaw03_RightsChildren.j0 k l0 a1 a2 true)))) = some r := h
  clear h
  have HC4 := Aside0.mk H
  clear H
  go_enter Try.func4, Try.ntmps4
  go_upto_region 1 with (fail)
  go_cut [15] (fun v15 wc => ∃ (kq : Nat) (x15_3 : Bool), v15 = .bool x15_3 ∧ Aside0 (chancellaw03_RightsChildren.j0 kq l0 a1 a2 x15_3 = some r) ∧ Aside0 (kq ≤ k) ∧ Aside0 (Below w.heap.size w wc))
  case first =>
    have H := HC4.out
    clear HC4
    replace H := Option.bind_eq_some_iff.mp H
    obtain ⟨t126, A50, H⟩ := H
    replace H : ((rights_May.f t126 0 1 false).bind fun t129 => (if t129 = true then ((chancellaw03_two.f).bind fun t130 => ((rights_May.f t130 2 1 false).bind fun t133 => (chancellaw03_RightsChildren.j0 k l0 a1 a2 t133))) else (chancellaw03_RightsChildren.j0 k l0 a1 a2 true))) = some r := H
    have A5 := Aside0.mk A50
    clear A50
    replace H := Option.bind_eq_some_iff.mp H
    obtain ⟨t129, A60, H⟩ := H
    replace H : (if t129 = true then ((chancellaw03_two.f).bind fun t130 => ((rights_May.f t130 2 1 false).bind fun t133 => (chancellaw03_RightsChildren.j0 k l0 a1 a2 t133))) else (chancellaw03_RightsChildren.j0 k l0 a1 a2 true)) = some r := H
    have A6 := Aside0.mk A60
    clear A60
    by_cases c7 : t129 = true
    · subst c7
      have H1 : ((chancellaw03_two.f).bind fun t130 => ((rights_May.f t130 2 1 false).bind fun t133 => (chancellaw03_RightsChildren.j0 k l0 a1 a2 t133))) = some r := by rw [if_pos rfl] at H; exact H
      clear H
      have H := H1
      clear H1
      replace H := Option.bind_eq_some_iff.mp H
      obtain ⟨t130, A80, H⟩ := H
      replace H : ((rights_May.f t130 2 1 false).bind fun t133 => (chancellaw03_RightsChildren.j0 k l0 a1 a2 t133)) = some r := H
      have A8 := Aside0.mk A80
      clear A80
      replace H := Option.bind_eq_some_iff.mp H
      obtain ⟨t133, A90, H⟩ := H
      replace H : (chancellaw03_RightsChildren.j0 k l0 a1 a2 t133) = some r := H
      have A9 := Aside0.mk A90
      clear A90
      have H' := Aside0.mk H
      clear H
      go_wp2_with (first | ((with_reducible refine gate_callee (f := 10) rfl ?_); refine goesL_ (some 9) rfl rfl Try.func10 (by kernel_rfl) rfl #[] rfl (by (try simp only [List.map_toArray, List.map_cons, List.map_nil]); first | done | rfl | (simp only [List.length_drop, List.length_take]; rfl)) ?_; (with_reducible refine (chancellaw03_two.calls  t126 _ A5.out).mono ?_); rintro e w10 ⟨v127, rfl, ho0, hb⟩; refine ⟨_, rfl, ?_⟩; have n0_ := Aside0.mk (Kd.N_lower (Kd.N_mono (ok' := fun k_ => True) ho0 (fun k_ hk_ => trivial)) (below_size (by repeat (first | (with_reducible first | exact HB.out | apply below_alloc | apply pw_below_drewN | apply below_drew1) | exact HB.out)))); have n1_ := Aside0.mk (below_step (by repeat (first | (with_reducible first | exact HB.out | apply below_alloc | apply pw_below_drewN | apply below_drew1) | exact HB.out)) hb); clear HB; have HO128 := n0_; have HB := n1_; clear n0_ n1_; (try clear hb); (try clear hb2); (try clear hk); (try clear hi); (try clear ho0); obtain ⟨Ao11, co11, eo11⟩ := Kd.N_slice HO128.out; subst eo11) | ((with_reducible refine gate_callee (f := 13) rfl ?_); refine goesL_ (some 10) rfl rfl Try.func13 (by kernel_rfl) rfl #[.slice Ao11 t126.length co11, .int .i64 0, .int .i64 1, .bool false] rfl (by (try simp only [List.map_toArray, List.map_cons, List.map_nil]); first | done | rfl | (simp only [List.length_drop, List.length_take]; rfl)) ?_; (with_reducible refine (rights_May.calls _ _ t126 0 1 false true _ ?side1 ?side2 A6.out).mono ?_); (case side1 => repeat (first | exact (Kd.N_reads' HO128.out).2.2 | (with_reducible refine Kd.C_alloc ?_ _) | (with_reducible refine Kd.C_drewN ?_ _) | (with_reducible refine Kd.C_drew ?_))); (case side2 => exact (Kd.N_reads' HO128.out).2.1); rintro e w12 ⟨rfl, hb⟩; refine ⟨_, rfl, ?_⟩; have n0_ := Aside0.mk (Kd.N_below (by (with_reducible repeat (first | apply Kd.N_alloc | apply Kd.N_drewN | apply Kd.N_drew)); exact HO128.out) hb); have n1_ := Aside0.mk (below_step (by repeat (first | (with_reducible first | exact HB.out | apply below_alloc | apply pw_below_drewN | apply below_drew1) | exact HB.out)) hb); clear HO128; clear HB; have HO128 := n0_; have HB := n1_; clear n0_ n1_; (try clear hb); (try clear hb2); (try clear hk); (try clear hi)) | (go_at_call 10; (with_reducible refine (chancellaw03_two.calls  t130 _ A8.out).mono ?_); rintro e w13 ⟨v131, rfl, ho0, hb⟩; have n0_ := Aside0.mk (Kd.N_elder' (by (with_reducible repeat (first | apply Kd.N_alloc | apply Kd.N_drewN | apply Kd.N_drew)); exact HO128.out) (Kd.N_base ho0) hb); have n1_ := Aside0.mk (Kd.N_lower (Kd.N_mono (ok' := fun k_ => some k_ ≠ (.slice Ao11 t126.length co11 : Value).ownBlock) ho0 (fun k_ hk_ => (Kd.fresh' (Kd.N_lt (by (with_reducible repeat (first | apply Kd.N_alloc | apply Kd.N_drewN | apply Kd.N_drew)); exact HO128.out)) k_ hk_))) (below_size (by repeat (first | (with_reducible first | exact HB.out | apply below_alloc | apply pw_below_drewN | apply below_drew1) | exact HB.out)))); have n2_ := Aside0.mk (below_step (by repeat (first | (with_reducible first | exact HB.out | apply below_alloc | apply pw_below_drewN | apply below_drew1) | exact HB.out)) hb); clear HO128; clear HB; have HO128 := n0_; have HO132 := n1_; have HB := n2_; clear n0_ n1_ n2_; (try clear hb); (try clear hb2); (try clear hk); (try clear hi); (try clear ho0); obtain ⟨Ao14, co14, eo14⟩ := Kd.N_slice HO132.out; subst eo14) | (go_at_call 13; (with_reducible refine (rights_May.calls _ _ t130 2 1 false t133 _ ?side1 ?side2 A9.out).mono ?_); (case side1 => repeat (first | exact (Kd.N_reads' HO132.out).2.2 | (with_reducible refine Kd.C_alloc ?_ _) | (with_reducible refine Kd.C_drewN ?_ _) | (with_reducible refine Kd.C_drew ?_))); (case side2 => exact (Kd.N_reads' HO132.out).2.1); rintro e w15 ⟨rfl, hb⟩; have n0_ := Aside0.mk (Kd.N_below (by (with_reducible repeat (first | apply Kd.N_alloc | apply Kd.N_drewN | apply Kd.N_drew)); exact HO128.out) hb); have n1_ := Aside0.mk (Kd.N_below (by (with_reducible repeat (first | apply Kd.N_alloc | apply Kd.N_drewN | apply Kd.N_drew)); exact HO132.out) hb); have n2_ := Aside0.mk (below_step (by repeat (first | (with_reducible first | exact HB.out | apply below_alloc | apply pw_below_drewN | apply below_drew1) | exact HB.out)) hb); clear HO128; clear HO132; clear HB; have HO128 := n0_; have HO132 := n1_; have HB := n2_; clear n0_ n1_ n2_; (try clear hb); (try clear hb2); (try clear hk); (try clear hi)))
      go_meet
      case rel => exact ⟨_, (t133), (by first | rfl | (simp; done) | (simp [*]; done)), H', ⟨by first | omega | exact Nat.le_refl _⟩, ⟨by repeat (first | (with_reducible first | exact HB.out | apply below_alloc | apply pw_below_drewN | apply below_drew1) | exact HB.out)⟩⟩
    · replace c7 := Bool.eq_false_iff.mpr c7
      subst c7
      have H1 : (chancellaw03_RightsChildren.j0 k l0 a1 a2 true) = some r := by rw [if_neg (show ¬ (false = true) by decide)] at H; exact H
      clear H
      have H := H1
      clear H1
      have H' := Aside0.mk H
      clear H
      go_wp2_with (first | ((with_reducible refine gate_callee (f := 10) rfl ?_); refine goesL_ (some 9) rfl rfl Try.func10 (by kernel_rfl) rfl #[] rfl (by (try simp only [List.map_toArray, List.map_cons, List.map_nil]); first | done | rfl | (simp only [List.length_drop, List.length_take]; rfl)) ?_; (with_reducible refine (chancellaw03_two.calls  t126 _ A5.out).mono ?_); rintro e w16 ⟨v127, rfl, ho0, hb⟩; refine ⟨_, rfl, ?_⟩; have n0_ := Aside0.mk (Kd.N_lower (Kd.N_mono (ok' := fun k_ => True) ho0 (fun k_ hk_ => trivial)) (below_size (by repeat (first | (with_reducible first | exact HB.out | apply below_alloc | apply pw_below_drewN | apply below_drew1) | exact HB.out)))); have n1_ := Aside0.mk (below_step (by repeat (first | (with_reducible first | exact HB.out | apply below_alloc | apply pw_below_drewN | apply below_drew1) | exact HB.out)) hb); clear HB; have HO128 := n0_; have HB := n1_; clear n0_ n1_; (try clear hb); (try clear hb2); (try clear hk); (try clear hi); (try clear ho0); obtain ⟨Ao17, co17, eo17⟩ := Kd.N_slice HO128.out; subst eo17) | ((with_reducible refine gate_callee (f := 13) rfl ?_); refine goesL_ (some 10) rfl rfl Try.func13 (by kernel_rfl) rfl #[.slice Ao17 t126.length co17, .int .i64 0, .int .i64 1, .bool false] rfl (by (try simp only [List.map_toArray, List.map_cons, List.map_nil]); first | done | rfl | (simp only [List.length_drop, List.length_take]; rfl)) ?_; (with_reducible refine (rights_May.calls _ _ t126 0 1 false false _ ?side1 ?side2 A6.out).mono ?_); (case side1 => repeat (first | exact (Kd.N_reads' HO128.out).2.2 | (with_reducible refine Kd.C_alloc ?_ _) | (with_reducible refine Kd.C_drewN ?_ _) | (with_reducible refine Kd.C_drew ?_))); (case side2 => exact (Kd.N_reads' HO128.out).2.1); rintro e w18 ⟨rfl, hb⟩; refine ⟨_, rfl, ?_⟩; have n0_ := Aside0.mk (Kd.N_below (by (with_reducible repeat (first | apply Kd.N_alloc | apply Kd.N_drewN | apply Kd.N_drew)); exact HO128.out) hb); have n1_ := Aside0.mk (below_step (by repeat (first | (with_reducible first | exact HB.out | apply below_alloc | apply pw_below_drewN | apply below_drew1) | exact HB.out)) hb); clear HO128; clear HB; have HO128 := n0_; have HB := n1_; clear n0_ n1_; (try clear hb); (try clear hb2); (try clear hk); (try clear hi)))
      go_meet
      case rel => exact ⟨_, (true), (by first | rfl | (simp; done) | (simp [*]; done)), H', ⟨by first | omega | exact Nat.le_refl _⟩, ⟨by repeat (first | (with_reducible first | exact HB.out | apply below_alloc | apply pw_below_drewN | apply below_drew1) | exact HB.out)⟩⟩
  case rest =>
    clear HC4
    try clear c1
    try clear p2
    try clear c4
    try clear c7
    try clear c10
    try clear c13
    obtain ⟨kq, x15_3, rfl, HA, HJ3, HB⟩ := hcut
    cases kq with
    | zero => exact absurd HA.out (by simp [chancellaw03_RightsChildren.j0])
    | succ kj3 =>
      have H := HA.out
      clear HA
      simp only [chancellaw03_RightsChildren.j0] at H
      by_cases c19 : x15_3 = true
      · subst c19
        have H1 : (some false) = some r := by rw [if_pos rfl] at H; exact H
        clear H
        have H := H1
        clear H1
        obtain rfl := Option.some.inj H
        go_wp2
        go_ret
        exact ⟨by first | rfl | (simp [errW_none, errW_some] <;> rfl) | (simp [*, errW_none, errW_some] <;> rfl), by repeat (first | (with_reducible first | exact HB.out | apply below_alloc | apply pw_below_drewN | apply below_drew1) | exact HB.out)⟩
      · replace c19 := Bool.eq_false_iff.mpr c19
        subst c19
        have H1 : ((chancelref03_Right.f kj3 l0 8).bind fun t134 => (if t134 = true then (chancellaw03_RightsChildren.l0 kj3 l0 a1 a2 l0 (l0.length : Int) 0) else (some true))) = some r := by rw [if_neg (show ¬ (false = true) by decide)] at H; exact H
        clear H
        have H := H1
        clear H1
        replace H := Option.bind_eq_some_iff.mp H
        obtain ⟨t134, A200, H⟩ := H
        replace H : (if t134 = true then (chancellaw03_RightsChildren.l0 kj3 l0 a1 a2 l0 (l0.length : Int) 0) else (some true)) = some r := H
        have A20 := Aside0.mk A200
        clear A200
        by_cases c21 : t134 = true
        · subst c21
          have H1 : (chancellaw03_RightsChildren.l0 kj3 l0 a1 a2 l0 (l0.length : Int) 0) = some r := by rw [if_pos rfl] at H; exact H
          clear H
          have H := H1
          clear H1
          have H' := Aside0.mk H
          clear H
          go_wp2_with (first | ((with_reducible refine gate_callee (f := 12) rfl ?_); refine goesL_ (some 17) rfl rfl Try.func12 (by kernel_rfl) rfl #[.slice A0 l0.length c0, .int .i64 8] rfl (by (try simp only [List.map_toArray, List.map_cons, List.map_nil]); first | done | rfl | (simp only [List.length_drop, List.length_take]; rfl)) ?_; (with_reducible refine (chancelref03_Right.calls kj3 _ _ l0 8 true _ ?side1 ?side2 A20.out).mono ?_); (case side1 => repeat (first | exact (Kd.C_below HR0.out HB.out) | (with_reducible refine Kd.C_alloc ?_ _) | (with_reducible refine Kd.C_drewN ?_ _) | (with_reducible refine Kd.C_drew ?_))); (case side2 => exact HC0.out); rintro e w22 ⟨rfl, hb⟩; refine ⟨_, rfl, ?_⟩; have n0_ := Aside0.mk (below_step (by repeat (first | (with_reducible first | exact HB.out | apply below_alloc | apply pw_below_drewN | apply below_drew1) | exact HB.out)) hb); clear HB; have HB := n0_; clear n0_; (try clear hb); (try clear hb2); (try clear hk); (try clear hi)))
          go_loopg [21] kj3 (fun kq v21 w' => ∃ (x21_2 : Int), v21 = .int .i64 x21_2 ∧ Aside0 (chancellaw03_RightsChildren.l0 kq l0 a1 a2 l0 (l0.length : Int) x21_2 = some r) ∧ Aside0 (kq ≤ kj3) ∧ Aside0 (Below w.heap.size w w'))
          case atStart => exact ⟨(0), (by first | rfl | (simp; done) | (simp [*]; done)), H', ⟨Nat.le_refl _⟩, ⟨by repeat (first | (with_reducible first | exact HB.out | apply below_alloc | apply pw_below_drewN | apply below_drew1) | exact HB.out)⟩⟩
          case round =>
            clear H'
            try clear c1
            try clear c2
            try clear p2
            try clear c4
            try clear c7
            try clear c10
            try clear c12
            try clear c13
            try clear c19
            try clear c21
            try clear p2
            obtain ⟨x21_2, rfl, HA, HK2, HB⟩ := hrel
            cases gk with
            | zero => exact absurd HA.out (by simp [chancellaw03_RightsChildren.l0])
            | succ k2 =>
              have H := HA.out
              clear HA
              simp only [chancellaw03_RightsChildren.l0] at H
              by_cases c23 : x21_2 < (l0.length : Int)
              · rw [if_pos c23] at H
                have c23b0 : decide (x21_2 < (l0.length : Int)) = true := decide_eq_true c23
                clear c23
                by_cases c24 : 0 ≤ x21_2
                · rw [if_pos c24] at H
                  have c24b0 : decide (0 ≤ x21_2) = true := decide_eq_true c24
                  clear c24
                  by_cases c25 : x21_2 < (l0.length : Int)
                  · rw [if_pos c25] at H
                    have c25b0 : decide (x21_2 < (l0.length : Int)) = true := decide_eq_true c25
                    clear c25
                    replace H := Option.bind_eq_some_iff.mp H
                    obtain ⟨t137, A260, H⟩ := H
                    replace H : (if t137 = true then (if ((rd_T29 l0 x21_2).f0) ≥ 0 then ((rights_May.f l0 a1 ((rd_T29 l0 x21_2).f0) a2).bind fun t138 => (if t138 = true then (chancellaw03_RightsChildren.l0 k2 l0 a1 a2 l0 (l0.length : Int) (wrap64 (x21_2 + 1))) else (some false))) else (chancellaw03_RightsChildren.l0 k2 l0 a1 a2 l0 (l0.length : Int) (wrap64 (x21_2 + 1)))) else (chancellaw03_RightsChildren.l0 k2 l0 a1 a2 l0 (l0.length : Int) (wrap64 (x21_2 + 1)))) = some r := H
                    have A26 := Aside0.mk A260
                    clear A260
                    by_cases c27 : t137 = true
                    · subst c27
                      have H1 : (if ((rd_T29 l0 x21_2).f0) ≥ 0 then ((rights_May.f l0 a1 ((rd_T29 l0 x21_2).f0) a2).bind fun t138 => (if t138 = true then (chancellaw03_RightsChildren.l0 k2 l0 a1 a2 l0 (l0.length : Int) (wrap64 (x21_2 + 1))) else (some false))) else (chancellaw03_RightsChildren.l0 k2 l0 a1 a2 l0 (l0.length : Int) (wrap64 (x21_2 + 1)))) = some r := by rw [if_pos rfl] at H; exact H
                      clear H
                      have H := H1
                      clear H1
                      by_cases c28 : ((rd_T29 l0 x21_2).f0) ≥ 0
                      · rw [if_pos c28] at H
                        have c28b0 : decide (0 ≤ ((rd_T29 l0 x21_2).f0)) = true := decide_eq_true c28
                        clear c28
                        replace H := Option.bind_eq_some_iff.mp H
                        obtain ⟨t138, A290, H⟩ := H
                        replace H : (if t138 = true then (chancellaw03_RightsChildren.l0 k2 l0 a1 a2 l0 (l0.length : Int) (wrap64 (x21_2 + 1))) else (some false)) = some r := H
                        have A29 := Aside0.mk A290
                        clear A290
                        by_cases c30 : t138 = true
                        · subst c30
                          have H1 : (chancellaw03_RightsChildren.l0 k2 l0 a1 a2 l0 (l0.length : Int) (wrap64 (x21_2 + 1))) = some r := by rw [if_pos rfl] at H; exact H
                          clear H
                          have H := H1
                          clear H1
                          have H' := Aside0.mk H
                          clear H
                          have p135 : 0 ≤ (x21_2 : Int) := of_decide_eq_true (by first | (with_reducible assumption) | assumption)
                          have q135 : x21_2 < (l0.length : Int) := of_decide_eq_true (by first | (with_reducible assumption) | assumption)
                          obtain ⟨ad135, A135_2, c135_2, A135_3, c135_3, e135, hx135_0, hx135_1, hx135_2, hx135_3, hl135_2, hi135_2, hl135_3, hi135_3⟩ := at_T29 HR0.out x21_2 p135 q135
                          cases e135
                          replace hx135_0 := (HB.out.cell (World.block_lt_of_cell? w _ hx135_0)).trans hx135_0
                          replace hx135_1 := (HB.out.cell (World.block_lt_of_cell? w _ hx135_1)).trans hx135_1
                          replace hx135_2 := (HB.out.cell (World.block_lt_of_cell? w _ hx135_2)).trans hx135_2
                          replace hx135_3 := (HB.out.cell (World.block_lt_of_cell? w _ hx135_3)).trans hx135_3
                          have HR135_2 := Aside0.mk hi135_2
                          have HC135_2 := Aside0.mk hl135_2
                          clear hi135_2 hl135_2
                          have HR135_3 := Aside0.mk hi135_3
                          have HC135_3 := Aside0.mk hl135_3
                          clear hi135_3 hl135_3
                          replace p135 := eq_true p135
                          replace q135 := eq_true q135
                          go_wp2_with (first | ((with_reducible refine gate_dst (N := 8) rfl ?_); refine box_event ?hg (N := 8) ?hd (cs := #[.int .i64 0, .int .i64 0, .slice none 0 0, .slice none 0 0]) (t := 29) ?hr ?_; (case hd => rfl); (case hg => rfl); (case hr => first | (go_simp; done) | (go_simp; rfl)); intro gb136 hg w31 hbox hb; have n0_ := Aside0.mk (below_step (by repeat (first | (with_reducible first | exact HB.out | apply below_alloc | apply pw_below_drewN | apply below_drew1) | exact HB.out)) hb); have n1_ := Aside0.mk (hbox); have n2_ := Aside0.mk ((by rw [hg]; exact (below_size (by repeat (first | (with_reducible first | exact HB.out | apply below_alloc | apply pw_below_drewN | apply below_drew1) | exact HB.out))) : w.heap.size ≤ gb136)); have n3_ := Aside0.mk ((by rw [hg]; exact (below_size (by repeat (first | (with_reducible first | exact HB.out | apply below_alloc | apply pw_below_drewN | apply below_drew1) | exact HB.out))) : w.heap.size ≤ gb136)); clear HB; have HB := n0_; have BK136 := n1_; have GW136 := n2_; have GE136 := n3_; clear n0_ n1_ n2_ n3_; clear hb hbox hg; have hcz32_0 : w31.cell? ⟨gb136, 0, none⟩ = some (.int .i64 0) := (blk_cell BK136.out 0).trans rfl; have hcz32_1 : w31.cell? ⟨gb136, 1, none⟩ = some (.int .i64 0) := (blk_cell BK136.out 1).trans rfl; have hcz32_2 : w31.cell? ⟨gb136, 2, none⟩ = some (.slice none 0 0) := (blk_cell BK136.out 2).trans rfl; have hcz32_3 : w31.cell? ⟨gb136, 3, none⟩ = some (.slice none 0 0) := (blk_cell BK136.out 3).trans rfl; have hfz32_0 := blk_frozen BK136.out 0; have hfz32_1 := blk_frozen BK136.out 1; have hfz32_2 := blk_frozen BK136.out 2; have hfz32_3 := blk_frozen BK136.out 3) | ((with_reducible refine gate_callee (f := 13) rfl ?_); refine goesL_ (some 30) rfl rfl Try.func13 (by kernel_rfl) rfl #[.slice (some ad135) l0.length c0, .int .i64 a1, .int .i64 x21_2, .bool a2] rfl (by (try simp only [List.map_toArray, List.map_cons, List.map_nil]); first | done | rfl | (simp only [List.length_drop, List.length_take]; rfl)) ?_; (with_reducible refine (rights_May.calls _ _ l0 a1 x21_2 a2 true _ ?side1 ?side2 A26.out).mono ?_); (case side1 => exact Kd.C_below HR0.out (by repeat (first | (with_reducible first | exact HB.out | apply below_alloc | apply pw_below_drewN | apply below_drew1 | refine below_set ?_ GE136.out) | exact HB.out))); (case side2 => exact HC0.out); rintro e w33 ⟨rfl, hb⟩; refine ⟨_, rfl, ?_⟩; have n0_ := Aside0.mk (blk_below (g := gb136) (o := .cells #[.int .i64 ((rd_T29 l0 x21_2).f0), .int .i64 ((rd_T29 l0 x21_2).f1), .slice A135_2 ((rd_T29 l0 x21_2).f2).length c135_2, .slice A135_3 ((rd_T29 l0 x21_2).f3).length c135_3] 29 (0, 0)) (by (with_reducible repeat (first | refine blk_drewN ?_ _ | refine blk_drew ?_ | refine blk_alloc ?_ _)); refine blk_put (cs := #[.int .i64 ((rd_T29 l0 x21_2).f0), .int .i64 ((rd_T29 l0 x21_2).f1), .slice A135_2 ((rd_T29 l0 x21_2).f2).length c135_2, .slice none 0 0]) ?_ 3 _ rfl; (with_reducible repeat (first | refine blk_drewN ?_ _ | refine blk_drew ?_ | refine blk_alloc ?_ _)); refine blk_put (cs := #[.int .i64 ((rd_T29 l0 x21_2).f0), .int .i64 ((rd_T29 l0 x21_2).f1), .slice none 0 0, .slice none 0 0]) ?_ 2 _ rfl; (with_reducible repeat (first | refine blk_drewN ?_ _ | refine blk_drew ?_ | refine blk_alloc ?_ _)); refine blk_put (cs := #[.int .i64 ((rd_T29 l0 x21_2).f0), .int .i64 0, .slice none 0 0, .slice none 0 0]) ?_ 1 _ rfl; (with_reducible repeat (first | refine blk_drewN ?_ _ | refine blk_drew ?_ | refine blk_alloc ?_ _)); refine blk_put (cs := #[.int .i64 0, .int .i64 0, .slice none 0 0, .slice none 0 0]) ?_ 0 _ rfl; (with_reducible repeat (first | refine blk_drewN ?_ _ | refine blk_drew ?_ | refine blk_alloc ?_ _)); exact BK136.out) hb); have n1_ := Aside0.mk (below_step (by repeat (first | (with_reducible first | exact HB.out | apply below_alloc | apply pw_below_drewN | apply below_drew1 | refine below_set ?_ GE136.out) | exact HB.out)) hb); clear BK136; clear HB; have BK136 := n0_; have HB := n1_; clear n0_ n1_; (try clear hb); (try clear hb2); (try clear hk); (try clear hi); have hcz34_0 : w33.cell? ⟨gb136, 0, none⟩ = some (.int .i64 ((rd_T29 l0 x21_2).f0)) := (blk_cell BK136.out 0).trans rfl; have hcz34_1 : w33.cell? ⟨gb136, 1, none⟩ = some (.int .i64 ((rd_T29 l0 x21_2).f1)) := (blk_cell BK136.out 1).trans rfl; have hcz34_2 : w33.cell? ⟨gb136, 2, none⟩ = some (.slice A135_2 ((rd_T29 l0 x21_2).f2).length c135_2) := (blk_cell BK136.out 2).trans rfl; have hcz34_3 : w33.cell? ⟨gb136, 3, none⟩ = some (.slice A135_3 ((rd_T29 l0 x21_2).f3).length c135_3) := (blk_cell BK136.out 3).trans rfl; have hfz34_0 := blk_frozen BK136.out 0; have hfz34_1 := blk_frozen BK136.out 1; have hfz34_2 := blk_frozen BK136.out 2; have hfz34_3 := blk_frozen BK136.out 3) | (go_at_call 13; (with_reducible refine (rights_May.calls _ _ l0 a1 ((rd_T29 l0 x21_2).f0) a2 true _ ?side1 ?side2 A29.out).mono ?_); (case side1 => repeat (first | exact (Kd.C_below HR0.out HB.out) | (with_reducible refine Kd.C_alloc ?_ _) | (with_reducible refine Kd.C_drewN ?_ _) | (with_reducible refine Kd.C_drew ?_))); (case side2 => exact HC0.out); rintro e w35 ⟨rfl, hb⟩; have n0_ := Aside0.mk (blk_below (g := gb136) (o := .cells #[.int .i64 ((rd_T29 l0 x21_2).f0), .int .i64 ((rd_T29 l0 x21_2).f1), .slice A135_2 ((rd_T29 l0 x21_2).f2).length c135_2, .slice A135_3 ((rd_T29 l0 x21_2).f3).length c135_3] 29 (0, 0)) (by (with_reducible repeat (first | refine blk_drewN ?_ _ | refine blk_drew ?_ | refine blk_alloc ?_ _)); exact BK136.out) hb); have n1_ := Aside0.mk (below_step (by repeat (first | (with_reducible first | exact HB.out | apply below_alloc | apply pw_below_drewN | apply below_drew1 | refine below_set ?_ GE136.out) | exact HB.out)) hb); clear BK136; clear HB; have BK136 := n0_; have HB := n1_; clear n0_ n1_; (try clear hb); (try clear hb2); (try clear hk); (try clear hi)))
                          go_roundg k2
                          case measure => have := HJ3.out; have := HK2.out; omega
                          case rel => exact ⟨(wrap64 (x21_2 + 1)), (by first | rfl | (simp; done) | (simp [*]; done)), H', ⟨by have := HJ3.out; have := HK2.out; omega⟩, ⟨by repeat (first | (with_reducible first | exact HB.out | apply below_alloc | apply pw_below_drewN | apply below_drew1 | refine below_set ?_ GE136.out) | exact HB.out)⟩⟩
                        · replace c30 := Bool.eq_false_iff.mpr c30
                          subst c30
                          have H1 : (some false) = some r := by rw [if_neg (show ¬ (false = true) by decide)] at H; exact H
                          clear H
                          have H := H1
                          clear H1
                          obtain rfl := Option.some.inj H
                          have p135 : 0 ≤ (x21_2 : Int) := of_decide_eq_true (by first | (with_reducible assumption) | assumption)
                          have q135 : x21_2 < (l0.length : Int) := of_decide_eq_true (by first | (with_reducible assumption) | assumption)
                          obtain ⟨ad135, A135_2, c135_2, A135_3, c135_3, e135, hx135_0, hx135_1, hx135_2, hx135_3, hl135_2, hi135_2, hl135_3, hi135_3⟩ := at_T29 HR0.out x21_2 p135 q135
                          cases e135
                          replace hx135_0 := (HB.out.cell (World.block_lt_of_cell? w _ hx135_0)).trans hx135_0
                          replace hx135_1 := (HB.out.cell (World.block_lt_of_cell? w _ hx135_1)).trans hx135_1
                          replace hx135_2 := (HB.out.cell (World.block_lt_of_cell? w _ hx135_2)).trans hx135_2
                          replace hx135_3 := (HB.out.cell (World.block_lt_of_cell? w _ hx135_3)).trans hx135_3
                          have HR135_2 := Aside0.mk hi135_2
                          have HC135_2 := Aside0.mk hl135_2
                          clear hi135_2 hl135_2
                          have HR135_3 := Aside0.mk hi135_3
                          have HC135_3 := Aside0.mk hl135_3
                          clear hi135_3 hl135_3
                          replace p135 := eq_true p135
                          replace q135 := eq_true q135
                          go_wp2_with (first | ((with_reducible refine gate_dst (N := 8) rfl ?_); refine box_event ?hg (N := 8) ?hd (cs := #[.int .i64 0, .int .i64 0, .slice none 0 0, .slice none 0 0]) (t := 29) ?hr ?_; (case hd => rfl); (case hg => rfl); (case hr => first | (go_simp; done) | (go_simp; rfl)); intro gb136 hg w36 hbox hb; have n0_ := Aside0.mk (below_step (by repeat (first | (with_reducible first | exact HB.out | apply below_alloc | apply pw_below_drewN | apply below_drew1) | exact HB.out)) hb); have n1_ := Aside0.mk (hbox); have n2_ := Aside0.mk ((by rw [hg]; exact (below_size (by repeat (first | (with_reducible first | exact HB.out | apply below_alloc | apply pw_below_drewN | apply below_drew1) | exact HB.out))) : w.heap.size ≤ gb136)); have n3_ := Aside0.mk ((by rw [hg]; exact (below_size (by repeat (first | (with_reducible first | exact HB.out | apply below_alloc | apply pw_below_drewN | apply below_drew1) | exact HB.out))) : w.heap.size ≤ gb136)); clear HB; have HB := n0_; have BK136 := n1_; have GW136 := n2_; have GE136 := n3_; clear n0_ n1_ n2_ n3_; clear hb hbox hg; have hcz37_0 : w36.cell? ⟨gb136, 0, none⟩ = some (.int .i64 0) := (blk_cell BK136.out 0).trans rfl; have hcz37_1 : w36.cell? ⟨gb136, 1, none⟩ = some (.int .i64 0) := (blk_cell BK136.out 1).trans rfl; have hcz37_2 : w36.cell? ⟨gb136, 2, none⟩ = some (.slice none 0 0) := (blk_cell BK136.out 2).trans rfl; have hcz37_3 : w36.cell? ⟨gb136, 3, none⟩ = some (.slice none 0 0) := (blk_cell BK136.out 3).trans rfl; have hfz37_0 := blk_frozen BK136.out 0; have hfz37_1 := blk_frozen BK136.out 1; have hfz37_2 := blk_frozen BK136.out 2; have hfz37_3 := blk_frozen BK136.out 3) | ((with_reducible refine gate_callee (f := 13) rfl ?_); refine goesL_ (some 30) rfl rfl Try.func13 (by kernel_rfl) rfl #[.slice (some ad135) l0.length c0, .int .i64 a1, .int .i64 x21_2, .bool a2] rfl (by (try simp only [List.map_toArray, List.map_cons, List.map_nil]); first | done | rfl | (simp only [List.length_drop, List.length_take]; rfl)) ?_; (with_reducible refine (rights_May.calls _ _ l0 a1 x21_2 a2 true _ ?side1 ?side2 A26.out).mono ?_); (case side1 => exact Kd.C_below HR0.out (by repeat (first | (with_reducible first | exact HB.out | apply below_alloc | apply pw_below_drewN | apply below_drew1 | refine below_set ?_ GE136.out) | exact HB.out))); (case side2 => exact HC0.out); rintro e w38 ⟨rfl, hb⟩; refine ⟨_, rfl, ?_⟩; have n0_ := Aside0.mk (blk_below (g := gb136) (o := .cells #[.int .i64 ((rd_T29 l0 x21_2).f0), .int .i64 ((rd_T29 l0 x21_2).f1), .slice A135_2 ((rd_T29 l0 x21_2).f2).length c135_2, .slice A135_3 ((rd_T29 l0 x21_2).f3).length c135_3] 29 (0, 0)) (by (with_reducible repeat (first | refine blk_drewN ?_ _ | refine blk_drew ?_ | refine blk_alloc ?_ _)); refine blk_put (cs := #[.int .i64 ((rd_T29 l0 x21_2).f0), .int .i64 ((rd_T29 l0 x21_2).f1), .slice A135_2 ((rd_T29 l0 x21_2).f2).length c135_2, .slice none 0 0]) ?_ 3 _ rfl; (with_reducible repeat (first | refine blk_drewN ?_ _ | refine blk_drew ?_ | refine blk_alloc ?_ _)); refine blk_put (cs := #[.int .i64 ((rd_T29 l0 x21_2).f0), .int .i64 ((rd_T29 l0 x21_2).f1), .slice none 0 0, .slice none 0 0]) ?_ 2 _ rfl; (with_reducible repeat (first | refine blk_drewN ?_ _ | refine blk_drew ?_ | refine blk_alloc ?_ _)); refine blk_put (cs := #[.int .i64 ((rd_T29 l0 x21_2).f0), .int .i64 0, .slice none 0 0, .slice none 0 0]) ?_ 1 _ rfl; (with_reducible repeat (first | refine blk_drewN ?_ _ | refine blk_drew ?_ | refine blk_alloc ?_ _)); refine blk_put (cs := #[.int .i64 0, .int .i64 0, .slice none 0 0, .slice none 0 0]) ?_ 0 _ rfl; (with_reducible repeat (first | refine blk_drewN ?_ _ | refine blk_drew ?_ | refine blk_alloc ?_ _)); exact BK136.out) hb); have n1_ := Aside0.mk (below_step (by repeat (first | (with_reducible first | exact HB.out | apply below_alloc | apply pw_below_drewN | apply below_drew1 | refine below_set ?_ GE136.out) | exact HB.out)) hb); clear BK136; clear HB; have BK136 := n0_; have HB := n1_; clear n0_ n1_; (try clear hb); (try clear hb2); (try clear hk); (try clear hi); have hcz39_0 : w38.cell? ⟨gb136, 0, none⟩ = some (.int .i64 ((rd_T29 l0 x21_2).f0)) := (blk_cell BK136.out 0).trans rfl; have hcz39_1 : w38.cell? ⟨gb136, 1, none⟩ = some (.int .i64 ((rd_T29 l0 x21_2).f1)) := (blk_cell BK136.out 1).trans rfl; have hcz39_2 : w38.cell? ⟨gb136, 2, none⟩ = some (.slice A135_2 ((rd_T29 l0 x21_2).f2).length c135_2) := (blk_cell BK136.out 2).trans rfl; have hcz39_3 : w38.cell? ⟨gb136, 3, none⟩ = some (.slice A135_3 ((rd_T29 l0 x21_2).f3).length c135_3) := (blk_cell BK136.out 3).trans rfl; have hfz39_0 := blk_frozen BK136.out 0; have hfz39_1 := blk_frozen BK136.out 1; have hfz39_2 := blk_frozen BK136.out 2; have hfz39_3 := blk_frozen BK136.out 3) | (go_at_call 13; (with_reducible refine (rights_May.calls _ _ l0 a1 ((rd_T29 l0 x21_2).f0) a2 false _ ?side1 ?side2 A29.out).mono ?_); (case side1 => repeat (first | exact (Kd.C_below HR0.out HB.out) | (with_reducible refine Kd.C_alloc ?_ _) | (with_reducible refine Kd.C_drewN ?_ _) | (with_reducible refine Kd.C_drew ?_))); (case side2 => exact HC0.out); rintro e w40 ⟨rfl, hb⟩; have n0_ := Aside0.mk (blk_below (g := gb136) (o := .cells #[.int .i64 ((rd_T29 l0 x21_2).f0), .int .i64 ((rd_T29 l0 x21_2).f1), .slice A135_2 ((rd_T29 l0 x21_2).f2).length c135_2, .slice A135_3 ((rd_T29 l0 x21_2).f3).length c135_3] 29 (0, 0)) (by (with_reducible repeat (first | refine blk_drewN ?_ _ | refine blk_drew ?_ | refine blk_alloc ?_ _)); exact BK136.out) hb); have n1_ := Aside0.mk (below_step (by repeat (first | (with_reducible first | exact HB.out | apply below_alloc | apply pw_below_drewN | apply below_drew1 | refine below_set ?_ GE136.out) | exact HB.out)) hb); clear BK136; clear HB; have BK136 := n0_; have HB := n1_; clear n0_ n1_; (try clear hb); (try clear hb2); (try clear hk); (try clear hi)))
                          go_ret
                          exact ⟨by first | rfl | (simp [errW_none, errW_some] <;> rfl) | (simp [*, errW_none, errW_some] <;> rfl), by repeat (first | (with_reducible first | exact HB.out | apply below_alloc | apply pw_below_drewN | apply below_drew1 | refine below_set ?_ GE136.out) | exact HB.out)⟩
                      · rw [if_neg c28] at H
                        have c28b0 : decide (0 ≤ ((rd_T29 l0 x21_2).f0)) = false := decide_eq_false c28
                        clear c28
                        have H' := Aside0.mk H
                        clear H
                        have p135 : 0 ≤ (x21_2 : Int) := of_decide_eq_true (by first | (with_reducible assumption) | assumption)
                        have q135 : x21_2 < (l0.length : Int) := of_decide_eq_true (by first | (with_reducible assumption) | assumption)
                        obtain ⟨ad135, A135_2, c135_2, A135_3, c135_3, e135, hx135_0, hx135_1, hx135_2, hx135_3, hl135_2, hi135_2, hl135_3, hi135_3⟩ := at_T29 HR0.out x21_2 p135 q135
                        cases e135
                        replace hx135_0 := (HB.out.cell (World.block_lt_of_cell? w _ hx135_0)).trans hx135_0
                        replace hx135_1 := (HB.out.cell (World.block_lt_of_cell? w _ hx135_1)).trans hx135_1
                        replace hx135_2 := (HB.out.cell (World.block_lt_of_cell? w _ hx135_2)).trans hx135_2
                        replace hx135_3 := (HB.out.cell (World.block_lt_of_cell? w _ hx135_3)).trans hx135_3
                        have HR135_2 := Aside0.mk hi135_2
                        have HC135_2 := Aside0.mk hl135_2
                        clear hi135_2 hl135_2
                        have HR135_3 := Aside0.mk hi135_3
                        have HC135_3 := Aside0.mk hl135_3
                        clear hi135_3 hl135_3
                        replace p135 := eq_true p135
                        replace q135 := eq_true q135
                        go_wp2_with (first | ((with_reducible refine gate_dst (N := 8) rfl ?_); refine box_event ?hg (N := 8) ?hd (cs := #[.int .i64 0, .int .i64 0, .slice none 0 0, .slice none 0 0]) (t := 29) ?hr ?_; (case hd => rfl); (case hg => rfl); (case hr => first | (go_simp; done) | (go_simp; rfl)); intro gb136 hg w41 hbox hb; have n0_ := Aside0.mk (below_step (by repeat (first | (with_reducible first | exact HB.out | apply below_alloc | apply pw_below_drewN | apply below_drew1) | exact HB.out)) hb); have n1_ := Aside0.mk (hbox); have n2_ := Aside0.mk ((by rw [hg]; exact (below_size (by repeat (first | (with_reducible first | exact HB.out | apply below_alloc | apply pw_below_drewN | apply below_drew1) | exact HB.out))) : w.heap.size ≤ gb136)); have n3_ := Aside0.mk ((by rw [hg]; exact (below_size (by repeat (first | (with_reducible first | exact HB.out | apply below_alloc | apply pw_below_drewN | apply below_drew1) | exact HB.out))) : w.heap.size ≤ gb136)); clear HB; have HB := n0_; have BK136 := n1_; have GW136 := n2_; have GE136 := n3_; clear n0_ n1_ n2_ n3_; clear hb hbox hg; have hcz42_0 : w41.cell? ⟨gb136, 0, none⟩ = some (.int .i64 0) := (blk_cell BK136.out 0).trans rfl; have hcz42_1 : w41.cell? ⟨gb136, 1, none⟩ = some (.int .i64 0) := (blk_cell BK136.out 1).trans rfl; have hcz42_2 : w41.cell? ⟨gb136, 2, none⟩ = some (.slice none 0 0) := (blk_cell BK136.out 2).trans rfl; have hcz42_3 : w41.cell? ⟨gb136, 3, none⟩ = some (.slice none 0 0) := (blk_cell BK136.out 3).trans rfl; have hfz42_0 := blk_frozen BK136.out 0; have hfz42_1 := blk_frozen BK136.out 1; have hfz42_2 := blk_frozen BK136.out 2; have hfz42_3 := blk_frozen BK136.out 3) | ((with_reducible refine gate_callee (f := 13) rfl ?_); refine goesL_ (some 30) rfl rfl Try.func13 (by kernel_rfl) rfl #[.slice (some ad135) l0.length c0, .int .i64 a1, .int .i64 x21_2, .bool a2] rfl (by (try simp only [List.map_toArray, List.map_cons, List.map_nil]); first | done | rfl | (simp only [List.length_drop, List.length_take]; rfl)) ?_; (with_reducible refine (rights_May.calls _ _ l0 a1 x21_2 a2 true _ ?side1 ?side2 A26.out).mono ?_); (case side1 => exact Kd.C_below HR0.out (by repeat (first | (with_reducible first | exact HB.out | apply below_alloc | apply pw_below_drewN | apply below_drew1 | refine below_set ?_ GE136.out) | exact HB.out))); (case side2 => exact HC0.out); rintro e w43 ⟨rfl, hb⟩; refine ⟨_, rfl, ?_⟩; have n0_ := Aside0.mk (blk_below (g := gb136) (o := .cells #[.int .i64 ((rd_T29 l0 x21_2).f0), .int .i64 ((rd_T29 l0 x21_2).f1), .slice A135_2 ((rd_T29 l0 x21_2).f2).length c135_2, .slice A135_3 ((rd_T29 l0 x21_2).f3).length c135_3] 29 (0, 0)) (by (with_reducible repeat (first | refine blk_drewN ?_ _ | refine blk_drew ?_ | refine blk_alloc ?_ _)); refine blk_put (cs := #[.int .i64 ((rd_T29 l0 x21_2).f0), .int .i64 ((rd_T29 l0 x21_2).f1), .slice A135_2 ((rd_T29 l0 x21_2).f2).length c135_2, .slice none 0 0]) ?_ 3 _ rfl; (with_reducible repeat (first | refine blk_drewN ?_ _ | refine blk_drew ?_ | refine blk_alloc ?_ _)); refine blk_put (cs := #[.int .i64 ((rd_T29 l0 x21_2).f0), .int .i64 ((rd_T29 l0 x21_2).f1), .slice none 0 0, .slice none 0 0]) ?_ 2 _ rfl; (with_reducible repeat (first | refine blk_drewN ?_ _ | refine blk_drew ?_ | refine blk_alloc ?_ _)); refine blk_put (cs := #[.int .i64 ((rd_T29 l0 x21_2).f0), .int .i64 0, .slice none 0 0, .slice none 0 0]) ?_ 1 _ rfl; (with_reducible repeat (first | refine blk_drewN ?_ _ | refine blk_drew ?_ | refine blk_alloc ?_ _)); refine blk_put (cs := #[.int .i64 0, .int .i64 0, .slice none 0 0, .slice none 0 0]) ?_ 0 _ rfl; (with_reducible repeat (first | refine blk_drewN ?_ _ | refine blk_drew ?_ | refine blk_alloc ?_ _)); exact BK136.out) hb); have n1_ := Aside0.mk (below_step (by repeat (first | (with_reducible first | exact HB.out | apply below_alloc | apply pw_below_drewN | apply below_drew1 | refine below_set ?_ GE136.out) | exact HB.out)) hb); clear BK136; clear HB; have BK136 := n0_; have HB := n1_; clear n0_ n1_; (try clear hb); (try clear hb2); (try clear hk); (try clear hi); have hcz44_0 : w43.cell? ⟨gb136, 0, none⟩ = some (.int .i64 ((rd_T29 l0 x21_2).f0)) := (blk_cell BK136.out 0).trans rfl; have hcz44_1 : w43.cell? ⟨gb136, 1, none⟩ = some (.int .i64 ((rd_T29 l0 x21_2).f1)) := (blk_cell BK136.out 1).trans rfl; have hcz44_2 : w43.cell? ⟨gb136, 2, none⟩ = some (.slice A135_2 ((rd_T29 l0 x21_2).f2).length c135_2) := (blk_cell BK136.out 2).trans rfl; have hcz44_3 : w43.cell? ⟨gb136, 3, none⟩ = some (.slice A135_3 ((rd_T29 l0 x21_2).f3).length c135_3) := (blk_cell BK136.out 3).trans rfl; have hfz44_0 := blk_frozen BK136.out 0; have hfz44_1 := blk_frozen BK136.out 1; have hfz44_2 := blk_frozen BK136.out 2; have hfz44_3 := blk_frozen BK136.out 3))
                        go_roundg k2
                        case measure => have := HJ3.out; have := HK2.out; omega
                        case rel => exact ⟨(wrap64 (x21_2 + 1)), (by first | rfl | (simp; done) | (simp [*]; done)), H', ⟨by have := HJ3.out; have := HK2.out; omega⟩, ⟨by repeat (first | (with_reducible first | exact HB.out | apply below_alloc | apply pw_below_drewN | apply below_drew1 | refine below_set ?_ GE136.out) | exact HB.out)⟩⟩
                    · replace c27 := Bool.eq_false_iff.mpr c27
                      subst c27
                      have H1 : (chancellaw03_RightsChildren.l0 k2 l0 a1 a2 l0 (l0.length : Int) (wrap64 (x21_2 + 1))) = some r := by rw [if_neg (show ¬ (false = true) by decide)] at H; exact H
                      clear H
                      have H := H1
                      clear H1
                      have H' := Aside0.mk H
                      clear H
                      have p135 : 0 ≤ (x21_2 : Int) := of_decide_eq_true (by first | (with_reducible assumption) | assumption)
                      have q135 : x21_2 < (l0.length : Int) := of_decide_eq_true (by first | (with_reducible assumption) | assumption)
                      obtain ⟨ad135, A135_2, c135_2, A135_3, c135_3, e135, hx135_0, hx135_1, hx135_2, hx135_3, hl135_2, hi135_2, hl135_3, hi135_3⟩ := at_T29 HR0.out x21_2 p135 q135
                      cases e135
                      replace hx135_0 := (HB.out.cell (World.block_lt_of_cell? w _ hx135_0)).trans hx135_0
                      replace hx135_1 := (HB.out.cell (World.block_lt_of_cell? w _ hx135_1)).trans hx135_1
                      replace hx135_2 := (HB.out.cell (World.block_lt_of_cell? w _ hx135_2)).trans hx135_2
                      replace hx135_3 := (HB.out.cell (World.block_lt_of_cell? w _ hx135_3)).trans hx135_3
                      have HR135_2 := Aside0.mk hi135_2
                      have HC135_2 := Aside0.mk hl135_2
                      clear hi135_2 hl135_2
                      have HR135_3 := Aside0.mk hi135_3
                      have HC135_3 := Aside0.mk hl135_3
                      clear hi135_3 hl135_3
                      replace p135 := eq_true p135
                      replace q135 := eq_true q135
                      go_wp2_with (first | ((with_reducible refine gate_dst (N := 8) rfl ?_); refine box_event ?hg (N := 8) ?hd (cs := #[.int .i64 0, .int .i64 0, .slice none 0 0, .slice none 0 0]) (t := 29) ?hr ?_; (case hd => rfl); (case hg => rfl); (case hr => first | (go_simp; done) | (go_simp; rfl)); intro gb136 hg w45 hbox hb; have n0_ := Aside0.mk (below_step (by repeat (first | (with_reducible first | exact HB.out | apply below_alloc | apply pw_below_drewN | apply below_drew1) | exact HB.out)) hb); have n1_ := Aside0.mk (hbox); have n2_ := Aside0.mk ((by rw [hg]; exact (below_size (by repeat (first | (with_reducible first | exact HB.out | apply below_alloc | apply pw_below_drewN | apply below_drew1) | exact HB.out))) : w.heap.size ≤ gb136)); have n3_ := Aside0.mk ((by rw [hg]; exact (below_size (by repeat (first | (with_reducible first | exact HB.out | apply below_alloc | apply pw_below_drewN | apply below_drew1) | exact HB.out))) : w.heap.size ≤ gb136)); clear HB; have HB := n0_; have BK136 := n1_; have GW136 := n2_; have GE136 := n3_; clear n0_ n1_ n2_ n3_; clear hb hbox hg; have hcz46_0 : w45.cell? ⟨gb136, 0, none⟩ = some (.int .i64 0) := (blk_cell BK136.out 0).trans rfl; have hcz46_1 : w45.cell? ⟨gb136, 1, none⟩ = some (.int .i64 0) := (blk_cell BK136.out 1).trans rfl; have hcz46_2 : w45.cell? ⟨gb136, 2, none⟩ = some (.slice none 0 0) := (blk_cell BK136.out 2).trans rfl; have hcz46_3 : w45.cell? ⟨gb136, 3, none⟩ = some (.slice none 0 0) := (blk_cell BK136.out 3).trans rfl; have hfz46_0 := blk_frozen BK136.out 0; have hfz46_1 := blk_frozen BK136.out 1; have hfz46_2 := blk_frozen BK136.out 2; have hfz46_3 := blk_frozen BK136.out 3) | ((with_reducible refine gate_callee (f := 13) rfl ?_); refine goesL_ (some 30) rfl rfl Try.func13 (by kernel_rfl) rfl #[.slice (some ad135) l0.length c0, .int .i64 a1, .int .i64 x21_2, .bool a2] rfl (by (try simp only [List.map_toArray, List.map_cons, List.map_nil]); first | done | rfl | (simp only [List.length_drop, List.length_take]; rfl)) ?_; (with_reducible refine (rights_May.calls _ _ l0 a1 x21_2 a2 false _ ?side1 ?side2 A26.out).mono ?_); (case side1 => exact Kd.C_below HR0.out (by repeat (first | (with_reducible first | exact HB.out | apply below_alloc | apply pw_below_drewN | apply below_drew1 | refine below_set ?_ GE136.out) | exact HB.out))); (case side2 => exact HC0.out); rintro e w47 ⟨rfl, hb⟩; refine ⟨_, rfl, ?_⟩; have n0_ := Aside0.mk (blk_below (g := gb136) (o := .cells #[.int .i64 ((rd_T29 l0 x21_2).f0), .int .i64 ((rd_T29 l0 x21_2).f1), .slice A135_2 ((rd_T29 l0 x21_2).f2).length c135_2, .slice A135_3 ((rd_T29 l0 x21_2).f3).length c135_3] 29 (0, 0)) (by (with_reducible repeat (first | refine blk_drewN ?_ _ | refine blk_drew ?_ | refine blk_alloc ?_ _)); refine blk_put (cs := #[.int .i64 ((rd_T29 l0 x21_2).f0), .int .i64 ((rd_T29 l0 x21_2).f1), .slice A135_2 ((rd_T29 l0 x21_2).f2).length c135_2, .slice none 0 0]) ?_ 3 _ rfl; (with_reducible repeat (first | refine blk_drewN ?_ _ | refine blk_drew ?_ | refine blk_alloc ?_ _)); refine blk_put (cs := #[.int .i64 ((rd_T29 l0 x21_2).f0), .int .i64 ((rd_T29 l0 x21_2).f1), .slice none 0 0, .slice none 0 0]) ?_ 2 _ rfl; (with_reducible repeat (first | refine blk_drewN ?_ _ | refine blk_drew ?_ | refine blk_alloc ?_ _)); refine blk_put (cs := #[.int .i64 ((rd_T29 l0 x21_2).f0), .int .i64 0, .slice none 0 0, .slice none 0 0]) ?_ 1 _ rfl; (with_reducible repeat (first | refine blk_drewN ?_ _ | refine blk_drew ?_ | refine blk_alloc ?_ _)); refine blk_put (cs := #[.int .i64 0, .int .i64 0, .slice none 0 0, .slice none 0 0]) ?_ 0 _ rfl; (with_reducible repeat (first | refine blk_drewN ?_ _ | refine blk_drew ?_ | refine blk_alloc ?_ _)); exact BK136.out) hb); have n1_ := Aside0.mk (below_step (by repeat (first | (with_reducible first | exact HB.out | apply below_alloc | apply pw_below_drewN | apply below_drew1 | refine below_set ?_ GE136.out) | exact HB.out)) hb); clear BK136; clear HB; have BK136 := n0_; have HB := n1_; clear n0_ n1_; (try clear hb); (try clear hb2); (try clear hk); (try clear hi)))
                      go_roundg k2
                      case measure => have := HJ3.out; have := HK2.out; omega
                      case rel => exact ⟨(wrap64 (x21_2 + 1)), (by first | rfl | (simp; done) | (simp [*]; done)), H', ⟨by have := HJ3.out; have := HK2.out; omega⟩, ⟨by repeat (first | (with_reducible first | exact HB.out | apply below_alloc | apply pw_below_drewN | apply below_drew1 | refine below_set ?_ GE136.out) | exact HB.out)⟩⟩
                  · rw [if_neg c25] at H
                    exact absurd H (by simp)
                · rw [if_neg c24] at H
                  exact absurd H (by simp)
              · rw [if_neg c23] at H
                have c23b0 : decide (x21_2 < (l0.length : Int)) = false := decide_eq_false c23
                clear c23
                obtain rfl := Option.some.inj H
                go_wp2
                go_ret
                exact ⟨by first | rfl | (simp [errW_none, errW_some] <;> rfl) | (simp [*, errW_none, errW_some] <;> rfl), by repeat (first | (with_reducible first | exact HB.out | apply below_alloc | apply pw_below_drewN | apply below_drew1) | exact HB.out)⟩
        · replace c21 := Bool.eq_false_iff.mpr c21
          subst c21
          have H1 : (some true) = some r := by rw [if_neg (show ¬ (false = true) by decide)] at H; exact H
          clear H
          have H := H1
          clear H1
          obtain rfl := Option.some.inj H
          go_wp2_with (first | ((with_reducible refine gate_callee (f := 12) rfl ?_); refine goesL_ (some 17) rfl rfl Try.func12 (by kernel_rfl) rfl #[.slice A0 l0.length c0, .int .i64 8] rfl (by (try simp only [List.map_toArray, List.map_cons, List.map_nil]); first | done | rfl | (simp only [List.length_drop, List.length_take]; rfl)) ?_; (with_reducible refine (chancelref03_Right.calls kj3 _ _ l0 8 false _ ?side1 ?side2 A20.out).mono ?_); (case side1 => repeat (first | exact (Kd.C_below HR0.out HB.out) | (with_reducible refine Kd.C_alloc ?_ _) | (with_reducible refine Kd.C_drewN ?_ _) | (with_reducible refine Kd.C_drew ?_))); (case side2 => exact HC0.out); rintro e w48 ⟨rfl, hb⟩; refine ⟨_, rfl, ?_⟩; have n0_ := Aside0.mk (below_step (by repeat (first | (with_reducible first | exact HB.out | apply below_alloc | apply pw_below_drewN | apply below_drew1) | exact HB.out)) hb); clear HB; have HB := n0_; clear n0_; (try clear hb); (try clear hb2); (try clear hk); (try clear hi)))
          go_ret
          exact ⟨by first | rfl | (simp [errW_none, errW_some] <;> rfl) | (simp [*, errW_none, errW_some] <;> rfl), by repeat (first | (with_reducible first | exact HB.out | apply below_alloc | apply pw_below_drewN | apply below_drew1) | exact HB.out)⟩

/-- THE ONE PURE STATEMENT of chancellaw03_RightsChildren: yours. -/
def chancellaw03_RightsChildren.Pure : Prop := ∀ (l0 : List (S29)) (a1 : Int) (a2 : Bool), (fun l : List (S29) => l.length ≤ maxLen ∧ ∀ a ∈ l, (fun b : S29 => (fun n : Int => (Lit.int .i64 n).wf = true) b.f0 ∧ (fun n : Int => (Lit.int .i64 n).wf = true) b.f1 ∧ (fun l : List Int => l.length ≤ maxLen ∧ ∀ a ∈ l, (fun n : Int => (Lit.int .i64 n).wf = true) a) b.f2 ∧ (fun l : List Int => l.length ≤ maxLen ∧ ∀ a ∈ l, (fun n : Int => (Lit.int .i64 n).wf = true) a) b.f3) a) l0 → (Lit.int .i64 a1).wf = true → ∃ k, chancellaw03_RightsChildren.f k l0 a1 a2 = some true
theorem chancellaw03_RightsChildren.walk (P : chancellaw03_RightsChildren.Pure)  (a1 : Int) (a2 : Bool) (w : World) (w1 : (Lit.int .i64 a1).wf = true) (A0 : Option Addr) (c0 : Nat) (l0 : List (S29)) (hr0 : Kd.C k29 w A0 l0.length l0) (hc0 : l0.length ≤ c0) (g0_0 : (fun l : List (S29) => l.length ≤ maxLen ∧ ∀ a ∈ l, (fun b : S29 => (fun n : Int => (Lit.int .i64 n).wf = true) b.f0 ∧ (fun n : Int => (Lit.int .i64 n).wf = true) b.f1 ∧ (fun l : List Int => l.length ≤ maxLen ∧ ∀ a ∈ l, (fun n : Int => (Lit.int .i64 n).wf = true) a) b.f2 ∧ (fun l : List Int => l.length ≤ maxLen ∧ ∀ a ∈ l, (fun n : Int => (Lit.int .i64 n).wf = true) a) b.f3) a) l0) :
    Calls Try.prog 4 #[.slice A0 l0.length c0, .int .i64 a1, .bool a2] w fun e w' => e = .returned (.bool true) ∧ Below w.heap.size w w' := by
  obtain ⟨k, h⟩ := P l0 a1 a2 g0_0 w1
  refine (chancellaw03_RightsChildren.calls k A0 c0 l0 a1 a2 true w hr0 hc0 h).mono ?_
  rintro e w' ⟨rfl, hd⟩
  exact ⟨rfl, hd⟩

end Go.Proofs.Ytgjlnjjgpddcnaa.ARightsChildren
