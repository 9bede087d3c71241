/- What the functions that the law AuditSees reaches compute, and the row of the law (printed by a program of this session). -/
import Derived.Test.YtmidclhdnjbbjaaAAuditSeesx0
import Derived.Test.YtmidclhdnjbbjaaAAuditSeesx3
namespace Go.Proofs.Ytmidclhdnjbbjaa.AAuditSees
open Go.RowKit Go.Proofs.YtmidclhdnjbbjaaW.PrintWords Go.Proofs.YtmidclhdnjbbjaaW.PrintLast Go.Proofs.YtmidclhdnjbbjaaW.PrintMore
attribute [local go_sem] max2_int min2_int max_two min_two max_three min_three max_four min_four   -- for this text's walks alone
set_option linter.unusedVariables false
set_option linter.unusedSimpArgs false

/-! ### chancelref09_Page: function 16 -/
mutual
def chancelref09_Page.l0 : Nat → List (S46) → Int → List (S25) → Int → Int → List (S25) → Int → Option ((List (S25)))
  | 0, _, _, _, _, _, _, _ => none
  | k + 1, x0, x1, x2, x3, x4, x11, x12 => if x12 < (x2.length : Int) then (if 0 ≤ x12 then ((chancelref09_Sees.f k x0 x1 ((rd_T25 x2 x12).f0) ((rd_T25 x2 x12).f1) ((rd_T25 x2 x12).f2) ((rd_T25 x2 x12).f3) ((rd_T25 x2 x12).f4)).bind fun t139 => (if t139 = true then (if x11.length < 1954687338268 then (chancelref09_Page.l0 k x0 x1 x2 x3 x4 (x11 ++ [(⟨(rd_T25 x2 x12).f0, (rd_T25 x2 x12).f1, (rd_T25 x2 x12).f2, (rd_T25 x2 x12).f3, (rd_T25 x2 x12).f4⟩ : S25)]) (wrap64 (x12 + 1))) else (none)) else (chancelref09_Page.l0 k x0 x1 x2 x3 x4 x11 (wrap64 (x12 + 1))))) else (none)) else (chancelref09_Page.l1 k x4 x11 ([] : List (S25)) (mx x3 0))
def chancelref09_Page.l1 : Nat → Int → List (S25) → List (S25) → Int → Option ((List (S25)))
  | 0, _, _, _, _ => none
  | k + 1, x4, x11, x13, x14 => if x14 < (x11.length : Int) then (if (x13.length : Int) < (mn x4 10) then (if 0 ≤ x14 then (if x13.length < 1954687338268 then (chancelref09_Page.l1 k x4 x11 (x13 ++ [(⟨(rd_T25 x11 x14).f0, (rd_T25 x11 x14).f1, (rd_T25 x11 x14).f2, (rd_T25 x11 x14).f3, (rd_T25 x11 x14).f4⟩ : S25)]) (wrap64 (x14 + 1))) else (none)) else (none)) else (some x13)) else (some x13)
end
def chancelref09_Page.f (k : Nat) (l0 : List (S46)) (a1 : Int) (l2 : List (S25)) (a3 : Int) (a4 : Int) : Option ((List (S25))) := chancelref09_Page.l0 k l0 a1 l2 a3 a4 ([] : List (S25)) 0
theorem chancelref09_Page.mono_l : ∀ k, (∀ y0 y1 y2 y3 y4 y5 y6, LeO (chancelref09_Page.l0 k y0 y1 y2 y3 y4 y5 y6) (chancelref09_Page.l0 (k + 1) y0 y1 y2 y3 y4 y5 y6)) ∧ (∀ y0 y1 y2 y3, LeO (chancelref09_Page.l1 k y0 y1 y2 y3) (chancelref09_Page.l1 (k + 1) y0 y1 y2 y3))
  | 0 => ⟨fun _ _ _ _ _ _ _ r h => by simp [chancelref09_Page.l0] at h, fun _ _ _ _ r h => by simp [chancelref09_Page.l1] at h⟩
  | k + 1 => by
    obtain ⟨ih0, ih1⟩ := chancelref09_Page.mono_l k
    refine ⟨?_, ?_⟩
    · intro y0 y1 y2 y3 y4 y5 y6
      unfold chancelref09_Page.l0
      repeat' first
      | (with_reducible exact ih0 _ _ _ _ _ _ _)
      | (with_reducible exact ih1 _ _ _ _)
      | (with_reducible exact chancelref09_Sees.mono _ _ _ _ _ _ _ _)
      | (with_reducible exact LeO.refl _)
      | (with_reducible exact LeO.none _)
      | (with_reducible refine LeO.ite ?_ ?_)
      | (with_reducible refine LeO.bind ?_ (fun _ => ?_))
      | exact ih0 _ _ _ _ _ _ _
      | exact ih1 _ _ _ _
      | exact chancelref09_Sees.mono _ _ _ _ _ _ _ _
      | exact LeO.none _
      | refine LeO.ite ?_ ?_
      | refine LeO.bind ?_ (fun _ => ?_)
    · intro y0 y1 y2 y3
      unfold chancelref09_Page.l1
      repeat' first
      | (with_reducible exact ih0 _ _ _ _ _ _ _)
      | (with_reducible exact ih1 _ _ _ _)
      | (with_reducible exact chancelref09_Sees.mono _ _ _ _ _ _ _ _)
      | (with_reducible exact LeO.refl _)
      | (with_reducible exact LeO.none _)
      | (with_reducible refine LeO.ite ?_ ?_)
      | (with_reducible refine LeO.bind ?_ (fun _ => ?_))
      | exact ih0 _ _ _ _ _ _ _
      | exact ih1 _ _ _ _
      | exact chancelref09_Sees.mono _ _ _ _ _ _ _ _
      | exact LeO.none _
      | refine LeO.ite ?_ ?_
      | refine LeO.bind ?_ (fun _ => ?_)
theorem chancelref09_Page.mono : ∀ a0 a1 a2 a3 a4 k, LeO (chancelref09_Page.f k a0 a1 a2 a3 a4) (chancelref09_Page.f (k + 1) a0 a1 a2 a3 a4) := by
  intro a0 a1 a2 a3 a4 k
  obtain ⟨ih0, ih1⟩ := chancelref09_Page.mono_l k
  unfold chancelref09_Page.f
  repeat' first
      | (with_reducible exact ih0 _ _ _ _ _ _ _)
      | (with_reducible exact ih1 _ _ _ _)
      | (with_reducible exact chancelref09_Sees.mono _ _ _ _ _ _ _ _)
      | (with_reducible exact LeO.refl _)
      | (with_reducible exact LeO.none _)
      | (with_reducible refine LeO.ite ?_ ?_)
      | (with_reducible refine LeO.bind ?_ (fun _ => ?_))
      | exact ih0 _ _ _ _ _ _ _
      | exact ih1 _ _ _ _
      | exact chancelref09_Sees.mono _ _ _ _ _ _ _ _
      | exact LeO.none _
      | refine LeO.ite ?_ ?_
      | refine LeO.bind ?_ (fun _ => ?_)
set_option maxHeartbeats 8000000 in
set_option maxRecDepth 100000 in
theorem chancelref09_Page.calls (k : Nat) (A0 : Option Addr) (c0 : Nat) (l0 : List (S46)) (a1 : Int) (P2_ : Nat → Prop) (A2 : Option Addr) (c2 : Nat) (l2 : List (S25)) (a3 : Int) (a4 : Int) (r : List (S25)) (w : World) (hr0 : Kd.C k46 w A0 l0.length l0) (hc0 : l0.length ≤ c0) (hs2 : Kd.V k25 25 w w.heap.size (fun k_ => P2_ k_) (.slice A2 l2.length c2) l2) (h : chancelref09_Page.f k l0 a1 l2 a3 a4 = some r) :
    Calls Try.prog 16 #[.slice A0 l0.length c0, .int .i64 a1, .slice A2 l2.length c2, .int .i64 a3, .int .i64 a4] w fun e w' => ∃ v0_ : Value, e = .returned (v0_) ∧ Kd.N k25 25 w' w.heap.size (fun k_ => (P2_ k_ ∨ w.heap.size ≤ k_)) v0_ r ∧ Below w.heap.size w w' := by
  have hu25 := Try.underlying25
  have HR0 := Aside0.mk hr0
  have HC0 := Aside0.mk hc0
  clear hr0 hc0
  have HO2 := Aside0.mk (show Kd.V k25 25 w w.heap.size (fun k_ => (P2_ k_ ∨ w.heap.size ≤ k_)) (.slice A2 l2.length c2) l2 from Kd.V_mono hs2 (fun k_ hk => .inl hk))
  have HB := Aside0.mk (Below.refl w.heap.size w)
  have H : (chancelref09_Page.l0 k l0 a1 l2 a3 a4 ([] : List (S25)) 0) = some r := h
  clear h
  have H' := Aside0.mk H
  clear H
  go_enter Try.func16, Try.ntmps16
  go_wp2
  go_loopg [11, 12] k (fun kq v11 v12 w' => ∃ (x11_1 : List (S25)) (x12_1 : Int), v12 = .int .i64 x12_1 ∧ Aside0 (chancelref09_Page.l0 kq l0 a1 l2 a3 a4 x11_1 x12_1 = some r) ∧ Aside0 (kq ≤ k) ∧ Aside0 (Kd.V k25 25 w' w.heap.size (fun k_ => (P2_ k_ ∨ w.heap.size ≤ k_) ∧ some k_ ≠ (v11 : Value).ownBlock) (.slice A2 l2.length c2) l2) ∧ Aside0 (Kd.N k25 25 w' w.heap.size (fun k_ => (P2_ k_ ∨ w.heap.size ≤ k_)) v11 x11_1) ∧ Aside0 (Below w.heap.size w w'))
  case atStart => exact ⟨(([] : List (S25))), (0), (by first | rfl | (simp; done) | (simp [*]; done)), H', ⟨Nat.le_refl _⟩, ⟨by (with_reducible repeat (first | apply Kd.V_alloc | apply Kd.V_drewN | apply Kd.V_drew)); exact Kd.V_mono HO2.out (fun _ hk => ⟨hk, (by simp [Value.ownBlock])⟩)⟩, ⟨by first | exact Kd.S_nil _ _ _ _ _ | exact Kd.N_nil _ _ _ _ _ | exact Kd.V_nil _ _ _ _ _ | exact Kd.Q_nil _ _ _ _ _ | exact Kd.R_nil _ _ _ _ _⟩, ⟨by repeat (first | (with_reducible first | exact HB.out | apply below_alloc | apply pw_below_drewN | apply below_drew1) | exact HB.out)⟩⟩
  case round =>
    clear H'
    try clear c1
    try clear c2
    try clear p2
    obtain ⟨x11_1, x12_1, rfl, HA, HK1, HO_2, HO_11, HB⟩ := hrel
    cases gk with
    | zero => exact absurd HA.out (by simp [chancelref09_Page.l0])
    | succ k1 =>
      have H := HA.out
      clear HA
      simp only [chancelref09_Page.l0] at H
      by_cases c6 : x12_1 < (l2.length : Int)
      · rw [if_pos c6] at H
        have c6b0 : decide (x12_1 < (l2.length : Int)) = true := decide_eq_true c6
        clear c6
        by_cases c7 : 0 ≤ x12_1
        · rw [if_pos c7] at H
          have c7b0 : decide (0 ≤ x12_1) = true := decide_eq_true c7
          clear c7
          replace H := Option.bind_eq_some_iff.mp H
          obtain ⟨t139, A80, H⟩ := H
          replace H : (if t139 = true then (if x11_1.length < 1954687338268 then (chancelref09_Page.l0 k1 l0 a1 l2 a3 a4 (x11_1 ++ [(⟨(rd_T25 l2 x12_1).f0, (rd_T25 l2 x12_1).f1, (rd_T25 l2 x12_1).f2, (rd_T25 l2 x12_1).f3, (rd_T25 l2 x12_1).f4⟩ : S25)]) (wrap64 (x12_1 + 1))) else (none)) else (chancelref09_Page.l0 k1 l0 a1 l2 a3 a4 x11_1 (wrap64 (x12_1 + 1)))) = some r := H
          have A8 := Aside0.mk A80
          clear A80
          by_cases c9 : t139 = true
          · subst c9
            have H1 : (if x11_1.length < 1954687338268 then (chancelref09_Page.l0 k1 l0 a1 l2 a3 a4 (x11_1 ++ [(⟨(rd_T25 l2 x12_1).f0, (rd_T25 l2 x12_1).f1, (rd_T25 l2 x12_1).f2, (rd_T25 l2 x12_1).f3, (rd_T25 l2 x12_1).f4⟩ : S25)]) (wrap64 (x12_1 + 1))) else (none)) = some r := by rw [if_pos rfl] at H; exact H
            clear H
            have H := H1
            clear H1
            by_cases c10 : x11_1.length < 1954687338268
            · rw [if_pos c10] at H
              have LMc10 := Aside0.mk c10
              clear c10
              obtain ⟨y141, hy141⟩ : ∃ y_ : List (S25), y_ = (x11_1 ++ [(⟨(rd_T25 l2 x12_1).f0, (rd_T25 l2 x12_1).f1, (rd_T25 l2 x12_1).f2, (rd_T25 l2 x12_1).f3, (rd_T25 l2 x12_1).f4⟩ : S25)]) := ⟨_, rfl⟩
              replace H : (chancelref09_Page.l0 k1 l0 a1 l2 a3 a4 y141 (wrap64 (x12_1 + 1))) = some r := by first | (rw [hy141]; with_reducible exact H) | (have H2_ := (Option.bind_some _ _).symm.trans H; rw [hy141]; with_reducible exact H2_) | (have H2_ := (Option.bind_some _ _).symm.trans H; with_reducible exact H2_) | with_reducible exact H | (rw [hy141]; exact H) | exact H
              have Ny141 := Aside0.mk hy141
              clear hy141
              have H' := Aside0.mk H
              clear H
              have p138 : 0 ≤ (x12_1 : Int) := of_decide_eq_true (by first | (with_reducible assumption) | assumption)
              have q138 : x12_1 < (l2.length : Int) := of_decide_eq_true (by first | (with_reducible assumption) | assumption)
              obtain ⟨ad138, A138_3, c138_3, A138_4, c138_4, e138, hx138_0, hx138_1, hx138_2, hx138_3, hx138_4, hl138_3, hi138_3, hl138_4, hi138_4⟩ := at_T25 (Kd.V_reads' HO_2.out).2.2 x12_1 p138 q138
              cases e138
              obtain ⟨ce138, hce138, hMe138, hcc138⟩ := Kd.V_get HO_2.out z25 x12_1 p138 (by first | exact q138 | exact of_decide_eq_true (by first | (with_reducible assumption) | assumption) | (have e_ := (Kd.V_reads' HO_2.out).1; omega))
              obtain ⟨ua138_3, uc138_3, ua138_4, uc138_4, rfl, ul138_3, ge138_3, ul138_4, ge138_4⟩ := k25_openF hMe138
              have hv138_3 := hcc138 3 _ rfl
              rw [add_field _ _ 3 (by omega)] at hv138_3
              replace hv138_3 := Option.some.inj (hv138_3.symm.trans hx138_3)
              injection hv138_3 with hva_ hvn_ hvc_
              rw [hva_] at ge138_3
              rw [hvc_] at ul138_3
              have HL138_3 := Aside0.mk (show Kd.V (Kd.int .i64) 3 _ w.heap.size _ _ ((rd_T25 l2 x12_1).f3) from Kd.V_mk ul138_3 ge138_3)
              clear hva_ hvn_ hvc_ ge138_3 ul138_3
              have hv138_4 := hcc138 4 _ rfl
              rw [add_field _ _ 4 (by omega)] at hv138_4
              replace hv138_4 := Option.some.inj (hv138_4.symm.trans hx138_4)
              injection hv138_4 with hva_ hvn_ hvc_
              rw [hva_] at ge138_4
              rw [hvc_] at ul138_4
              have HL138_4 := Aside0.mk (show Kd.V (Kd.int .i64) 3 _ w.heap.size _ _ ((rd_T25 l2 x12_1).f4) from Kd.V_mk ul138_4 ge138_4)
              clear hva_ hvn_ hvc_ ge138_4 ul138_4
              clear hcc138 hce138
              have HR138_3 := Aside0.mk hi138_3
              have HC138_3 := Aside0.mk hl138_3
              clear hi138_3 hl138_3
              have HR138_4 := Aside0.mk hi138_4
              have HC138_4 := Aside0.mk hl138_4
              clear hi138_4 hl138_4
              replace p138 := eq_true p138
              replace q138 := eq_true q138
              go_wp2_with (first | ((with_reducible refine gate_callee (f := 15) rfl ?_); refine goesL_ (some 27) rfl rfl Try.func15 (by kernel_rfl) rfl #[.slice A0 l0.length c0, .int .i64 a1, .agg #[.int .i64 ((rd_T25 l2 x12_1).f0), .int .i64 ((rd_T25 l2 x12_1).f1), .int .i64 ((rd_T25 l2 x12_1).f2), .slice A138_3 ((rd_T25 l2 x12_1).f3).length c138_3, .slice A138_4 ((rd_T25 l2 x12_1).f4).length c138_4]] rfl (by (try simp only [List.map_toArray, List.map_cons, List.map_nil]); first | done | rfl | (simp only [List.length_drop, List.length_take]; rfl)) ?_; (with_reducible refine (chancelref09_Sees.calls k1 _ _ l0 a1 ((rd_T25 l2 x12_1).f0) ((rd_T25 l2 x12_1).f1) ((rd_T25 l2 x12_1).f2) _ _ ((rd_T25 l2 x12_1).f3) _ _ ((rd_T25 l2 x12_1).f4) true _ ?side1 ?side2 ?side3 ?side4 ?side5 ?side6 A8.out).mono ?_); (case side1 => repeat (first | exact (Kd.C_below HR0.out HB.out) | (with_reducible refine Kd.C_alloc ?_ _) | (with_reducible refine Kd.C_drewN ?_ _) | (with_reducible refine Kd.C_drew ?_))); (case side2 => exact HC0.out); (case side3 => repeat (first | exact (by repeat (first | (with_reducible exact HR138_3.out) | (with_reducible refine Kd.C_alloc ?_ _) | (with_reducible refine Kd.C_drewN ?_ _) | (with_reducible refine Kd.C_drew ?_) | exact HR138_3.out)) | (with_reducible refine Kd.C_alloc ?_ _) | (with_reducible refine Kd.C_drewN ?_ _) | (with_reducible refine Kd.C_drew ?_))); (case side4 => exact HC138_3.out); (case side5 => repeat (first | exact (by repeat (first | (with_reducible exact HR138_4.out) | (with_reducible refine Kd.C_alloc ?_ _) | (with_reducible refine Kd.C_drewN ?_ _) | (with_reducible refine Kd.C_drew ?_) | exact HR138_4.out)) | (with_reducible refine Kd.C_alloc ?_ _) | (with_reducible refine Kd.C_drewN ?_ _) | (with_reducible refine Kd.C_drew ?_))); (case side6 => exact HC138_4.out); rintro e w11 ⟨rfl, hb⟩; refine ⟨_, rfl, ?_⟩; have n0_ := Aside0.mk (Kd.V_below (by (with_reducible repeat (first | apply Kd.V_alloc | apply Kd.V_drewN | apply Kd.V_drew)); exact HO_2.out) hb); have n1_ := Aside0.mk (Kd.N_below (by (with_reducible repeat (first | apply Kd.N_alloc | apply Kd.N_drewN | apply Kd.N_drew)); exact HO_11.out) hb); have n2_ := Aside0.mk (Kd.V_below (by (with_reducible repeat (first | apply Kd.V_alloc | apply Kd.V_drewN | apply Kd.V_drew)); exact HL138_3.out) hb); have n3_ := Aside0.mk (Kd.V_below (by (with_reducible repeat (first | apply Kd.V_alloc | apply Kd.V_drewN | apply Kd.V_drew)); exact HL138_4.out) hb); have n4_ := Aside0.mk (Kd.C_below (by repeat (first | (with_reducible exact HR138_3.out) | (with_reducible refine Kd.C_alloc ?_ _) | (with_reducible refine Kd.C_drewN ?_ _) | (with_reducible refine Kd.C_drew ?_) | exact HR138_3.out)) hb); have n5_ := Aside0.mk (Kd.C_below (by repeat (first | (with_reducible exact HR138_4.out) | (with_reducible refine Kd.C_alloc ?_ _) | (with_reducible refine Kd.C_drewN ?_ _) | (with_reducible refine Kd.C_drew ?_) | exact HR138_4.out)) hb); have n6_ := Aside0.mk (below_step (by repeat (first | (with_reducible first | exact HB.out | apply below_alloc | apply pw_below_drewN | apply below_drew1) | exact HB.out)) hb); clear HO_2; clear HO_11; clear HL138_3; clear HL138_4; clear HR138_3; clear HR138_4; clear HB; have HO_2 := n0_; have HO_11 := n1_; have HL138_3 := n2_; have HL138_4 := n3_; have HR138_3 := n4_; have HR138_4 := n5_; have HB := n6_; clear n0_ n1_ n2_ n3_ n4_ n5_ n6_; (try clear hb); (try clear hb2); (try clear hk); (try clear hi); have p140 : 0 ≤ (x12_1 : Int) := of_decide_eq_true (by first | (with_reducible assumption) | assumption); have q140 : x12_1 < (l2.length : Int) := of_decide_eq_true (by first | (with_reducible assumption) | assumption); obtain ⟨ad140, A140_3, c140_3, A140_4, c140_4, e140, hx140_0, hx140_1, hx140_2, hx140_3, hx140_4, hl140_3, hi140_3, hl140_4, hi140_4⟩ := at_T25 (Kd.V_reads' HO_2.out).2.2 x12_1 p140 q140; obtain rfl : ad138 = ad140 := (by injection e140); obtain ⟨ce140, hce140, hMe140, hcc140⟩ := Kd.V_get HO_2.out z25 x12_1 p140 (by first | exact q140 | exact of_decide_eq_true (by first | (with_reducible assumption) | assumption) | (have e_ := (Kd.V_reads' HO_2.out).1; omega)); obtain ⟨ua140_3, uc140_3, ua140_4, uc140_4, rfl, ul140_3, ge140_3, ul140_4, ge140_4⟩ := k25_openF hMe140; have hv140_3 := hcc140 3 _ rfl; rw [add_field _ _ 3 (by omega)] at hv140_3; replace hv140_3 := Option.some.inj (hv140_3.symm.trans hx140_3); injection hv140_3 with hva_ hvn_ hvc_; rw [hva_] at ge140_3; rw [hvc_] at ul140_3; have HL140_3 := Aside0.mk (show Kd.V (Kd.int .i64) 3 _ w.heap.size _ _ ((rd_T25 l2 x12_1).f3) from Kd.V_mk ul140_3 ge140_3); clear hva_ hvn_ hvc_ ge140_3 ul140_3; have hv140_4 := hcc140 4 _ rfl; rw [add_field _ _ 4 (by omega)] at hv140_4; replace hv140_4 := Option.some.inj (hv140_4.symm.trans hx140_4); injection hv140_4 with hva_ hvn_ hvc_; rw [hva_] at ge140_4; rw [hvc_] at ul140_4; have HL140_4 := Aside0.mk (show Kd.V (Kd.int .i64) 3 _ w.heap.size _ _ ((rd_T25 l2 x12_1).f4) from Kd.V_mk ul140_4 ge140_4); clear hva_ hvn_ hvc_ ge140_4 ul140_4; clear hcc140 hce140; have HR140_3 := Aside0.mk hi140_3; have HC140_3 := Aside0.mk hl140_3; clear hi140_3 hl140_3; have HR140_4 := Aside0.mk hi140_4; have HC140_4 := Aside0.mk hl140_4; clear hi140_4 hl140_4; replace p140 := eq_true p140; replace q140 := eq_true q140) | ((with_reducible refine gate_builtin (b := .append) (xs := #[.tmp 28, .tmp 33]) rfl ?_); (try (refine gate_guard (by rfl) ?_; dsimp only)); at_builtin; refine Kd.N_append k25 (w0 := w) w.heap.size rfl (.tmp 28) (.tmp 33) 22 25 (.agg #[(.int .i64 0), (.int .i64 0), (.int .i64 0), (.slice none 0 0), (.slice none 0 0)]) 72 rfl Try.underlying22 info25 rfl (by decide) (by omega) u11 x11_1 (⟨(rd_T25 l2 x12_1).f0, (rd_T25 l2 x12_1).f1, (rd_T25 l2 x12_1).f2, (rd_T25 l2 x12_1).f3, (rd_T25 l2 x12_1).f4⟩ : S25) [.int .i64 ((rd_T25 l2 x12_1).f0), .int .i64 ((rd_T25 l2 x12_1).f1), .int .i64 ((rd_T25 l2 x12_1).f2), .slice A140_3 ((rd_T25 l2 x12_1).f3).length c140_3, .slice A140_4 ((rd_T25 l2 x12_1).f4).length c140_4] (fun k_ => (P2_ k_ ∨ w.heap.size ≤ k_)) (fun k_ => ((fun k_ => (P2_ k_ ∨ w.heap.size ≤ k_))) k_ ∧ some k_ ≠ (u11 : Value).ownBlock) rfl rfl ?aP (fun _ hk => hk) ?aF ?aO ?aB ?aS ?aL ?_; (case aP => exact (k25_mkF _ _ (⟨(rd_T25 l2 x12_1).f0, (rd_T25 l2 x12_1).f1, (rd_T25 l2 x12_1).f2, (rd_T25 l2 x12_1).f3, (rd_T25 l2 x12_1).f4⟩ : S25) (Kd.V_reads' (Kd.V_mono (ok' := (fun k_ => ((fun k_ => (P2_ k_ ∨ w.heap.size ≤ k_))) k_ ∧ some k_ ≠ (u11 : Value).ownBlock)) (HL140_3.out) (fun k_ hk => ⟨hk.1, hk.2⟩))).2.1 (Kd.V_F (Kd.V_mono (ok' := (fun k_ => ((fun k_ => (P2_ k_ ∨ w.heap.size ≤ k_))) k_ ∧ some k_ ≠ (u11 : Value).ownBlock)) (HL140_3.out) (fun k_ hk => ⟨hk.1, hk.2⟩))) (Kd.V_reads' (Kd.V_mono (ok' := (fun k_ => ((fun k_ => (P2_ k_ ∨ w.heap.size ≤ k_))) k_ ∧ some k_ ≠ (u11 : Value).ownBlock)) (HL140_4.out) (fun k_ hk => ⟨hk.1, hk.2⟩))).2.1 (Kd.V_F (Kd.V_mono (ok' := (fun k_ => ((fun k_ => (P2_ k_ ∨ w.heap.size ≤ k_))) k_ ∧ some k_ ≠ (u11 : Value).ownBlock)) (HL140_4.out) (fun k_ hk => ⟨hk.1, hk.2⟩))))); (case aB => exact (by repeat (first | (with_reducible first | exact HB.out | apply below_alloc | apply pw_below_drewN | apply below_drew1) | exact HB.out))); (case aF => exact (fun k_ hk => (.inr (Nat.le_trans (below_size (by repeat (first | (with_reducible first | exact HB.out | apply below_alloc | apply pw_below_drewN | apply below_drew1) | exact HB.out))) hk)))); (case aO => exact (by (with_reducible repeat (first | apply Kd.N_alloc | apply Kd.N_drewN | apply Kd.N_drew)); exact HO_11.out)); (case aS => exact (below_size (by repeat (first | (with_reducible first | exact HB.out | apply below_alloc | apply pw_below_drewN | apply below_drew1) | exact HB.out)))); (case aL => have := LMc10.out; omega); intro v142 w12 ho hb hg hat; rw [← Ny141.out] at ho; have n0_ := Aside0.mk (Kd.V_afterv (ok := (fun k_ => (P2_ k_ ∨ w.heap.size ≤ k_))) (by (with_reducible repeat (first | apply Kd.V_alloc | apply Kd.V_drewN | apply Kd.V_drew)); exact HO_2.out) hg hat); have n1_ := Aside0.mk (Kd.V_afterv (ok := (fun k_ => (P2_ k_ ∨ w.heap.size ≤ k_))) (by (with_reducible repeat (first | apply Kd.V_alloc | apply Kd.V_drewN | apply Kd.V_drew)); exact HL138_3.out) hg hat); have n2_ := Aside0.mk (Kd.V_afterv (ok := (fun k_ => (P2_ k_ ∨ w.heap.size ≤ k_))) (by (with_reducible repeat (first | apply Kd.V_alloc | apply Kd.V_drewN | apply Kd.V_drew)); exact HL138_4.out) hg hat); have n3_ := Aside0.mk (Kd.V_afterv (ok := (fun k_ => (P2_ k_ ∨ w.heap.size ≤ k_))) (by (with_reducible repeat (first | apply Kd.V_alloc | apply Kd.V_drewN | apply Kd.V_drew)); exact HL140_3.out) hg hat); have n4_ := Aside0.mk (Kd.V_afterv (ok := (fun k_ => (P2_ k_ ∨ w.heap.size ≤ k_))) (by (with_reducible repeat (first | apply Kd.V_alloc | apply Kd.V_drewN | apply Kd.V_drew)); exact HL140_4.out) hg hat); have n5_ := Aside0.mk (hb); have n6_ := Aside0.mk (ho); clear HO_2; clear HL138_3; clear HL138_4; clear HL140_3; clear HL140_4; clear HB; clear HO_11; have HO_2 := n0_; have HL138_3 := n1_; have HL138_4 := n2_; have HL140_3 := n3_; have HL140_4 := n4_; have HB := n5_; have HO143 := n6_; clear n0_ n1_ n2_ n3_ n4_ n5_ n6_; clear ho hb hg hat))
              go_roundg k1
              case measure => have := HK1.out; omega
              case rel => exact ⟨(y141), (wrap64 (x12_1 + 1)), (by first | rfl | (simp; done) | (simp [*]; done)), H', ⟨by have := HK1.out; omega⟩, ⟨by (with_reducible repeat (first | apply Kd.V_alloc | apply Kd.V_drewN | apply Kd.V_drew)); exact HO_2.out⟩, ⟨by (with_reducible repeat (first | apply Kd.N_alloc | apply Kd.N_drewN | apply Kd.N_drew)); exact HO143.out⟩, ⟨by repeat (first | (with_reducible first | exact HB.out | apply below_alloc | apply pw_below_drewN | apply below_drew1) | exact HB.out)⟩⟩
            · rw [if_neg c10] at H
              exact absurd H (by simp)
          · replace c9 := Bool.eq_false_iff.mpr c9
            subst c9
            have H1 : (chancelref09_Page.l0 k1 l0 a1 l2 a3 a4 x11_1 (wrap64 (x12_1 + 1))) = some r := by rw [if_neg (show ¬ (false = true) by decide)] at H; exact H
            clear H
            have H := H1
            clear H1
            have H' := Aside0.mk H
            clear H
            have p138 : 0 ≤ (x12_1 : Int) := of_decide_eq_true (by first | (with_reducible assumption) | assumption)
            have q138 : x12_1 < (l2.length : Int) := of_decide_eq_true (by first | (with_reducible assumption) | assumption)
            obtain ⟨ad138, A138_3, c138_3, A138_4, c138_4, e138, hx138_0, hx138_1, hx138_2, hx138_3, hx138_4, hl138_3, hi138_3, hl138_4, hi138_4⟩ := at_T25 (Kd.V_reads' HO_2.out).2.2 x12_1 p138 q138
            cases e138
            obtain ⟨ce138, hce138, hMe138, hcc138⟩ := Kd.V_get HO_2.out z25 x12_1 p138 (by first | exact q138 | exact of_decide_eq_true (by first | (with_reducible assumption) | assumption) | (have e_ := (Kd.V_reads' HO_2.out).1; omega))
            obtain ⟨ua138_3, uc138_3, ua138_4, uc138_4, rfl, ul138_3, ge138_3, ul138_4, ge138_4⟩ := k25_openF hMe138
            have hv138_3 := hcc138 3 _ rfl
            rw [add_field _ _ 3 (by omega)] at hv138_3
            replace hv138_3 := Option.some.inj (hv138_3.symm.trans hx138_3)
            injection hv138_3 with hva_ hvn_ hvc_
            rw [hva_] at ge138_3
            rw [hvc_] at ul138_3
            have HL138_3 := Aside0.mk (show Kd.V (Kd.int .i64) 3 _ w.heap.size _ _ ((rd_T25 l2 x12_1).f3) from Kd.V_mk ul138_3 ge138_3)
            clear hva_ hvn_ hvc_ ge138_3 ul138_3
            have hv138_4 := hcc138 4 _ rfl
            rw [add_field _ _ 4 (by omega)] at hv138_4
            replace hv138_4 := Option.some.inj (hv138_4.symm.trans hx138_4)
            injection hv138_4 with hva_ hvn_ hvc_
            rw [hva_] at ge138_4
            rw [hvc_] at ul138_4
            have HL138_4 := Aside0.mk (show Kd.V (Kd.int .i64) 3 _ w.heap.size _ _ ((rd_T25 l2 x12_1).f4) from Kd.V_mk ul138_4 ge138_4)
            clear hva_ hvn_ hvc_ ge138_4 ul138_4
            clear hcc138 hce138
            have HR138_3 := Aside0.mk hi138_3
            have HC138_3 := Aside0.mk hl138_3
            clear hi138_3 hl138_3
            have HR138_4 := Aside0.mk hi138_4
            have HC138_4 := Aside0.mk hl138_4
            clear hi138_4 hl138_4
            replace p138 := eq_true p138
            replace q138 := eq_true q138
            go_wp2_with (first | ((with_reducible refine gate_callee (f := 15) rfl ?_); refine goesL_ (some 27) rfl rfl Try.func15 (by kernel_rfl) rfl #[.slice A0 l0.length c0, .int .i64 a1, .agg #[.int .i64 ((rd_T25 l2 x12_1).f0), .int .i64 ((rd_T25 l2 x12_1).f1), .int .i64 ((rd_T25 l2 x12_1).f2), .slice A138_3 ((rd_T25 l2 x12_1).f3).length c138_3, .slice A138_4 ((rd_T25 l2 x12_1).f4).length c138_4]] rfl (by (try simp only [List.map_toArray, List.map_cons, List.map_nil]); first | done | rfl | (simp only [List.length_drop, List.length_take]; rfl)) ?_; (with_reducible refine (chancelref09_Sees.calls k1 _ _ l0 a1 ((rd_T25 l2 x12_1).f0) ((rd_T25 l2 x12_1).f1) ((rd_T25 l2 x12_1).f2) _ _ ((rd_T25 l2 x12_1).f3) _ _ ((rd_T25 l2 x12_1).f4) false _ ?side1 ?side2 ?side3 ?side4 ?side5 ?side6 A8.out).mono ?_); (case side1 => repeat (first | exact (Kd.C_below HR0.out HB.out) | (with_reducible refine Kd.C_alloc ?_ _) | (with_reducible refine Kd.C_drewN ?_ _) | (with_reducible refine Kd.C_drew ?_))); (case side2 => exact HC0.out); (case side3 => repeat (first | exact (by repeat (first | (with_reducible exact HR138_3.out) | (with_reducible refine Kd.C_alloc ?_ _) | (with_reducible refine Kd.C_drewN ?_ _) | (with_reducible refine Kd.C_drew ?_) | exact HR138_3.out)) | (with_reducible refine Kd.C_alloc ?_ _) | (with_reducible refine Kd.C_drewN ?_ _) | (with_reducible refine Kd.C_drew ?_))); (case side4 => exact HC138_3.out); (case side5 => repeat (first | exact (by repeat (first | (with_reducible exact HR138_4.out) | (with_reducible refine Kd.C_alloc ?_ _) | (with_reducible refine Kd.C_drewN ?_ _) | (with_reducible refine Kd.C_drew ?_) | exact HR138_4.out)) | (with_reducible refine Kd.C_alloc ?_ _) | (with_reducible refine Kd.C_drewN ?_ _) | (with_reducible refine Kd.C_drew ?_))); (case side6 => exact HC138_4.out); rintro e w13 ⟨rfl, hb⟩; refine ⟨_, rfl, ?_⟩; have n0_ := Aside0.mk (Kd.V_below (by (with_reducible repeat (first | apply Kd.V_alloc | apply Kd.V_drewN | apply Kd.V_drew)); exact HO_2.out) hb); have n1_ := Aside0.mk (Kd.N_below (by (with_reducible repeat (first | apply Kd.N_alloc | apply Kd.N_drewN | apply Kd.N_drew)); exact HO_11.out) hb); have n2_ := Aside0.mk (Kd.V_below (by (with_reducible repeat (first | apply Kd.V_alloc | apply Kd.V_drewN | apply Kd.V_drew)); exact HL138_3.out) hb); have n3_ := Aside0.mk (Kd.V_below (by (with_reducible repeat (first | apply Kd.V_alloc | apply Kd.V_drewN | apply Kd.V_drew)); exact HL138_4.out) hb); have n4_ := Aside0.mk (Kd.C_below (by repeat (first | (with_reducible exact HR138_3.out) | (with_reducible refine Kd.C_alloc ?_ _) | (with_reducible refine Kd.C_drewN ?_ _) | (with_reducible refine Kd.C_drew ?_) | exact HR138_3.out)) hb); have n5_ := Aside0.mk (Kd.C_below (by repeat (first | (with_reducible exact HR138_4.out) | (with_reducible refine Kd.C_alloc ?_ _) | (with_reducible refine Kd.C_drewN ?_ _) | (with_reducible refine Kd.C_drew ?_) | exact HR138_4.out)) hb); have n6_ := Aside0.mk (below_step (by repeat (first | (with_reducible first | exact HB.out | apply below_alloc | apply pw_below_drewN | apply below_drew1) | exact HB.out)) hb); clear HO_2; clear HO_11; clear HL138_3; clear HL138_4; clear HR138_3; clear HR138_4; clear HB; have HO_2 := n0_; have HO_11 := n1_; have HL138_3 := n2_; have HL138_4 := n3_; have HR138_3 := n4_; have HR138_4 := n5_; have HB := n6_; clear n0_ n1_ n2_ n3_ n4_ n5_ n6_; (try clear hb); (try clear hb2); (try clear hk); (try clear hi)))
            go_roundg k1
            case measure => have := HK1.out; omega
            case rel => exact ⟨(x11_1), (wrap64 (x12_1 + 1)), (by first | rfl | (simp; done) | (simp [*]; done)), H', ⟨by have := HK1.out; omega⟩, ⟨by (with_reducible repeat (first | apply Kd.V_alloc | apply Kd.V_drewN | apply Kd.V_drew)); exact HO_2.out⟩, ⟨by (with_reducible repeat (first | apply Kd.N_alloc | apply Kd.N_drewN | apply Kd.N_drew)); exact HO_11.out⟩, ⟨by repeat (first | (with_reducible first | exact HB.out | apply below_alloc | apply pw_below_drewN | apply below_drew1) | exact HB.out)⟩⟩
        · rw [if_neg c7] at H
          exact absurd H (by simp)
      · rw [if_neg c6] at H
        have c6b0 : decide (x12_1 < (l2.length : Int)) = false := decide_eq_false c6
        clear c6
        obtain ⟨ji14, hji14⟩ : ∃ j_ : Int, (mx a3 0) = j_ := ⟨_, rfl⟩
        replace H : (chancelref09_Page.l1 k1 a4 x11_1 ([] : List (S25)) ji14) = some r := by first | (rw [hji14] at H; exact H) | (simp only [hji14] at H ⊢; exact H)
        (try (have hji14l : 0 ≤ ji14 := by (rw [← hji14]; unfold mx; (repeat' split) <;> omega)))
        (try (have hji14m : 0 ≤ ji14 := by omega))
        have hji14_ : (if a3 < 0 then 0 else a3) = ji14 := hji14
        have H' := Aside0.mk H
        clear H
        go_wp2
        go_loopg [13, 14] k1 (fun kq v13 v14 w' => ∃ (x13_2 : List (S25)) (x14_2 : Int), v14 = .int .i64 x14_2 ∧ Aside0 (chancelref09_Page.l1 kq a4 x11_1 x13_2 x14_2 = some r) ∧ Aside0 (kq ≤ k1) ∧ Aside0 (Kd.N k25 25 w' w.heap.size (fun k_ => (P2_ k_ ∨ w.heap.size ≤ k_) ∧ some k_ ≠ (v13 : Value).ownBlock) u11 x11_1) ∧ Aside0 (Kd.N k25 25 w' w.heap.size (fun k_ => (P2_ k_ ∨ w.heap.size ≤ k_) ∧ some k_ ≠ (u11 : Value).ownBlock) v13 x13_2) ∧ Aside0 (Below w.heap.size w w'))
        case atStart => exact ⟨(([] : List (S25))), (ji14), (by first | rfl | (simp; done) | (simp only [← hji14] <;> (first | rfl | simp)) | (simp [*]; done)), H', ⟨Nat.le_refl _⟩, ⟨by (with_reducible repeat (first | apply Kd.N_alloc | apply Kd.N_drewN | apply Kd.N_drew)); exact Kd.N_mono HO_11.out (fun _ hk => ⟨hk, (by simp [Value.ownBlock])⟩)⟩, ⟨by first | exact Kd.S_nil _ _ _ _ _ | exact Kd.N_nil _ _ _ _ _ | exact Kd.V_nil _ _ _ _ _ | exact Kd.Q_nil _ _ _ _ _ | exact Kd.R_nil _ _ _ _ _⟩, ⟨by repeat (first | (with_reducible first | exact HB.out | apply below_alloc | apply pw_below_drewN | apply below_drew1) | exact HB.out)⟩⟩
        case round =>
          clear H'
          try clear c1
          try clear p1
          try clear q1
          try clear hx1
          try clear c2
          try clear p2
          try clear c6
          try clear c6b0
          try clear p6
          try clear c7
          try clear c7b0
          try clear c9
          try clear c10
          try clear c13
          try clear p13
          try clear q13
          try clear hx13
          try clear c14
          try clear p14
          try clear q14
          try clear hx14
          try clear hx138_0
          try clear hx138_1
          try clear hx138_2
          try clear hx138_3
          try clear hx138_4
          try clear hx140_0
          try clear hx140_1
          try clear hx140_2
          try clear hx140_3
          try clear hx140_4
          try clear p138
          try clear p140
          try clear p2
          try clear q138
          try clear q140
          obtain ⟨x13_2, x14_2, rfl, HA, HK2, HO_11, HO_13, HB⟩ := hrel
          cases gk with
          | zero => exact absurd HA.out (by simp [chancelref09_Page.l1])
          | succ k2 =>
            have H := HA.out
            clear HA
            simp only [chancelref09_Page.l1] at H
            by_cases c15 : x14_2 < (x11_1.length : Int)
            · rw [if_pos c15] at H
              have c15b0 : decide (x14_2 < (x11_1.length : Int)) = true := decide_eq_true c15
              clear c15
              obtain ⟨ji16, hji16⟩ : ∃ j_ : Int, (mn a4 10) = j_ := ⟨_, rfl⟩
              replace H : (if (x13_2.length : Int) < (ji16) then (if 0 ≤ x14_2 then (if x13_2.length < 1954687338268 then (chancelref09_Page.l1 k2 a4 x11_1 (x13_2 ++ [(⟨(rd_T25 x11_1 x14_2).f0, (rd_T25 x11_1 x14_2).f1, (rd_T25 x11_1 x14_2).f2, (rd_T25 x11_1 x14_2).f3, (rd_T25 x11_1 x14_2).f4⟩ : S25)]) (wrap64 (x14_2 + 1))) else (none)) else (none)) else (some x13_2)) = some r := by first | (rw [hji16] at H; exact H) | (simp only [hji16] at H ⊢; exact H)
              have hji16_ : (if 10 < a4 then 10 else a4) = ji16 := hji16
              by_cases c17 : (x13_2.length : Int) < (ji16)
              · rw [if_pos c17] at H
                have c17b0 : decide ((x13_2.length : Int) < (ji16)) = true := decide_eq_true c17
                clear c17
                by_cases c18 : 0 ≤ x14_2
                · rw [if_pos c18] at H
                  have c18b0 : decide (0 ≤ x14_2) = true := decide_eq_true c18
                  clear c18
                  by_cases c19 : x13_2.length < 1954687338268
                  · rw [if_pos c19] at H
                    have LMc19 := Aside0.mk c19
                    clear c19
                    obtain ⟨y145, hy145⟩ : ∃ y_ : List (S25), y_ = (x13_2 ++ [(⟨(rd_T25 x11_1 x14_2).f0, (rd_T25 x11_1 x14_2).f1, (rd_T25 x11_1 x14_2).f2, (rd_T25 x11_1 x14_2).f3, (rd_T25 x11_1 x14_2).f4⟩ : S25)]) := ⟨_, rfl⟩
                    replace H : (chancelref09_Page.l1 k2 a4 x11_1 y145 (wrap64 (x14_2 + 1))) = some r := by first | (rw [hy145]; with_reducible exact H) | (have H2_ := (Option.bind_some _ _).symm.trans H; rw [hy145]; with_reducible exact H2_) | (have H2_ := (Option.bind_some _ _).symm.trans H; with_reducible exact H2_) | with_reducible exact H | (rw [hy145]; exact H) | exact H
                    have Ny145 := Aside0.mk hy145
                    clear hy145
                    have H' := Aside0.mk H
                    clear H
                    obtain ⟨Ao20, co20, eo20⟩ := Kd.N_slice HO_11.out
                    subst eo20
                    obtain ⟨Ao21, co21, eo21⟩ := Kd.N_slice HO_13.out
                    subst eo21
                    have p144 : 0 ≤ (x14_2 : Int) := of_decide_eq_true (by first | (with_reducible assumption) | assumption)
                    have q144 : x14_2 < (x11_1.length : Int) := of_decide_eq_true (by first | (with_reducible assumption) | assumption)
                    obtain ⟨ad144, A144_3, c144_3, A144_4, c144_4, e144, hx144_0, hx144_1, hx144_2, hx144_3, hx144_4, hl144_3, hi144_3, hl144_4, hi144_4⟩ := at_T25 (Kd.N_reads' HO_11.out).2.2 x14_2 p144 q144
                    cases e144
                    obtain ⟨ce144, hce144, hMe144, hcc144⟩ := Kd.N_get HO_11.out z25 x14_2 p144 (by first | exact q144 | exact of_decide_eq_true (by first | (with_reducible assumption) | assumption) | (have e_ := (Kd.N_reads' HO_11.out).1; omega))
                    obtain ⟨ua144_3, uc144_3, ua144_4, uc144_4, rfl, ul144_3, ge144_3, ul144_4, ge144_4⟩ := k25_openF hMe144
                    have hv144_3 := hcc144 3 _ rfl
                    rw [add_field _ _ 3 (by omega)] at hv144_3
                    replace hv144_3 := Option.some.inj (hv144_3.symm.trans hx144_3)
                    injection hv144_3 with hva_ hvn_ hvc_
                    rw [hva_] at ge144_3
                    rw [hvc_] at ul144_3
                    have HL144_3 := Aside0.mk (show Kd.V (Kd.int .i64) 3 _ w.heap.size _ _ ((rd_T25 x11_1 x14_2).f3) from Kd.V_mk ul144_3 ge144_3)
                    clear hva_ hvn_ hvc_ ge144_3 ul144_3
                    have hv144_4 := hcc144 4 _ rfl
                    rw [add_field _ _ 4 (by omega)] at hv144_4
                    replace hv144_4 := Option.some.inj (hv144_4.symm.trans hx144_4)
                    injection hv144_4 with hva_ hvn_ hvc_
                    rw [hva_] at ge144_4
                    rw [hvc_] at ul144_4
                    have HL144_4 := Aside0.mk (show Kd.V (Kd.int .i64) 3 _ w.heap.size _ _ ((rd_T25 x11_1 x14_2).f4) from Kd.V_mk ul144_4 ge144_4)
                    clear hva_ hvn_ hvc_ ge144_4 ul144_4
                    clear hcc144 hce144
                    have HR144_3 := Aside0.mk hi144_3
                    have HC144_3 := Aside0.mk hl144_3
                    clear hi144_3 hl144_3
                    have HR144_4 := Aside0.mk hi144_4
                    have HC144_4 := Aside0.mk hl144_4
                    clear hi144_4 hl144_4
                    replace p144 := eq_true p144
                    replace q144 := eq_true q144
                    go_wp2_with (first | ((with_reducible refine gate_builtin (b := .append) (xs := #[.tmp 50, .tmp 55]) rfl ?_); (try (refine gate_guard (by rfl) ?_; dsimp only)); at_builtin; refine Kd.N_append k25 (w0 := w) w.heap.size rfl (.tmp 50) (.tmp 55) 22 25 (.agg #[(.int .i64 0), (.int .i64 0), (.int .i64 0), (.slice none 0 0), (.slice none 0 0)]) 72 rfl Try.underlying22 info25 rfl (by decide) (by omega) (.slice Ao21 x13_2.length co21) x13_2 (⟨(rd_T25 x11_1 x14_2).f0, (rd_T25 x11_1 x14_2).f1, (rd_T25 x11_1 x14_2).f2, (rd_T25 x11_1 x14_2).f3, (rd_T25 x11_1 x14_2).f4⟩ : S25) [.int .i64 ((rd_T25 x11_1 x14_2).f0), .int .i64 ((rd_T25 x11_1 x14_2).f1), .int .i64 ((rd_T25 x11_1 x14_2).f2), .slice A144_3 ((rd_T25 x11_1 x14_2).f3).length c144_3, .slice A144_4 ((rd_T25 x11_1 x14_2).f4).length c144_4] (fun k_ => (P2_ k_ ∨ w.heap.size ≤ k_) ∧ some k_ ≠ (.slice (some ad144) x11_1.length co20 : Value).ownBlock) (fun k_ => ((fun k_ => (P2_ k_ ∨ w.heap.size ≤ k_) ∧ some k_ ≠ (.slice (some ad144) x11_1.length co20 : Value).ownBlock)) k_ ∧ some k_ ≠ (.slice Ao21 x13_2.length co21 : Value).ownBlock) rfl rfl ?aP (fun _ hk => hk) ?aF ?aO ?aB ?aS ?aL ?_; (case aP => exact (k25_mkF _ _ (⟨(rd_T25 x11_1 x14_2).f0, (rd_T25 x11_1 x14_2).f1, (rd_T25 x11_1 x14_2).f2, (rd_T25 x11_1 x14_2).f3, (rd_T25 x11_1 x14_2).f4⟩ : S25) (Kd.V_reads' (Kd.V_mono (ok' := (fun k_ => ((fun k_ => (P2_ k_ ∨ w.heap.size ≤ k_) ∧ some k_ ≠ (.slice (some ad144) x11_1.length co20 : Value).ownBlock)) k_ ∧ some k_ ≠ (.slice Ao21 x13_2.length co21 : Value).ownBlock)) (HL144_3.out) (fun k_ hk => ⟨⟨hk.1.1, hk.2⟩, hk.1.2⟩))).2.1 (Kd.V_F (Kd.V_mono (ok' := (fun k_ => ((fun k_ => (P2_ k_ ∨ w.heap.size ≤ k_) ∧ some k_ ≠ (.slice (some ad144) x11_1.length co20 : Value).ownBlock)) k_ ∧ some k_ ≠ (.slice Ao21 x13_2.length co21 : Value).ownBlock)) (HL144_3.out) (fun k_ hk => ⟨⟨hk.1.1, hk.2⟩, hk.1.2⟩))) (Kd.V_reads' (Kd.V_mono (ok' := (fun k_ => ((fun k_ => (P2_ k_ ∨ w.heap.size ≤ k_) ∧ some k_ ≠ (.slice (some ad144) x11_1.length co20 : Value).ownBlock)) k_ ∧ some k_ ≠ (.slice Ao21 x13_2.length co21 : Value).ownBlock)) (HL144_4.out) (fun k_ hk => ⟨⟨hk.1.1, hk.2⟩, hk.1.2⟩))).2.1 (Kd.V_F (Kd.V_mono (ok' := (fun k_ => ((fun k_ => (P2_ k_ ∨ w.heap.size ≤ k_) ∧ some k_ ≠ (.slice (some ad144) x11_1.length co20 : Value).ownBlock)) k_ ∧ some k_ ≠ (.slice Ao21 x13_2.length co21 : Value).ownBlock)) (HL144_4.out) (fun k_ hk => ⟨⟨hk.1.1, hk.2⟩, hk.1.2⟩))))); (case aB => exact (by repeat (first | (with_reducible first | exact HB.out | apply below_alloc | apply pw_below_drewN | apply below_drew1) | exact HB.out))); (case aF => exact (fun k_ hk => ⟨(.inr (Nat.le_trans (below_size (by repeat (first | (with_reducible first | exact HB.out | apply below_alloc | apply pw_below_drewN | apply below_drew1) | exact HB.out))) hk)), Kd.fresh' (Kd.N_lt (by (with_reducible repeat (first | apply Kd.N_alloc | apply Kd.N_drewN | apply Kd.N_drew)); exact HO_11.out)) k_ hk⟩)); (case aO => exact (by (with_reducible repeat (first | apply Kd.N_alloc | apply Kd.N_drewN | apply Kd.N_drew)); exact HO_13.out)); (case aS => exact (below_size (by repeat (first | (with_reducible first | exact HB.out | apply below_alloc | apply pw_below_drewN | apply below_drew1) | exact HB.out)))); (case aL => have := LMc19.out; omega); intro v146 w22 ho hb hg hat; rw [← Ny145.out] at ho; have n0_ := Aside0.mk (Kd.N_afterv (ok := (fun k_ => (P2_ k_ ∨ w.heap.size ≤ k_))) (by (with_reducible repeat (first | apply Kd.N_alloc | apply Kd.N_drewN | apply Kd.N_drew)); exact HO_11.out) hg hat); have n1_ := Aside0.mk (Kd.V_afterv (ok := (fun k_ => (P2_ k_ ∨ w.heap.size ≤ k_) ∧ some k_ ≠ (.slice (some ad144) x11_1.length co20 : Value).ownBlock)) (by (with_reducible repeat (first | apply Kd.V_alloc | apply Kd.V_drewN | apply Kd.V_drew)); exact Kd.V_mono HL144_3.out (fun _ hk => ⟨⟨hk.1.1, hk.2⟩, hk.1.2⟩)) hg hat); have n2_ := Aside0.mk (Kd.V_afterv (ok := (fun k_ => (P2_ k_ ∨ w.heap.size ≤ k_) ∧ some k_ ≠ (.slice (some ad144) x11_1.length co20 : Value).ownBlock)) (by (with_reducible repeat (first | apply Kd.V_alloc | apply Kd.V_drewN | apply Kd.V_drew)); exact Kd.V_mono HL144_4.out (fun _ hk => ⟨⟨hk.1.1, hk.2⟩, hk.1.2⟩)) hg hat); have n3_ := Aside0.mk (hb); have n4_ := Aside0.mk (ho); clear HO_11; clear HL144_3; clear HL144_4; clear HB; clear HO_13; have HO_11 := n0_; have HL144_3 := n1_; have HL144_4 := n2_; have HB := n3_; have HO147 := n4_; clear n0_ n1_ n2_ n3_ n4_; clear ho hb hg hat))
                    go_roundg k2
                    case measure => have := HK1.out; have := HK2.out; omega
                    case rel => exact ⟨(y145), (wrap64 (x14_2 + 1)), (by first | rfl | (simp; done) | (simp [*]; done)), H', ⟨by have := HK1.out; have := HK2.out; omega⟩, ⟨by (with_reducible repeat (first | apply Kd.N_alloc | apply Kd.N_drewN | apply Kd.N_drew)); exact HO_11.out⟩, ⟨by (with_reducible repeat (first | apply Kd.N_alloc | apply Kd.N_drewN | apply Kd.N_drew)); exact HO147.out⟩, ⟨by repeat (first | (with_reducible first | exact HB.out | apply below_alloc | apply pw_below_drewN | apply below_drew1) | exact HB.out)⟩⟩
                  · rw [if_neg c19] at H
                    exact absurd H (by simp)
                · rw [if_neg c18] at H
                  exact absurd H (by simp)
              · rw [if_neg c17] at H
                have c17b0 : decide ((x13_2.length : Int) < (ji16)) = false := decide_eq_false c17
                clear c17
                obtain rfl := Option.some.inj H
                obtain ⟨Ao23, co23, eo23⟩ := Kd.N_slice HO_11.out
                subst eo23
                obtain ⟨Ao24, co24, eo24⟩ := Kd.N_slice HO_13.out
                subst eo24
                go_wp2
                go_ret
                exact ⟨_, by first | rfl | (simp [errW_none, errW_some] <;> rfl) | (simp only [← hji14, ← hji16]; first | rfl | (simp [errW_none, errW_some] <;> rfl)) | (simp [*, errW_none, errW_some] <;> rfl), by (with_reducible repeat (first | apply Kd.N_alloc | apply Kd.N_drewN | apply Kd.N_drew)); exact Kd.N_mono HO_13.out (fun _ hk => hk.1), by repeat (first | (with_reducible first | exact HB.out | apply below_alloc | apply pw_below_drewN | apply below_drew1) | exact HB.out)⟩
            · rw [if_neg c15] at H
              have c15b0 : decide (x14_2 < (x11_1.length : Int)) = false := decide_eq_false c15
              clear c15
              obtain rfl := Option.some.inj H
              obtain ⟨Ao25, co25, eo25⟩ := Kd.N_slice HO_11.out
              subst eo25
              go_wp2
              go_ret
              exact ⟨_, by first | rfl | (simp [errW_none, errW_some] <;> rfl) | (simp only [← hji14]; first | rfl | (simp [errW_none, errW_some] <;> rfl)) | (simp [*, errW_none, errW_some] <;> rfl), by (with_reducible repeat (first | apply Kd.N_alloc | apply Kd.N_drewN | apply Kd.N_drew)); exact Kd.N_mono HO_13.out (fun _ hk => hk.1), by repeat (first | (with_reducible first | exact HB.out | apply below_alloc | apply pw_below_drewN | apply below_drew1) | exact HB.out)⟩

end Go.Proofs.Ytmidclhdnjbbjaa.AAuditSees
