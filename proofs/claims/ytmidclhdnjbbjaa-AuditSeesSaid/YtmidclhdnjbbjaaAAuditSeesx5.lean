/- What the functions that the law AuditSees reaches compute, and the row of the law (printed by a program of this session). -/
import Derived.Test.YtmidclhdnjbbjaaAAuditSeesx0
import Derived.Test.YtmidclhdnjbbjaaAAuditSeesx1
import Derived.Test.YtmidclhdnjbbjaaAAuditSeesx2
import Derived.Test.YtmidclhdnjbbjaaAAuditSeesx3
import Derived.Test.YtmidclhdnjbbjaaAAuditSeesx4
namespace Go.Proofs.Ytmidclhdnjbbjaa.AAuditSees
open Go.RowKit Go.Proofs.YtmidclhdnjbbjaaW.PrintWords Go.Proofs.YtmidclhdnjbbjaaW.PrintLast Go.Proofs.YtmidclhdnjbbjaaW.PrintMore
attribute [local go_sem] max2_int min2_int max_two min_two max_three min_three max_four min_four   -- for this text's walks alone
set_option linter.unusedVariables false
set_option linter.unusedSimpArgs false

/-! ### chancellaw09_AuditSees: function 4 -/
mutual
def chancellaw09_AuditSees.j0 : Nat → List (S46) → Int → Bool → List (S25) → Int → Int → Option (Bool)
  | 0, _, _, _, _, _, _ => none
  | k + 1, x0, x1, x28, x149000, x149001, x149002 => if x28 = true then (some false) else ((chancellaw03_Small.f k x0).bind fun t159 => (if t159 = true then ((chancellaw09_small.f k x149000).bind fun t160 => (chancellaw09_AuditSees.j1 k x0 x1 (!t160) x149000 x149001 x149002)) else (chancellaw09_AuditSees.j1 k x0 x1 true x149000 x149001 x149002)))
def chancellaw09_AuditSees.j1 : Nat → List (S46) → Int → Bool → List (S25) → Int → Int → Option (Bool)
  | 0, _, _, _, _, _, _ => none
  | k + 1, x0, x1, x37, x149000, x149001, x149002 => if x37 = true then (some true) else (chancellaw09_AuditSees.l0 k x0 x1 x149000 (x149000.length : Int) 0 x149000 x149001 x149002)
def chancellaw09_AuditSees.l0 : Nat → List (S46) → Int → List (S25) → Int → Int → List (S25) → Int → Int → Option (Bool)
  | 0, _, _, _, _, _, _, _, _ => none
  | k + 1, x0, x1, x39, x40, x41, x149000, x149001, x149002 => if x41 < x40 then (if 0 ≤ x41 then (if x41 < (x39.length : Int) then ((audit_Sees.f x0 x1 ((rd_T25 x39 x41).f0) ((rd_T25 x39 x41).f1) ((rd_T25 x39 x41).f2) ((rd_T25 x39 x41).f3) ((rd_T25 x39 x41).f4)).bind fun t170 => ((chancelref09_Sees.f k x0 x1 ((rd_T25 x39 x41).f0) ((rd_T25 x39 x41).f1) ((rd_T25 x39 x41).f2) ((rd_T25 x39 x41).f3) ((rd_T25 x39 x41).f4)).bind fun t171 => (if (t170 != t171) = true then (some false) else (chancellaw09_AuditSees.l0 k x0 x1 x39 x40 (wrap64 (x41 + 1)) x149000 x149001 x149002)))) else (none)) else (none)) else ((audit_Page.f k x0 x1 x149000 x149001 x149002).bind fun t161 => ((chancelref09_Page.f k x0 x1 x149000 x149001 x149002).bind fun t164 => ((chancelref09_Same.f k t161 t164).bind fun t167 => (some t167))))
end
def chancellaw09_AuditSees.f (k : Nat) (l0 : List (S46)) (a1 : Int) (l2_0 : List (S25)) (a2_1 : Int) (a2_2 : Int) : Option (Bool) := (chancellaw09_some.f).bind fun bt149 => ((audit_Page.f k bt149.1 1 bt149.2 0 9).bind fun t155 => (if (t155.length : Int) = 1 then (if 0 < (t155.length : Int) then (chancellaw09_AuditSees.j0 k l0 a1 (((rd_T25 t155 0).f0) != 1) l2_0 a2_1 a2_2) else (none)) else (chancellaw09_AuditSees.j0 k l0 a1 true l2_0 a2_1 a2_2)))
theorem chancellaw09_AuditSees.mono_l : ∀ k, (∀ y0 y1 y2 y3 y4 y5, LeO (chancellaw09_AuditSees.j0 k y0 y1 y2 y3 y4 y5) (chancellaw09_AuditSees.j0 (k + 1) y0 y1 y2 y3 y4 y5)) ∧ (∀ y0 y1 y2 y3 y4 y5, LeO (chancellaw09_AuditSees.j1 k y0 y1 y2 y3 y4 y5) (chancellaw09_AuditSees.j1 (k + 1) y0 y1 y2 y3 y4 y5)) ∧ (∀ y0 y1 y2 y3 y4 y5 y6 y7, LeO (chancellaw09_AuditSees.l0 k y0 y1 y2 y3 y4 y5 y6 y7) (chancellaw09_AuditSees.l0 (k + 1) y0 y1 y2 y3 y4 y5 y6 y7))
  | 0 => ⟨fun _ _ _ _ _ _ r h => by simp [chancellaw09_AuditSees.j0] at h, fun _ _ _ _ _ _ r h => by simp [chancellaw09_AuditSees.j1] at h, fun _ _ _ _ _ _ _ _ r h => by simp [chancellaw09_AuditSees.l0] at h⟩
  | k + 1 => by
    obtain ⟨ih0, ih1, ih2⟩ := chancellaw09_AuditSees.mono_l k
    refine ⟨?_, ?_, ?_⟩
    · intro y0 y1 y2 y3 y4 y5
      unfold chancellaw09_AuditSees.j0
      repeat' first
      | (with_reducible exact ih0 _ _ _ _ _ _)
      | (with_reducible exact ih1 _ _ _ _ _ _)
      | (with_reducible exact ih2 _ _ _ _ _ _ _ _)
      | (with_reducible exact audit_Page.mono _ _ _ _ _ _)
      | (with_reducible exact chancellaw03_Small.mono _ _)
      | (with_reducible exact chancellaw09_small.mono _ _)
      | (with_reducible exact chancelref09_Page.mono _ _ _ _ _ _)
      | (with_reducible exact chancelref09_Same.mono _ _ _)
      | (with_reducible exact chancelref09_Sees.mono _ _ _ _ _ _ _ _)
      | (with_reducible exact LeO.refl _)
      | (with_reducible exact LeO.none _)
      | (with_reducible refine LeO.ite ?_ ?_)
      | (with_reducible refine LeO.bind ?_ (fun _ => ?_))
      | exact ih0 _ _ _ _ _ _
      | exact ih1 _ _ _ _ _ _
      | exact ih2 _ _ _ _ _ _ _ _
      | exact audit_Page.mono _ _ _ _ _ _
      | exact chancellaw03_Small.mono _ _
      | exact chancellaw09_small.mono _ _
      | exact chancelref09_Page.mono _ _ _ _ _ _
      | exact chancelref09_Same.mono _ _ _
      | exact chancelref09_Sees.mono _ _ _ _ _ _ _ _
      | exact LeO.none _
      | refine LeO.ite ?_ ?_
      | refine LeO.bind ?_ (fun _ => ?_)
    · intro y0 y1 y2 y3 y4 y5
      unfold chancellaw09_AuditSees.j1
      repeat' first
      | (with_reducible exact ih0 _ _ _ _ _ _)
      | (with_reducible exact ih1 _ _ _ _ _ _)
      | (with_reducible exact ih2 _ _ _ _ _ _ _ _)
      | (with_reducible exact audit_Page.mono _ _ _ _ _ _)
      | (with_reducible exact chancellaw03_Small.mono _ _)
      | (with_reducible exact chancellaw09_small.mono _ _)
      | (with_reducible exact chancelref09_Page.mono _ _ _ _ _ _)
      | (with_reducible exact chancelref09_Same.mono _ _ _)
      | (with_reducible exact chancelref09_Sees.mono _ _ _ _ _ _ _ _)
      | (with_reducible exact LeO.refl _)
      | (with_reducible exact LeO.none _)
      | (with_reducible refine LeO.ite ?_ ?_)
      | (with_reducible refine LeO.bind ?_ (fun _ => ?_))
      | exact ih0 _ _ _ _ _ _
      | exact ih1 _ _ _ _ _ _
      | exact ih2 _ _ _ _ _ _ _ _
      | exact audit_Page.mono _ _ _ _ _ _
      | exact chancellaw03_Small.mono _ _
      | exact chancellaw09_small.mono _ _
      | exact chancelref09_Page.mono _ _ _ _ _ _
      | exact chancelref09_Same.mono _ _ _
      | exact chancelref09_Sees.mono _ _ _ _ _ _ _ _
      | exact LeO.none _
      | refine LeO.ite ?_ ?_
      | refine LeO.bind ?_ (fun _ => ?_)
    · intro y0 y1 y2 y3 y4 y5 y6 y7
      unfold chancellaw09_AuditSees.l0
      repeat' first
      | (with_reducible exact ih0 _ _ _ _ _ _)
      | (with_reducible exact ih1 _ _ _ _ _ _)
      | (with_reducible exact ih2 _ _ _ _ _ _ _ _)
      | (with_reducible exact audit_Page.mono _ _ _ _ _ _)
      | (with_reducible exact chancellaw03_Small.mono _ _)
      | (with_reducible exact chancellaw09_small.mono _ _)
      | (with_reducible exact chancelref09_Page.mono _ _ _ _ _ _)
      | (with_reducible exact chancelref09_Same.mono _ _ _)
      | (with_reducible exact chancelref09_Sees.mono _ _ _ _ _ _ _ _)
      | (with_reducible exact LeO.refl _)
      | (with_reducible exact LeO.none _)
      | (with_reducible refine LeO.ite ?_ ?_)
      | (with_reducible refine LeO.bind ?_ (fun _ => ?_))
      | exact ih0 _ _ _ _ _ _
      | exact ih1 _ _ _ _ _ _
      | exact ih2 _ _ _ _ _ _ _ _
      | exact audit_Page.mono _ _ _ _ _ _
      | exact chancellaw03_Small.mono _ _
      | exact chancellaw09_small.mono _ _
      | exact chancelref09_Page.mono _ _ _ _ _ _
      | exact chancelref09_Same.mono _ _ _
      | exact chancelref09_Sees.mono _ _ _ _ _ _ _ _
      | exact LeO.none _
      | refine LeO.ite ?_ ?_
      | refine LeO.bind ?_ (fun _ => ?_)
theorem chancellaw09_AuditSees.mono : ∀ a0 a1 a2 a3 a4 k, LeO (chancellaw09_AuditSees.f k a0 a1 a2 a3 a4) (chancellaw09_AuditSees.f (k + 1) a0 a1 a2 a3 a4) := by
  intro a0 a1 a2 a3 a4 k
  obtain ⟨ih0, ih1, ih2⟩ := chancellaw09_AuditSees.mono_l k
  unfold chancellaw09_AuditSees.f
  repeat' first
      | (with_reducible exact ih0 _ _ _ _ _ _)
      | (with_reducible exact ih1 _ _ _ _ _ _)
      | (with_reducible exact ih2 _ _ _ _ _ _ _ _)
      | (with_reducible exact audit_Page.mono _ _ _ _ _ _)
      | (with_reducible exact chancellaw03_Small.mono _ _)
      | (with_reducible exact chancellaw09_small.mono _ _)
      | (with_reducible exact chancelref09_Page.mono _ _ _ _ _ _)
      | (with_reducible exact chancelref09_Same.mono _ _ _)
      | (with_reducible exact chancelref09_Sees.mono _ _ _ _ _ _ _ _)
      | (with_reducible exact LeO.refl _)
      | (with_reducible exact LeO.none _)
      | (with_reducible refine LeO.ite ?_ ?_)
      | (with_reducible refine LeO.bind ?_ (fun _ => ?_))
      | exact ih0 _ _ _ _ _ _
      | exact ih1 _ _ _ _ _ _
      | exact ih2 _ _ _ _ _ _ _ _
      | exact audit_Page.mono _ _ _ _ _ _
      | exact chancellaw03_Small.mono _ _
      | exact chancellaw09_small.mono _ _
      | exact chancelref09_Page.mono _ _ _ _ _ _
      | exact chancelref09_Same.mono _ _ _
      | exact chancelref09_Sees.mono _ _ _ _ _ _ _ _
      | exact LeO.none _
      | refine LeO.ite ?_ ?_
      | refine LeO.bind ?_ (fun _ => ?_)
def chancellaw09_AuditSees.T10 : Bool × List (List Nat × List Nat) := (true, [([], []), ([], []), ([], []), ([0, 1, 2], [0, 1, 2]), ([], []), ([], []), ([], []), ([4, 5, 6, 3], [4, 5, 6]), ([3, 7], [3, 7])])
def chancellaw09_AuditSees.B10 : List Nat := [0, 0, 0, 7, 0, 0, 0, 127, 255]
theorem chancellaw09_AuditSees.tab10 : rtab .any (opsOf Try.f4 10) = chancellaw09_AuditSees.T10 := by kernel_rfl
theorem chancellaw09_AuditSees.bits10 : waitsOk chancellaw09_AuditSees.T10.2 chancellaw09_AuditSees.B10 = true := by kernel_rfl
def chancellaw09_AuditSees.T13 : Bool × List (List Nat × List Nat) := (true, [([], []), ([], []), ([], []), ([2], [2]), ([], []), ([4], [4]), ([], []), ([6], [6]), ([0, 1, 3, 5, 7], [0, 1, 3, 5, 7]), ([], []), ([], []), ([], []), ([11], [11]), ([], []), ([13], [13]), ([], []), ([15], [15]), ([9, 10, 12, 14, 16, 8], [9, 10, 12, 14, 16]), ([8, 17, 17], [8, 17]), ([18, 18, 0, 1, 2, 3, 4, 5, 6, 7, 8, 9, 10, 11, 12, 13, 14, 15, 16, 17, 18], [18])])
def chancellaw09_AuditSees.B13 : List Nat := [0, 0, 0, 4, 0, 16, 0, 64, 255, 0, 0, 0, 2048, 0, 8192, 0, 32768, 131071, 262143, 524287]
theorem chancellaw09_AuditSees.tab13 : rtab .any (opsOf Try.f4 13) = chancellaw09_AuditSees.T13 := by kernel_rfl
theorem chancellaw09_AuditSees.bits13 : waitsOk chancellaw09_AuditSees.T13.2 chancellaw09_AuditSees.B13 = true := by kernel_rfl
set_option maxHeartbeats 8000000 in
set_option maxRecDepth 100000 in
theorem chancellaw09_AuditSees.calls (k : Nat) (A0 : Option Addr) (c0 : Nat) (l0 : List (S46)) (a1 : Int) (A2_0 : Option Addr) (c2_0 : Nat) (l2_0 : List (S25)) (a2_1 : Int) (a2_2 : Int) (r : Bool) (w : World) (hr0 : Kd.C k46 w A0 l0.length l0) (hc0 : l0.length ≤ c0) (hr2_0 : Kd.C k25 w A2_0 l2_0.length l2_0) (hc2_0 : l2_0.length ≤ c2_0) (h : chancellaw09_AuditSees.f k l0 a1 l2_0 a2_1 a2_2 = some r) :
    Calls Try.prog 4 #[.slice A0 l0.length c0, .int .i64 a1, .agg #[.slice A2_0 l2_0.length c2_0, .int .i64 a2_1, .int .i64 a2_2]] w fun e w' => e = .returned (.bool r) ∧ Below w.heap.size w w' := by
  have hu33 := Try.underlying33
  have hu25 := Try.underlying25
  have HR0 := Aside0.mk hr0
  have HC0 := Aside0.mk hc0
  clear hr0 hc0
  have HR2_0 := Aside0.mk hr2_0
  have HC2_0 := Aside0.mk hc2_0
  clear hr2_0 hc2_0
  have HB := Aside0.mk (Below.refl w.heap.size w)
  have H : ((chancellaw09_some.f).bind fun bt149 => ((audit_Page.f k bt149.1 1 bt149.2 0 9).bind fun t155 => (if (t155.length : Int) = 1 then (if 0 < (t155.length : Int) then (chancellaw09_AuditSees.j0 k l0 a1 (((rd_T25 t155 0).f0) != 1) l2_0 a2_1 a2_2) else (none)) else (chancellaw09_AuditSees.j0 k l0 a1 true l2_0 a2_1 a2_2)))) = some r := h
  clear h
  replace H := Option.bind_eq_some_iff.mp H
  obtain ⟨⟨t149, t152⟩, A40, H⟩ := H
  replace H : ((audit_Page.f k t149 1 t152 0 9).bind fun t155 => (if (t155.length : Int) = 1 then (if 0 < (t155.length : Int) then (chancellaw09_AuditSees.j0 k l0 a1 (((rd_T25 t155 0).f0) != 1) l2_0 a2_1 a2_2) else (none)) else (chancellaw09_AuditSees.j0 k l0 a1 true l2_0 a2_1 a2_2))) = some r := H
  have A4 := Aside0.mk A40
  clear A40
  replace H := Option.bind_eq_some_iff.mp H
  obtain ⟨t155, A50, H⟩ := H
  replace H : (if (t155.length : Int) = 1 then (if 0 < (t155.length : Int) then (chancellaw09_AuditSees.j0 k l0 a1 (((rd_T25 t155 0).f0) != 1) l2_0 a2_1 a2_2) else (none)) else (chancellaw09_AuditSees.j0 k l0 a1 true l2_0 a2_1 a2_2)) = some r := H
  have A5 := Aside0.mk A50
  clear A50
  have HC6 := Aside0.mk H
  clear H
  go_enter Try.func4, Try.ntmps4
  go_upto_region 3 with (first | ((with_reducible refine gate_dst (N := 5) rfl ?_); refine box_event ?hg (N := 5) ?hd (cs := #[.slice A2_0 l2_0.length c2_0, .int .i64 a2_1, .int .i64 a2_2]) (t := 33) ?hr ?_; (case hd => rfl); (case hg => rfl); (case hr => first | (go_simp; done) | (go_simp; rfl)); intro gb148 hg w7 hbox hb; have n0_ := Aside0.mk (below_step (by repeat (first | (with_reducible first | exact HB.out | apply below_alloc | apply pw_below_drewN | apply below_drew1) | exact HB.out)) hb); have n1_ := Aside0.mk (hbox); have n2_ := Aside0.mk ((by rw [hg]; exact (below_size (by repeat (first | (with_reducible first | exact HB.out | apply below_alloc | apply pw_below_drewN | apply below_drew1) | exact HB.out))) : w.heap.size ≤ gb148)); have n3_ := Aside0.mk ((by rw [hg]; exact (below_size (by repeat (first | (with_reducible first | exact HB.out | apply below_alloc | apply pw_below_drewN | apply below_drew1) | exact HB.out))) : w.heap.size ≤ gb148)); clear HB; have HB := n0_; have BK148 := n1_; have GW148 := n2_; have GE148 := n3_; clear n0_ n1_ n2_ n3_; clear hb hbox hg) | ((with_reducible refine gate_callee (f := 11) rfl ?_); refine goesL_ (some 13) rfl rfl Try.func11 (by kernel_rfl) rfl #[] rfl (by (try simp only [List.map_toArray, List.map_cons, List.map_nil]); first | done | rfl | (simp only [List.length_drop, List.length_take]; rfl)) ?_; (with_reducible refine (chancellaw09_some.calls  t149 t152 _ A4.out).mono ?_); rintro e w8 ⟨v150, v153, rfl, ho0, ho1, hb⟩; refine ⟨_, rfl, ?_⟩; have n0_ := Aside0.mk (Kd.N_lower (Kd.N_mono (ok' := fun k_ => some k_ ≠ (v153 : Value).ownBlock ∧ k_ ≠ gb148) ho0 (fun k_ hk_ => ⟨hk_.2, (Kd.freshB (g := gb148) (o := .cells #[.slice A2_0 l2_0.length c2_0, .int .i64 a2_1, .int .i64 a2_2] 33 (0, 0)) (by (with_reducible repeat (first | refine blk_drewN ?_ _ | refine blk_drew ?_ | refine blk_alloc ?_ _)); exact BK148.out) k_ hk_.1)⟩)) (below_size (by repeat (first | (with_reducible first | exact HB.out | apply below_alloc | apply pw_below_drewN | apply below_drew1 | refine below_set ?_ GE148.out) | exact HB.out)))); have n1_ := Aside0.mk (Kd.N_lower (Kd.N_mono (ok' := fun k_ => some k_ ≠ (v150 : Value).ownBlock ∧ k_ ≠ gb148) ho1 (fun k_ hk_ => ⟨hk_.2, (Kd.freshB (g := gb148) (o := .cells #[.slice A2_0 l2_0.length c2_0, .int .i64 a2_1, .int .i64 a2_2] 33 (0, 0)) (by (with_reducible repeat (first | refine blk_drewN ?_ _ | refine blk_drew ?_ | refine blk_alloc ?_ _)); exact BK148.out) k_ hk_.1)⟩)) (below_size (by repeat (first | (with_reducible first | exact HB.out | apply below_alloc | apply pw_below_drewN | apply below_drew1 | refine below_set ?_ GE148.out) | exact HB.out)))); have n2_ := Aside0.mk (blk_below (g := gb148) (o := .cells #[.slice A2_0 l2_0.length c2_0, .int .i64 a2_1, .int .i64 a2_2] 33 (0, 0)) (by (with_reducible repeat (first | refine blk_drewN ?_ _ | refine blk_drew ?_ | refine blk_alloc ?_ _)); exact BK148.out) hb); have n3_ := Aside0.mk (below_step (by repeat (first | (with_reducible first | exact HB.out | apply below_alloc | apply pw_below_drewN | apply below_drew1 | refine below_set ?_ GE148.out) | exact HB.out)) hb); clear BK148; clear HB; have HO151 := n0_; have HO154 := n1_; have BK148 := n2_; have HB := n3_; clear n0_ n1_ n2_ n3_; (try clear hb); (try clear hb2); (try clear hk); (try clear hi); (try clear ho0); (try clear ho1); obtain ⟨Ao9, co9, eo9⟩ := Kd.N_slice HO151.out; subst eo9; obtain ⟨Ao10, co10, eo10⟩ := Kd.N_slice HO154.out; subst eo10) | ((with_reducible refine gate_callee (f := 12) rfl ?_); refine goesL_ (some 18) rfl rfl Try.func12 (by kernel_rfl) rfl #[.slice Ao9 t149.length co9, .int .i64 1, .slice Ao10 t152.length co10, .int .i64 0, .int .i64 9] rfl (by (try simp only [List.map_toArray, List.map_cons, List.map_nil]); first | done | rfl | (simp only [List.length_drop, List.length_take]; rfl)) ?_; (with_reducible refine (audit_Page.calls k _ _ t149 1 (fun k_ => (some k_ ≠ (.slice Ao9 t149.length co9 : Value).ownBlock ∧ k_ ≠ gb148)) _ _ t152 0 9 t155 _ ?side1 ?side2 ?side3 A5.out).mono ?_); (case side1 => repeat (first | exact (Kd.N_reads' HO151.out).2.2 | (with_reducible refine Kd.C_alloc ?_ _) | (with_reducible refine Kd.C_drewN ?_ _) | (with_reducible refine Kd.C_drew ?_))); (case side2 => exact (Kd.N_reads' HO151.out).2.1); (case side3 => exact Kd.N_V (HO154.out)); rintro e w11 ⟨v156, rfl, ho0, hb⟩; refine ⟨_, rfl, ?_⟩; have n0_ := Aside0.mk (Kd.N_elder' (by (with_reducible repeat (first | apply Kd.N_alloc | apply Kd.N_drewN | apply Kd.N_drew)); exact HO151.out) (Kd.N_base ho0) hb); have n1_ := Aside0.mk (Kd.N_elder' (by (with_reducible repeat (first | apply Kd.N_alloc | apply Kd.N_drewN | apply Kd.N_drew)); exact HO154.out) (Kd.N_base ho0) hb); have n2_ := Aside0.mk (Kd.N_lower (Kd.N_mono (ok' := fun k_ => some k_ ≠ (.slice Ao9 t149.length co9 : Value).ownBlock ∧ k_ ≠ gb148) ho0 (fun k_ hk_ => ⟨Or.elim hk_ (fun hs_ => hs_.1) (fun hn_ => (Kd.fresh' (Kd.N_lt (by (with_reducible repeat (first | apply Kd.N_alloc | apply Kd.N_drewN | apply Kd.N_drew)); exact HO151.out)) k_ hn_)), Or.elim hk_ (fun hs_ => hs_.2) (fun hn_ => (Kd.freshB (g := gb148) (o := .cells #[.slice A2_0 l2_0.length c2_0, .int .i64 a2_1, .int .i64 a2_2] 33 (0, 0)) (by (with_reducible repeat (first | refine blk_drewN ?_ _ | refine blk_drew ?_ | refine blk_alloc ?_ _)); exact BK148.out) k_ hn_))⟩)) (below_size (by repeat (first | (with_reducible first | exact HB.out | apply below_alloc | apply pw_below_drewN | apply below_drew1 | refine below_set ?_ GE148.out) | exact HB.out)))); have n3_ := Aside0.mk (blk_below (g := gb148) (o := .cells #[.slice A2_0 l2_0.length c2_0, .int .i64 a2_1, .int .i64 a2_2] 33 (0, 0)) (by (with_reducible repeat (first | refine blk_drewN ?_ _ | refine blk_drew ?_ | refine blk_alloc ?_ _)); exact BK148.out) hb); have n4_ := Aside0.mk (below_step (by repeat (first | (with_reducible first | exact HB.out | apply below_alloc | apply pw_below_drewN | apply below_drew1 | refine below_set ?_ GE148.out) | exact HB.out)) hb); clear HO151; clear HO154; clear BK148; clear HB; have HO151 := n0_; have HO154 := n1_; have HO157 := n2_; have BK148 := n3_; have HB := n4_; clear n0_ n1_ n2_ n3_ n4_; (try clear hb); (try clear hb2); (try clear hk); (try clear hi); (try clear ho0)))
  (try simp only [Act.put, List.setIfInBounds_toArray, List.set_cons_zero, List.set_cons_succ])
  go_cut [28] (fun v28 wc => ∃ (kq : Nat) (x28_5 : Bool), v28 = .bool x28_5 ∧ Aside0 (chancellaw09_AuditSees.j0 kq l0 a1 x28_5 l2_0 a2_1 a2_2 = some r) ∧ Aside0 (kq ≤ k) ∧ Aside0 (wc.heap[gb148]? = some (.cells #[(.slice A2_0 l2_0.length c2_0), .int .i64 a2_1, .int .i64 a2_2] 33 (0, 0))) ∧ Aside0 (Below w.heap.size w wc))
  case first =>
    have H := HC6.out
    clear HC6
    by_cases c12 : (t155.length : Int) = 1
    · rw [if_pos c12] at H
      have c12b0 : ((t155.length : Int) == 1) = true := beq_iff_eq.mpr c12
      have c12b1 : ((t155.length : Int) != 1) = false := bne_eq_false_iff_eq.mpr c12
      clear c12
      (first | rw [c12b0] | (simp only [i64_w, i32_w]; rw [c12b0]) | skip)
      by_cases c13 : 0 < (t155.length : Int)
      · rw [if_pos c13] at H
        have c13b0 : decide (0 < (t155.length : Int)) = true := decide_eq_true c13
        have c13b1 : decide (0 < t155.length) = true := decide_eq_true (by omega)
        clear c13
        have H' := Aside0.mk H
        clear H
        obtain ⟨Ao14, co14, eo14⟩ := Kd.N_slice HO157.out
        subst eo14
        have p158 : 0 ≤ (0 : Int) := (by omega)
        have q158 : 0 < (t155.length : Int) := of_decide_eq_true (by first | (with_reducible assumption) | assumption)
        obtain ⟨ad158, A158_3, c158_3, A158_4, c158_4, e158, hx158_0, hx158_1, hx158_2, hx158_3, hx158_4, hl158_3, hi158_3, hl158_4, hi158_4⟩ := at_T25 (Kd.N_reads' HO157.out).2.2 0 p158 q158
        cases e158
        obtain ⟨ce158, hce158, hMe158, hcc158⟩ := Kd.N_get HO157.out z25 0 p158 (by first | exact q158 | exact of_decide_eq_true (by first | (with_reducible assumption) | assumption) | (have e_ := (Kd.N_reads' HO157.out).1; omega))
        obtain ⟨ua158_3, uc158_3, ua158_4, uc158_4, rfl, ul158_3, ge158_3, ul158_4, ge158_4⟩ := k25_openF hMe158
        have hv158_3 := hcc158 3 _ rfl
        rw [add_field _ _ 3 (by omega)] at hv158_3
        replace hv158_3 := Option.some.inj (hv158_3.symm.trans hx158_3)
        injection hv158_3 with hva_ hvn_ hvc_
        rw [hva_] at ge158_3
        rw [hvc_] at ul158_3
        have HL158_3 := Aside0.mk (show Kd.V (Kd.int .i64) 3 _ w.heap.size _ _ ((rd_T25 t155 0).f3) from Kd.V_mk ul158_3 ge158_3)
        clear hva_ hvn_ hvc_ ge158_3 ul158_3
        have hv158_4 := hcc158 4 _ rfl
        rw [add_field _ _ 4 (by omega)] at hv158_4
        replace hv158_4 := Option.some.inj (hv158_4.symm.trans hx158_4)
        injection hv158_4 with hva_ hvn_ hvc_
        rw [hva_] at ge158_4
        rw [hvc_] at ul158_4
        have HL158_4 := Aside0.mk (show Kd.V (Kd.int .i64) 3 _ w.heap.size _ _ ((rd_T25 t155 0).f4) from Kd.V_mk ul158_4 ge158_4)
        clear hva_ hvn_ hvc_ ge158_4 ul158_4
        clear hcc158 hce158
        have qi158 : (0 < t155.length) = True := eq_true (by omega)
        (try rw [show ((0 : Int)).toNat = 0 from rfl] at hx158_0)
        (try rw [show 0 * 5 = 0 from rfl] at hx158_0)
        (try rw [Addr.add_zero'] at hx158_0)
        (try rw [show ((0 : Int)).toNat = 0 from rfl] at hx158_1)
        (try rw [show 0 * 5 = 0 from rfl] at hx158_1)
        (try rw [Addr.add_zero'] at hx158_1)
        (try rw [show ((0 : Int)).toNat = 0 from rfl] at hx158_2)
        (try rw [show 0 * 5 = 0 from rfl] at hx158_2)
        (try rw [Addr.add_zero'] at hx158_2)
        (try rw [show ((0 : Int)).toNat = 0 from rfl] at hx158_3)
        (try rw [show 0 * 5 = 0 from rfl] at hx158_3)
        (try rw [Addr.add_zero'] at hx158_3)
        (try rw [show ((0 : Int)).toNat = 0 from rfl] at hx158_4)
        (try rw [show 0 * 5 = 0 from rfl] at hx158_4)
        (try rw [Addr.add_zero'] at hx158_4)
        have HR158_3 := Aside0.mk hi158_3
        have HC158_3 := Aside0.mk hl158_3
        clear hi158_3 hl158_3
        have HR158_4 := Aside0.mk hi158_4
        have HC158_4 := Aside0.mk hl158_4
        clear hi158_4 hl158_4
        replace p158 := eq_true p158
        replace q158 := eq_true q158
        go_wp2
        go_meet
        case rel => exact ⟨_, ((((rd_T25 t155 0).f0) != 1)), (by first | rfl | (simp; done) | (simp [*]; done)), H', ⟨by first | omega | exact Nat.le_refl _⟩, ⟨by (with_reducible repeat (first | refine blk_drewN ?_ _ | refine blk_drew ?_ | refine blk_alloc ?_ _)); exact BK148.out⟩, ⟨by repeat (first | (with_reducible first | exact HB.out | apply below_alloc | apply pw_below_drewN | apply below_drew1 | refine below_set ?_ GE148.out) | exact HB.out)⟩⟩
      · rw [if_neg c13] at H
        exact absurd H (by simp)
    · rw [if_neg c12] at H
      have c12b0 : ((t155.length : Int) == 1) = false := beq_eq_false_iff_ne.mpr c12
      have c12b1 : ((t155.length : Int) != 1) = true := bne_iff_ne.mpr c12
      (first | rw [c12b0] | (simp only [i64_w, i32_w]; rw [c12b0]) | skip)
      have H' := Aside0.mk H
      clear H
      obtain ⟨Ao15, co15, eo15⟩ := Kd.N_slice HO157.out
      subst eo15
      go_wp2
      go_meet
      case rel => exact ⟨_, (true), (by first | rfl | (simp; done) | (simp [*]; done)), H', ⟨by first | omega | exact Nat.le_refl _⟩, ⟨by (with_reducible repeat (first | refine blk_drewN ?_ _ | refine blk_drew ?_ | refine blk_alloc ?_ _)); exact BK148.out⟩, ⟨by repeat (first | (with_reducible first | exact HB.out | apply below_alloc | apply pw_below_drewN | apply below_drew1 | refine below_set ?_ GE148.out) | exact HB.out)⟩⟩
  case rest =>
    clear HC6
    try clear c1
    try clear p1
    try clear q1
    try clear hx1
    try clear qi1
    try clear c2
    try clear p2
    try clear c4
    try clear c11
    try clear c12
    try clear c12b0
    try clear c12b1
    try clear c13
    try clear c13b0
    try clear c13b1
    try clear c15
    try clear p15
    try clear q15
    try clear hx15
    try clear qi15
    try clear hx158_0
    try clear hx158_1
    try clear hx158_2
    try clear hx158_3
    try clear hx158_4
    try clear p158
    try clear q158
    obtain ⟨kq, x28_5, rfl, HA, HJ5, BK148, HB⟩ := hcut
    cases kq with
    | zero => exact absurd HA.out (by simp [chancellaw09_AuditSees.j0])
    | succ kj5 =>
      have H := HA.out
      clear HA
      simp only [chancellaw09_AuditSees.j0] at H
      by_cases c16 : x28_5 = true
      · subst c16
        have H1 : (some false) = some r := by rw [if_pos rfl] at H; exact H
        clear H
        have H := H1
        clear H1
        obtain rfl := Option.some.inj H
        go_wp2
        go_ret
        exact ⟨by first | rfl | (simp [errW_none, errW_some] <;> rfl) | (simp [*, errW_none, errW_some] <;> rfl), by repeat (first | (with_reducible first | exact HB.out | apply below_alloc | apply pw_below_drewN | apply below_drew1 | refine below_set ?_ GE148.out) | exact HB.out)⟩
      · replace c16 := Bool.eq_false_iff.mpr c16
        subst c16
        have H1 : ((chancellaw03_Small.f kj5 l0).bind fun t159 => (if t159 = true then ((chancellaw09_small.f kj5 l2_0).bind fun t160 => (chancellaw09_AuditSees.j1 kj5 l0 a1 (!t160) l2_0 a2_1 a2_2)) else (chancellaw09_AuditSees.j1 kj5 l0 a1 true l2_0 a2_1 a2_2))) = some r := by rw [if_neg (show ¬ (false = true) by decide)] at H; exact H
        clear H
        have H := H1
        clear H1
        have HC17 := Aside0.mk H
        clear H
        go_upto_region 5 with (fail)
        go_cut [37] (fun v37 wc => ∃ (kq : Nat) (x37_16 : Bool), v37 = .bool x37_16 ∧ Aside0 (chancellaw09_AuditSees.j1 kq l0 a1 x37_16 l2_0 a2_1 a2_2 = some r) ∧ Aside0 (kq ≤ kj5) ∧ Aside0 (wc.heap[gb148]? = some (.cells #[(.slice A2_0 l2_0.length c2_0), .int .i64 a2_1, .int .i64 a2_2] 33 (0, 0))) ∧ Aside0 (Below w.heap.size w wc))
        case first =>
          have H := HC17.out
          clear HC17
          replace H := Option.bind_eq_some_iff.mp H
          obtain ⟨t159, A180, H⟩ := H
          replace H : (if t159 = true then ((chancellaw09_small.f kj5 l2_0).bind fun t160 => (chancellaw09_AuditSees.j1 kj5 l0 a1 (!t160) l2_0 a2_1 a2_2)) else (chancellaw09_AuditSees.j1 kj5 l0 a1 true l2_0 a2_1 a2_2)) = some r := H
          have A18 := Aside0.mk A180
          clear A180
          by_cases c19 : t159 = true
          · subst c19
            have H1 : ((chancellaw09_small.f kj5 l2_0).bind fun t160 => (chancellaw09_AuditSees.j1 kj5 l0 a1 (!t160) l2_0 a2_1 a2_2)) = some r := by rw [if_pos rfl] at H; exact H
            clear H
            have H := H1
            clear H1
            replace H := Option.bind_eq_some_iff.mp H
            obtain ⟨t160, A200, H⟩ := H
            replace H : (chancellaw09_AuditSees.j1 kj5 l0 a1 (!t160) l2_0 a2_1 a2_2) = some r := H
            have A20 := Aside0.mk A200
            clear A200
            have H' := Aside0.mk H
            clear H
            go_wp2_with (first | ((with_reducible refine gate_callee (f := 13) rfl ?_); refine goesL_ (some 30) rfl rfl Try.func13 (by kernel_rfl) rfl #[.slice A0 l0.length c0] rfl (by (try simp only [List.map_toArray, List.map_cons, List.map_nil]); first | done | rfl | (simp only [List.length_drop, List.length_take]; rfl)) ?_; (with_reducible refine (chancellaw03_Small.calls kj5 _ _ l0 true _ ?side1 ?side2 A18.out).mono ?_); (case side1 => repeat (first | exact (Kd.C_below HR0.out HB.out) | (with_reducible refine Kd.C_alloc ?_ _) | (with_reducible refine Kd.C_drewN ?_ _) | (with_reducible refine Kd.C_drew ?_))); (case side2 => exact HC0.out); rintro e w21 ⟨rfl, hb⟩; refine ⟨_, rfl, ?_⟩; have n0_ := Aside0.mk (blk_below (g := gb148) (o := .cells #[.slice A2_0 l2_0.length c2_0, .int .i64 a2_1, .int .i64 a2_2] 33 (0, 0)) (by (with_reducible repeat (first | refine blk_drewN ?_ _ | refine blk_drew ?_ | refine blk_alloc ?_ _)); exact BK148.out) hb); have n1_ := Aside0.mk (below_step (by repeat (first | (with_reducible first | exact HB.out | apply below_alloc | apply pw_below_drewN | apply below_drew1 | refine below_set ?_ GE148.out) | exact HB.out)) hb); clear BK148; clear HB; have BK148 := n0_; have HB := n1_; clear n0_ n1_; (try clear hb); (try clear hb2); (try clear hk); (try clear hi); have hcz22_0 : w21.cell? ⟨gb148, 0, none⟩ = some (.slice A2_0 l2_0.length c2_0) := (blk_cell BK148.out 0).trans rfl; have hcz22_1 : w21.cell? ⟨gb148, 1, none⟩ = some (.int .i64 a2_1) := (blk_cell BK148.out 1).trans rfl; have hcz22_2 : w21.cell? ⟨gb148, 2, none⟩ = some (.int .i64 a2_2) := (blk_cell BK148.out 2).trans rfl; have hfz22_0 := blk_frozen BK148.out 0; have hfz22_1 := blk_frozen BK148.out 1; have hfz22_2 := blk_frozen BK148.out 2) | (go_at_call 8; (with_reducible refine (chancellaw09_small.calls kj5 _ _ l2_0 t160 _ ?side1 ?side2 A20.out).mono ?_); (case side1 => repeat (first | exact (Kd.C_below HR2_0.out HB.out) | (with_reducible refine Kd.C_alloc ?_ _) | (with_reducible refine Kd.C_drewN ?_ _) | (with_reducible refine Kd.C_drew ?_))); (case side2 => exact HC2_0.out); rintro e w23 ⟨rfl, hb⟩; have n0_ := Aside0.mk (blk_below (g := gb148) (o := .cells #[.slice A2_0 l2_0.length c2_0, .int .i64 a2_1, .int .i64 a2_2] 33 (0, 0)) (by (with_reducible repeat (first | refine blk_drewN ?_ _ | refine blk_drew ?_ | refine blk_alloc ?_ _)); exact BK148.out) hb); have n1_ := Aside0.mk (below_step (by repeat (first | (with_reducible first | exact HB.out | apply below_alloc | apply pw_below_drewN | apply below_drew1 | refine below_set ?_ GE148.out) | exact HB.out)) hb); clear BK148; clear HB; have BK148 := n0_; have HB := n1_; clear n0_ n1_; (try clear hb); (try clear hb2); (try clear hk); (try clear hi)))
            go_meet
            case rel => exact ⟨_, (!t160), (by first | rfl | (simp; done) | (simp [*]; done)), H', ⟨by have := HJ5.out; first | omega | exact Nat.le_refl _⟩, ⟨by (with_reducible repeat (first | refine blk_drewN ?_ _ | refine blk_drew ?_ | refine blk_alloc ?_ _)); exact BK148.out⟩, ⟨by repeat (first | (with_reducible first | exact HB.out | apply below_alloc | apply pw_below_drewN | apply below_drew1 | refine below_set ?_ GE148.out) | exact HB.out)⟩⟩
          · replace c19 := Bool.eq_false_iff.mpr c19
            subst c19
            have H1 : (chancellaw09_AuditSees.j1 kj5 l0 a1 true l2_0 a2_1 a2_2) = some r := by rw [if_neg (show ¬ (false = true) by decide)] at H; exact H
            clear H
            have H := H1
            clear H1
            have H' := Aside0.mk H
            clear H
            go_wp2_with (first | ((with_reducible refine gate_callee (f := 13) rfl ?_); refine goesL_ (some 30) rfl rfl Try.func13 (by kernel_rfl) rfl #[.slice A0 l0.length c0] rfl (by (try simp only [List.map_toArray, List.map_cons, List.map_nil]); first | done | rfl | (simp only [List.length_drop, List.length_take]; rfl)) ?_; (with_reducible refine (chancellaw03_Small.calls kj5 _ _ l0 false _ ?side1 ?side2 A18.out).mono ?_); (case side1 => repeat (first | exact (Kd.C_below HR0.out HB.out) | (with_reducible refine Kd.C_alloc ?_ _) | (with_reducible refine Kd.C_drewN ?_ _) | (with_reducible refine Kd.C_drew ?_))); (case side2 => exact HC0.out); rintro e w24 ⟨rfl, hb⟩; refine ⟨_, rfl, ?_⟩; have n0_ := Aside0.mk (blk_below (g := gb148) (o := .cells #[.slice A2_0 l2_0.length c2_0, .int .i64 a2_1, .int .i64 a2_2] 33 (0, 0)) (by (with_reducible repeat (first | refine blk_drewN ?_ _ | refine blk_drew ?_ | refine blk_alloc ?_ _)); exact BK148.out) hb); have n1_ := Aside0.mk (below_step (by repeat (first | (with_reducible first | exact HB.out | apply below_alloc | apply pw_below_drewN | apply below_drew1 | refine below_set ?_ GE148.out) | exact HB.out)) hb); clear BK148; clear HB; have BK148 := n0_; have HB := n1_; clear n0_ n1_; (try clear hb); (try clear hb2); (try clear hk); (try clear hi)))
            go_meet
            case rel => exact ⟨_, (true), (by first | rfl | (simp; done) | (simp [*]; done)), H', ⟨by have := HJ5.out; first | omega | exact Nat.le_refl _⟩, ⟨by (with_reducible repeat (first | refine blk_drewN ?_ _ | refine blk_drew ?_ | refine blk_alloc ?_ _)); exact BK148.out⟩, ⟨by repeat (first | (with_reducible first | exact HB.out | apply below_alloc | apply pw_below_drewN | apply below_drew1 | refine below_set ?_ GE148.out) | exact HB.out)⟩⟩
        case rest =>
          clear HC17
          try clear c1
          try clear p1
          try clear q1
          try clear hx1
          try clear qi1
          try clear c2
          try clear p2
          try clear c4
          try clear c11
          try clear c12
          try clear c12b0
          try clear c12b1
          try clear c13
          try clear c13b0
          try clear c13b1
          try clear c15
          try clear p15
          try clear q15
          try clear hx15
          try clear qi15
          try clear c16
          try clear c19
          try clear hcz22_0
          try clear hcz22_1
          try clear hcz22_2
          try clear hfz22_0
          try clear hfz22_1
          try clear hfz22_2
          try clear hx158_0
          try clear hx158_1
          try clear hx158_2
          try clear hx158_3
          try clear hx158_4
          try clear p1
          try clear p15
          try clear p158
          try clear p2
          try clear q1
          try clear q15
          try clear q158
          obtain ⟨kq, x37_16, rfl, HA, HJ16, BK148, HB⟩ := hcut
          cases kq with
          | zero => exact absurd HA.out (by simp [chancellaw09_AuditSees.j1])
          | succ kj16 =>
            have H := HA.out
            clear HA
            simp only [chancellaw09_AuditSees.j1] at H
            by_cases c25 : x37_16 = true
            · subst c25
              have H1 : (some true) = some r := by rw [if_pos rfl] at H; exact H
              clear H
              have H := H1
              clear H1
              obtain rfl := Option.some.inj H
              go_wp2
              go_ret
              exact ⟨by first | rfl | (simp [errW_none, errW_some] <;> rfl) | (simp [*, errW_none, errW_some] <;> rfl), by repeat (first | (with_reducible first | exact HB.out | apply below_alloc | apply pw_below_drewN | apply below_drew1 | refine below_set ?_ GE148.out) | exact HB.out)⟩
            · replace c25 := Bool.eq_false_iff.mpr c25
              subst c25
              have H1 : (chancellaw09_AuditSees.l0 kj16 l0 a1 l2_0 (l2_0.length : Int) 0 l2_0 a2_1 a2_2) = some r := by rw [if_neg (show ¬ (false = true) by decide)] at H; exact H
              clear H
              have H := H1
              clear H1
              have H' := Aside0.mk H
              clear H
              have hcz26_0 : wc.cell? ⟨gb148, 0, none⟩ = some (.slice A2_0 l2_0.length c2_0) := (blk_cell BK148.out 0).trans rfl
              have hcz26_1 : wc.cell? ⟨gb148, 1, none⟩ = some (.int .i64 a2_1) := (blk_cell BK148.out 1).trans rfl
              have hcz26_2 : wc.cell? ⟨gb148, 2, none⟩ = some (.int .i64 a2_2) := (blk_cell BK148.out 2).trans rfl
              have hfz26_0 := blk_frozen BK148.out 0
              have hfz26_1 := blk_frozen BK148.out 1
              have hfz26_2 := blk_frozen BK148.out 2
              go_wp2
              go_loopg [41] kj16 (fun kq v41 w' => ∃ (x41_3 : Int), v41 = .int .i64 x41_3 ∧ Aside0 (chancellaw09_AuditSees.l0 kq l0 a1 l2_0 (l2_0.length : Int) x41_3 l2_0 a2_1 a2_2 = some r) ∧ Aside0 (kq ≤ kj16) ∧ Aside0 (w'.heap[gb148]? = some (.cells #[(.slice A2_0 l2_0.length c2_0), .int .i64 a2_1, .int .i64 a2_2] 33 (0, 0))) ∧ Aside0 (Below w.heap.size w w'))
              case atStart => exact ⟨(0), (by first | rfl | (simp; done) | (simp [*]; done)), H', ⟨Nat.le_refl _⟩, ⟨by (with_reducible repeat (first | refine blk_drewN ?_ _ | refine blk_drew ?_ | refine blk_alloc ?_ _)); exact BK148.out⟩, ⟨by repeat (first | (with_reducible first | exact HB.out | apply below_alloc | apply pw_below_drewN | apply below_drew1 | refine below_set ?_ GE148.out) | exact HB.out)⟩⟩
              case round =>
                clear H'
                try clear c1
                try clear p1
                try clear q1
                try clear hx1
                try clear qi1
                try clear c2
                try clear p2
                try clear c4
                try clear c11
                try clear c12
                try clear c12b0
                try clear c12b1
                try clear c13
                try clear c13b0
                try clear c13b1
                try clear c15
                try clear p15
                try clear q15
                try clear hx15
                try clear qi15
                try clear c16
                try clear c19
                try clear c25
                try clear hcz22_0
                try clear hcz22_1
                try clear hcz22_2
                try clear hcz26_0
                try clear hcz26_1
                try clear hcz26_2
                try clear hfz22_0
                try clear hfz22_1
                try clear hfz22_2
                try clear hfz26_0
                try clear hfz26_1
                try clear hfz26_2
                try clear hx158_0
                try clear hx158_1
                try clear hx158_2
                try clear hx158_3
                try clear hx158_4
                try clear p1
                try clear p15
                try clear p158
                try clear p2
                try clear q1
                try clear q15
                try clear q158
                obtain ⟨x41_3, rfl, HA, HK3, BK148, HB⟩ := hrel
                cases gk with
                | zero => exact absurd HA.out (by simp [chancellaw09_AuditSees.l0])
                | succ k3 =>
                  have H := HA.out
                  clear HA
                  simp only [chancellaw09_AuditSees.l0] at H
                  by_cases c27 : x41_3 < (l2_0.length : Int)
                  · rw [if_pos c27] at H
                    have c27b0 : decide (x41_3 < (l2_0.length : Int)) = true := decide_eq_true c27
                    clear c27
                    by_cases c28 : 0 ≤ x41_3
                    · rw [if_pos c28] at H
                      have c28b0 : decide (0 ≤ x41_3) = true := decide_eq_true c28
                      clear c28
                      by_cases c29 : x41_3 < (l2_0.length : Int)
                      · rw [if_pos c29] at H
                        have c29b0 : decide (x41_3 < (l2_0.length : Int)) = true := decide_eq_true c29
                        clear c29
                        replace H := Option.bind_eq_some_iff.mp H
                        obtain ⟨t170, A300, H⟩ := H
                        replace H : ((chancelref09_Sees.f k3 l0 a1 ((rd_T25 l2_0 x41_3).f0) ((rd_T25 l2_0 x41_3).f1) ((rd_T25 l2_0 x41_3).f2) ((rd_T25 l2_0 x41_3).f3) ((rd_T25 l2_0 x41_3).f4)).bind fun t171 => (if (t170 != t171) = true then (some false) else (chancellaw09_AuditSees.l0 k3 l0 a1 l2_0 (l2_0.length : Int) (wrap64 (x41_3 + 1)) l2_0 a2_1 a2_2))) = some r := H
                        have A30 := Aside0.mk A300
                        clear A300
                        replace H := Option.bind_eq_some_iff.mp H
                        obtain ⟨t171, A310, H⟩ := H
                        replace H : (if (t170 != t171) = true then (some false) else (chancellaw09_AuditSees.l0 k3 l0 a1 l2_0 (l2_0.length : Int) (wrap64 (x41_3 + 1)) l2_0 a2_1 a2_2)) = some r := H
                        have A31 := Aside0.mk A310
                        clear A310
                        by_cases c32 : (t170 != t171) = true
                        · rw [if_pos c32] at H
                          have c32b0 : (t170 != t171) = true := c32
                          (try (have c32b1 : decide (t170 = t171) = false := by simpa using c32))
                          (try (have c32b2 : (t170 == t171) = false := by simpa using c32))
                          (try (have c32b3 : ¬ (t170 = t171) := by simpa using c32))
                          clear c32
                          obtain rfl := Option.some.inj H
                          have p168 : 0 ≤ (x41_3 : Int) := of_decide_eq_true (by first | (with_reducible assumption) | assumption)
                          have q168 : x41_3 < (l2_0.length : Int) := of_decide_eq_true (by first | (with_reducible assumption) | assumption)
                          obtain ⟨ad168, A168_3, c168_3, A168_4, c168_4, e168, hx168_0, hx168_1, hx168_2, hx168_3, hx168_4, hl168_3, hi168_3, hl168_4, hi168_4⟩ := at_T25 HR2_0.out x41_3 p168 q168
                          cases e168
                          replace hx168_0 := (HB.out.cell (World.block_lt_of_cell? w _ hx168_0)).trans hx168_0
                          replace hx168_1 := (HB.out.cell (World.block_lt_of_cell? w _ hx168_1)).trans hx168_1
                          replace hx168_2 := (HB.out.cell (World.block_lt_of_cell? w _ hx168_2)).trans hx168_2
                          replace hx168_3 := (HB.out.cell (World.block_lt_of_cell? w _ hx168_3)).trans hx168_3
                          replace hx168_4 := (HB.out.cell (World.block_lt_of_cell? w _ hx168_4)).trans hx168_4
                          have HR168_3 := Aside0.mk hi168_3
                          have HC168_3 := Aside0.mk hl168_3
                          clear hi168_3 hl168_3
                          have HR168_4 := Aside0.mk hi168_4
                          have HC168_4 := Aside0.mk hl168_4
                          clear hi168_4 hl168_4
                          replace p168 := eq_true p168
                          replace q168 := eq_true q168
                          try go_wp2_with (first | ((with_reducible refine gate_dst (N := 11) rfl ?_); refine box_event ?hg (N := 11) ?hd (cs := #[.int .i64 0, .int .i64 0, .int .i64 0, .slice none 0 0, .slice none 0 0]) (t := 25) ?hr ?_; (case hd => rfl); (case hg => rfl); (case hr => first | (go_simp; done) | (go_simp; rfl)); intro gb169 hg w33 hbox hb; have n0_ := Aside0.mk (blk_below (g := gb148) (o := .cells #[.slice (some ad168) l2_0.length c2_0, .int .i64 a2_1, .int .i64 a2_2] 33 (0, 0)) (by (with_reducible repeat (first | refine blk_drewN ?_ _ | refine blk_drew ?_ | refine blk_alloc ?_ _)); exact BK148.out) hb); have n1_ := Aside0.mk (below_step (by repeat (first | (with_reducible first | exact HB.out | apply below_alloc | apply pw_below_drewN | apply below_drew1 | refine below_set ?_ GE148.out) | exact HB.out)) hb); have n2_ := Aside0.mk (hbox); have n3_ := Aside0.mk ((by rw [hg]; exact (below_size (by repeat (first | (with_reducible first | exact HB.out | apply below_alloc | apply pw_below_drewN | apply below_drew1 | refine below_set ?_ GE148.out) | exact HB.out))) : w.heap.size ≤ gb169)); have n4_ := Aside0.mk ((by rw [hg]; exact (below_size (by repeat (first | (with_reducible first | exact HB.out | apply below_alloc | apply pw_below_drewN | apply below_drew1 | refine below_set ?_ GE148.out) | exact HB.out))) : w.heap.size ≤ gb169)); have n5_ := Aside0.mk ((by rw [hg]; exact Nat.ne_of_lt (blk_lt (g := gb148) (o := .cells #[.slice (some ad168) l2_0.length c2_0, .int .i64 a2_1, .int .i64 a2_2] 33 (0, 0)) (by (with_reducible repeat (first | refine blk_drewN ?_ _ | refine blk_drew ?_ | refine blk_alloc ?_ _)); exact BK148.out)) : gb148 ≠ gb169)); have n6_ := Aside0.mk ((by rw [hg]; exact Nat.ne_of_gt (blk_lt (g := gb148) (o := .cells #[.slice (some ad168) l2_0.length c2_0, .int .i64 a2_1, .int .i64 a2_2] 33 (0, 0)) (by (with_reducible repeat (first | refine blk_drewN ?_ _ | refine blk_drew ?_ | refine blk_alloc ?_ _)); exact BK148.out)) : gb169 ≠ gb148)); clear BK148; clear HB; have BK148 := n0_; have HB := n1_; have BK169 := n2_; have GW169 := n3_; have GE169 := n4_; have NB148_169 := n5_; have NB169_148 := n6_; clear n0_ n1_ n2_ n3_ n4_ n5_ n6_; clear hb hbox hg; have hnb34 := NB169_148.out; have hnc34 := NB148_169.out; have hcz35_0 : w33.cell? ⟨gb169, 0, none⟩ = some (.int .i64 0) := (blk_cell BK169.out 0).trans rfl; have hcz35_1 : w33.cell? ⟨gb169, 1, none⟩ = some (.int .i64 0) := (blk_cell BK169.out 1).trans rfl; have hcz35_2 : w33.cell? ⟨gb169, 2, none⟩ = some (.int .i64 0) := (blk_cell BK169.out 2).trans rfl; have hcz35_3 : w33.cell? ⟨gb169, 3, none⟩ = some (.slice none 0 0) := (blk_cell BK169.out 3).trans rfl; have hcz35_4 : w33.cell? ⟨gb169, 4, none⟩ = some (.slice none 0 0) := (blk_cell BK169.out 4).trans rfl; have hfz35_0 := blk_frozen BK169.out 0; have hfz35_1 := blk_frozen BK169.out 1; have hfz35_2 := blk_frozen BK169.out 2; have hfz35_3 := blk_frozen BK169.out 3; have hfz35_4 := blk_frozen BK169.out 4))
                          have n0_ : Aside0 ((((((w33.setCell ⟨gb169, 0, none⟩ (.int .i64 ((rd_T25 l2_0 x41_3).f0))).setCell ⟨gb169, 1, none⟩ (.int .i64 ((rd_T25 l2_0 x41_3).f1))).setCell ⟨gb169, 2, none⟩ (.int .i64 ((rd_T25 l2_0 x41_3).f2))).setCell ⟨gb169, 3, none⟩ (.slice A168_3 ((rd_T25 l2_0 x41_3).f3).length c168_3)).setCell ⟨gb169, 4, none⟩ (.slice A168_4 ((rd_T25 l2_0 x41_3).f4).length c168_4)).heap[gb148]? = some (.cells #[.slice (some ad168) l2_0.length c2_0, .int .i64 a2_1, .int .i64 a2_2] 33 (0, 0))) := ⟨by (with_reducible repeat (first | refine blk_drewN ?_ _ | refine blk_drew ?_ | refine blk_alloc ?_ _)); refine blk_far ?_ NB148_169.out _; (with_reducible repeat (first | refine blk_drewN ?_ _ | refine blk_drew ?_ | refine blk_alloc ?_ _)); refine blk_far ?_ NB148_169.out _; (with_reducible repeat (first | refine blk_drewN ?_ _ | refine blk_drew ?_ | refine blk_alloc ?_ _)); refine blk_far ?_ NB148_169.out _; (with_reducible repeat (first | refine blk_drewN ?_ _ | refine blk_drew ?_ | refine blk_alloc ?_ _)); refine blk_far ?_ NB148_169.out _; (with_reducible repeat (first | refine blk_drewN ?_ _ | refine blk_drew ?_ | refine blk_alloc ?_ _)); refine blk_far ?_ NB148_169.out _; (with_reducible repeat (first | refine blk_drewN ?_ _ | refine blk_drew ?_ | refine blk_alloc ?_ _)); exact BK148.out⟩
                          have n1_ : Aside0 ((((((w33.setCell ⟨gb169, 0, none⟩ (.int .i64 ((rd_T25 l2_0 x41_3).f0))).setCell ⟨gb169, 1, none⟩ (.int .i64 ((rd_T25 l2_0 x41_3).f1))).setCell ⟨gb169, 2, none⟩ (.int .i64 ((rd_T25 l2_0 x41_3).f2))).setCell ⟨gb169, 3, none⟩ (.slice A168_3 ((rd_T25 l2_0 x41_3).f3).length c168_3)).setCell ⟨gb169, 4, none⟩ (.slice A168_4 ((rd_T25 l2_0 x41_3).f4).length c168_4)).heap[gb169]? = some (.cells #[.int .i64 ((rd_T25 l2_0 x41_3).f0), .int .i64 ((rd_T25 l2_0 x41_3).f1), .int .i64 ((rd_T25 l2_0 x41_3).f2), .slice A168_3 ((rd_T25 l2_0 x41_3).f3).length c168_3, .slice A168_4 ((rd_T25 l2_0 x41_3).f4).length c168_4] 25 (0, 0))) := ⟨by (with_reducible repeat (first | refine blk_drewN ?_ _ | refine blk_drew ?_ | refine blk_alloc ?_ _)); refine blk_put (cs := #[.int .i64 ((rd_T25 l2_0 x41_3).f0), .int .i64 ((rd_T25 l2_0 x41_3).f1), .int .i64 ((rd_T25 l2_0 x41_3).f2), .slice A168_3 ((rd_T25 l2_0 x41_3).f3).length c168_3, .slice none 0 0]) ?_ 4 _ rfl; (with_reducible repeat (first | refine blk_drewN ?_ _ | refine blk_drew ?_ | refine blk_alloc ?_ _)); refine blk_put (cs := #[.int .i64 ((rd_T25 l2_0 x41_3).f0), .int .i64 ((rd_T25 l2_0 x41_3).f1), .int .i64 ((rd_T25 l2_0 x41_3).f2), .slice none 0 0, .slice none 0 0]) ?_ 3 _ rfl; (with_reducible repeat (first | refine blk_drewN ?_ _ | refine blk_drew ?_ | refine blk_alloc ?_ _)); refine blk_put (cs := #[.int .i64 ((rd_T25 l2_0 x41_3).f0), .int .i64 ((rd_T25 l2_0 x41_3).f1), .int .i64 0, .slice none 0 0, .slice none 0 0]) ?_ 2 _ rfl; (with_reducible repeat (first | refine blk_drewN ?_ _ | refine blk_drew ?_ | refine blk_alloc ?_ _)); refine blk_put (cs := #[.int .i64 ((rd_T25 l2_0 x41_3).f0), .int .i64 0, .int .i64 0, .slice none 0 0, .slice none 0 0]) ?_ 1 _ rfl; (with_reducible repeat (first | refine blk_drewN ?_ _ | refine blk_drew ?_ | refine blk_alloc ?_ _)); refine blk_put (cs := #[.int .i64 0, .int .i64 0, .int .i64 0, .slice none 0 0, .slice none 0 0]) ?_ 0 _ rfl; (with_reducible repeat (first | refine blk_drewN ?_ _ | refine blk_drew ?_ | refine blk_alloc ?_ _)); exact BK169.out⟩
                          have n2_ : Aside0 (Below w.heap.size w (((((w33.setCell ⟨gb169, 0, none⟩ (.int .i64 ((rd_T25 l2_0 x41_3).f0))).setCell ⟨gb169, 1, none⟩ (.int .i64 ((rd_T25 l2_0 x41_3).f1))).setCell ⟨gb169, 2, none⟩ (.int .i64 ((rd_T25 l2_0 x41_3).f2))).setCell ⟨gb169, 3, none⟩ (.slice A168_3 ((rd_T25 l2_0 x41_3).f3).length c168_3)).setCell ⟨gb169, 4, none⟩ (.slice A168_4 ((rd_T25 l2_0 x41_3).f4).length c168_4))) := ⟨by repeat (first | (with_reducible first | exact HB.out | apply below_alloc | apply pw_below_drewN | apply below_drew1 | refine below_set ?_ GE148.out | refine below_set ?_ GE169.out) | exact HB.out)⟩
                          (try clear BK148)
                          (try clear BK169)
                          (try clear HB)
                          generalize (((((w33.setCell ⟨gb169, 0, none⟩ (.int .i64 ((rd_T25 l2_0 x41_3).f0))).setCell ⟨gb169, 1, none⟩ (.int .i64 ((rd_T25 l2_0 x41_3).f1))).setCell ⟨gb169, 2, none⟩ (.int .i64 ((rd_T25 l2_0 x41_3).f2))).setCell ⟨gb169, 3, none⟩ (.slice A168_3 ((rd_T25 l2_0 x41_3).f3).length c168_3)).setCell ⟨gb169, 4, none⟩ (.slice A168_4 ((rd_T25 l2_0 x41_3).f4).length c168_4)) = w36 at n0_ n1_ n2_ ⊢
                          have BK148 := n0_
                          have BK169 := n1_
                          have HB := n2_
                          clear n0_ n1_ n2_
                          have n0_ := Aside0.mk (blk_drew BK148.out)
                          have n1_ := Aside0.mk (blk_drew BK169.out)
                          have n2_ := Aside0.mk (below_drew1 HB.out)
                          clear BK148
                          clear BK169
                          clear HB
                          have BK148 := n0_
                          have BK169 := n1_
                          have HB := n2_
                          clear n0_ n1_ n2_
                          refine start_ (n := 9) (S := fun w' => w'.cell? ⟨gb169, 0, none⟩ = some (.int .i64 ((rd_T25 l2_0 x41_3).f0)) ∧ w'.cell? ⟨gb169, 1, none⟩ = some (.int .i64 ((rd_T25 l2_0 x41_3).f1)) ∧ w'.cell? ⟨gb169, 2, none⟩ = some (.int .i64 ((rd_T25 l2_0 x41_3).f2)) ∧ w'.cell? ⟨gb169, 3, none⟩ = some (.slice A168_3 ((rd_T25 l2_0 x41_3).f3).length c168_3) ∧ w'.cell? ⟨gb169, 4, none⟩ = some (.slice A168_4 ((rd_T25 l2_0 x41_3).f4).length c168_4)) (ds := []) #[false, false, false, false, false, false, false, false, false] (by kernel_rfl) rfl rfl ⟨(blk_cell BK169.out 0).trans rfl, (blk_cell BK169.out 1).trans rfl, (blk_cell BK169.out 2).trans rfl, (blk_cell BK169.out 3).trans rfl, (blk_cell BK169.out 4).trans rfl⟩ (fun hHeld => ?_); refine with_tabW chancellaw09_AuditSees.tab10 chancellaw09_AuditSees.bits10 (fun HT_ HW_ => ?_)
                          generalize w36.drew = w37 at BK148 BK169 HB hHeld ⊢
                          refine pure_ (i := 0) (N := some 45) (v := ?_) (a' := ?_) #[true, false, false, false, false, false, false, false, false] rfl rfl (any_of HT_.out (by kernel_rfl)) (fun _ _ _ h => h) (Or.inl ⟨by rfl, ?_⟩) ?_ ?_
                          rotate_left
                          · intro w'
                            go_simp
                            with_reducible rfl
                          rotate_left
                          · simp only [Act.put, List.setIfInBounds_toArray, List.set_cons_zero, List.set_cons_succ, i64_w, i32_w]
                            rfl
                          refine pure_ (i := 1) (N := some 46) (v := ?_) (a' := ?_) #[true, true, false, false, false, false, false, false, false] rfl rfl (any_of HT_.out (by kernel_rfl)) (fun _ _ _ h => h) (Or.inl ⟨by rfl, ?_⟩) ?_ ?_
                          rotate_left
                          · intro w'
                            go_simp
                            with_reducible rfl
                          rotate_left
                          · simp only [Act.put, List.setIfInBounds_toArray, List.set_cons_zero, List.set_cons_succ, i64_w, i32_w]
                            rfl
                          refine pure_ (i := 4) (N := some 49) (v := ?_) (a' := ?_) #[true, true, false, false, true, false, false, false, false] rfl rfl (any_of HT_.out (by kernel_rfl)) (fun _ _ _ h => h) (Or.inl ⟨by rfl, ?_⟩) ?_ ?_
                          rotate_left
                          · intro w'
                            go_simp
                            with_reducible rfl
                          rotate_left
                          · simp only [Act.put, List.setIfInBounds_toArray, List.set_cons_zero, List.set_cons_succ, i64_w, i32_w]
                            rfl
                          refine pure_ (i := 5) (N := some 50) (v := ?_) (a' := ?_) #[true, true, false, false, true, true, false, false, false] rfl rfl (any_of HT_.out (by kernel_rfl)) (fun _ _ _ h => h) (Or.inl ⟨by rfl, ?_⟩) ?_ ?_
                          rotate_left
                          · intro w'
                            go_simp
                            with_reducible rfl
                          rotate_left
                          · simp only [Act.put, List.setIfInBounds_toArray, List.set_cons_zero, List.set_cons_succ, i64_w, i32_w]
                            rfl
                          refine take_ (i := 2) (N := some 47) (v := ?_) (a' := ?_) #[true, true, true, false, true, true, false, false, false] rfl rfl (take_ofW HT_.out HW_.out (by kernel_rfl)) (fun _ _ _ h => h) (Or.inl ⟨by rfl, ?_⟩) hHeld ?_ ?_
                          rotate_left
                          · rintro w' ⟨s0, s1, s2, s3, s4⟩
                            go_simp
                            with_reducible rfl
                          rotate_left
                          · simp only [Act.put, List.setIfInBounds_toArray, List.set_cons_zero, List.set_cons_succ, i64_w, i32_w]
                            rfl
                          refine take_ (i := 6) (N := some 51) (v := ?_) (a' := ?_) #[true, true, true, false, true, true, true, false, false] rfl rfl (take_ofW HT_.out HW_.out (by kernel_rfl)) (fun _ _ _ h => h) (Or.inl ⟨by rfl, ?_⟩) hHeld ?_ ?_
                          rotate_left
                          · rintro w' ⟨s0, s1, s2, s3, s4⟩
                            go_simp
                            with_reducible rfl
                          rotate_left
                          · simp only [Act.put, List.setIfInBounds_toArray, List.set_cons_zero, List.set_cons_succ, i64_w, i32_w]
                            rfl
                          refine one_ (i := 3) (N := some 48) #[true, true, true, true, true, true, true, false, false] rfl rfl (one_of HT_.out (by kernel_rfl)) (by decide) (fun K hK => ?_)
                          refine goes_ Try.func14 (by kernel_rfl) rfl #[.slice A0 l0.length c0, .int .i64 a1, .agg #[.int .i64 ((rd_T25 l2_0 x41_3).f0), .int .i64 ((rd_T25 l2_0 x41_3).f1), .int .i64 ((rd_T25 l2_0 x41_3).f2), .slice A168_3 ((rd_T25 l2_0 x41_3).f3).length c168_3, .slice A168_4 ((rd_T25 l2_0 x41_3).f4).length c168_4]] (by rfl) rfl rfl (by (try simp only [List.map_toArray, List.map_cons, List.map_nil]); first | done | rfl | (simp only [List.length_drop, List.length_take]; rfl)) ?_
                          with_reducible refine (audit_Sees.calls _ _ l0 a1 ((rd_T25 l2_0 x41_3).f0) ((rd_T25 l2_0 x41_3).f1) ((rd_T25 l2_0 x41_3).f2) _ _ ((rd_T25 l2_0 x41_3).f3) _ _ ((rd_T25 l2_0 x41_3).f4) t170 _ ?side1 ?side2 ?side3 ?side4 ?side5 ?side6 A30.out).mono ?_
                          (case side1 => repeat (first | exact (Kd.C_below HR0.out HB.out) | (with_reducible refine Kd.C_alloc ?_ _) | (with_reducible refine Kd.C_drewN ?_ _) | (with_reducible refine Kd.C_drew ?_)))
                          (case side2 => exact HC0.out)
                          (case side3 => repeat (first | exact (Kd.C_below HR168_3.out HB.out) | (with_reducible refine Kd.C_alloc ?_ _) | (with_reducible refine Kd.C_drewN ?_ _) | (with_reducible refine Kd.C_drew ?_)))
                          (case side4 => exact HC168_3.out)
                          (case side5 => repeat (first | exact (Kd.C_below HR168_4.out HB.out) | (with_reducible refine Kd.C_alloc ?_ _) | (with_reducible refine Kd.C_drewN ?_ _) | (with_reducible refine Kd.C_drew ?_)))
                          (case side6 => exact HC168_4.out)
                          rintro e w38 ⟨rfl, hb⟩
                          refine ⟨_, rfl, ?_⟩
                          have n0_ := Aside0.mk (blk_below (g := gb148) (o := .cells #[.slice (some ad168) l2_0.length c2_0, .int .i64 a2_1, .int .i64 a2_2] 33 (0, 0)) (by (with_reducible repeat (first | refine blk_drewN ?_ _ | refine blk_drew ?_ | refine blk_alloc ?_ _)); exact BK148.out) hb)
                          have n1_ := Aside0.mk (blk_below (g := gb169) (o := .cells #[.int .i64 ((rd_T25 l2_0 x41_3).f0), .int .i64 ((rd_T25 l2_0 x41_3).f1), .int .i64 ((rd_T25 l2_0 x41_3).f2), .slice A168_3 ((rd_T25 l2_0 x41_3).f3).length c168_3, .slice A168_4 ((rd_T25 l2_0 x41_3).f4).length c168_4] 25 (0, 0)) (by (with_reducible repeat (first | refine blk_drewN ?_ _ | refine blk_drew ?_ | refine blk_alloc ?_ _)); exact BK169.out) hb)
                          have n2_ := Aside0.mk (below_step (by repeat (first | (with_reducible first | exact HB.out | apply below_alloc | apply pw_below_drewN | apply below_drew1 | refine below_set ?_ GE148.out | refine below_set ?_ GE169.out) | exact HB.out)) hb)
                          clear BK148
                          clear BK169
                          clear HB
                          have BK148 := n0_
                          have BK169 := n1_
                          have HB := n2_
                          clear n0_ n1_ n2_
                          (try clear hb)
                          (try clear hb2)
                          (try clear hk)
                          (try clear hi)
                          refine hK.out _ _ ⟨(blk_cell BK169.out 0).trans rfl, (blk_cell BK169.out 1).trans rfl, (blk_cell BK169.out 2).trans rfl, (blk_cell BK169.out 3).trans rfl, (blk_cell BK169.out 4).trans rfl⟩ (fun hHeld => ?_)
                          clear hK K
                          refine norm_ (a' := ?_) ?_ ?_
                          rotate_left
                          · show Act.put _ (some 48) _ = _
                            simp only [Act.put, List.setIfInBounds_toArray, List.set_cons_zero, List.set_cons_succ, i64_w, i32_w]
                            rfl
                          refine one_ (i := 7) (N := some 52) #[true, true, true, true, true, true, true, true, false] rfl rfl (one_of HT_.out (by kernel_rfl)) (by decide) (fun K hK => ?_)
                          refine goes_ Try.func15 (by kernel_rfl) rfl #[.slice A0 l0.length c0, .int .i64 a1, .agg #[.int .i64 ((rd_T25 l2_0 x41_3).f0), .int .i64 ((rd_T25 l2_0 x41_3).f1), .int .i64 ((rd_T25 l2_0 x41_3).f2), .slice A168_3 ((rd_T25 l2_0 x41_3).f3).length c168_3, .slice A168_4 ((rd_T25 l2_0 x41_3).f4).length c168_4]] (by rfl) rfl rfl (by (try simp only [List.map_toArray, List.map_cons, List.map_nil]); first | done | rfl | (simp only [List.length_drop, List.length_take]; rfl)) ?_
                          with_reducible refine (chancelref09_Sees.calls k3 _ _ l0 a1 ((rd_T25 l2_0 x41_3).f0) ((rd_T25 l2_0 x41_3).f1) ((rd_T25 l2_0 x41_3).f2) _ _ ((rd_T25 l2_0 x41_3).f3) _ _ ((rd_T25 l2_0 x41_3).f4) t171 _ ?side1 ?side2 ?side3 ?side4 ?side5 ?side6 A31.out).mono ?_
                          (case side1 => repeat (first | exact (Kd.C_below HR0.out HB.out) | (with_reducible refine Kd.C_alloc ?_ _) | (with_reducible refine Kd.C_drewN ?_ _) | (with_reducible refine Kd.C_drew ?_)))
                          (case side2 => exact HC0.out)
                          (case side3 => repeat (first | exact (Kd.C_below HR168_3.out HB.out) | (with_reducible refine Kd.C_alloc ?_ _) | (with_reducible refine Kd.C_drewN ?_ _) | (with_reducible refine Kd.C_drew ?_)))
                          (case side4 => exact HC168_3.out)
                          (case side5 => repeat (first | exact (Kd.C_below HR168_4.out HB.out) | (with_reducible refine Kd.C_alloc ?_ _) | (with_reducible refine Kd.C_drewN ?_ _) | (with_reducible refine Kd.C_drew ?_)))
                          (case side6 => exact HC168_4.out)
                          rintro e w39 ⟨rfl, hb⟩
                          refine ⟨_, rfl, ?_⟩
                          have n0_ := Aside0.mk (blk_below (g := gb148) (o := .cells #[.slice (some ad168) l2_0.length c2_0, .int .i64 a2_1, .int .i64 a2_2] 33 (0, 0)) (by (with_reducible repeat (first | refine blk_drewN ?_ _ | refine blk_drew ?_ | refine blk_alloc ?_ _)); exact BK148.out) hb)
                          have n1_ := Aside0.mk (blk_below (g := gb169) (o := .cells #[.int .i64 ((rd_T25 l2_0 x41_3).f0), .int .i64 ((rd_T25 l2_0 x41_3).f1), .int .i64 ((rd_T25 l2_0 x41_3).f2), .slice A168_3 ((rd_T25 l2_0 x41_3).f3).length c168_3, .slice A168_4 ((rd_T25 l2_0 x41_3).f4).length c168_4] 25 (0, 0)) (by (with_reducible repeat (first | refine blk_drewN ?_ _ | refine blk_drew ?_ | refine blk_alloc ?_ _)); exact BK169.out) hb)
                          have n2_ := Aside0.mk (below_step (by repeat (first | (with_reducible first | exact HB.out | apply below_alloc | apply pw_below_drewN | apply below_drew1 | refine below_set ?_ GE148.out | refine below_set ?_ GE169.out) | exact HB.out)) hb)
                          clear BK148
                          clear BK169
                          clear HB
                          have BK148 := n0_
                          have BK169 := n1_
                          have HB := n2_
                          clear n0_ n1_ n2_
                          (try clear hb)
                          (try clear hb2)
                          (try clear hk)
                          (try clear hi)
                          refine hK.out _ _ ⟨(blk_cell BK169.out 0).trans rfl, (blk_cell BK169.out 1).trans rfl, (blk_cell BK169.out 2).trans rfl, (blk_cell BK169.out 3).trans rfl, (blk_cell BK169.out 4).trans rfl⟩ (fun hHeld => ?_)
                          clear hK K
                          refine norm_ (a' := ?_) ?_ ?_
                          rotate_left
                          · show Act.put _ (some 52) _ = _
                            simp only [Act.put, List.setIfInBounds_toArray, List.set_cons_zero, List.set_cons_succ, i64_w, i32_w]
                            rfl
                          refine pure_ (i := 8) (N := some 53) (v := ?_) (a' := ?_) #[true, true, true, true, true, true, true, true, true] rfl rfl (any_of HT_.out (by kernel_rfl)) (fun _ _ _ h => h) (Or.inl ⟨by rfl, ?_⟩) ?_ ?_
                          rotate_left
                          · intro w'
                            go_simp
                            with_reducible rfl
                          rotate_left
                          · simp only [Act.put, List.setIfInBounds_toArray, List.set_cons_zero, List.set_cons_succ, i64_w, i32_w]
                            rfl
                          refine done_ (done_of HT_.out (by kernel_rfl)) ?_
                          try go_wp2
                          go_ret
                          exact ⟨by first | rfl | (simp [errW_none, errW_some] <;> rfl) | (simp [*, errW_none, errW_some] <;> rfl), by repeat (first | (with_reducible first | exact HB.out | apply below_alloc | apply pw_below_drewN | apply below_drew1 | refine below_set ?_ GE148.out | refine below_set ?_ GE169.out) | exact HB.out)⟩
                        · rw [if_neg c32] at H
                          have c32b0 : (t170 != t171) = false := by simpa using c32
                          (try (have c32b1 : decide (t170 = t171) = true := by simpa using c32))
                          (try (have c32b2 : (t170 == t171) = true := by simpa using c32))
                          clear c32
                          have H' := Aside0.mk H
                          clear H
                          have p168 : 0 ≤ (x41_3 : Int) := of_decide_eq_true (by first | (with_reducible assumption) | assumption)
                          have q168 : x41_3 < (l2_0.length : Int) := of_decide_eq_true (by first | (with_reducible assumption) | assumption)
                          obtain ⟨ad168, A168_3, c168_3, A168_4, c168_4, e168, hx168_0, hx168_1, hx168_2, hx168_3, hx168_4, hl168_3, hi168_3, hl168_4, hi168_4⟩ := at_T25 HR2_0.out x41_3 p168 q168
                          cases e168
                          replace hx168_0 := (HB.out.cell (World.block_lt_of_cell? w _ hx168_0)).trans hx168_0
                          replace hx168_1 := (HB.out.cell (World.block_lt_of_cell? w _ hx168_1)).trans hx168_1
                          replace hx168_2 := (HB.out.cell (World.block_lt_of_cell? w _ hx168_2)).trans hx168_2
                          replace hx168_3 := (HB.out.cell (World.block_lt_of_cell? w _ hx168_3)).trans hx168_3
                          replace hx168_4 := (HB.out.cell (World.block_lt_of_cell? w _ hx168_4)).trans hx168_4
                          have HR168_3 := Aside0.mk hi168_3
                          have HC168_3 := Aside0.mk hl168_3
                          clear hi168_3 hl168_3
                          have HR168_4 := Aside0.mk hi168_4
                          have HC168_4 := Aside0.mk hl168_4
                          clear hi168_4 hl168_4
                          replace p168 := eq_true p168
                          replace q168 := eq_true q168
                          try go_wp2_with (first | ((with_reducible refine gate_dst (N := 11) rfl ?_); refine box_event ?hg (N := 11) ?hd (cs := #[.int .i64 0, .int .i64 0, .int .i64 0, .slice none 0 0, .slice none 0 0]) (t := 25) ?hr ?_; (case hd => rfl); (case hg => rfl); (case hr => first | (go_simp; done) | (go_simp; rfl)); intro gb169 hg w40 hbox hb; have n0_ := Aside0.mk (blk_below (g := gb148) (o := .cells #[.slice (some ad168) l2_0.length c2_0, .int .i64 a2_1, .int .i64 a2_2] 33 (0, 0)) (by (with_reducible repeat (first | refine blk_drewN ?_ _ | refine blk_drew ?_ | refine blk_alloc ?_ _)); exact BK148.out) hb); have n1_ := Aside0.mk (below_step (by repeat (first | (with_reducible first | exact HB.out | apply below_alloc | apply pw_below_drewN | apply below_drew1 | refine below_set ?_ GE148.out) | exact HB.out)) hb); have n2_ := Aside0.mk (hbox); have n3_ := Aside0.mk ((by rw [hg]; exact (below_size (by repeat (first | (with_reducible first | exact HB.out | apply below_alloc | apply pw_below_drewN | apply below_drew1 | refine below_set ?_ GE148.out) | exact HB.out))) : w.heap.size ≤ gb169)); have n4_ := Aside0.mk ((by rw [hg]; exact (below_size (by repeat (first | (with_reducible first | exact HB.out | apply below_alloc | apply pw_below_drewN | apply below_drew1 | refine below_set ?_ GE148.out) | exact HB.out))) : w.heap.size ≤ gb169)); have n5_ := Aside0.mk ((by rw [hg]; exact Nat.ne_of_lt (blk_lt (g := gb148) (o := .cells #[.slice (some ad168) l2_0.length c2_0, .int .i64 a2_1, .int .i64 a2_2] 33 (0, 0)) (by (with_reducible repeat (first | refine blk_drewN ?_ _ | refine blk_drew ?_ | refine blk_alloc ?_ _)); exact BK148.out)) : gb148 ≠ gb169)); have n6_ := Aside0.mk ((by rw [hg]; exact Nat.ne_of_gt (blk_lt (g := gb148) (o := .cells #[.slice (some ad168) l2_0.length c2_0, .int .i64 a2_1, .int .i64 a2_2] 33 (0, 0)) (by (with_reducible repeat (first | refine blk_drewN ?_ _ | refine blk_drew ?_ | refine blk_alloc ?_ _)); exact BK148.out)) : gb169 ≠ gb148)); clear BK148; clear HB; have BK148 := n0_; have HB := n1_; have BK169 := n2_; have GW169 := n3_; have GE169 := n4_; have NB148_169 := n5_; have NB169_148 := n6_; clear n0_ n1_ n2_ n3_ n4_ n5_ n6_; clear hb hbox hg; have hnb41 := NB169_148.out; have hnc41 := NB148_169.out; have hcz42_0 : w40.cell? ⟨gb169, 0, none⟩ = some (.int .i64 0) := (blk_cell BK169.out 0).trans rfl; have hcz42_1 : w40.cell? ⟨gb169, 1, none⟩ = some (.int .i64 0) := (blk_cell BK169.out 1).trans rfl; have hcz42_2 : w40.cell? ⟨gb169, 2, none⟩ = some (.int .i64 0) := (blk_cell BK169.out 2).trans rfl; have hcz42_3 : w40.cell? ⟨gb169, 3, none⟩ = some (.slice none 0 0) := (blk_cell BK169.out 3).trans rfl; have hcz42_4 : w40.cell? ⟨gb169, 4, none⟩ = some (.slice none 0 0) := (blk_cell BK169.out 4).trans rfl; have hfz42_0 := blk_frozen BK169.out 0; have hfz42_1 := blk_frozen BK169.out 1; have hfz42_2 := blk_frozen BK169.out 2; have hfz42_3 := blk_frozen BK169.out 3; have hfz42_4 := blk_frozen BK169.out 4))
                          have n0_ : Aside0 ((((((w40.setCell ⟨gb169, 0, none⟩ (.int .i64 ((rd_T25 l2_0 x41_3).f0))).setCell ⟨gb169, 1, none⟩ (.int .i64 ((rd_T25 l2_0 x41_3).f1))).setCell ⟨gb169, 2, none⟩ (.int .i64 ((rd_T25 l2_0 x41_3).f2))).setCell ⟨gb169, 3, none⟩ (.slice A168_3 ((rd_T25 l2_0 x41_3).f3).length c168_3)).setCell ⟨gb169, 4, none⟩ (.slice A168_4 ((rd_T25 l2_0 x41_3).f4).length c168_4)).heap[gb148]? = some (.cells #[.slice (some ad168) l2_0.length c2_0, .int .i64 a2_1, .int .i64 a2_2] 33 (0, 0))) := ⟨by (with_reducible repeat (first | refine blk_drewN ?_ _ | refine blk_drew ?_ | refine blk_alloc ?_ _)); refine blk_far ?_ NB148_169.out _; (with_reducible repeat (first | refine blk_drewN ?_ _ | refine blk_drew ?_ | refine blk_alloc ?_ _)); refine blk_far ?_ NB148_169.out _; (with_reducible repeat (first | refine blk_drewN ?_ _ | refine blk_drew ?_ | refine blk_alloc ?_ _)); refine blk_far ?_ NB148_169.out _; (with_reducible repeat (first | refine blk_drewN ?_ _ | refine blk_drew ?_ | refine blk_alloc ?_ _)); refine blk_far ?_ NB148_169.out _; (with_reducible repeat (first | refine blk_drewN ?_ _ | refine blk_drew ?_ | refine blk_alloc ?_ _)); refine blk_far ?_ NB148_169.out _; (with_reducible repeat (first | refine blk_drewN ?_ _ | refine blk_drew ?_ | refine blk_alloc ?_ _)); exact BK148.out⟩
                          have n1_ : Aside0 ((((((w40.setCell ⟨gb169, 0, none⟩ (.int .i64 ((rd_T25 l2_0 x41_3).f0))).setCell ⟨gb169, 1, none⟩ (.int .i64 ((rd_T25 l2_0 x41_3).f1))).setCell ⟨gb169, 2, none⟩ (.int .i64 ((rd_T25 l2_0 x41_3).f2))).setCell ⟨gb169, 3, none⟩ (.slice A168_3 ((rd_T25 l2_0 x41_3).f3).length c168_3)).setCell ⟨gb169, 4, none⟩ (.slice A168_4 ((rd_T25 l2_0 x41_3).f4).length c168_4)).heap[gb169]? = some (.cells #[.int .i64 ((rd_T25 l2_0 x41_3).f0), .int .i64 ((rd_T25 l2_0 x41_3).f1), .int .i64 ((rd_T25 l2_0 x41_3).f2), .slice A168_3 ((rd_T25 l2_0 x41_3).f3).length c168_3, .slice A168_4 ((rd_T25 l2_0 x41_3).f4).length c168_4] 25 (0, 0))) := ⟨by (with_reducible repeat (first | refine blk_drewN ?_ _ | refine blk_drew ?_ | refine blk_alloc ?_ _)); refine blk_put (cs := #[.int .i64 ((rd_T25 l2_0 x41_3).f0), .int .i64 ((rd_T25 l2_0 x41_3).f1), .int .i64 ((rd_T25 l2_0 x41_3).f2), .slice A168_3 ((rd_T25 l2_0 x41_3).f3).length c168_3, .slice none 0 0]) ?_ 4 _ rfl; (with_reducible repeat (first | refine blk_drewN ?_ _ | refine blk_drew ?_ | refine blk_alloc ?_ _)); refine blk_put (cs := #[.int .i64 ((rd_T25 l2_0 x41_3).f0), .int .i64 ((rd_T25 l2_0 x41_3).f1), .int .i64 ((rd_T25 l2_0 x41_3).f2), .slice none 0 0, .slice none 0 0]) ?_ 3 _ rfl; (with_reducible repeat (first | refine blk_drewN ?_ _ | refine blk_drew ?_ | refine blk_alloc ?_ _)); refine blk_put (cs := #[.int .i64 ((rd_T25 l2_0 x41_3).f0), .int .i64 ((rd_T25 l2_0 x41_3).f1), .int .i64 0, .slice none 0 0, .slice none 0 0]) ?_ 2 _ rfl; (with_reducible repeat (first | refine blk_drewN ?_ _ | refine blk_drew ?_ | refine blk_alloc ?_ _)); refine blk_put (cs := #[.int .i64 ((rd_T25 l2_0 x41_3).f0), .int .i64 0, .int .i64 0, .slice none 0 0, .slice none 0 0]) ?_ 1 _ rfl; (with_reducible repeat (first | refine blk_drewN ?_ _ | refine blk_drew ?_ | refine blk_alloc ?_ _)); refine blk_put (cs := #[.int .i64 0, .int .i64 0, .int .i64 0, .slice none 0 0, .slice none 0 0]) ?_ 0 _ rfl; (with_reducible repeat (first | refine blk_drewN ?_ _ | refine blk_drew ?_ | refine blk_alloc ?_ _)); exact BK169.out⟩
                          have n2_ : Aside0 (Below w.heap.size w (((((w40.setCell ⟨gb169, 0, none⟩ (.int .i64 ((rd_T25 l2_0 x41_3).f0))).setCell ⟨gb169, 1, none⟩ (.int .i64 ((rd_T25 l2_0 x41_3).f1))).setCell ⟨gb169, 2, none⟩ (.int .i64 ((rd_T25 l2_0 x41_3).f2))).setCell ⟨gb169, 3, none⟩ (.slice A168_3 ((rd_T25 l2_0 x41_3).f3).length c168_3)).setCell ⟨gb169, 4, none⟩ (.slice A168_4 ((rd_T25 l2_0 x41_3).f4).length c168_4))) := ⟨by repeat (first | (with_reducible first | exact HB.out | apply below_alloc | apply pw_below_drewN | apply below_drew1 | refine below_set ?_ GE148.out | refine below_set ?_ GE169.out) | exact HB.out)⟩
                          (try clear BK148)
                          (try clear BK169)
                          (try clear HB)
                          generalize (((((w40.setCell ⟨gb169, 0, none⟩ (.int .i64 ((rd_T25 l2_0 x41_3).f0))).setCell ⟨gb169, 1, none⟩ (.int .i64 ((rd_T25 l2_0 x41_3).f1))).setCell ⟨gb169, 2, none⟩ (.int .i64 ((rd_T25 l2_0 x41_3).f2))).setCell ⟨gb169, 3, none⟩ (.slice A168_3 ((rd_T25 l2_0 x41_3).f3).length c168_3)).setCell ⟨gb169, 4, none⟩ (.slice A168_4 ((rd_T25 l2_0 x41_3).f4).length c168_4)) = w43 at n0_ n1_ n2_ ⊢
                          have BK148 := n0_
                          have BK169 := n1_
                          have HB := n2_
                          clear n0_ n1_ n2_
                          have n0_ := Aside0.mk (blk_drew BK148.out)
                          have n1_ := Aside0.mk (blk_drew BK169.out)
                          have n2_ := Aside0.mk (below_drew1 HB.out)
                          clear BK148
                          clear BK169
                          clear HB
                          have BK148 := n0_
                          have BK169 := n1_
                          have HB := n2_
                          clear n0_ n1_ n2_
                          refine start_ (n := 9) (S := fun w' => w'.cell? ⟨gb169, 0, none⟩ = some (.int .i64 ((rd_T25 l2_0 x41_3).f0)) ∧ w'.cell? ⟨gb169, 1, none⟩ = some (.int .i64 ((rd_T25 l2_0 x41_3).f1)) ∧ w'.cell? ⟨gb169, 2, none⟩ = some (.int .i64 ((rd_T25 l2_0 x41_3).f2)) ∧ w'.cell? ⟨gb169, 3, none⟩ = some (.slice A168_3 ((rd_T25 l2_0 x41_3).f3).length c168_3) ∧ w'.cell? ⟨gb169, 4, none⟩ = some (.slice A168_4 ((rd_T25 l2_0 x41_3).f4).length c168_4)) (ds := []) #[false, false, false, false, false, false, false, false, false] (by kernel_rfl) rfl rfl ⟨(blk_cell BK169.out 0).trans rfl, (blk_cell BK169.out 1).trans rfl, (blk_cell BK169.out 2).trans rfl, (blk_cell BK169.out 3).trans rfl, (blk_cell BK169.out 4).trans rfl⟩ (fun hHeld => ?_); refine with_tabW chancellaw09_AuditSees.tab10 chancellaw09_AuditSees.bits10 (fun HT_ HW_ => ?_)
                          generalize w43.drew = w44 at BK148 BK169 HB hHeld ⊢
                          refine pure_ (i := 0) (N := some 45) (v := ?_) (a' := ?_) #[true, false, false, false, false, false, false, false, false] rfl rfl (any_of HT_.out (by kernel_rfl)) (fun _ _ _ h => h) (Or.inl ⟨by rfl, ?_⟩) ?_ ?_
                          rotate_left
                          · intro w'
                            go_simp
                            with_reducible rfl
                          rotate_left
                          · simp only [Act.put, List.setIfInBounds_toArray, List.set_cons_zero, List.set_cons_succ, i64_w, i32_w]
                            rfl
                          refine pure_ (i := 1) (N := some 46) (v := ?_) (a' := ?_) #[true, true, false, false, false, false, false, false, false] rfl rfl (any_of HT_.out (by kernel_rfl)) (fun _ _ _ h => h) (Or.inl ⟨by rfl, ?_⟩) ?_ ?_
                          rotate_left
                          · intro w'
                            go_simp
                            with_reducible rfl
                          rotate_left
                          · simp only [Act.put, List.setIfInBounds_toArray, List.set_cons_zero, List.set_cons_succ, i64_w, i32_w]
                            rfl
                          refine pure_ (i := 4) (N := some 49) (v := ?_) (a' := ?_) #[true, true, false, false, true, false, false, false, false] rfl rfl (any_of HT_.out (by kernel_rfl)) (fun _ _ _ h => h) (Or.inl ⟨by rfl, ?_⟩) ?_ ?_
                          rotate_left
                          · intro w'
                            go_simp
                            with_reducible rfl
                          rotate_left
                          · simp only [Act.put, List.setIfInBounds_toArray, List.set_cons_zero, List.set_cons_succ, i64_w, i32_w]
                            rfl
                          refine pure_ (i := 5) (N := some 50) (v := ?_) (a' := ?_) #[true, true, false, false, true, true, false, false, false] rfl rfl (any_of HT_.out (by kernel_rfl)) (fun _ _ _ h => h) (Or.inl ⟨by rfl, ?_⟩) ?_ ?_
                          rotate_left
                          · intro w'
                            go_simp
                            with_reducible rfl
                          rotate_left
                          · simp only [Act.put, List.setIfInBounds_toArray, List.set_cons_zero, List.set_cons_succ, i64_w, i32_w]
                            rfl
                          refine take_ (i := 2) (N := some 47) (v := ?_) (a' := ?_) #[true, true, true, false, true, true, false, false, false] rfl rfl (take_ofW HT_.out HW_.out (by kernel_rfl)) (fun _ _ _ h => h) (Or.inl ⟨by rfl, ?_⟩) hHeld ?_ ?_
                          rotate_left
                          · rintro w' ⟨s0, s1, s2, s3, s4⟩
                            go_simp
                            with_reducible rfl
                          rotate_left
                          · simp only [Act.put, List.setIfInBounds_toArray, List.set_cons_zero, List.set_cons_succ, i64_w, i32_w]
                            rfl
                          refine take_ (i := 6) (N := some 51) (v := ?_) (a' := ?_) #[true, true, true, false, true, true, true, false, false] rfl rfl (take_ofW HT_.out HW_.out (by kernel_rfl)) (fun _ _ _ h => h) (Or.inl ⟨by rfl, ?_⟩) hHeld ?_ ?_
                          rotate_left
                          · rintro w' ⟨s0, s1, s2, s3, s4⟩
                            go_simp
                            with_reducible rfl
                          rotate_left
                          · simp only [Act.put, List.setIfInBounds_toArray, List.set_cons_zero, List.set_cons_succ, i64_w, i32_w]
                            rfl
                          refine one_ (i := 3) (N := some 48) #[true, true, true, true, true, true, true, false, false] rfl rfl (one_of HT_.out (by kernel_rfl)) (by decide) (fun K hK => ?_)
                          refine goes_ Try.func14 (by kernel_rfl) rfl #[.slice A0 l0.length c0, .int .i64 a1, .agg #[.int .i64 ((rd_T25 l2_0 x41_3).f0), .int .i64 ((rd_T25 l2_0 x41_3).f1), .int .i64 ((rd_T25 l2_0 x41_3).f2), .slice A168_3 ((rd_T25 l2_0 x41_3).f3).length c168_3, .slice A168_4 ((rd_T25 l2_0 x41_3).f4).length c168_4]] (by rfl) rfl rfl (by (try simp only [List.map_toArray, List.map_cons, List.map_nil]); first | done | rfl | (simp only [List.length_drop, List.length_take]; rfl)) ?_
                          with_reducible refine (audit_Sees.calls _ _ l0 a1 ((rd_T25 l2_0 x41_3).f0) ((rd_T25 l2_0 x41_3).f1) ((rd_T25 l2_0 x41_3).f2) _ _ ((rd_T25 l2_0 x41_3).f3) _ _ ((rd_T25 l2_0 x41_3).f4) t170 _ ?side1 ?side2 ?side3 ?side4 ?side5 ?side6 A30.out).mono ?_
                          (case side1 => repeat (first | exact (Kd.C_below HR0.out HB.out) | (with_reducible refine Kd.C_alloc ?_ _) | (with_reducible refine Kd.C_drewN ?_ _) | (with_reducible refine Kd.C_drew ?_)))
                          (case side2 => exact HC0.out)
                          (case side3 => repeat (first | exact (Kd.C_below HR168_3.out HB.out) | (with_reducible refine Kd.C_alloc ?_ _) | (with_reducible refine Kd.C_drewN ?_ _) | (with_reducible refine Kd.C_drew ?_)))
                          (case side4 => exact HC168_3.out)
                          (case side5 => repeat (first | exact (Kd.C_below HR168_4.out HB.out) | (with_reducible refine Kd.C_alloc ?_ _) | (with_reducible refine Kd.C_drewN ?_ _) | (with_reducible refine Kd.C_drew ?_)))
                          (case side6 => exact HC168_4.out)
                          rintro e w45 ⟨rfl, hb⟩
                          refine ⟨_, rfl, ?_⟩
                          have n0_ := Aside0.mk (blk_below (g := gb148) (o := .cells #[.slice (some ad168) l2_0.length c2_0, .int .i64 a2_1, .int .i64 a2_2] 33 (0, 0)) (by (with_reducible repeat (first | refine blk_drewN ?_ _ | refine blk_drew ?_ | refine blk_alloc ?_ _)); exact BK148.out) hb)
                          have n1_ := Aside0.mk (blk_below (g := gb169) (o := .cells #[.int .i64 ((rd_T25 l2_0 x41_3).f0), .int .i64 ((rd_T25 l2_0 x41_3).f1), .int .i64 ((rd_T25 l2_0 x41_3).f2), .slice A168_3 ((rd_T25 l2_0 x41_3).f3).length c168_3, .slice A168_4 ((rd_T25 l2_0 x41_3).f4).length c168_4] 25 (0, 0)) (by (with_reducible repeat (first | refine blk_drewN ?_ _ | refine blk_drew ?_ | refine blk_alloc ?_ _)); exact BK169.out) hb)
                          have n2_ := Aside0.mk (below_step (by repeat (first | (with_reducible first | exact HB.out | apply below_alloc | apply pw_below_drewN | apply below_drew1 | refine below_set ?_ GE148.out | refine below_set ?_ GE169.out) | exact HB.out)) hb)
                          clear BK148
                          clear BK169
                          clear HB
                          have BK148 := n0_
                          have BK169 := n1_
                          have HB := n2_
                          clear n0_ n1_ n2_
                          (try clear hb)
                          (try clear hb2)
                          (try clear hk)
                          (try clear hi)
                          refine hK.out _ _ ⟨(blk_cell BK169.out 0).trans rfl, (blk_cell BK169.out 1).trans rfl, (blk_cell BK169.out 2).trans rfl, (blk_cell BK169.out 3).trans rfl, (blk_cell BK169.out 4).trans rfl⟩ (fun hHeld => ?_)
                          clear hK K
                          refine norm_ (a' := ?_) ?_ ?_
                          rotate_left
                          · show Act.put _ (some 48) _ = _
                            simp only [Act.put, List.setIfInBounds_toArray, List.set_cons_zero, List.set_cons_succ, i64_w, i32_w]
                            rfl
                          refine one_ (i := 7) (N := some 52) #[true, true, true, true, true, true, true, true, false] rfl rfl (one_of HT_.out (by kernel_rfl)) (by decide) (fun K hK => ?_)
                          refine goes_ Try.func15 (by kernel_rfl) rfl #[.slice A0 l0.length c0, .int .i64 a1, .agg #[.int .i64 ((rd_T25 l2_0 x41_3).f0), .int .i64 ((rd_T25 l2_0 x41_3).f1), .int .i64 ((rd_T25 l2_0 x41_3).f2), .slice A168_3 ((rd_T25 l2_0 x41_3).f3).length c168_3, .slice A168_4 ((rd_T25 l2_0 x41_3).f4).length c168_4]] (by rfl) rfl rfl (by (try simp only [List.map_toArray, List.map_cons, List.map_nil]); first | done | rfl | (simp only [List.length_drop, List.length_take]; rfl)) ?_
                          with_reducible refine (chancelref09_Sees.calls k3 _ _ l0 a1 ((rd_T25 l2_0 x41_3).f0) ((rd_T25 l2_0 x41_3).f1) ((rd_T25 l2_0 x41_3).f2) _ _ ((rd_T25 l2_0 x41_3).f3) _ _ ((rd_T25 l2_0 x41_3).f4) t171 _ ?side1 ?side2 ?side3 ?side4 ?side5 ?side6 A31.out).mono ?_
                          (case side1 => repeat (first | exact (Kd.C_below HR0.out HB.out) | (with_reducible refine Kd.C_alloc ?_ _) | (with_reducible refine Kd.C_drewN ?_ _) | (with_reducible refine Kd.C_drew ?_)))
                          (case side2 => exact HC0.out)
                          (case side3 => repeat (first | exact (Kd.C_below HR168_3.out HB.out) | (with_reducible refine Kd.C_alloc ?_ _) | (with_reducible refine Kd.C_drewN ?_ _) | (with_reducible refine Kd.C_drew ?_)))
                          (case side4 => exact HC168_3.out)
                          (case side5 => repeat (first | exact (Kd.C_below HR168_4.out HB.out) | (with_reducible refine Kd.C_alloc ?_ _) | (with_reducible refine Kd.C_drewN ?_ _) | (with_reducible refine Kd.C_drew ?_)))
                          (case side6 => exact HC168_4.out)
                          rintro e w46 ⟨rfl, hb⟩
                          refine ⟨_, rfl, ?_⟩
                          have n0_ := Aside0.mk (blk_below (g := gb148) (o := .cells #[.slice (some ad168) l2_0.length c2_0, .int .i64 a2_1, .int .i64 a2_2] 33 (0, 0)) (by (with_reducible repeat (first | refine blk_drewN ?_ _ | refine blk_drew ?_ | refine blk_alloc ?_ _)); exact BK148.out) hb)
                          have n1_ := Aside0.mk (blk_below (g := gb169) (o := .cells #[.int .i64 ((rd_T25 l2_0 x41_3).f0), .int .i64 ((rd_T25 l2_0 x41_3).f1), .int .i64 ((rd_T25 l2_0 x41_3).f2), .slice A168_3 ((rd_T25 l2_0 x41_3).f3).length c168_3, .slice A168_4 ((rd_T25 l2_0 x41_3).f4).length c168_4] 25 (0, 0)) (by (with_reducible repeat (first | refine blk_drewN ?_ _ | refine blk_drew ?_ | refine blk_alloc ?_ _)); exact BK169.out) hb)
                          have n2_ := Aside0.mk (below_step (by repeat (first | (with_reducible first | exact HB.out | apply below_alloc | apply pw_below_drewN | apply below_drew1 | refine below_set ?_ GE148.out | refine below_set ?_ GE169.out) | exact HB.out)) hb)
                          clear BK148
                          clear BK169
                          clear HB
                          have BK148 := n0_
                          have BK169 := n1_
                          have HB := n2_
                          clear n0_ n1_ n2_
                          (try clear hb)
                          (try clear hb2)
                          (try clear hk)
                          (try clear hi)
                          refine hK.out _ _ ⟨(blk_cell BK169.out 0).trans rfl, (blk_cell BK169.out 1).trans rfl, (blk_cell BK169.out 2).trans rfl, (blk_cell BK169.out 3).trans rfl, (blk_cell BK169.out 4).trans rfl⟩ (fun hHeld => ?_)
                          clear hK K
                          refine norm_ (a' := ?_) ?_ ?_
                          rotate_left
                          · show Act.put _ (some 52) _ = _
                            simp only [Act.put, List.setIfInBounds_toArray, List.set_cons_zero, List.set_cons_succ, i64_w, i32_w]
                            rfl
                          refine pure_ (i := 8) (N := some 53) (v := ?_) (a' := ?_) #[true, true, true, true, true, true, true, true, true] rfl rfl (any_of HT_.out (by kernel_rfl)) (fun _ _ _ h => h) (Or.inl ⟨by rfl, ?_⟩) ?_ ?_
                          rotate_left
                          · intro w'
                            go_simp
                            with_reducible rfl
                          rotate_left
                          · simp only [Act.put, List.setIfInBounds_toArray, List.set_cons_zero, List.set_cons_succ, i64_w, i32_w]
                            rfl
                          refine done_ (done_of HT_.out (by kernel_rfl)) ?_
                          try go_wp2
                          go_roundg k3
                          case measure => have := HJ5.out; have := HJ16.out; have := HK3.out; omega
                          case rel => exact ⟨(wrap64 (x41_3 + 1)), (by first | rfl | (simp; done) | (simp [*]; done)), H', ⟨by have := HJ5.out; have := HJ16.out; have := HK3.out; omega⟩, ⟨by (with_reducible repeat (first | refine blk_drewN ?_ _ | refine blk_drew ?_ | refine blk_alloc ?_ _)); exact BK148.out⟩, ⟨by repeat (first | (with_reducible first | exact HB.out | apply below_alloc | apply pw_below_drewN | apply below_drew1 | refine below_set ?_ GE148.out | refine below_set ?_ GE169.out) | exact HB.out)⟩⟩
                      · rw [if_neg c29] at H
                        exact absurd H (by simp)
                    · rw [if_neg c28] at H
                      exact absurd H (by simp)
                  · rw [if_neg c27] at H
                    have c27b0 : decide (x41_3 < (l2_0.length : Int)) = false := decide_eq_false c27
                    clear c27
                    replace H := Option.bind_eq_some_iff.mp H
                    obtain ⟨t161, A470, H⟩ := H
                    replace H : ((chancelref09_Page.f k3 l0 a1 l2_0 a2_1 a2_2).bind fun t164 => ((chancelref09_Same.f k3 t161 t164).bind fun t167 => (some t167))) = some r := H
                    have A47 := Aside0.mk A470
                    clear A470
                    replace H := Option.bind_eq_some_iff.mp H
                    obtain ⟨t164, A480, H⟩ := H
                    replace H : ((chancelref09_Same.f k3 t161 t164).bind fun t167 => (some t167)) = some r := H
                    have A48 := Aside0.mk A480
                    clear A480
                    replace H := Option.bind_eq_some_iff.mp H
                    obtain ⟨t167, A490, H⟩ := H
                    replace H : (some t167) = some r := H
                    have A49 := Aside0.mk A490
                    clear A490
                    obtain rfl := Option.some.inj H
                    try go_wp2
                    have n0_ := Aside0.mk (blk_drew BK148.out)
                    have n1_ := Aside0.mk (below_drew1 HB.out)
                    clear BK148
                    clear HB
                    have BK148 := n0_
                    have HB := n1_
                    clear n0_ n1_
                    refine start_ (n := 20) (S := fun w' => w'.cell? ⟨gb148, 0, none⟩ = some (.slice A2_0 l2_0.length c2_0) ∧ w'.cell? ⟨gb148, 1, none⟩ = some (.int .i64 a2_1) ∧ w'.cell? ⟨gb148, 2, none⟩ = some (.int .i64 a2_2)) (ds := []) #[false, false, false, false, false, false, false, false, false, false, false, false, false, false, false, false, false, false, false, false] (by kernel_rfl) rfl rfl ⟨(blk_cell BK148.out 0).trans rfl, (blk_cell BK148.out 1).trans rfl, (blk_cell BK148.out 2).trans rfl⟩ (fun hHeld => ?_); refine with_tabW chancellaw09_AuditSees.tab13 chancellaw09_AuditSees.bits13 (fun HT_ HW_ => ?_)
                    generalize wr.drew = w50 at BK148 HB hHeld ⊢
                    refine pure_ (i := 0) (N := some 55) (v := ?_) (a' := ?_) #[true, false, false, false, false, false, false, false, false, false, false, false, false, false, false, false, false, false, false, false] rfl rfl (any_of HT_.out (by kernel_rfl)) (fun _ _ _ h => h) (Or.inl ⟨by rfl, ?_⟩) ?_ ?_
                    rotate_left
                    · intro w'
                      go_simp
                      with_reducible rfl
                    rotate_left
                    · simp only [Act.put, List.setIfInBounds_toArray, List.set_cons_zero, List.set_cons_succ, i64_w, i32_w]
                      rfl
                    refine pure_ (i := 1) (N := some 56) (v := ?_) (a' := ?_) #[true, true, false, false, false, false, false, false, false, false, false, false, false, false, false, false, false, false, false, false] rfl rfl (any_of HT_.out (by kernel_rfl)) (fun _ _ _ h => h) (Or.inl ⟨by rfl, ?_⟩) ?_ ?_
                    rotate_left
                    · intro w'
                      go_simp
                      with_reducible rfl
                    rotate_left
                    · simp only [Act.put, List.setIfInBounds_toArray, List.set_cons_zero, List.set_cons_succ, i64_w, i32_w]
                      rfl
                    refine pure_ (i := 2) (N := some 57) (v := ?_) (a' := ?_) #[true, true, true, false, false, false, false, false, false, false, false, false, false, false, false, false, false, false, false, false] rfl rfl (any_of HT_.out (by kernel_rfl)) (fun _ _ _ h => h) (Or.inl ⟨by rfl, ?_⟩) ?_ ?_
                    rotate_left
                    · intro w'
                      go_simp
                      with_reducible rfl
                    rotate_left
                    · simp only [Act.put, List.setIfInBounds_toArray, List.set_cons_zero, List.set_cons_succ, i64_w, i32_w]
                      rfl
                    refine pure_ (i := 4) (N := some 59) (v := ?_) (a' := ?_) #[true, true, true, false, true, false, false, false, false, false, false, false, false, false, false, false, false, false, false, false] rfl rfl (any_of HT_.out (by kernel_rfl)) (fun _ _ _ h => h) (Or.inl ⟨by rfl, ?_⟩) ?_ ?_
                    rotate_left
                    · intro w'
                      go_simp
                      with_reducible rfl
                    rotate_left
                    · simp only [Act.put, List.setIfInBounds_toArray, List.set_cons_zero, List.set_cons_succ, i64_w, i32_w]
                      rfl
                    refine pure_ (i := 6) (N := some 61) (v := ?_) (a' := ?_) #[true, true, true, false, true, false, true, false, false, false, false, false, false, false, false, false, false, false, false, false] rfl rfl (any_of HT_.out (by kernel_rfl)) (fun _ _ _ h => h) (Or.inl ⟨by rfl, ?_⟩) ?_ ?_
                    rotate_left
                    · intro w'
                      go_simp
                      with_reducible rfl
                    rotate_left
                    · simp only [Act.put, List.setIfInBounds_toArray, List.set_cons_zero, List.set_cons_succ, i64_w, i32_w]
                      rfl
                    refine pure_ (i := 9) (N := some 64) (v := ?_) (a' := ?_) #[true, true, true, false, true, false, true, false, false, true, false, false, false, false, false, false, false, false, false, false] rfl rfl (any_of HT_.out (by kernel_rfl)) (fun _ _ _ h => h) (Or.inl ⟨by rfl, ?_⟩) ?_ ?_
                    rotate_left
                    · intro w'
                      go_simp
                      with_reducible rfl
                    rotate_left
                    · simp only [Act.put, List.setIfInBounds_toArray, List.set_cons_zero, List.set_cons_succ, i64_w, i32_w]
                      rfl
                    refine pure_ (i := 10) (N := some 65) (v := ?_) (a' := ?_) #[true, true, true, false, true, false, true, false, false, true, true, false, false, false, false, false, false, false, false, false] rfl rfl (any_of HT_.out (by kernel_rfl)) (fun _ _ _ h => h) (Or.inl ⟨by rfl, ?_⟩) ?_ ?_
                    rotate_left
                    · intro w'
                      go_simp
                      with_reducible rfl
                    rotate_left
                    · simp only [Act.put, List.setIfInBounds_toArray, List.set_cons_zero, List.set_cons_succ, i64_w, i32_w]
                      rfl
                    refine pure_ (i := 11) (N := some 66) (v := ?_) (a' := ?_) #[true, true, true, false, true, false, true, false, false, true, true, true, false, false, false, false, false, false, false, false] rfl rfl (any_of HT_.out (by kernel_rfl)) (fun _ _ _ h => h) (Or.inl ⟨by rfl, ?_⟩) ?_ ?_
                    rotate_left
                    · intro w'
                      go_simp
                      with_reducible rfl
                    rotate_left
                    · simp only [Act.put, List.setIfInBounds_toArray, List.set_cons_zero, List.set_cons_succ, i64_w, i32_w]
                      rfl
                    refine pure_ (i := 13) (N := some 68) (v := ?_) (a' := ?_) #[true, true, true, false, true, false, true, false, false, true, true, true, false, true, false, false, false, false, false, false] rfl rfl (any_of HT_.out (by kernel_rfl)) (fun _ _ _ h => h) (Or.inl ⟨by rfl, ?_⟩) ?_ ?_
                    rotate_left
                    · intro w'
                      go_simp
                      with_reducible rfl
                    rotate_left
                    · simp only [Act.put, List.setIfInBounds_toArray, List.set_cons_zero, List.set_cons_succ, i64_w, i32_w]
                      rfl
                    refine pure_ (i := 15) (N := some 70) (v := ?_) (a' := ?_) #[true, true, true, false, true, false, true, false, false, true, true, true, false, true, false, true, false, false, false, false] rfl rfl (any_of HT_.out (by kernel_rfl)) (fun _ _ _ h => h) (Or.inl ⟨by rfl, ?_⟩) ?_ ?_
                    rotate_left
                    · intro w'
                      go_simp
                      with_reducible rfl
                    rotate_left
                    · simp only [Act.put, List.setIfInBounds_toArray, List.set_cons_zero, List.set_cons_succ, i64_w, i32_w]
                      rfl
                    refine take_ (i := 3) (N := some 58) (v := ?_) (a' := ?_) #[true, true, true, true, true, false, true, false, false, true, true, true, false, true, false, true, false, false, false, false] rfl rfl (take_ofW HT_.out HW_.out (by kernel_rfl)) (fun _ _ _ h => h) (Or.inl ⟨by rfl, ?_⟩) hHeld ?_ ?_
                    rotate_left
                    · rintro w' ⟨s0, s1, s2⟩
                      go_simp
                      with_reducible rfl
                    rotate_left
                    · simp only [Act.put, List.setIfInBounds_toArray, List.set_cons_zero, List.set_cons_succ, i64_w, i32_w]
                      rfl
                    refine take_ (i := 5) (N := some 60) (v := ?_) (a' := ?_) #[true, true, true, true, true, true, true, false, false, true, true, true, false, true, false, true, false, false, false, false] rfl rfl (take_ofW HT_.out HW_.out (by kernel_rfl)) (fun _ _ _ h => h) (Or.inl ⟨by rfl, ?_⟩) hHeld ?_ ?_
                    rotate_left
                    · rintro w' ⟨s0, s1, s2⟩
                      go_simp
                      with_reducible rfl
                    rotate_left
                    · simp only [Act.put, List.setIfInBounds_toArray, List.set_cons_zero, List.set_cons_succ, i64_w, i32_w]
                      rfl
                    refine take_ (i := 7) (N := some 62) (v := ?_) (a' := ?_) #[true, true, true, true, true, true, true, true, false, true, true, true, false, true, false, true, false, false, false, false] rfl rfl (take_ofW HT_.out HW_.out (by kernel_rfl)) (fun _ _ _ h => h) (Or.inl ⟨by rfl, ?_⟩) hHeld ?_ ?_
                    rotate_left
                    · rintro w' ⟨s0, s1, s2⟩
                      go_simp
                      with_reducible rfl
                    rotate_left
                    · simp only [Act.put, List.setIfInBounds_toArray, List.set_cons_zero, List.set_cons_succ, i64_w, i32_w]
                      rfl
                    refine take_ (i := 12) (N := some 67) (v := ?_) (a' := ?_) #[true, true, true, true, true, true, true, true, false, true, true, true, true, true, false, true, false, false, false, false] rfl rfl (take_ofW HT_.out HW_.out (by kernel_rfl)) (fun _ _ _ h => h) (Or.inl ⟨by rfl, ?_⟩) hHeld ?_ ?_
                    rotate_left
                    · rintro w' ⟨s0, s1, s2⟩
                      go_simp
                      with_reducible rfl
                    rotate_left
                    · simp only [Act.put, List.setIfInBounds_toArray, List.set_cons_zero, List.set_cons_succ, i64_w, i32_w]
                      rfl
                    refine take_ (i := 14) (N := some 69) (v := ?_) (a' := ?_) #[true, true, true, true, true, true, true, true, false, true, true, true, true, true, true, true, false, false, false, false] rfl rfl (take_ofW HT_.out HW_.out (by kernel_rfl)) (fun _ _ _ h => h) (Or.inl ⟨by rfl, ?_⟩) hHeld ?_ ?_
                    rotate_left
                    · rintro w' ⟨s0, s1, s2⟩
                      go_simp
                      with_reducible rfl
                    rotate_left
                    · simp only [Act.put, List.setIfInBounds_toArray, List.set_cons_zero, List.set_cons_succ, i64_w, i32_w]
                      rfl
                    refine take_ (i := 16) (N := some 71) (v := ?_) (a' := ?_) #[true, true, true, true, true, true, true, true, false, true, true, true, true, true, true, true, true, false, false, false] rfl rfl (take_ofW HT_.out HW_.out (by kernel_rfl)) (fun _ _ _ h => h) (Or.inl ⟨by rfl, ?_⟩) hHeld ?_ ?_
                    rotate_left
                    · rintro w' ⟨s0, s1, s2⟩
                      go_simp
                      with_reducible rfl
                    rotate_left
                    · simp only [Act.put, List.setIfInBounds_toArray, List.set_cons_zero, List.set_cons_succ, i64_w, i32_w]
                      rfl
                    refine one_ (i := 8) (N := some 63) #[true, true, true, true, true, true, true, true, true, true, true, true, true, true, true, true, true, false, false, false] rfl rfl (one_of HT_.out (by kernel_rfl)) (by decide) (fun K hK => ?_)
                    refine goes_ Try.func12 (by kernel_rfl) rfl #[.slice A0 l0.length c0, .int .i64 a1, .slice A2_0 l2_0.length c2_0, .int .i64 a2_1, .int .i64 a2_2] (by rfl) rfl rfl (by (try simp only [List.map_toArray, List.map_cons, List.map_nil]); first | done | rfl | (simp only [List.length_drop, List.length_take]; rfl)) ?_
                    with_reducible refine (audit_Page.calls k3 _ _ l0 a1 (fun k_ => k_ < w.heap.size) _ _ l2_0 a2_1 a2_2 t161 _ ?side1 ?side2 ?side3 A47.out).mono ?_
                    (case side1 => repeat (first | exact (Kd.C_below HR0.out HB.out) | (with_reducible refine Kd.C_alloc ?_ _) | (with_reducible refine Kd.C_drewN ?_ _) | (with_reducible refine Kd.C_drew ?_)))
                    (case side2 => exact HC0.out)
                    (case side3 => exact Kd.V_mk HC2_0.out (Kd.F_below (Kd.C_F k25_heap HR2_0.out) (by repeat (first | (with_reducible first | exact HB.out | apply below_alloc | apply pw_below_drewN | apply below_drew1 | refine below_set ?_ GE148.out) | exact HB.out))))
                    rintro e w51 ⟨v162, rfl, ho0, hb⟩
                    refine ⟨_, rfl, ?_⟩
                    have n0_ := Aside0.mk (Kd.N_lower (Kd.N_mono (ok' := fun k_ => k_ ≠ gb148) ho0 (fun k_ hk_ => Or.elim hk_ (fun hs_ => fun e_ => Nat.not_le.2 hs_ (by rw [e_]; exact GW148.out)) (fun hn_ => (Kd.freshB (g := gb148) (o := .cells #[.slice A2_0 l2_0.length c2_0, .int .i64 a2_1, .int .i64 a2_2] 33 (0, 0)) (by (with_reducible repeat (first | refine blk_drewN ?_ _ | refine blk_drew ?_ | refine blk_alloc ?_ _)); exact BK148.out) k_ hn_)))) (below_size (by repeat (first | (with_reducible first | exact HB.out | apply below_alloc | apply pw_below_drewN | apply below_drew1 | refine below_set ?_ GE148.out) | exact HB.out))))
                    have n1_ := Aside0.mk (blk_below (g := gb148) (o := .cells #[.slice A2_0 l2_0.length c2_0, .int .i64 a2_1, .int .i64 a2_2] 33 (0, 0)) (by (with_reducible repeat (first | refine blk_drewN ?_ _ | refine blk_drew ?_ | refine blk_alloc ?_ _)); exact BK148.out) hb)
                    have n2_ := Aside0.mk (below_step (by repeat (first | (with_reducible first | exact HB.out | apply below_alloc | apply pw_below_drewN | apply below_drew1 | refine below_set ?_ GE148.out) | exact HB.out)) hb)
                    clear BK148
                    clear HB
                    have HO163 := n0_
                    have BK148 := n1_
                    have HB := n2_
                    clear n0_ n1_ n2_
                    (try clear hb)
                    (try clear hb2)
                    (try clear hk)
                    (try clear hi)
                    (try clear ho0)
                    refine hK.out _ _ ⟨(blk_cell BK148.out 0).trans rfl, (blk_cell BK148.out 1).trans rfl, (blk_cell BK148.out 2).trans rfl⟩ (fun hHeld => ?_)
                    clear hK K
                    refine norm_ (a' := ?_) ?_ ?_
                    rotate_left
                    · show Act.put _ (some 63) _ = _
                      simp only [Act.put, List.setIfInBounds_toArray, List.set_cons_zero, List.set_cons_succ, i64_w, i32_w]
                      rfl
                    refine one_ (i := 17) (N := some 72) #[true, true, true, true, true, true, true, true, true, true, true, true, true, true, true, true, true, true, false, false] rfl rfl (one_of HT_.out (by kernel_rfl)) (by decide) (fun K hK => ?_)
                    refine goes_ Try.func16 (by kernel_rfl) rfl #[.slice A0 l0.length c0, .int .i64 a1, .slice A2_0 l2_0.length c2_0, .int .i64 a2_1, .int .i64 a2_2] (by rfl) rfl rfl (by (try simp only [List.map_toArray, List.map_cons, List.map_nil]); first | done | rfl | (simp only [List.length_drop, List.length_take]; rfl)) ?_
                    with_reducible refine (chancelref09_Page.calls k3 _ _ l0 a1 (fun k_ => k_ < w.heap.size) _ _ l2_0 a2_1 a2_2 t164 _ ?side1 ?side2 ?side3 A48.out).mono ?_
                    (case side1 => repeat (first | exact (Kd.C_below HR0.out HB.out) | (with_reducible refine Kd.C_alloc ?_ _) | (with_reducible refine Kd.C_drewN ?_ _) | (with_reducible refine Kd.C_drew ?_)))
                    (case side2 => exact HC0.out)
                    (case side3 => exact Kd.V_mk HC2_0.out (Kd.F_below (Kd.C_F k25_heap HR2_0.out) (by repeat (first | (with_reducible first | exact HB.out | apply below_alloc | apply pw_below_drewN | apply below_drew1 | refine below_set ?_ GE148.out) | exact HB.out))))
                    rintro e w52 ⟨v165, rfl, ho0, hb⟩
                    refine ⟨_, rfl, ?_⟩
                    have n0_ := Aside0.mk (Kd.N_elder' (by (with_reducible repeat (first | apply Kd.N_alloc | apply Kd.N_drewN | apply Kd.N_drew)); exact HO163.out) (Kd.N_base ho0) hb)
                    have n1_ := Aside0.mk (Kd.N_lower (Kd.N_mono (ok' := fun k_ => some k_ ≠ (v162 : Value).ownBlock ∧ k_ ≠ gb148) ho0 (fun k_ hk_ => ⟨Or.elim hk_ (fun hs_ => fun e_ => Nat.not_le.2 hs_ (Kd.N_base HO163.out k_ e_.symm)) (fun hn_ => (Kd.fresh' (Kd.N_lt (by (with_reducible repeat (first | apply Kd.N_alloc | apply Kd.N_drewN | apply Kd.N_drew)); exact HO163.out)) k_ hn_)), Or.elim hk_ (fun hs_ => fun e_ => Nat.not_le.2 hs_ (by rw [e_]; exact GW148.out)) (fun hn_ => (Kd.freshB (g := gb148) (o := .cells #[.slice A2_0 l2_0.length c2_0, .int .i64 a2_1, .int .i64 a2_2] 33 (0, 0)) (by (with_reducible repeat (first | refine blk_drewN ?_ _ | refine blk_drew ?_ | refine blk_alloc ?_ _)); exact BK148.out) k_ hn_))⟩)) (below_size (by repeat (first | (with_reducible first | exact HB.out | apply below_alloc | apply pw_below_drewN | apply below_drew1 | refine below_set ?_ GE148.out) | exact HB.out))))
                    have n2_ := Aside0.mk (blk_below (g := gb148) (o := .cells #[.slice A2_0 l2_0.length c2_0, .int .i64 a2_1, .int .i64 a2_2] 33 (0, 0)) (by (with_reducible repeat (first | refine blk_drewN ?_ _ | refine blk_drew ?_ | refine blk_alloc ?_ _)); exact BK148.out) hb)
                    have n3_ := Aside0.mk (below_step (by repeat (first | (with_reducible first | exact HB.out | apply below_alloc | apply pw_below_drewN | apply below_drew1 | refine below_set ?_ GE148.out) | exact HB.out)) hb)
                    clear HO163
                    clear BK148
                    clear HB
                    have HO163 := n0_
                    have HO166 := n1_
                    have BK148 := n2_
                    have HB := n3_
                    clear n0_ n1_ n2_ n3_
                    (try clear hb)
                    (try clear hb2)
                    (try clear hk)
                    (try clear hi)
                    (try clear ho0)
                    obtain ⟨Ao53, co53, eo53⟩ := Kd.N_slice HO163.out
                    (first | subst eo53 | (injection eo53 with f1_ f2_ f3_; have f4_ := f1_.symm; have f5_ := f3_.symm; clear f1_ f2_ f3_; subst f4_; subst f5_))
                    obtain ⟨Ao54, co54, eo54⟩ := Kd.N_slice HO166.out
                    (first | subst eo54 | (injection eo54 with f1_ f2_ f3_; have f4_ := f1_.symm; have f5_ := f3_.symm; clear f1_ f2_ f3_; subst f4_; subst f5_))
                    refine hK.out _ _ ⟨(blk_cell BK148.out 0).trans rfl, (blk_cell BK148.out 1).trans rfl, (blk_cell BK148.out 2).trans rfl⟩ (fun hHeld => ?_)
                    clear hK K
                    refine norm_ (a' := ?_) ?_ ?_
                    rotate_left
                    · show Act.put _ (some 72) _ = _
                      simp only [Act.put, List.setIfInBounds_toArray, List.set_cons_zero, List.set_cons_succ, i64_w, i32_w]
                      rfl
                    refine one_ (i := 18) (N := some 73) #[true, true, true, true, true, true, true, true, true, true, true, true, true, true, true, true, true, true, true, false] rfl rfl (one_of HT_.out (by kernel_rfl)) (by decide) (fun K hK => ?_)
                    refine goes_ Try.func10 (by kernel_rfl) rfl #[.slice Ao53 t161.length co53, .slice Ao54 t164.length co54] (by rfl) rfl rfl (by (try simp only [List.map_toArray, List.map_cons, List.map_nil]); first | done | rfl | (simp only [List.length_drop, List.length_take]; rfl)) ?_
                    with_reducible refine (chancelref09_Same.calls k3 _ _ t161 _ _ t164 t167 _ ?side1 ?side2 ?side3 ?side4 A49.out).mono ?_
                    (case side1 => repeat (first | exact (Kd.N_reads' HO163.out).2.2 | (with_reducible refine Kd.C_alloc ?_ _) | (with_reducible refine Kd.C_drewN ?_ _) | (with_reducible refine Kd.C_drew ?_)))
                    (case side2 => exact (Kd.N_reads' HO163.out).2.1)
                    (case side3 => repeat (first | exact (Kd.N_reads' HO166.out).2.2 | (with_reducible refine Kd.C_alloc ?_ _) | (with_reducible refine Kd.C_drewN ?_ _) | (with_reducible refine Kd.C_drew ?_)))
                    (case side4 => exact (Kd.N_reads' HO166.out).2.1)
                    rintro e w55 ⟨rfl, hb⟩
                    refine ⟨_, rfl, ?_⟩
                    have n0_ := Aside0.mk (Kd.N_below (by (with_reducible repeat (first | apply Kd.N_alloc | apply Kd.N_drewN | apply Kd.N_drew)); exact HO163.out) hb)
                    have n1_ := Aside0.mk (Kd.N_below (by (with_reducible repeat (first | apply Kd.N_alloc | apply Kd.N_drewN | apply Kd.N_drew)); exact HO166.out) hb)
                    have n2_ := Aside0.mk (blk_below (g := gb148) (o := .cells #[.slice A2_0 l2_0.length c2_0, .int .i64 a2_1, .int .i64 a2_2] 33 (0, 0)) (by (with_reducible repeat (first | refine blk_drewN ?_ _ | refine blk_drew ?_ | refine blk_alloc ?_ _)); exact BK148.out) hb)
                    have n3_ := Aside0.mk (below_step (by repeat (first | (with_reducible first | exact HB.out | apply below_alloc | apply pw_below_drewN | apply below_drew1 | refine below_set ?_ GE148.out) | exact HB.out)) hb)
                    clear HO163
                    clear HO166
                    clear BK148
                    clear HB
                    have HO163 := n0_
                    have HO166 := n1_
                    have BK148 := n2_
                    have HB := n3_
                    clear n0_ n1_ n2_ n3_
                    (try clear hb)
                    (try clear hb2)
                    (try clear hk)
                    (try clear hi)
                    refine hK.out _ _ ⟨(blk_cell BK148.out 0).trans rfl, (blk_cell BK148.out 1).trans rfl, (blk_cell BK148.out 2).trans rfl⟩ (fun hHeld => ?_)
                    clear hK K
                    refine norm_ (a' := ?_) ?_ ?_
                    rotate_left
                    · show Act.put _ (some 73) _ = _
                      simp only [Act.put, List.setIfInBounds_toArray, List.set_cons_zero, List.set_cons_succ, i64_w, i32_w]
                      rfl
                    refine pure_ (i := 19) (N := some 6) (v := ?_) (a' := ?_) #[true, true, true, true, true, true, true, true, true, true, true, true, true, true, true, true, true, true, true, true] rfl rfl (any_of HT_.out (by kernel_rfl)) (fun _ _ _ h => h) (Or.inl ⟨by rfl, ?_⟩) ?_ ?_
                    rotate_left
                    · intro w'
                      go_simp
                      with_reducible rfl
                    rotate_left
                    · simp only [Act.put, List.setIfInBounds_toArray, List.set_cons_zero, List.set_cons_succ, i64_w, i32_w]
                      rfl
                    refine done_ (done_of HT_.out (by kernel_rfl)) ?_
                    try go_wp2
                    go_ret
                    exact ⟨by first | rfl | (simp [errW_none, errW_some] <;> rfl) | (simp [*, errW_none, errW_some] <;> rfl), by repeat (first | (with_reducible first | exact HB.out | apply below_alloc | apply pw_below_drewN | apply below_drew1 | refine below_set ?_ GE148.out) | exact HB.out)⟩

/-- THE ONE PURE STATEMENT of chancellaw09_AuditSees: yours. -/
def chancellaw09_AuditSees.Pure : Prop := ∀ (l0 : List (S46)) (a1 : Int) (l2_0 : List (S25)) (a2_1 : Int) (a2_2 : Int), (fun l : List (S46) => l.length ≤ maxLen ∧ ∀ a ∈ l, (fun b : S46 => (fun n : Int => (Lit.int .i64 n).wf = true) b.f0 ∧ (fun n : Int => (Lit.int .i64 n).wf = true) b.f1 ∧ (fun l : List Int => l.length ≤ maxLen ∧ ∀ a ∈ l, (fun n : Int => (Lit.int .i64 n).wf = true) a) b.f2 ∧ (fun l : List Int => l.length ≤ maxLen ∧ ∀ a ∈ l, (fun n : Int => (Lit.int .i64 n).wf = true) a) b.f3) a) l0 → (Lit.int .i64 a1).wf = true → (fun l : List (S25) => l.length ≤ maxLen ∧ ∀ a ∈ l, (fun b : S25 => (fun n : Int => (Lit.int .i64 n).wf = true) b.f0 ∧ (fun n : Int => (Lit.int .i64 n).wf = true) b.f1 ∧ (fun n : Int => (Lit.int .i64 n).wf = true) b.f2 ∧ (fun l : List Int => l.length ≤ maxLen ∧ ∀ a ∈ l, (fun n : Int => (Lit.int .i64 n).wf = true) a) b.f3 ∧ (fun l : List Int => l.length ≤ maxLen ∧ ∀ a ∈ l, (fun n : Int => (Lit.int .i64 n).wf = true) a) b.f4) a) l2_0 → (fun n : Int => (Lit.int .i64 n).wf = true) a2_1 → (fun n : Int => (Lit.int .i64 n).wf = true) a2_2 → ∃ k, chancellaw09_AuditSees.f k l0 a1 l2_0 a2_1 a2_2 = some true
theorem chancellaw09_AuditSees.walk (P : chancellaw09_AuditSees.Pure)  (a1 : Int)  (w : World) (w1 : (Lit.int .i64 a1).wf = true) (A0 : Option Addr) (c0 : Nat) (l0 : List (S46)) (hr0 : Kd.C k46 w A0 l0.length l0) (hc0 : l0.length ≤ c0) (g0_0 : (fun l : List (S46) => l.length ≤ maxLen ∧ ∀ a ∈ l, (fun b : S46 => (fun n : Int => (Lit.int .i64 n).wf = true) b.f0 ∧ (fun n : Int => (Lit.int .i64 n).wf = true) b.f1 ∧ (fun l : List Int => l.length ≤ maxLen ∧ ∀ a ∈ l, (fun n : Int => (Lit.int .i64 n).wf = true) a) b.f2 ∧ (fun l : List Int => l.length ≤ maxLen ∧ ∀ a ∈ l, (fun n : Int => (Lit.int .i64 n).wf = true) a) b.f3) a) l0) (A2_0 : Option Addr) (c2_0 : Nat) (l2_0 : List (S25)) (hr2_0 : Kd.C k25 w A2_0 l2_0.length l2_0) (hc2_0 : l2_0.length ≤ c2_0) (a2_1 : Int) (a2_2 : Int) (g2_0 : (fun l : List (S25) => l.length ≤ maxLen ∧ ∀ a ∈ l, (fun b : S25 => (fun n : Int => (Lit.int .i64 n).wf = true) b.f0 ∧ (fun n : Int => (Lit.int .i64 n).wf = true) b.f1 ∧ (fun n : Int => (Lit.int .i64 n).wf = true) b.f2 ∧ (fun l : List Int => l.length ≤ maxLen ∧ ∀ a ∈ l, (fun n : Int => (Lit.int .i64 n).wf = true) a) b.f3 ∧ (fun l : List Int => l.length ≤ maxLen ∧ ∀ a ∈ l, (fun n : Int => (Lit.int .i64 n).wf = true) a) b.f4) a) l2_0) (g2_1 : (fun n : Int => (Lit.int .i64 n).wf = true) a2_1) (g2_2 : (fun n : Int => (Lit.int .i64 n).wf = true) a2_2) :
    Calls Try.prog 4 #[.slice A0 l0.length c0, .int .i64 a1, .agg #[.slice A2_0 l2_0.length c2_0, .int .i64 a2_1, .int .i64 a2_2]] w fun e w' => e = .returned (.bool true) ∧ Below w.heap.size w w' := by
  obtain ⟨k, h⟩ := P l0 a1 l2_0 a2_1 a2_2 g0_0 w1 g2_0 g2_1 g2_2
  refine (chancellaw09_AuditSees.calls k A0 c0 l0 a1 A2_0 c2_0 l2_0 a2_1 a2_2 true w hr0 hc0 hr2_0 hc2_0 h).mono ?_
  rintro e w' ⟨rfl, hd⟩
  exact ⟨rfl, hd⟩

end Go.Proofs.Ytmidclhdnjbbjaa.AAuditSees
