/- What the functions that the law RightsApart reaches compute, and the row of the law (printed by a program of this session). -/
import Derived.Test.YtgjlnjjgpddcnaaARightsApartx0
import Derived.Test.YtgjlnjjgpddcnaaARightsApartx1
import Derived.Test.YtgjlnjjgpddcnaaARightsApartx2
import Derived.Test.YtgjlnjjgpddcnaaARightsApartx3
namespace Go.Proofs.Ytgjlnjjgpddcnaa.ARightsApart
open Go.RowKit Go.Proofs.YtgjlnjjgpddcnaaW.PrintWords Go.Proofs.YtgjlnjjgpddcnaaW.PrintLast Go.Proofs.YtgjlnjjgpddcnaaW.PrintMore
attribute [local go_sem] max2_int min2_int max_two min_two max_three min_three max_four min_four   -- for this text's walks alone
set_option linter.unusedVariables false
set_option linter.unusedSimpArgs false

/-! ### chancellaw03_RightsApart: function 6 -/
mutual
def chancellaw03_RightsApart.j0 : Nat → List (S29) → Int → Bool → Int → Int → Int → Bool → Bool → Option (Bool)
  | 0, _, _, _, _, _, _, _, _ => none
  | k + 1, x0, x2, x29, x162000, x162001, x162002, x162003, x162004 => if x29 = true then (some false) else ((chancelref03_Right.f k x0 8).bind fun t170 => (if t170 = true then ((rights_Grant.f x0 x162000 x162001 x162002 x162003 x162004).bind fun bt171 => (if bt171.2 = 0 then (chancellaw03_RightsApart.l0 k x0 x2 bt171.1 (x0.length : Int) 0 x162000 x162001 x162002 x162003 x162004) else (some ((bt171.1.length : Int) == 0)))) else (some true)))
def chancellaw03_RightsApart.l0 : Nat → List (S29) → Int → List (S29) → Int → Int → Int → Int → Int → Bool → Bool → Option (Bool)
  | 0, _, _, _, _, _, _, _, _, _, _ => none
  | k + 1, x0, x2, x9, x54, x55, x162000, x162001, x162002, x162003, x162004 => if x55 < x54 then (chancellaw03_RightsApart.l1 k x0 x2 x9 x55 false x55 x54 x55 x162000 x162001 x162002 x162003 x162004) else (some true)
def chancellaw03_RightsApart.l1 : Nat → List (S29) → Int → List (S29) → Int → Bool → Int → Int → Int → Int → Int → Int → Bool → Bool → Option (Bool)
  | 0, _, _, _, _, _, _, _, _, _, _, _, _, _ => none
  | k + 1, x0, x2, x9, x11, x12, x13, x54, x55, x162000, x162001, x162002, x162003, x162004 => if x13 ≥ 0 then (if x12 = true then (if 0 ≤ x13 then (if x13 < (x0.length : Int) then (chancellaw03_RightsApart.l1 k x0 x2 x9 x11 true ((rd_T29 x0 x13).f0) x54 x55 x162000 x162001 x162002 x162003 x162004) else (none)) else (none)) else (if 0 ≤ x13 then (if x13 < (x0.length : Int) then (chancellaw03_RightsApart.l1 k x0 x2 x9 x11 (x13 == x162001) ((rd_T29 x0 x13).f0) x54 x55 x162000 x162001 x162002 x162003 x162004) else (none)) else (none))) else ((some (([false, true] : List Bool) : List Bool)).bind fun y177 => (chancellaw03_RightsApart.l2 k x0 x2 x9 x11 x12 x54 x55 y177 (y177.length : Int) 0 x162000 x162001 x162002 x162003 x162004))
def chancellaw03_RightsApart.l2 : Nat → List (S29) → Int → List (S29) → Int → Bool → Int → Int → List Bool → Int → Int → Int → Int → Int → Bool → Bool → Option (Bool)
  | 0, _, _, _, _, _, _, _, _, _, _, _, _, _, _, _ => none
  | k + 1, x0, x2, x9, x11, x12, x54, x55, x73, x74, x75, x162000, x162001, x162002, x162003, x162004 => if x75 < x74 then (if 0 ≤ x75 then (if x75 < (x73.length : Int) then ((some (([x2, x162002] : List Int) : List Int)).bind fun y181 => (chancellaw03_RightsApart.l3 k x0 x2 x9 x11 x12 (rdOf false x73 x75) x54 x55 x73 x74 x75 y181 (y181.length : Int) 0 x162000 x162001 x162002 x162003 x162004)) else (none)) else (none)) else (chancellaw03_RightsApart.l0 k x0 x2 x9 x54 (wrap64 (x55 + 1)) x162000 x162001 x162002 x162003 x162004)
def chancellaw03_RightsApart.l3 : Nat → List (S29) → Int → List (S29) → Int → Bool → Bool → Int → Int → List Bool → Int → Int → List Int → Int → Int → Int → Int → Int → Bool → Bool → Option (Bool)
  | 0, _, _, _, _, _, _, _, _, _, _, _, _, _, _, _, _, _, _, _ => none
  | k + 1, x0, x2, x9, x11, x12, x15, x54, x55, x73, x74, x75, x82, x83, x84, x162000, x162001, x162002, x162003, x162004 => if x84 < x83 then (if 0 ≤ x84 then (if x84 < (x82.length : Int) then (if (rd x82 x84) = x162002 then (if (x15 != x162003) = true then ((rights_May.f x9 (rd x82 x84) x11 x15).bind fun t185 => ((rights_May.f x0 (rd x82 x84) x11 x15).bind fun t186 => (if (t185 != t186) = true then (some false) else (chancellaw03_RightsApart.l3 k x0 x2 x9 x11 x12 x15 x54 x55 x73 x74 x75 x82 x83 (wrap64 (x84 + 1)) x162000 x162001 x162002 x162003 x162004)))) else (if x12 = true then (chancellaw03_RightsApart.l3 k x0 x2 x9 x11 x12 x15 x54 x55 x73 x74 x75 x82 x83 (wrap64 (x84 + 1)) x162000 x162001 x162002 x162003 x162004) else ((rights_May.f x9 (rd x82 x84) x11 x15).bind fun t187 => ((rights_May.f x0 (rd x82 x84) x11 x15).bind fun t188 => (if (t187 != t188) = true then (some false) else (chancellaw03_RightsApart.l3 k x0 x2 x9 x11 x12 x15 x54 x55 x73 x74 x75 x82 x83 (wrap64 (x84 + 1)) x162000 x162001 x162002 x162003 x162004)))))) else ((rights_May.f x9 (rd x82 x84) x11 x15).bind fun t189 => ((rights_May.f x0 (rd x82 x84) x11 x15).bind fun t190 => (if (t189 != t190) = true then (some false) else (chancellaw03_RightsApart.l3 k x0 x2 x9 x11 x12 x15 x54 x55 x73 x74 x75 x82 x83 (wrap64 (x84 + 1)) x162000 x162001 x162002 x162003 x162004))))) else (none)) else (none)) else (chancellaw03_RightsApart.l2 k x0 x2 x9 x11 x12 x54 x55 x73 x74 (wrap64 (x75 + 1)) x162000 x162001 x162002 x162003 x162004)
end
def chancellaw03_RightsApart.f (k : Nat) (l0 : List (S29)) (a1_0 : Int) (a1_1 : Int) (a1_2 : Int) (a1_3 : Bool) (a1_4 : Bool) (a2 : Int) : Option (Bool) := (chancellaw03_two.f).bind fun t162 => ((rights_Grant.f t162 0 0 2 false true).bind fun bt165 => (if bt165.2 = 0 then ((rights_May.f bt165.1 2 1 false).bind fun t169 => (chancellaw03_RightsApart.j0 k l0 a2 (!t169) a1_0 a1_1 a1_2 a1_3 a1_4)) else (chancellaw03_RightsApart.j0 k l0 a2 true a1_0 a1_1 a1_2 a1_3 a1_4)))
theorem chancellaw03_RightsApart.mono_l : ∀ k, (∀ y0 y1 y2 y3 y4 y5 y6 y7, LeO (chancellaw03_RightsApart.j0 k y0 y1 y2 y3 y4 y5 y6 y7) (chancellaw03_RightsApart.j0 (k + 1) y0 y1 y2 y3 y4 y5 y6 y7)) ∧ (∀ y0 y1 y2 y3 y4 y5 y6 y7 y8 y9, LeO (chancellaw03_RightsApart.l0 k y0 y1 y2 y3 y4 y5 y6 y7 y8 y9) (chancellaw03_RightsApart.l0 (k + 1) y0 y1 y2 y3 y4 y5 y6 y7 y8 y9)) ∧ (∀ y0 y1 y2 y3 y4 y5 y6 y7 y8 y9 y10 y11 y12, LeO (chancellaw03_RightsApart.l1 k y0 y1 y2 y3 y4 y5 y6 y7 y8 y9 y10 y11 y12) (chancellaw03_RightsApart.l1 (k + 1) y0 y1 y2 y3 y4 y5 y6 y7 y8 y9 y10 y11 y12)) ∧ (∀ y0 y1 y2 y3 y4 y5 y6 y7 y8 y9 y10 y11 y12 y13 y14, LeO (chancellaw03_RightsApart.l2 k y0 y1 y2 y3 y4 y5 y6 y7 y8 y9 y10 y11 y12 y13 y14) (chancellaw03_RightsApart.l2 (k + 1) y0 y1 y2 y3 y4 y5 y6 y7 y8 y9 y10 y11 y12 y13 y14)) ∧ (∀ y0 y1 y2 y3 y4 y5 y6 y7 y8 y9 y10 y11 y12 y13 y14 y15 y16 y17 y18, LeO (chancellaw03_RightsApart.l3 k y0 y1 y2 y3 y4 y5 y6 y7 y8 y9 y10 y11 y12 y13 y14 y15 y16 y17 y18) (chancellaw03_RightsApart.l3 (k + 1) y0 y1 y2 y3 y4 y5 y6 y7 y8 y9 y10 y11 y12 y13 y14 y15 y16 y17 y18))
  | 0 => ⟨fun _ _ _ _ _ _ _ _ r h => by simp [chancellaw03_RightsApart.j0] at h, fun _ _ _ _ _ _ _ _ _ _ r h => by simp [chancellaw03_RightsApart.l0] at h, fun _ _ _ _ _ _ _ _ _ _ _ _ _ r h => by simp [chancellaw03_RightsApart.l1] at h, fun _ _ _ _ _ _ _ _ _ _ _ _ _ _ _ r h => by simp [chancellaw03_RightsApart.l2] at h, fun _ _ _ _ _ _ _ _ _ _ _ _ _ _ _ _ _ _ _ r h => by simp [chancellaw03_RightsApart.l3] at h⟩
  | k + 1 => by
    obtain ⟨ih0, ih1, ih2, ih3, ih4⟩ := chancellaw03_RightsApart.mono_l k
    refine ⟨?_, ?_, ?_, ?_, ?_⟩
    · intro y0 y1 y2 y3 y4 y5 y6 y7
      unfold chancellaw03_RightsApart.j0
      repeat' first
      | (with_reducible exact ih0 _ _ _ _ _ _ _ _)
      | (with_reducible exact ih1 _ _ _ _ _ _ _ _ _ _)
      | (with_reducible exact ih2 _ _ _ _ _ _ _ _ _ _ _ _ _)
      | (with_reducible exact ih3 _ _ _ _ _ _ _ _ _ _ _ _ _ _ _)
      | (with_reducible exact ih4 _ _ _ _ _ _ _ _ _ _ _ _ _ _ _ _ _ _ _)
      | (with_reducible exact chancelref03_Right.mono _ _ _)
      | (with_reducible exact LeO.refl _)
      | (with_reducible exact LeO.none _)
      | (with_reducible refine LeO.ite ?_ ?_)
      | (with_reducible refine LeO.bind ?_ (fun _ => ?_))
      | exact ih0 _ _ _ _ _ _ _ _
      | exact ih1 _ _ _ _ _ _ _ _ _ _
      | exact ih2 _ _ _ _ _ _ _ _ _ _ _ _ _
      | exact ih3 _ _ _ _ _ _ _ _ _ _ _ _ _ _ _
      | exact ih4 _ _ _ _ _ _ _ _ _ _ _ _ _ _ _ _ _ _ _
      | exact chancelref03_Right.mono _ _ _
      | exact LeO.none _
      | refine LeO.ite ?_ ?_
      | refine LeO.bind ?_ (fun _ => ?_)
    · intro y0 y1 y2 y3 y4 y5 y6 y7 y8 y9
      unfold chancellaw03_RightsApart.l0
      repeat' first
      | (with_reducible exact ih0 _ _ _ _ _ _ _ _)
      | (with_reducible exact ih1 _ _ _ _ _ _ _ _ _ _)
      | (with_reducible exact ih2 _ _ _ _ _ _ _ _ _ _ _ _ _)
      | (with_reducible exact ih3 _ _ _ _ _ _ _ _ _ _ _ _ _ _ _)
      | (with_reducible exact ih4 _ _ _ _ _ _ _ _ _ _ _ _ _ _ _ _ _ _ _)
      | (with_reducible exact chancelref03_Right.mono _ _ _)
      | (with_reducible exact LeO.refl _)
      | (with_reducible exact LeO.none _)
      | (with_reducible refine LeO.ite ?_ ?_)
      | (with_reducible refine LeO.bind ?_ (fun _ => ?_))
      | exact ih0 _ _ _ _ _ _ _ _
      | exact ih1 _ _ _ _ _ _ _ _ _ _
      | exact ih2 _ _ _ _ _ _ _ _ _ _ _ _ _
      | exact ih3 _ _ _ _ _ _ _ _ _ _ _ _ _ _ _
      | exact ih4 _ _ _ _ _ _ _ _ _ _ _ _ _ _ _ _ _ _ _
      | exact chancelref03_Right.mono _ _ _
      | exact LeO.none _
      | refine LeO.ite ?_ ?_
      | refine LeO.bind ?_ (fun _ => ?_)
    · intro y0 y1 y2 y3 y4 y5 y6 y7 y8 y9 y10 y11 y12
      unfold chancellaw03_RightsApart.l1
      repeat' first
      | (with_reducible exact ih0 _ _ _ _ _ _ _ _)
      | (with_reducible exact ih1 _ _ _ _ _ _ _ _ _ _)
      | (with_reducible exact ih2 _ _ _ _ _ _ _ _ _ _ _ _ _)
      | (with_reducible exact ih3 _ _ _ _ _ _ _ _ _ _ _ _ _ _ _)
      | (with_reducible exact ih4 _ _ _ _ _ _ _ _ _ _ _ _ _ _ _ _ _ _ _)
      | (with_reducible exact chancelref03_Right.mono _ _ _)
      | (with_reducible exact LeO.refl _)
      | (with_reducible exact LeO.none _)
      | (with_reducible refine LeO.ite ?_ ?_)
      | (with_reducible refine LeO.bind ?_ (fun _ => ?_))
      | exact ih0 _ _ _ _ _ _ _ _
      | exact ih1 _ _ _ _ _ _ _ _ _ _
      | exact ih2 _ _ _ _ _ _ _ _ _ _ _ _ _
      | exact ih3 _ _ _ _ _ _ _ _ _ _ _ _ _ _ _
      | exact ih4 _ _ _ _ _ _ _ _ _ _ _ _ _ _ _ _ _ _ _
      | exact chancelref03_Right.mono _ _ _
      | exact LeO.none _
      | refine LeO.ite ?_ ?_
      | refine LeO.bind ?_ (fun _ => ?_)
    · intro y0 y1 y2 y3 y4 y5 y6 y7 y8 y9 y10 y11 y12 y13 y14
      unfold chancellaw03_RightsApart.l2
      repeat' first
      | (with_reducible exact ih0 _ _ _ _ _ _ _ _)
      | (with_reducible exact ih1 _ _ _ _ _ _ _ _ _ _)
      | (with_reducible exact ih2 _ _ _ _ _ _ _ _ _ _ _ _ _)
      | (with_reducible exact ih3 _ _ _ _ _ _ _ _ _ _ _ _ _ _ _)
      | (with_reducible exact ih4 _ _ _ _ _ _ _ _ _ _ _ _ _ _ _ _ _ _ _)
      | (with_reducible exact chancelref03_Right.mono _ _ _)
      | (with_reducible exact LeO.refl _)
      | (with_reducible exact LeO.none _)
      | (with_reducible refine LeO.ite ?_ ?_)
      | (with_reducible refine LeO.bind ?_ (fun _ => ?_))
      | exact ih0 _ _ _ _ _ _ _ _
      | exact ih1 _ _ _ _ _ _ _ _ _ _
      | exact ih2 _ _ _ _ _ _ _ _ _ _ _ _ _
      | exact ih3 _ _ _ _ _ _ _ _ _ _ _ _ _ _ _
      | exact ih4 _ _ _ _ _ _ _ _ _ _ _ _ _ _ _ _ _ _ _
      | exact chancelref03_Right.mono _ _ _
      | exact LeO.none _
      | refine LeO.ite ?_ ?_
      | refine LeO.bind ?_ (fun _ => ?_)
    · intro y0 y1 y2 y3 y4 y5 y6 y7 y8 y9 y10 y11 y12 y13 y14 y15 y16 y17 y18
      unfold chancellaw03_RightsApart.l3
      repeat' first
      | (with_reducible exact ih0 _ _ _ _ _ _ _ _)
      | (with_reducible exact ih1 _ _ _ _ _ _ _ _ _ _)
      | (with_reducible exact ih2 _ _ _ _ _ _ _ _ _ _ _ _ _)
      | (with_reducible exact ih3 _ _ _ _ _ _ _ _ _ _ _ _ _ _ _)
      | (with_reducible exact ih4 _ _ _ _ _ _ _ _ _ _ _ _ _ _ _ _ _ _ _)
      | (with_reducible exact chancelref03_Right.mono _ _ _)
      | (with_reducible exact LeO.refl _)
      | (with_reducible exact LeO.none _)
      | (with_reducible refine LeO.ite ?_ ?_)
      | (with_reducible refine LeO.bind ?_ (fun _ => ?_))
      | exact ih0 _ _ _ _ _ _ _ _
      | exact ih1 _ _ _ _ _ _ _ _ _ _
      | exact ih2 _ _ _ _ _ _ _ _ _ _ _ _ _
      | exact ih3 _ _ _ _ _ _ _ _ _ _ _ _ _ _ _
      | exact ih4 _ _ _ _ _ _ _ _ _ _ _ _ _ _ _ _ _ _ _
      | exact chancelref03_Right.mono _ _ _
      | exact LeO.none _
      | refine LeO.ite ?_ ?_
      | refine LeO.bind ?_ (fun _ => ?_)
theorem chancellaw03_RightsApart.mono : ∀ a0 a1 a2 a3 a4 a5 a6 k, LeO (chancellaw03_RightsApart.f k a0 a1 a2 a3 a4 a5 a6) (chancellaw03_RightsApart.f (k + 1) a0 a1 a2 a3 a4 a5 a6) := by
  intro a0 a1 a2 a3 a4 a5 a6 k
  obtain ⟨ih0, ih1, ih2, ih3, ih4⟩ := chancellaw03_RightsApart.mono_l k
  unfold chancellaw03_RightsApart.f
  repeat' first
      | (with_reducible exact ih0 _ _ _ _ _ _ _ _)
      | (with_reducible exact ih1 _ _ _ _ _ _ _ _ _ _)
      | (with_reducible exact ih2 _ _ _ _ _ _ _ _ _ _ _ _ _)
      | (with_reducible exact ih3 _ _ _ _ _ _ _ _ _ _ _ _ _ _ _)
      | (with_reducible exact ih4 _ _ _ _ _ _ _ _ _ _ _ _ _ _ _ _ _ _ _)
      | (with_reducible exact chancelref03_Right.mono _ _ _)
      | (with_reducible exact LeO.refl _)
      | (with_reducible exact LeO.none _)
      | (with_reducible refine LeO.ite ?_ ?_)
      | (with_reducible refine LeO.bind ?_ (fun _ => ?_))
      | exact ih0 _ _ _ _ _ _ _ _
      | exact ih1 _ _ _ _ _ _ _ _ _ _
      | exact ih2 _ _ _ _ _ _ _ _ _ _ _ _ _
      | exact ih3 _ _ _ _ _ _ _ _ _ _ _ _ _ _ _
      | exact ih4 _ _ _ _ _ _ _ _ _ _ _ _ _ _ _ _ _ _ _
      | exact chancelref03_Right.mono _ _ _
      | exact LeO.none _
      | refine LeO.ite ?_ ?_
      | refine LeO.bind ?_ (fun _ => ?_)
set_option maxHeartbeats 8000000 in
set_option maxRecDepth 100000 in
theorem chancellaw03_RightsApart.calls (k : Nat) (A0 : Option Addr) (c0 : Nat) (l0 : List (S29)) (a1_0 : Int) (a1_1 : Int) (a1_2 : Int) (a1_3 : Bool) (a1_4 : Bool) (a2 : Int) (r : Bool) (w : World) (hr0 : Kd.C k29 w A0 l0.length l0) (hc0 : l0.length ≤ c0) (h : chancellaw03_RightsApart.f k l0 a1_0 a1_1 a1_2 a1_3 a1_4 a2 = some r) :
    Calls Try.prog 6 #[.slice A0 l0.length c0, .agg #[.int .i64 a1_0, .int .i64 a1_1, .int .i64 a1_2, .bool a1_3, .bool a1_4], .int .i64 a2] w fun e w' => e = .returned (.bool r) ∧ Below w.heap.size w w' := by
  have hu33 := Try.underlying33
  have HR0 := Aside0.mk hr0
  have HC0 := Aside0.mk hc0
  clear hr0 hc0
  have HB := Aside0.mk (Below.refl w.heap.size w)
  have H : ((chancellaw03_two.f).bind fun t162 => ((rights_Grant.f t162 0 0 2 false true).bind fun bt165 => (if bt165.2 = 0 then ((rights_May.f bt165.1 2 1 false).bind fun t169 => (chancellaw03_RightsApart.j0 k l0 a2 (!t169) a1_0 a1_1 a1_2 a1_3 a1_4)) else (chancellaw03_RightsApart.j0 k l0 a2 true a1_0 a1_1 a1_2 a1_3 a1_4)))) = some r := h
  clear h
  replace H := Option.bind_eq_some_iff.mp H
  obtain ⟨t162, A40, H⟩ := H
  replace H : ((rights_Grant.f t162 0 0 2 false true).bind fun bt165 => (if bt165.2 = 0 then ((rights_May.f bt165.1 2 1 false).bind fun t169 => (chancellaw03_RightsApart.j0 k l0 a2 (!t169) a1_0 a1_1 a1_2 a1_3 a1_4)) else (chancellaw03_RightsApart.j0 k l0 a2 true a1_0 a1_1 a1_2 a1_3 a1_4))) = some r := H
  have A4 := Aside0.mk A40
  clear A40
  replace H := Option.bind_eq_some_iff.mp H
  obtain ⟨⟨t165, t168⟩, A50, H⟩ := H
  replace H : (if t168 = 0 then ((rights_May.f t165 2 1 false).bind fun t169 => (chancellaw03_RightsApart.j0 k l0 a2 (!t169) a1_0 a1_1 a1_2 a1_3 a1_4)) else (chancellaw03_RightsApart.j0 k l0 a2 true a1_0 a1_1 a1_2 a1_3 a1_4)) = some r := H
  have A5 := Aside0.mk A50
  clear A50
  have HC6 := Aside0.mk H
  clear H
  go_enter Try.func6, Try.ntmps6
  go_upto_region 2 with (first | ((with_reducible refine gate_dst (N := 4) rfl ?_); refine box_event ?hg (N := 4) ?hd (cs := #[.int .i64 a1_0, .int .i64 a1_1, .int .i64 a1_2, .bool a1_3, .bool a1_4]) (t := 33) ?hr ?_; (case hd => rfl); (case hg => rfl); (case hr => first | (go_simp; done) | (go_simp; rfl)); intro gb161 hg w7 hbox hb; have n0_ := Aside0.mk (below_step (by repeat (first | (with_reducible first | exact HB.out | apply below_alloc | apply pw_below_drewN | apply below_drew1) | exact HB.out)) hb); have n1_ := Aside0.mk (hbox); have n2_ := Aside0.mk ((by rw [hg]; exact (below_size (by repeat (first | (with_reducible first | exact HB.out | apply below_alloc | apply pw_below_drewN | apply below_drew1) | exact HB.out))) : w.heap.size ≤ gb161)); have n3_ := Aside0.mk ((by rw [hg]; exact (below_size (by repeat (first | (with_reducible first | exact HB.out | apply below_alloc | apply pw_below_drewN | apply below_drew1) | exact HB.out))) : w.heap.size ≤ gb161)); clear HB; have HB := n0_; have BK161 := n1_; have GW161 := n2_; have GE161 := n3_; clear n0_ n1_ n2_ n3_; clear hb hbox hg) | ((with_reducible refine gate_callee (f := 10) rfl ?_); refine goesL_ (some 19) rfl rfl Try.func10 (by kernel_rfl) rfl #[] rfl (by (try simp only [List.map_toArray, List.map_cons, List.map_nil]); first | done | rfl | (simp only [List.length_drop, List.length_take]; rfl)) ?_; (with_reducible refine (chancellaw03_two.calls  t162 _ A4.out).mono ?_); rintro e w8 ⟨v163, rfl, ho0, hb⟩; refine ⟨_, rfl, ?_⟩; have n0_ := Aside0.mk (Kd.N_lower (Kd.N_mono (ok' := fun k_ => k_ ≠ gb161) ho0 (fun k_ hk_ => (Kd.freshB (g := gb161) (o := .cells #[.int .i64 a1_0, .int .i64 a1_1, .int .i64 a1_2, .bool a1_3, .bool a1_4] 33 (0, 0)) (by (with_reducible repeat (first | refine blk_drewN ?_ _ | refine blk_drew ?_ | refine blk_alloc ?_ _)); exact BK161.out) k_ hk_))) (below_size (by repeat (first | (with_reducible first | exact HB.out | apply below_alloc | apply pw_below_drewN | apply below_drew1 | refine below_set ?_ GE161.out) | exact HB.out)))); have n1_ := Aside0.mk (blk_below (g := gb161) (o := .cells #[.int .i64 a1_0, .int .i64 a1_1, .int .i64 a1_2, .bool a1_3, .bool a1_4] 33 (0, 0)) (by (with_reducible repeat (first | refine blk_drewN ?_ _ | refine blk_drew ?_ | refine blk_alloc ?_ _)); exact BK161.out) hb); have n2_ := Aside0.mk (below_step (by repeat (first | (with_reducible first | exact HB.out | apply below_alloc | apply pw_below_drewN | apply below_drew1 | refine below_set ?_ GE161.out) | exact HB.out)) hb); clear BK161; clear HB; have HO164 := n0_; have BK161 := n1_; have HB := n2_; clear n0_ n1_ n2_; (try clear hb); (try clear hb2); (try clear hk); (try clear hi); (try clear ho0); obtain ⟨Ao9, co9, eo9⟩ := Kd.N_slice HO164.out; subst eo9) | ((with_reducible refine gate_callee (f := 16) rfl ?_); refine goesL_ (some 20) rfl rfl Try.func16 (by kernel_rfl) rfl #[.slice Ao9 t162.length co9, .int .i64 0, .int .i64 0, .int .i64 2, .bool false, .bool true] rfl (by (try simp only [List.map_toArray, List.map_cons, List.map_nil]); first | done | rfl | (simp only [List.length_drop, List.length_take]; rfl)) ?_; (with_reducible refine (rights_Grant.calls (fun k_ => k_ ≠ gb161) _ _ t162 0 0 2 false true t165 t168 _ ?side1 A5.out).mono ?_); (case side1 => exact Kd.N_V (HO164.out)); rintro e w10 ⟨v166, rfl, ho0, hb⟩; refine ⟨_, rfl, ?_⟩; have n0_ := Aside0.mk (Kd.N_below (by (with_reducible repeat (first | apply Kd.N_alloc | apply Kd.N_drewN | apply Kd.N_drew)); exact HO164.out) hb); have n1_ := Aside0.mk (Kd.V_lower (Kd.V_mono (ok' := fun k_ => k_ ≠ gb161) ho0 (fun k_ hk_ => Or.elim hk_ (fun hs_ => hs_) (fun hn_ => (Kd.freshB (g := gb161) (o := .cells #[.int .i64 a1_0, .int .i64 a1_1, .int .i64 a1_2, .bool a1_3, .bool a1_4] 33 (0, 0)) (by (with_reducible repeat (first | refine blk_drewN ?_ _ | refine blk_drew ?_ | refine blk_alloc ?_ _)); exact BK161.out) k_ hn_)))) (below_size (by repeat (first | (with_reducible first | exact HB.out | apply below_alloc | apply pw_below_drewN | apply below_drew1 | refine below_set ?_ GE161.out) | exact HB.out)))); have n2_ := Aside0.mk (blk_below (g := gb161) (o := .cells #[.int .i64 a1_0, .int .i64 a1_1, .int .i64 a1_2, .bool a1_3, .bool a1_4] 33 (0, 0)) (by (with_reducible repeat (first | refine blk_drewN ?_ _ | refine blk_drew ?_ | refine blk_alloc ?_ _)); exact BK161.out) hb); have n3_ := Aside0.mk (below_step (by repeat (first | (with_reducible first | exact HB.out | apply below_alloc | apply pw_below_drewN | apply below_drew1 | refine below_set ?_ GE161.out) | exact HB.out)) hb); clear HO164; clear BK161; clear HB; have HO164 := n0_; have HO167 := n1_; have BK161 := n2_; have HB := n3_; clear n0_ n1_ n2_ n3_; (try clear hb); (try clear hb2); (try clear hk); (try clear hi); (try clear ho0)))
  (try simp only [Act.put, List.setIfInBounds_toArray, List.set_cons_zero, List.set_cons_succ])
  go_cut [29] (fun v29 wc => ∃ (kq : Nat) (x29_5 : Bool), v29 = .bool x29_5 ∧ Aside0 (chancellaw03_RightsApart.j0 kq l0 a2 x29_5 a1_0 a1_1 a1_2 a1_3 a1_4 = some r) ∧ Aside0 (kq ≤ k) ∧ Aside0 (wc.heap[gb161]? = some (.cells #[.int .i64 a1_0, .int .i64 a1_1, .int .i64 a1_2, .bool a1_3, .bool a1_4] 33 (0, 0))) ∧ Aside0 (Below w.heap.size w wc))
  case first =>
    have H := HC6.out
    clear HC6
    by_cases c11 : t168 = 0
    · rw [if_pos c11] at H
      have c11b0 : (t168 == 0) = true := beq_iff_eq.mpr c11
      have c11b1 : (t168 != 0) = false := bne_eq_false_iff_eq.mpr c11
      clear c11
      (first | rw [c11b0] | (simp only [i64_w, i32_w]; rw [c11b0]) | skip)
      replace H := Option.bind_eq_some_iff.mp H
      obtain ⟨t169, A120, H⟩ := H
      replace H : (chancellaw03_RightsApart.j0 k l0 a2 (!t169) a1_0 a1_1 a1_2 a1_3 a1_4) = some r := H
      have A12 := Aside0.mk A120
      clear A120
      have H' := Aside0.mk H
      clear H
      obtain ⟨Ao13, co13, eo13⟩ := Kd.V_slice HO167.out
      subst eo13
      go_wp2_with (first | (go_at_call 13; (with_reducible refine (rights_May.calls _ _ t165 2 1 false t169 _ ?side1 ?side2 A12.out).mono ?_); (case side1 => repeat (first | exact (Kd.V_reads' HO167.out).2.2 | (with_reducible refine Kd.C_alloc ?_ _) | (with_reducible refine Kd.C_drewN ?_ _) | (with_reducible refine Kd.C_drew ?_))); (case side2 => exact (Kd.V_reads' HO167.out).2.1); rintro e w14 ⟨rfl, hb⟩; have n0_ := Aside0.mk (Kd.N_below (by (with_reducible repeat (first | apply Kd.N_alloc | apply Kd.N_drewN | apply Kd.N_drew)); exact HO164.out) hb); have n1_ := Aside0.mk (Kd.V_below (by (with_reducible repeat (first | apply Kd.V_alloc | apply Kd.V_drewN | apply Kd.V_drew)); exact HO167.out) hb); have n2_ := Aside0.mk (blk_below (g := gb161) (o := .cells #[.int .i64 a1_0, .int .i64 a1_1, .int .i64 a1_2, .bool a1_3, .bool a1_4] 33 (0, 0)) (by (with_reducible repeat (first | refine blk_drewN ?_ _ | refine blk_drew ?_ | refine blk_alloc ?_ _)); exact BK161.out) hb); have n3_ := Aside0.mk (below_step (by repeat (first | (with_reducible first | exact HB.out | apply below_alloc | apply pw_below_drewN | apply below_drew1 | refine below_set ?_ GE161.out) | exact HB.out)) hb); clear HO164; clear HO167; clear BK161; clear HB; have HO164 := n0_; have HO167 := n1_; have BK161 := n2_; have HB := n3_; clear n0_ n1_ n2_ n3_; (try clear hb); (try clear hb2); (try clear hk); (try clear hi)))
      go_meet
      case rel => exact ⟨_, (!t169), (by first | rfl | (simp; done) | (simp [*]; done)), H', ⟨by first | omega | exact Nat.le_refl _⟩, ⟨by (with_reducible repeat (first | refine blk_drewN ?_ _ | refine blk_drew ?_ | refine blk_alloc ?_ _)); exact BK161.out⟩, ⟨by repeat (first | (with_reducible first | exact HB.out | apply below_alloc | apply pw_below_drewN | apply below_drew1 | refine below_set ?_ GE161.out) | exact HB.out)⟩⟩
    · rw [if_neg c11] at H
      have c11b0 : (t168 == 0) = false := beq_eq_false_iff_ne.mpr c11
      have c11b1 : (t168 != 0) = true := bne_iff_ne.mpr c11
      (first | rw [c11b0] | (simp only [i64_w, i32_w]; rw [c11b0]) | skip)
      have H' := Aside0.mk H
      clear H
      go_wp2
      go_meet
      case rel => exact ⟨_, (true), (by first | rfl | (simp; done) | (simp [*]; done)), H', ⟨by first | omega | exact Nat.le_refl _⟩, ⟨by (with_reducible repeat (first | refine blk_drewN ?_ _ | refine blk_drew ?_ | refine blk_alloc ?_ _)); exact BK161.out⟩, ⟨by repeat (first | (with_reducible first | exact HB.out | apply below_alloc | apply pw_below_drewN | apply below_drew1 | refine below_set ?_ GE161.out) | exact HB.out)⟩⟩
  case rest =>
    clear HC6
    try clear c1
    try clear p2
    try clear c6
    try clear c10
    try clear c11
    try clear c11b0
    try clear c11b1
    obtain ⟨kq, x29_5, rfl, HA, HJ5, BK161, HB⟩ := hcut
    cases kq with
    | zero => exact absurd HA.out (by simp [chancellaw03_RightsApart.j0])
    | succ kj5 =>
      have H := HA.out
      clear HA
      simp only [chancellaw03_RightsApart.j0] at H
      by_cases c15 : x29_5 = true
      · subst c15
        have H1 : (some false) = some r := by rw [if_pos rfl] at H; exact H
        clear H
        have H := H1
        clear H1
        obtain rfl := Option.some.inj H
        go_wp2
        go_ret
        exact ⟨by first | rfl | (simp [errW_none, errW_some] <;> rfl) | (simp [*, errW_none, errW_some] <;> rfl), by repeat (first | (with_reducible first | exact HB.out | apply below_alloc | apply pw_below_drewN | apply below_drew1 | refine below_set ?_ GE161.out) | exact HB.out)⟩
      · replace c15 := Bool.eq_false_iff.mpr c15
        subst c15
        have H1 : ((chancelref03_Right.f kj5 l0 8).bind fun t170 => (if t170 = true then ((rights_Grant.f l0 a1_0 a1_1 a1_2 a1_3 a1_4).bind fun bt171 => (if bt171.2 = 0 then (chancellaw03_RightsApart.l0 kj5 l0 a2 bt171.1 (l0.length : Int) 0 a1_0 a1_1 a1_2 a1_3 a1_4) else (some ((bt171.1.length : Int) == 0)))) else (some true))) = some r := by rw [if_neg (show ¬ (false = true) by decide)] at H; exact H
        clear H
        have H := H1
        clear H1
        replace H := Option.bind_eq_some_iff.mp H
        obtain ⟨t170, A160, H⟩ := H
        replace H : (if t170 = true then ((rights_Grant.f l0 a1_0 a1_1 a1_2 a1_3 a1_4).bind fun bt171 => (if bt171.2 = 0 then (chancellaw03_RightsApart.l0 kj5 l0 a2 bt171.1 (l0.length : Int) 0 a1_0 a1_1 a1_2 a1_3 a1_4) else (some ((bt171.1.length : Int) == 0)))) else (some true)) = some r := H
        have A16 := Aside0.mk A160
        clear A160
        by_cases c17 : t170 = true
        · subst c17
          have H1 : ((rights_Grant.f l0 a1_0 a1_1 a1_2 a1_3 a1_4).bind fun bt171 => (if bt171.2 = 0 then (chancellaw03_RightsApart.l0 kj5 l0 a2 bt171.1 (l0.length : Int) 0 a1_0 a1_1 a1_2 a1_3 a1_4) else (some ((bt171.1.length : Int) == 0)))) = some r := by rw [if_pos rfl] at H; exact H
          clear H
          have H := H1
          clear H1
          replace H := Option.bind_eq_some_iff.mp H
          obtain ⟨⟨t171, t174⟩, A180, H⟩ := H
          replace H : (if t174 = 0 then (chancellaw03_RightsApart.l0 kj5 l0 a2 t171 (l0.length : Int) 0 a1_0 a1_1 a1_2 a1_3 a1_4) else (some ((t171.length : Int) == 0))) = some r := H
          have A18 := Aside0.mk A180
          clear A180
          by_cases c19 : t174 = 0
          · rw [if_pos c19] at H
            have c19b0 : (t174 == 0) = true := beq_iff_eq.mpr c19
            have c19b1 : (t174 != 0) = false := bne_eq_false_iff_eq.mpr c19
            clear c19
            have H' := Aside0.mk H
            clear H
            go_wp2_with (first | ((with_reducible refine gate_callee (f := 12) rfl ?_); refine goesL_ (some 31) rfl rfl Try.func12 (by kernel_rfl) rfl #[.slice A0 l0.length c0, .int .i64 8] rfl (by (try simp only [List.map_toArray, List.map_cons, List.map_nil]); first | done | rfl | (simp only [List.length_drop, List.length_take]; rfl)) ?_; (with_reducible refine (chancelref03_Right.calls kj5 _ _ l0 8 true _ ?side1 ?side2 A16.out).mono ?_); (case side1 => repeat (first | exact (Kd.C_below HR0.out HB.out) | (with_reducible refine Kd.C_alloc ?_ _) | (with_reducible refine Kd.C_drewN ?_ _) | (with_reducible refine Kd.C_drew ?_))); (case side2 => exact HC0.out); rintro e w20 ⟨rfl, hb⟩; refine ⟨_, rfl, ?_⟩; have n0_ := Aside0.mk (blk_below (g := gb161) (o := .cells #[.int .i64 a1_0, .int .i64 a1_1, .int .i64 a1_2, .bool a1_3, .bool a1_4] 33 (0, 0)) (by (with_reducible repeat (first | refine blk_drewN ?_ _ | refine blk_drew ?_ | refine blk_alloc ?_ _)); exact BK161.out) hb); have n1_ := Aside0.mk (below_step (by repeat (first | (with_reducible first | exact HB.out | apply below_alloc | apply pw_below_drewN | apply below_drew1 | refine below_set ?_ GE161.out) | exact HB.out)) hb); clear BK161; clear HB; have BK161 := n0_; have HB := n1_; clear n0_ n1_; (try clear hb); (try clear hb2); (try clear hk); (try clear hi); have hcz21_0 : w20.cell? ⟨gb161, 0, none⟩ = some (.int .i64 a1_0) := (blk_cell BK161.out 0).trans rfl; have hcz21_1 : w20.cell? ⟨gb161, 1, none⟩ = some (.int .i64 a1_1) := (blk_cell BK161.out 1).trans rfl; have hcz21_2 : w20.cell? ⟨gb161, 2, none⟩ = some (.int .i64 a1_2) := (blk_cell BK161.out 2).trans rfl; have hcz21_3 : w20.cell? ⟨gb161, 3, none⟩ = some (.bool a1_3) := (blk_cell BK161.out 3).trans rfl; have hcz21_4 : w20.cell? ⟨gb161, 4, none⟩ = some (.bool a1_4) := (blk_cell BK161.out 4).trans rfl; have hfz21_0 := blk_frozen BK161.out 0; have hfz21_1 := blk_frozen BK161.out 1; have hfz21_2 := blk_frozen BK161.out 2; have hfz21_3 := blk_frozen BK161.out 3; have hfz21_4 := blk_frozen BK161.out 4) | ((with_reducible refine gate_callee (f := 16) rfl ?_); refine goesL_ (some 45) rfl rfl Try.func16 (by kernel_rfl) rfl #[.slice A0 l0.length c0, .int .i64 a1_0, .int .i64 a1_1, .int .i64 a1_2, .bool a1_3, .bool a1_4] rfl (by (try simp only [List.map_toArray, List.map_cons, List.map_nil]); first | done | rfl | (simp only [List.length_drop, List.length_take]; rfl)) ?_; (with_reducible refine (rights_Grant.calls (fun k_ => k_ < w.heap.size) _ _ l0 a1_0 a1_1 a1_2 a1_3 a1_4 t171 t174 _ ?side1 A18.out).mono ?_); (case side1 => exact Kd.V_mk HC0.out (Kd.F_below (Kd.C_F k29_heap HR0.out) (by repeat (first | (with_reducible first | exact HB.out | apply below_alloc | apply pw_below_drewN | apply below_drew1 | refine below_set ?_ GE161.out) | exact HB.out)))); rintro e w22 ⟨v172, rfl, ho0, hb⟩; refine ⟨_, rfl, ?_⟩; have n0_ := Aside0.mk (Kd.V_lower (Kd.V_mono (ok' := fun k_ => k_ ≠ gb161) ho0 (fun k_ hk_ => Or.elim hk_ (fun hs_ => fun e_ => Nat.not_le.2 hs_ (by rw [e_]; exact GW161.out)) (fun hn_ => (Kd.freshB (g := gb161) (o := .cells #[.int .i64 a1_0, .int .i64 a1_1, .int .i64 a1_2, .bool a1_3, .bool a1_4] 33 (0, 0)) (by (with_reducible repeat (first | refine blk_drewN ?_ _ | refine blk_drew ?_ | refine blk_alloc ?_ _)); exact BK161.out) k_ hn_)))) (below_size (by repeat (first | (with_reducible first | exact HB.out | apply below_alloc | apply pw_below_drewN | apply below_drew1 | refine below_set ?_ GE161.out) | exact HB.out)))); have n1_ := Aside0.mk (blk_below (g := gb161) (o := .cells #[.int .i64 a1_0, .int .i64 a1_1, .int .i64 a1_2, .bool a1_3, .bool a1_4] 33 (0, 0)) (by (with_reducible repeat (first | refine blk_drewN ?_ _ | refine blk_drew ?_ | refine blk_alloc ?_ _)); exact BK161.out) hb); have n2_ := Aside0.mk (below_step (by repeat (first | (with_reducible first | exact HB.out | apply below_alloc | apply pw_below_drewN | apply below_drew1 | refine below_set ?_ GE161.out) | exact HB.out)) hb); clear BK161; clear HB; have HO173 := n0_; have BK161 := n1_; have HB := n2_; clear n0_ n1_ n2_; (try clear hb); (try clear hb2); (try clear hk); (try clear hi); (try clear ho0)))
            go_loopg [55] kj5 (fun kq v55 w' => ∃ (x55_2 : Int), v55 = .int .i64 x55_2 ∧ Aside0 (chancellaw03_RightsApart.l0 kq l0 a2 t171 (l0.length : Int) x55_2 a1_0 a1_1 a1_2 a1_3 a1_4 = some r) ∧ Aside0 (kq ≤ kj5) ∧ Aside0 (Kd.V k29 29 w' w.heap.size (fun k_ => k_ ≠ gb161) v172 t171) ∧ Aside0 (w'.heap[gb161]? = some (.cells #[.int .i64 a1_0, .int .i64 a1_1, .int .i64 a1_2, .bool a1_3, .bool a1_4] 33 (0, 0))) ∧ Aside0 (Below w.heap.size w w'))
            case atStart => exact ⟨(0), (by first | rfl | (simp; done) | (simp [*]; done)), H', ⟨Nat.le_refl _⟩, ⟨by (with_reducible repeat (first | apply Kd.V_alloc | apply Kd.V_drewN | apply Kd.V_drew)); exact HO173.out⟩, ⟨by (with_reducible repeat (first | refine blk_drewN ?_ _ | refine blk_drew ?_ | refine blk_alloc ?_ _)); exact BK161.out⟩, ⟨by repeat (first | (with_reducible first | exact HB.out | apply below_alloc | apply pw_below_drewN | apply below_drew1 | refine below_set ?_ GE161.out) | exact HB.out)⟩⟩
            case round =>
              clear H'
              try clear c1
              try clear p2
              try clear c6
              try clear c10
              try clear c11
              try clear c11b0
              try clear c11b1
              try clear c12
              try clear c15
              try clear c16
              try clear c17
              try clear c19
              try clear c19b0
              try clear c19b1
              try clear hcz21_0
              try clear hcz21_1
              try clear hcz21_2
              try clear hcz21_3
              try clear hcz21_4
              try clear hfz21_0
              try clear hfz21_1
              try clear hfz21_2
              try clear hfz21_3
              try clear hfz21_4
              try clear p2
              obtain ⟨x55_2, rfl, HA, HK2, HO_9, BK161, HB⟩ := hrel
              cases gk with
              | zero => exact absurd HA.out (by simp [chancellaw03_RightsApart.l0])
              | succ k2 =>
                have H := HA.out
                clear HA
                simp only [chancellaw03_RightsApart.l0] at H
                by_cases c23 : x55_2 < (l0.length : Int)
                · rw [if_pos c23] at H
                  have c23b0 : decide (x55_2 < (l0.length : Int)) = true := decide_eq_true c23
                  clear c23
                  have H' := Aside0.mk H
                  clear H
                  go_wp2
                  go_loopg [12, 13] k2 (fun kq v12 v13 w' => ∃ (x12_3 : Bool) (x13_3 : Int), v12 = .bool x12_3 ∧ v13 = .int .i64 x13_3 ∧ Aside0 (chancellaw03_RightsApart.l1 kq l0 a2 t171 x55_2 x12_3 x13_3 (l0.length : Int) x55_2 a1_0 a1_1 a1_2 a1_3 a1_4 = some r) ∧ Aside0 (kq ≤ k2) ∧ Aside0 (Kd.V k29 29 w' w.heap.size (fun k_ => k_ ≠ gb161) v172 t171) ∧ Aside0 (w'.heap[gb161]? = some (.cells #[.int .i64 a1_0, .int .i64 a1_1, .int .i64 a1_2, .bool a1_3, .bool a1_4] 33 (0, 0))) ∧ Aside0 (Below w.heap.size w w'))
                  case atStart => exact ⟨(false), (x55_2), (by first | rfl | (simp; done) | (simp [*]; done)), (by first | rfl | (simp; done) | (simp [*]; done)), H', ⟨Nat.le_refl _⟩, ⟨by (with_reducible repeat (first | apply Kd.V_alloc | apply Kd.V_drewN | apply Kd.V_drew)); exact HO_9.out⟩, ⟨by (with_reducible repeat (first | refine blk_drewN ?_ _ | refine blk_drew ?_ | refine blk_alloc ?_ _)); exact BK161.out⟩, ⟨by repeat (first | (with_reducible first | exact HB.out | apply below_alloc | apply pw_below_drewN | apply below_drew1 | refine below_set ?_ GE161.out) | exact HB.out)⟩⟩
                  case round =>
                    clear H'
                    try clear c1
                    try clear c2
                    try clear p2
                    try clear c6
                    try clear c10
                    try clear c11
                    try clear c11b0
                    try clear c11b1
                    try clear c12
                    try clear c15
                    try clear c16
                    try clear c17
                    try clear c19
                    try clear c19b0
                    try clear c19b1
                    try clear c23
                    try clear c23b0
                    try clear hcz21_0
                    try clear hcz21_1
                    try clear hcz21_2
                    try clear hcz21_3
                    try clear hcz21_4
                    try clear hfz21_0
                    try clear hfz21_1
                    try clear hfz21_2
                    try clear hfz21_3
                    try clear hfz21_4
                    try clear p2
                    obtain ⟨x12_3, x13_3, rfl, rfl, HA, HK3, HO_9, BK161, HB⟩ := hrel
                    cases gk with
                    | zero => exact absurd HA.out (by simp [chancellaw03_RightsApart.l1])
                    | succ k3 =>
                      have H := HA.out
                      clear HA
                      simp only [chancellaw03_RightsApart.l1] at H
                      by_cases c24 : x13_3 ≥ 0
                      · rw [if_pos c24] at H
                        have c24b0 : decide (0 ≤ x13_3) = true := decide_eq_true c24
                        clear c24
                        by_cases c25 : x12_3 = true
                        · subst c25
                          have H1 : (if 0 ≤ x13_3 then (if x13_3 < (l0.length : Int) then (chancellaw03_RightsApart.l1 k3 l0 a2 t171 x55_2 true ((rd_T29 l0 x13_3).f0) (l0.length : Int) x55_2 a1_0 a1_1 a1_2 a1_3 a1_4) else (none)) else (none)) = some r := by rw [if_pos rfl] at H; exact H
                          clear H
                          have H := H1
                          clear H1
                          by_cases c26 : 0 ≤ x13_3
                          · rw [if_pos c26] at H
                            have c26b0 : decide (0 ≤ x13_3) = true := decide_eq_true c26
                            clear c26
                            by_cases c27 : x13_3 < (l0.length : Int)
                            · rw [if_pos c27] at H
                              have c27b0 : decide (x13_3 < (l0.length : Int)) = true := decide_eq_true c27
                              clear c27
                              have H' := Aside0.mk H
                              clear H
                              have p175 : 0 ≤ (x13_3 : Int) := of_decide_eq_true (by first | (with_reducible assumption) | assumption)
                              have q175 : x13_3 < (l0.length : Int) := of_decide_eq_true (by first | (with_reducible assumption) | assumption)
                              obtain ⟨ad175, A175_2, c175_2, A175_3, c175_3, e175, hx175_0, hx175_1, hx175_2, hx175_3, hl175_2, hi175_2, hl175_3, hi175_3⟩ := at_T29 HR0.out x13_3 p175 q175
                              cases e175
                              replace hx175_0 := (HB.out.cell (World.block_lt_of_cell? w _ hx175_0)).trans hx175_0
                              replace hx175_1 := (HB.out.cell (World.block_lt_of_cell? w _ hx175_1)).trans hx175_1
                              replace hx175_2 := (HB.out.cell (World.block_lt_of_cell? w _ hx175_2)).trans hx175_2
                              replace hx175_3 := (HB.out.cell (World.block_lt_of_cell? w _ hx175_3)).trans hx175_3
                              have HR175_2 := Aside0.mk hi175_2
                              have HC175_2 := Aside0.mk hl175_2
                              clear hi175_2 hl175_2
                              have HR175_3 := Aside0.mk hi175_3
                              have HC175_3 := Aside0.mk hl175_3
                              clear hi175_3 hl175_3
                              replace p175 := eq_true p175
                              replace q175 := eq_true q175
                              go_wp2
                              go_roundg k3
                              case measure => have := HJ5.out; have := HK2.out; have := HK3.out; omega
                              case rel => exact ⟨(true), ((rd_T29 l0 x13_3).f0), (by first | rfl | (simp; done) | (simp [*]; done)), (by first | rfl | (simp; done) | (simp [*]; done)), H', ⟨by have := HJ5.out; have := HK2.out; have := HK3.out; omega⟩, ⟨by (with_reducible repeat (first | apply Kd.V_alloc | apply Kd.V_drewN | apply Kd.V_drew)); exact HO_9.out⟩, ⟨by (with_reducible repeat (first | refine blk_drewN ?_ _ | refine blk_drew ?_ | refine blk_alloc ?_ _)); exact BK161.out⟩, ⟨by repeat (first | (with_reducible first | exact HB.out | apply below_alloc | apply pw_below_drewN | apply below_drew1 | refine below_set ?_ GE161.out) | exact HB.out)⟩⟩
                            · rw [if_neg c27] at H
                              exact absurd H (by simp)
                          · rw [if_neg c26] at H
                            exact absurd H (by simp)
                        · replace c25 := Bool.eq_false_iff.mpr c25
                          subst c25
                          have H1 : (if 0 ≤ x13_3 then (if x13_3 < (l0.length : Int) then (chancellaw03_RightsApart.l1 k3 l0 a2 t171 x55_2 (x13_3 == a1_1) ((rd_T29 l0 x13_3).f0) (l0.length : Int) x55_2 a1_0 a1_1 a1_2 a1_3 a1_4) else (none)) else (none)) = some r := by rw [if_neg (show ¬ (false = true) by decide)] at H; exact H
                          clear H
                          have H := H1
                          clear H1
                          by_cases c28 : 0 ≤ x13_3
                          · rw [if_pos c28] at H
                            have c28b0 : decide (0 ≤ x13_3) = true := decide_eq_true c28
                            clear c28
                            by_cases c29 : x13_3 < (l0.length : Int)
                            · rw [if_pos c29] at H
                              have c29b0 : decide (x13_3 < (l0.length : Int)) = true := decide_eq_true c29
                              clear c29
                              have H' := Aside0.mk H
                              clear H
                              have hcz30_0 : wr.cell? ⟨gb161, 0, none⟩ = some (.int .i64 a1_0) := (blk_cell BK161.out 0).trans rfl
                              have hcz30_1 : wr.cell? ⟨gb161, 1, none⟩ = some (.int .i64 a1_1) := (blk_cell BK161.out 1).trans rfl
                              have hcz30_2 : wr.cell? ⟨gb161, 2, none⟩ = some (.int .i64 a1_2) := (blk_cell BK161.out 2).trans rfl
                              have hcz30_3 : wr.cell? ⟨gb161, 3, none⟩ = some (.bool a1_3) := (blk_cell BK161.out 3).trans rfl
                              have hcz30_4 : wr.cell? ⟨gb161, 4, none⟩ = some (.bool a1_4) := (blk_cell BK161.out 4).trans rfl
                              have hfz30_0 := blk_frozen BK161.out 0
                              have hfz30_1 := blk_frozen BK161.out 1
                              have hfz30_2 := blk_frozen BK161.out 2
                              have hfz30_3 := blk_frozen BK161.out 3
                              have hfz30_4 := blk_frozen BK161.out 4
                              have p176 : 0 ≤ (x13_3 : Int) := of_decide_eq_true (by first | (with_reducible assumption) | assumption)
                              have q176 : x13_3 < (l0.length : Int) := of_decide_eq_true (by first | (with_reducible assumption) | assumption)
                              obtain ⟨ad176, A176_2, c176_2, A176_3, c176_3, e176, hx176_0, hx176_1, hx176_2, hx176_3, hl176_2, hi176_2, hl176_3, hi176_3⟩ := at_T29 HR0.out x13_3 p176 q176
                              cases e176
                              replace hx176_0 := (HB.out.cell (World.block_lt_of_cell? w _ hx176_0)).trans hx176_0
                              replace hx176_1 := (HB.out.cell (World.block_lt_of_cell? w _ hx176_1)).trans hx176_1
                              replace hx176_2 := (HB.out.cell (World.block_lt_of_cell? w _ hx176_2)).trans hx176_2
                              replace hx176_3 := (HB.out.cell (World.block_lt_of_cell? w _ hx176_3)).trans hx176_3
                              have HR176_2 := Aside0.mk hi176_2
                              have HC176_2 := Aside0.mk hl176_2
                              clear hi176_2 hl176_2
                              have HR176_3 := Aside0.mk hi176_3
                              have HC176_3 := Aside0.mk hl176_3
                              clear hi176_3 hl176_3
                              replace p176 := eq_true p176
                              replace q176 := eq_true q176
                              go_wp2
                              go_roundg k3
                              case measure => have := HJ5.out; have := HK2.out; have := HK3.out; omega
                              case rel => exact ⟨((x13_3 == a1_1)), ((rd_T29 l0 x13_3).f0), (by first | rfl | (simp; done) | (simp [*]; done)), (by first | rfl | (simp; done) | (simp [*]; done)), H', ⟨by have := HJ5.out; have := HK2.out; have := HK3.out; omega⟩, ⟨by (with_reducible repeat (first | apply Kd.V_alloc | apply Kd.V_drewN | apply Kd.V_drew)); exact HO_9.out⟩, ⟨by (with_reducible repeat (first | refine blk_drewN ?_ _ | refine blk_drew ?_ | refine blk_alloc ?_ _)); exact BK161.out⟩, ⟨by repeat (first | (with_reducible first | exact HB.out | apply below_alloc | apply pw_below_drewN | apply below_drew1 | refine below_set ?_ GE161.out) | exact HB.out)⟩⟩
                            · rw [if_neg c29] at H
                              exact absurd H (by simp)
                          · rw [if_neg c28] at H
                            exact absurd H (by simp)
                      · rw [if_neg c24] at H
                        have c24b0 : decide (0 ≤ x13_3) = false := decide_eq_false c24
                        clear c24
                        obtain ⟨y177, hy177⟩ : ∃ y_ : List Bool, y_ = (([false, true] : List Bool)) := ⟨_, rfl⟩
                        replace H : (chancellaw03_RightsApart.l2 k3 l0 a2 t171 x55_2 x12_3 (l0.length : Int) x55_2 y177 (y177.length : Int) 0 a1_0 a1_1 a1_2 a1_3 a1_4) = some r := by first | (rw [hy177]; with_reducible exact H) | (have H2_ := (Option.bind_some _ _).symm.trans H; rw [hy177]; with_reducible exact H2_) | (have H2_ := (Option.bind_some _ _).symm.trans H; with_reducible exact H2_) | with_reducible exact H | (rw [hy177]; exact H) | exact H
                        have Ny177 := Aside0.mk hy177
                        clear hy177
                        have H' := Aside0.mk H
                        clear H
                        go_wp2_with (first | ((with_reducible refine gate_dst (N := 73) rfl ?_); refine Kd.R_lit Kd.bool _ 4 ?hg (N := 73) ?hd (xs := ([false, true] : List Bool)) (inner := [.bool false, .bool true]) (ok := fun _ => True) (okp := fun _ => True) ?hr ?hp (fun _ hk => hk) trivial (Below.refl _ _) (Nat.le_refl _) (by simp) ?_; (case hd => rfl); (case hg => rfl); (case hr => first | (go_simp; done) | (go_simp; rfl)); (case hp => exact (Reps.one (show Kd.M Kd.bool _ _ _ false [.bool false] from rfl) (Reps.one (show Kd.M Kd.bool _ _ _ true [.bool true] from rfl) (Reps.none _ _)))); intro v178 w31 ho32 hb hg_ hnew_; clear hg_ hnew_; (first | rw [← Ny177.out] at ho32 | (simp only [Int.reduceToNat] at ho32; rw [← Ny177.out] at ho32)); have n0_ := Aside0.mk (Kd.V_elder' (by (with_reducible repeat (first | apply Kd.V_alloc | apply Kd.V_drewN | apply Kd.V_drew)); exact HO_9.out) (Kd.R_base ho32) hb); have n1_ := Aside0.mk (Kd.R_lower ho32 (below_size (by repeat (first | (with_reducible first | exact HB.out | apply below_alloc | apply pw_below_drewN | apply below_drew1 | refine below_set ?_ GE161.out) | exact HB.out)))); have n2_ := Aside0.mk (blk_below (g := gb161) (o := .cells #[.int .i64 a1_0, .int .i64 a1_1, .int .i64 a1_2, .bool a1_3, .bool a1_4] 33 (0, 0)) (by (with_reducible repeat (first | refine blk_drewN ?_ _ | refine blk_drew ?_ | refine blk_alloc ?_ _)); exact BK161.out) hb); have n3_ := Aside0.mk (below_step (by repeat (first | (with_reducible first | exact HB.out | apply below_alloc | apply pw_below_drewN | apply below_drew1 | refine below_set ?_ GE161.out) | exact HB.out)) hb); clear HO_9; clear BK161; clear HB; have HO_9 := n0_; have HO179 := n1_; have BK161 := n2_; have HB := n3_; clear n0_ n1_ n2_ n3_; clear hb ho32; obtain ⟨Ao33, co33, eo33⟩ := Kd.R_slice HO179.out; subst eo33))
                        go_loopg [75] k3 (fun kq v75 w' => ∃ (x75_4 : Int), v75 = .int .i64 x75_4 ∧ Aside0 (chancellaw03_RightsApart.l2 kq l0 a2 t171 x55_2 x12_3 (l0.length : Int) x55_2 y177 (y177.length : Int) x75_4 a1_0 a1_1 a1_2 a1_3 a1_4 = some r) ∧ Aside0 (kq ≤ k3) ∧ Aside0 (Kd.V k29 29 w' w.heap.size (fun k_ => some k_ ≠ ((.slice Ao33 y177.length co33) : Value).ownBlock ∧ k_ ≠ gb161) v172 t171) ∧ Aside0 (Kd.R Kd.bool 4 w' w.heap.size (fun _ => True) (.slice Ao33 y177.length co33) y177) ∧ Aside0 (w'.heap[gb161]? = some (.cells #[.int .i64 a1_0, .int .i64 a1_1, .int .i64 a1_2, .bool a1_3, .bool a1_4] 33 (0, 0))) ∧ Aside0 (Below w.heap.size w w'))
                        case atStart => exact ⟨(0), (by first | rfl | (simp; done) | (simp [*]; done)), H', ⟨Nat.le_refl _⟩, ⟨by (with_reducible repeat (first | apply Kd.V_alloc | apply Kd.V_drewN | apply Kd.V_drew)); exact Kd.V_mono HO_9.out (fun _ hk => ⟨hk.2, hk.1⟩)⟩, ⟨by (with_reducible repeat (first | apply Kd.R_alloc | apply Kd.R_drewN | apply Kd.R_drew)); exact HO179.out⟩, ⟨by (with_reducible repeat (first | refine blk_drewN ?_ _ | refine blk_drew ?_ | refine blk_alloc ?_ _)); exact BK161.out⟩, ⟨by repeat (first | (with_reducible first | exact HB.out | apply below_alloc | apply pw_below_drewN | apply below_drew1 | refine below_set ?_ GE161.out) | exact HB.out)⟩⟩
                        case round =>
                          clear H'
                          try clear c1
                          try clear p1
                          try clear q1
                          try clear hx1
                          try clear c2
                          try clear p2
                          try clear c6
                          try clear c10
                          try clear c11
                          try clear c11b0
                          try clear c11b1
                          try clear c12
                          try clear c15
                          try clear c16
                          try clear c17
                          try clear p17
                          try clear q17
                          try clear hx17
                          try clear c19
                          try clear c19b0
                          try clear c19b1
                          try clear c23
                          try clear c23b0
                          try clear c24
                          try clear c24b0
                          try clear c25
                          try clear c26
                          try clear c26b0
                          try clear c27
                          try clear c27b0
                          try clear c28
                          try clear c28b0
                          try clear c29
                          try clear c29b0
                          try clear hcz21_0
                          try clear hcz21_1
                          try clear hcz21_2
                          try clear hcz21_3
                          try clear hcz21_4
                          try clear hcz30_0
                          try clear hcz30_1
                          try clear hcz30_2
                          try clear hcz30_3
                          try clear hcz30_4
                          try clear hfz21_0
                          try clear hfz21_1
                          try clear hfz21_2
                          try clear hfz21_3
                          try clear hfz21_4
                          try clear hfz30_0
                          try clear hfz30_1
                          try clear hfz30_2
                          try clear hfz30_3
                          try clear hfz30_4
                          try clear hx175_0
                          try clear hx175_1
                          try clear hx175_2
                          try clear hx175_3
                          try clear hx176_0
                          try clear hx176_1
                          try clear hx176_2
                          try clear hx176_3
                          try clear p175
                          try clear p176
                          try clear p2
                          try clear q175
                          try clear q176
                          obtain ⟨x75_4, rfl, HA, HK4, HO_9, HO_73, BK161, HB⟩ := hrel
                          cases gk with
                          | zero => exact absurd HA.out (by simp [chancellaw03_RightsApart.l2])
                          | succ k4 =>
                            have H := HA.out
                            clear HA
                            simp only [chancellaw03_RightsApart.l2] at H
                            by_cases c34 : x75_4 < (y177.length : Int)
                            · rw [if_pos c34] at H
                              have c34b0 : decide (x75_4 < (y177.length : Int)) = true := decide_eq_true c34
                              clear c34
                              by_cases c35 : 0 ≤ x75_4
                              · rw [if_pos c35] at H
                                have c35b0 : decide (0 ≤ x75_4) = true := decide_eq_true c35
                                clear c35
                                by_cases c36 : x75_4 < (y177.length : Int)
                                · rw [if_pos c36] at H
                                  have c36b0 : decide (x75_4 < (y177.length : Int)) = true := decide_eq_true c36
                                  clear c36
                                  obtain ⟨y181, hy181⟩ : ∃ y_ : List Int, y_ = (([a2, a1_2] : List Int)) := ⟨_, rfl⟩
                                  replace H : (chancellaw03_RightsApart.l3 k4 l0 a2 t171 x55_2 x12_3 (rdOf false y177 x75_4) (l0.length : Int) x55_2 y177 (y177.length : Int) x75_4 y181 (y181.length : Int) 0 a1_0 a1_1 a1_2 a1_3 a1_4) = some r := by first | (rw [hy181]; with_reducible exact H) | (have H2_ := (Option.bind_some _ _).symm.trans H; rw [hy181]; with_reducible exact H2_) | (have H2_ := (Option.bind_some _ _).symm.trans H; with_reducible exact H2_) | with_reducible exact H | (rw [hy181]; exact H) | exact H
                                  have Ny181 := Aside0.mk hy181
                                  clear hy181
                                  have H' := Aside0.mk H
                                  clear H
                                  have p180 : 0 ≤ (x75_4 : Int) := of_decide_eq_true (by first | (with_reducible assumption) | assumption)
                                  have q180 : x75_4 < (y177.length : Int) := of_decide_eq_true (by first | (with_reducible assumption) | assumption)
                                  obtain ⟨ad180, e180, hx180_0⟩ := Kd.at_bool (Kd.R_reads' HO_73.out).2.2 x75_4 p180 q180
                                  cases e180
                                  replace p180 := eq_true p180
                                  replace q180 := eq_true q180
                                  have hcz37_0 : wr.cell? ⟨gb161, 0, none⟩ = some (.int .i64 a1_0) := (blk_cell BK161.out 0).trans rfl
                                  have hcz37_1 : wr.cell? ⟨gb161, 1, none⟩ = some (.int .i64 a1_1) := (blk_cell BK161.out 1).trans rfl
                                  have hcz37_2 : wr.cell? ⟨gb161, 2, none⟩ = some (.int .i64 a1_2) := (blk_cell BK161.out 2).trans rfl
                                  have hcz37_3 : wr.cell? ⟨gb161, 3, none⟩ = some (.bool a1_3) := (blk_cell BK161.out 3).trans rfl
                                  have hcz37_4 : wr.cell? ⟨gb161, 4, none⟩ = some (.bool a1_4) := (blk_cell BK161.out 4).trans rfl
                                  have hfz37_0 := blk_frozen BK161.out 0
                                  have hfz37_1 := blk_frozen BK161.out 1
                                  have hfz37_2 := blk_frozen BK161.out 2
                                  have hfz37_3 := blk_frozen BK161.out 3
                                  have hfz37_4 := blk_frozen BK161.out 4
                                  go_wp2_with (first | ((with_reducible refine gate_dst (N := 82) rfl ?_); refine Kd.R_lit (Kd.int .i64) _ 3 ?hg (N := 82) ?hd (xs := ([a2, a1_2] : List Int)) (inner := [.int .i64 a2, .int .i64 a1_2]) (ok := fun _ => True) (okp := fun _ => True) ?hr ?hp (fun _ hk => hk) trivial (Below.refl _ _) (Nat.le_refl _) (by simp) ?_; (case hd => rfl); (case hg => rfl); (case hr => first | (go_simp; done) | (go_simp; rfl)); (case hp => exact (Reps.one (show Kd.M (Kd.int .i64) _ _ _ a2 [.int .i64 a2] from rfl) (Reps.one (show Kd.M (Kd.int .i64) _ _ _ a1_2 [.int .i64 a1_2] from rfl) (Reps.none _ _)))); intro v182 w38 ho39 hb hg_ hnew_; clear hg_ hnew_; (first | rw [← Ny181.out] at ho39 | (simp only [Int.reduceToNat] at ho39; rw [← Ny181.out] at ho39)); have n0_ := Aside0.mk (Kd.V_elder' (by (with_reducible repeat (first | apply Kd.V_alloc | apply Kd.V_drewN | apply Kd.V_drew)); exact HO_9.out) (Kd.R_base ho39) hb); have n1_ := Aside0.mk (Kd.R_below (by (with_reducible repeat (first | apply Kd.R_alloc | apply Kd.R_drewN | apply Kd.R_drew)); exact HO_73.out) hb); have n2_ := Aside0.mk (Kd.R_lower ho39 (below_size (by repeat (first | (with_reducible first | exact HB.out | apply below_alloc | apply pw_below_drewN | apply below_drew1 | refine below_set ?_ GE161.out) | exact HB.out)))); have n3_ := Aside0.mk (blk_below (g := gb161) (o := .cells #[.int .i64 a1_0, .int .i64 a1_1, .int .i64 a1_2, .bool a1_3, .bool a1_4] 33 (0, 0)) (by (with_reducible repeat (first | refine blk_drewN ?_ _ | refine blk_drew ?_ | refine blk_alloc ?_ _)); exact BK161.out) hb); have n4_ := Aside0.mk (below_step (by repeat (first | (with_reducible first | exact HB.out | apply below_alloc | apply pw_below_drewN | apply below_drew1 | refine below_set ?_ GE161.out) | exact HB.out)) hb); clear HO_9; clear HO_73; clear BK161; clear HB; have HO_9 := n0_; have HO_73 := n1_; have HO183 := n2_; have BK161 := n3_; have HB := n4_; clear n0_ n1_ n2_ n3_ n4_; clear hb ho39; obtain ⟨Ao40, co40, eo40⟩ := Kd.R_slice HO183.out; subst eo40))
                                  go_loopg [84] k4 (fun kq v84 w' => ∃ (x84_5 : Int), v84 = .int .i64 x84_5 ∧ Aside0 (chancellaw03_RightsApart.l3 kq l0 a2 t171 x55_2 x12_3 (rdOf false y177 x75_4) (l0.length : Int) x55_2 y177 (y177.length : Int) x75_4 y181 (y181.length : Int) x84_5 a1_0 a1_1 a1_2 a1_3 a1_4 = some r) ∧ Aside0 (kq ≤ k4) ∧ Aside0 (Kd.V k29 29 w' w.heap.size (fun k_ => some k_ ≠ ((.slice (some ad180) y177.length co33) : Value).ownBlock ∧ some k_ ≠ ((.slice Ao40 y181.length co40) : Value).ownBlock ∧ k_ ≠ gb161) v172 t171) ∧ Aside0 (Kd.R Kd.bool 4 w' w.heap.size (fun _ => True) (.slice (some ad180) y177.length co33) y177) ∧ Aside0 (Kd.R (Kd.int .i64) 3 w' w.heap.size (fun _ => True) (.slice Ao40 y181.length co40) y181) ∧ Aside0 (w'.heap[gb161]? = some (.cells #[.int .i64 a1_0, .int .i64 a1_1, .int .i64 a1_2, .bool a1_3, .bool a1_4] 33 (0, 0))) ∧ Aside0 (Below w.heap.size w w'))
                                  case atStart => exact ⟨(0), (by first | rfl | (simp; done) | (simp [*]; done)), H', ⟨Nat.le_refl _⟩, ⟨by (with_reducible repeat (first | apply Kd.V_alloc | apply Kd.V_drewN | apply Kd.V_drew)); exact Kd.V_mono HO_9.out (fun _ hk => ⟨hk.1.1, ⟨hk.2, hk.1.2⟩⟩)⟩, ⟨by (with_reducible repeat (first | apply Kd.R_alloc | apply Kd.R_drewN | apply Kd.R_drew)); exact HO_73.out⟩, ⟨by (with_reducible repeat (first | apply Kd.R_alloc | apply Kd.R_drewN | apply Kd.R_drew)); exact HO183.out⟩, ⟨by (with_reducible repeat (first | refine blk_drewN ?_ _ | refine blk_drew ?_ | refine blk_alloc ?_ _)); exact BK161.out⟩, ⟨by repeat (first | (with_reducible first | exact HB.out | apply below_alloc | apply pw_below_drewN | apply below_drew1 | refine below_set ?_ GE161.out) | exact HB.out)⟩⟩
                                  case round =>
                                    clear H'
                                    try clear c1
                                    try clear p1
                                    try clear q1
                                    try clear hx1
                                    try clear c2
                                    try clear p2
                                    try clear c3
                                    try clear c6
                                    try clear c10
                                    try clear c11
                                    try clear c11b0
                                    try clear c11b1
                                    try clear c12
                                    try clear c15
                                    try clear c16
                                    try clear c17
                                    try clear p17
                                    try clear q17
                                    try clear hx17
                                    try clear p18
                                    try clear q18
                                    try clear hx18
                                    try clear c19
                                    try clear c19b0
                                    try clear c19b1
                                    try clear c23
                                    try clear c23b0
                                    try clear c24
                                    try clear c24b0
                                    try clear c25
                                    try clear c26
                                    try clear c26b0
                                    try clear c27
                                    try clear c27b0
                                    try clear c28
                                    try clear c28b0
                                    try clear c29
                                    try clear c29b0
                                    try clear c34
                                    try clear c34b0
                                    try clear c35
                                    try clear c35b0
                                    try clear c36
                                    try clear c36b0
                                    try clear hcz21_0
                                    try clear hcz21_1
                                    try clear hcz21_2
                                    try clear hcz21_3
                                    try clear hcz21_4
                                    try clear hcz30_0
                                    try clear hcz30_1
                                    try clear hcz30_2
                                    try clear hcz30_3
                                    try clear hcz30_4
                                    try clear hcz37_0
                                    try clear hcz37_1
                                    try clear hcz37_2
                                    try clear hcz37_3
                                    try clear hcz37_4
                                    try clear hfz21_0
                                    try clear hfz21_1
                                    try clear hfz21_2
                                    try clear hfz21_3
                                    try clear hfz21_4
                                    try clear hfz30_0
                                    try clear hfz30_1
                                    try clear hfz30_2
                                    try clear hfz30_3
                                    try clear hfz30_4
                                    try clear hfz37_0
                                    try clear hfz37_1
                                    try clear hfz37_2
                                    try clear hfz37_3
                                    try clear hfz37_4
                                    try clear hx175_0
                                    try clear hx175_1
                                    try clear hx175_2
                                    try clear hx175_3
                                    try clear hx176_0
                                    try clear hx176_1
                                    try clear hx176_2
                                    try clear hx176_3
                                    try clear hx180_0
                                    try clear p1
                                    try clear p17
                                    try clear p175
                                    try clear p176
                                    try clear p180
                                    try clear p2
                                    try clear q1
                                    try clear q17
                                    try clear q175
                                    try clear q176
                                    try clear q180
                                    obtain ⟨x84_5, rfl, HA, HK5, HO_9, HO_73, HO_82, BK161, HB⟩ := hrel
                                    cases gk with
                                    | zero => exact absurd HA.out (by simp [chancellaw03_RightsApart.l3])
                                    | succ k5 =>
                                      have H := HA.out
                                      clear HA
                                      simp only [chancellaw03_RightsApart.l3] at H
                                      by_cases c41 : x84_5 < (y181.length : Int)
                                      · rw [if_pos c41] at H
                                        have c41b0 : decide (x84_5 < (y181.length : Int)) = true := decide_eq_true c41
                                        clear c41
                                        by_cases c42 : 0 ≤ x84_5
                                        · rw [if_pos c42] at H
                                          have c42b0 : decide (0 ≤ x84_5) = true := decide_eq_true c42
                                          clear c42
                                          by_cases c43 : x84_5 < (y181.length : Int)
                                          · rw [if_pos c43] at H
                                            have c43b0 : decide (x84_5 < (y181.length : Int)) = true := decide_eq_true c43
                                            clear c43
                                            by_cases c44 : (rd y181 x84_5) = a1_2
                                            · rw [if_pos c44] at H
                                              have c44b0 : ((rd y181 x84_5) == a1_2) = true := beq_iff_eq.mpr c44
                                              have c44b1 : ((rd y181 x84_5) != a1_2) = false := bne_eq_false_iff_eq.mpr c44
                                              clear c44
                                              by_cases c45 : ((rdOf false y177 x75_4) != a1_3) = true
                                              · rw [if_pos c45] at H
                                                have c45b0 : ((rdOf false y177 x75_4) != a1_3) = true := c45
                                                (try (have c45b1 : decide ((rdOf false y177 x75_4) = a1_3) = false := by simpa using c45))
                                                (try (have c45b2 : ((rdOf false y177 x75_4) == a1_3) = false := by simpa using c45))
                                                (try (have c45b3 : ¬ ((rdOf false y177 x75_4) = a1_3) := by simpa using c45))
                                                clear c45
                                                replace H := Option.bind_eq_some_iff.mp H
                                                obtain ⟨t185, A460, H⟩ := H
                                                replace H : ((rights_May.f l0 (rd y181 x84_5) x55_2 (rdOf false y177 x75_4)).bind fun t186 => (if (t185 != t186) = true then (some false) else (chancellaw03_RightsApart.l3 k5 l0 a2 t171 x55_2 x12_3 (rdOf false y177 x75_4) (l0.length : Int) x55_2 y177 (y177.length : Int) x75_4 y181 (y181.length : Int) (wrap64 (x84_5 + 1)) a1_0 a1_1 a1_2 a1_3 a1_4))) = some r := H
                                                have A46 := Aside0.mk A460
                                                clear A460
                                                replace H := Option.bind_eq_some_iff.mp H
                                                obtain ⟨t186, A470, H⟩ := H
                                                replace H : (if (t185 != t186) = true then (some false) else (chancellaw03_RightsApart.l3 k5 l0 a2 t171 x55_2 x12_3 (rdOf false y177 x75_4) (l0.length : Int) x55_2 y177 (y177.length : Int) x75_4 y181 (y181.length : Int) (wrap64 (x84_5 + 1)) a1_0 a1_1 a1_2 a1_3 a1_4)) = some r := H
                                                have A47 := Aside0.mk A470
                                                clear A470
                                                by_cases c48 : (t185 != t186) = true
                                                · rw [if_pos c48] at H
                                                  have c48b0 : (t185 != t186) = true := c48
                                                  (try (have c48b1 : decide (t185 = t186) = false := by simpa using c48))
                                                  (try (have c48b2 : (t185 == t186) = false := by simpa using c48))
                                                  (try (have c48b3 : ¬ (t185 = t186) := by simpa using c48))
                                                  clear c48
                                                  obtain rfl := Option.some.inj H
                                                  have p184 : 0 ≤ (x84_5 : Int) := of_decide_eq_true (by first | (with_reducible assumption) | assumption)
                                                  have q184 : x84_5 < (y181.length : Int) := of_decide_eq_true (by first | (with_reducible assumption) | assumption)
                                                  obtain ⟨ad184, e184, hx184_0⟩ := Kd.at_int (Kd.R_reads' HO_82.out).2.2 x84_5 p184 q184
                                                  cases e184
                                                  replace p184 := eq_true p184
                                                  replace q184 := eq_true q184
                                                  have hcz49_0 : wr.cell? ⟨gb161, 0, none⟩ = some (.int .i64 a1_0) := (blk_cell BK161.out 0).trans rfl
                                                  have hcz49_1 : wr.cell? ⟨gb161, 1, none⟩ = some (.int .i64 a1_1) := (blk_cell BK161.out 1).trans rfl
                                                  have hcz49_2 : wr.cell? ⟨gb161, 2, none⟩ = some (.int .i64 a1_2) := (blk_cell BK161.out 2).trans rfl
                                                  have hcz49_3 : wr.cell? ⟨gb161, 3, none⟩ = some (.bool a1_3) := (blk_cell BK161.out 3).trans rfl
                                                  have hcz49_4 : wr.cell? ⟨gb161, 4, none⟩ = some (.bool a1_4) := (blk_cell BK161.out 4).trans rfl
                                                  have hfz49_0 := blk_frozen BK161.out 0
                                                  have hfz49_1 := blk_frozen BK161.out 1
                                                  have hfz49_2 := blk_frozen BK161.out 2
                                                  have hfz49_3 := blk_frozen BK161.out 3
                                                  have hfz49_4 := blk_frozen BK161.out 4
                                                  obtain ⟨Ao50, co50, eo50⟩ := Kd.V_slice HO_9.out
                                                  subst eo50
                                                  go_wp2_with (first | (go_at_call 13; (with_reducible refine (rights_May.calls _ _ t171 (rd y181 x84_5) x55_2 (rdOf false y177 x75_4) t185 _ ?side1 ?side2 A46.out).mono ?_); (case side1 => repeat (first | exact (Kd.V_reads' HO_9.out).2.2 | (with_reducible refine Kd.C_alloc ?_ _) | (with_reducible refine Kd.C_drewN ?_ _) | (with_reducible refine Kd.C_drew ?_))); (case side2 => exact (Kd.V_reads' HO_9.out).2.1); rintro e w51 ⟨rfl, hb⟩; have n0_ := Aside0.mk (Kd.V_below (by (with_reducible repeat (first | apply Kd.V_alloc | apply Kd.V_drewN | apply Kd.V_drew)); exact HO_9.out) hb); have n1_ := Aside0.mk (Kd.R_below (by (with_reducible repeat (first | apply Kd.R_alloc | apply Kd.R_drewN | apply Kd.R_drew)); exact HO_73.out) hb); have n2_ := Aside0.mk (Kd.R_below (by (with_reducible repeat (first | apply Kd.R_alloc | apply Kd.R_drewN | apply Kd.R_drew)); exact HO_82.out) hb); have n3_ := Aside0.mk (blk_below (g := gb161) (o := .cells #[.int .i64 a1_0, .int .i64 a1_1, .int .i64 a1_2, .bool a1_3, .bool a1_4] 33 (0, 0)) (by (with_reducible repeat (first | refine blk_drewN ?_ _ | refine blk_drew ?_ | refine blk_alloc ?_ _)); exact BK161.out) hb); have n4_ := Aside0.mk (below_step (by repeat (first | (with_reducible first | exact HB.out | apply below_alloc | apply pw_below_drewN | apply below_drew1 | refine below_set ?_ GE161.out) | exact HB.out)) hb); clear HO_9; clear HO_73; clear HO_82; clear BK161; clear HB; have HO_9 := n0_; have HO_73 := n1_; have HO_82 := n2_; have BK161 := n3_; have HB := n4_; clear n0_ n1_ n2_ n3_ n4_; (try clear hb); (try clear hb2); (try clear hk); (try clear hi)) | (go_at_call 13; (with_reducible refine (rights_May.calls _ _ l0 (rd y181 x84_5) x55_2 (rdOf false y177 x75_4) t186 _ ?side1 ?side2 A47.out).mono ?_); (case side1 => repeat (first | exact (Kd.C_below HR0.out HB.out) | (with_reducible refine Kd.C_alloc ?_ _) | (with_reducible refine Kd.C_drewN ?_ _) | (with_reducible refine Kd.C_drew ?_))); (case side2 => exact HC0.out); rintro e w52 ⟨rfl, hb⟩; have n0_ := Aside0.mk (Kd.V_below (by (with_reducible repeat (first | apply Kd.V_alloc | apply Kd.V_drewN | apply Kd.V_drew)); exact HO_9.out) hb); have n1_ := Aside0.mk (Kd.R_below (by (with_reducible repeat (first | apply Kd.R_alloc | apply Kd.R_drewN | apply Kd.R_drew)); exact HO_73.out) hb); have n2_ := Aside0.mk (Kd.R_below (by (with_reducible repeat (first | apply Kd.R_alloc | apply Kd.R_drewN | apply Kd.R_drew)); exact HO_82.out) hb); have n3_ := Aside0.mk (blk_below (g := gb161) (o := .cells #[.int .i64 a1_0, .int .i64 a1_1, .int .i64 a1_2, .bool a1_3, .bool a1_4] 33 (0, 0)) (by (with_reducible repeat (first | refine blk_drewN ?_ _ | refine blk_drew ?_ | refine blk_alloc ?_ _)); exact BK161.out) hb); have n4_ := Aside0.mk (below_step (by repeat (first | (with_reducible first | exact HB.out | apply below_alloc | apply pw_below_drewN | apply below_drew1 | refine below_set ?_ GE161.out) | exact HB.out)) hb); clear HO_9; clear HO_73; clear HO_82; clear BK161; clear HB; have HO_9 := n0_; have HO_73 := n1_; have HO_82 := n2_; have BK161 := n3_; have HB := n4_; clear n0_ n1_ n2_ n3_ n4_; (try clear hb); (try clear hb2); (try clear hk); (try clear hi)))
                                                  go_ret
                                                  exact ⟨by first | rfl | (simp [errW_none, errW_some] <;> rfl) | (simp [*, errW_none, errW_some] <;> rfl), by repeat (first | (with_reducible first | exact HB.out | apply below_alloc | apply pw_below_drewN | apply below_drew1 | refine below_set ?_ GE161.out) | exact HB.out)⟩
                                                · rw [if_neg c48] at H
                                                  have c48b0 : (t185 != t186) = false := by simpa using c48
                                                  (try (have c48b1 : decide (t185 = t186) = true := by simpa using c48))
                                                  (try (have c48b2 : (t185 == t186) = true := by simpa using c48))
                                                  clear c48
                                                  have H' := Aside0.mk H
                                                  clear H
                                                  have p184 : 0 ≤ (x84_5 : Int) := of_decide_eq_true (by first | (with_reducible assumption) | assumption)
                                                  have q184 : x84_5 < (y181.length : Int) := of_decide_eq_true (by first | (with_reducible assumption) | assumption)
                                                  obtain ⟨ad184, e184, hx184_0⟩ := Kd.at_int (Kd.R_reads' HO_82.out).2.2 x84_5 p184 q184
                                                  cases e184
                                                  replace p184 := eq_true p184
                                                  replace q184 := eq_true q184
                                                  have hcz53_0 : wr.cell? ⟨gb161, 0, none⟩ = some (.int .i64 a1_0) := (blk_cell BK161.out 0).trans rfl
                                                  have hcz53_1 : wr.cell? ⟨gb161, 1, none⟩ = some (.int .i64 a1_1) := (blk_cell BK161.out 1).trans rfl
                                                  have hcz53_2 : wr.cell? ⟨gb161, 2, none⟩ = some (.int .i64 a1_2) := (blk_cell BK161.out 2).trans rfl
                                                  have hcz53_3 : wr.cell? ⟨gb161, 3, none⟩ = some (.bool a1_3) := (blk_cell BK161.out 3).trans rfl
                                                  have hcz53_4 : wr.cell? ⟨gb161, 4, none⟩ = some (.bool a1_4) := (blk_cell BK161.out 4).trans rfl
                                                  have hfz53_0 := blk_frozen BK161.out 0
                                                  have hfz53_1 := blk_frozen BK161.out 1
                                                  have hfz53_2 := blk_frozen BK161.out 2
                                                  have hfz53_3 := blk_frozen BK161.out 3
                                                  have hfz53_4 := blk_frozen BK161.out 4
                                                  obtain ⟨Ao54, co54, eo54⟩ := Kd.V_slice HO_9.out
                                                  subst eo54
                                                  go_wp2_with (first | (go_at_call 13; (with_reducible refine (rights_May.calls _ _ t171 (rd y181 x84_5) x55_2 (rdOf false y177 x75_4) t185 _ ?side1 ?side2 A46.out).mono ?_); (case side1 => repeat (first | exact (Kd.V_reads' HO_9.out).2.2 | (with_reducible refine Kd.C_alloc ?_ _) | (with_reducible refine Kd.C_drewN ?_ _) | (with_reducible refine Kd.C_drew ?_))); (case side2 => exact (Kd.V_reads' HO_9.out).2.1); rintro e w55 ⟨rfl, hb⟩; have n0_ := Aside0.mk (Kd.V_below (by (with_reducible repeat (first | apply Kd.V_alloc | apply Kd.V_drewN | apply Kd.V_drew)); exact HO_9.out) hb); have n1_ := Aside0.mk (Kd.R_below (by (with_reducible repeat (first | apply Kd.R_alloc | apply Kd.R_drewN | apply Kd.R_drew)); exact HO_73.out) hb); have n2_ := Aside0.mk (Kd.R_below (by (with_reducible repeat (first | apply Kd.R_alloc | apply Kd.R_drewN | apply Kd.R_drew)); exact HO_82.out) hb); have n3_ := Aside0.mk (blk_below (g := gb161) (o := .cells #[.int .i64 a1_0, .int .i64 a1_1, .int .i64 a1_2, .bool a1_3, .bool a1_4] 33 (0, 0)) (by (with_reducible repeat (first | refine blk_drewN ?_ _ | refine blk_drew ?_ | refine blk_alloc ?_ _)); exact BK161.out) hb); have n4_ := Aside0.mk (below_step (by repeat (first | (with_reducible first | exact HB.out | apply below_alloc | apply pw_below_drewN | apply below_drew1 | refine below_set ?_ GE161.out) | exact HB.out)) hb); clear HO_9; clear HO_73; clear HO_82; clear BK161; clear HB; have HO_9 := n0_; have HO_73 := n1_; have HO_82 := n2_; have BK161 := n3_; have HB := n4_; clear n0_ n1_ n2_ n3_ n4_; (try clear hb); (try clear hb2); (try clear hk); (try clear hi)) | (go_at_call 13; (with_reducible refine (rights_May.calls _ _ l0 (rd y181 x84_5) x55_2 (rdOf false y177 x75_4) t186 _ ?side1 ?side2 A47.out).mono ?_); (case side1 => repeat (first | exact (Kd.C_below HR0.out HB.out) | (with_reducible refine Kd.C_alloc ?_ _) | (with_reducible refine Kd.C_drewN ?_ _) | (with_reducible refine Kd.C_drew ?_))); (case side2 => exact HC0.out); rintro e w56 ⟨rfl, hb⟩; have n0_ := Aside0.mk (Kd.V_below (by (with_reducible repeat (first | apply Kd.V_alloc | apply Kd.V_drewN | apply Kd.V_drew)); exact HO_9.out) hb); have n1_ := Aside0.mk (Kd.R_below (by (with_reducible repeat (first | apply Kd.R_alloc | apply Kd.R_drewN | apply Kd.R_drew)); exact HO_73.out) hb); have n2_ := Aside0.mk (Kd.R_below (by (with_reducible repeat (first | apply Kd.R_alloc | apply Kd.R_drewN | apply Kd.R_drew)); exact HO_82.out) hb); have n3_ := Aside0.mk (blk_below (g := gb161) (o := .cells #[.int .i64 a1_0, .int .i64 a1_1, .int .i64 a1_2, .bool a1_3, .bool a1_4] 33 (0, 0)) (by (with_reducible repeat (first | refine blk_drewN ?_ _ | refine blk_drew ?_ | refine blk_alloc ?_ _)); exact BK161.out) hb); have n4_ := Aside0.mk (below_step (by repeat (first | (with_reducible first | exact HB.out | apply below_alloc | apply pw_below_drewN | apply below_drew1 | refine below_set ?_ GE161.out) | exact HB.out)) hb); clear HO_9; clear HO_73; clear HO_82; clear BK161; clear HB; have HO_9 := n0_; have HO_73 := n1_; have HO_82 := n2_; have BK161 := n3_; have HB := n4_; clear n0_ n1_ n2_ n3_ n4_; (try clear hb); (try clear hb2); (try clear hk); (try clear hi)))
                                                  go_roundg k5
                                                  case measure => have := HJ5.out; have := HK2.out; have := HK3.out; have := HK4.out; have := HK5.out; omega
                                                  case rel => exact ⟨(wrap64 (x84_5 + 1)), (by first | rfl | (simp; done) | (simp [*]; done)), H', ⟨by have := HJ5.out; have := HK2.out; have := HK3.out; have := HK4.out; have := HK5.out; omega⟩, ⟨by (with_reducible repeat (first | apply Kd.V_alloc | apply Kd.V_drewN | apply Kd.V_drew)); exact HO_9.out⟩, ⟨by (with_reducible repeat (first | apply Kd.R_alloc | apply Kd.R_drewN | apply Kd.R_drew)); exact HO_73.out⟩, ⟨by (with_reducible repeat (first | apply Kd.R_alloc | apply Kd.R_drewN | apply Kd.R_drew)); exact HO_82.out⟩, ⟨by (with_reducible repeat (first | refine blk_drewN ?_ _ | refine blk_drew ?_ | refine blk_alloc ?_ _)); exact BK161.out⟩, ⟨by repeat (first | (with_reducible first | exact HB.out | apply below_alloc | apply pw_below_drewN | apply below_drew1 | refine below_set ?_ GE161.out) | exact HB.out)⟩⟩
                                              · rw [if_neg c45] at H
                                                have c45b0 : ((rdOf false y177 x75_4) != a1_3) = false := by simpa using c45
                                                (try (have c45b1 : decide ((rdOf false y177 x75_4) = a1_3) = true := by simpa using c45))
                                                (try (have c45b2 : ((rdOf false y177 x75_4) == a1_3) = true := by simpa using c45))
                                                clear c45
                                                by_cases c57 : x12_3 = true
                                                · subst c57
                                                  have H1 : (chancellaw03_RightsApart.l3 k5 l0 a2 t171 x55_2 true (rdOf false y177 x75_4) (l0.length : Int) x55_2 y177 (y177.length : Int) x75_4 y181 (y181.length : Int) (wrap64 (x84_5 + 1)) a1_0 a1_1 a1_2 a1_3 a1_4) = some r := by rw [if_pos rfl] at H; exact H
                                                  clear H
                                                  have H := H1
                                                  clear H1
                                                  have H' := Aside0.mk H
                                                  clear H
                                                  have p184 : 0 ≤ (x84_5 : Int) := of_decide_eq_true (by first | (with_reducible assumption) | assumption)
                                                  have q184 : x84_5 < (y181.length : Int) := of_decide_eq_true (by first | (with_reducible assumption) | assumption)
                                                  obtain ⟨ad184, e184, hx184_0⟩ := Kd.at_int (Kd.R_reads' HO_82.out).2.2 x84_5 p184 q184
                                                  cases e184
                                                  replace p184 := eq_true p184
                                                  replace q184 := eq_true q184
                                                  have hcz58_0 : wr.cell? ⟨gb161, 0, none⟩ = some (.int .i64 a1_0) := (blk_cell BK161.out 0).trans rfl
                                                  have hcz58_1 : wr.cell? ⟨gb161, 1, none⟩ = some (.int .i64 a1_1) := (blk_cell BK161.out 1).trans rfl
                                                  have hcz58_2 : wr.cell? ⟨gb161, 2, none⟩ = some (.int .i64 a1_2) := (blk_cell BK161.out 2).trans rfl
                                                  have hcz58_3 : wr.cell? ⟨gb161, 3, none⟩ = some (.bool a1_3) := (blk_cell BK161.out 3).trans rfl
                                                  have hcz58_4 : wr.cell? ⟨gb161, 4, none⟩ = some (.bool a1_4) := (blk_cell BK161.out 4).trans rfl
                                                  have hfz58_0 := blk_frozen BK161.out 0
                                                  have hfz58_1 := blk_frozen BK161.out 1
                                                  have hfz58_2 := blk_frozen BK161.out 2
                                                  have hfz58_3 := blk_frozen BK161.out 3
                                                  have hfz58_4 := blk_frozen BK161.out 4
                                                  go_wp2
                                                  go_roundg k5
                                                  case measure => have := HJ5.out; have := HK2.out; have := HK3.out; have := HK4.out; have := HK5.out; omega
                                                  case rel => exact ⟨(wrap64 (x84_5 + 1)), (by first | rfl | (simp; done) | (simp [*]; done)), H', ⟨by have := HJ5.out; have := HK2.out; have := HK3.out; have := HK4.out; have := HK5.out; omega⟩, ⟨by (with_reducible repeat (first | apply Kd.V_alloc | apply Kd.V_drewN | apply Kd.V_drew)); exact HO_9.out⟩, ⟨by (with_reducible repeat (first | apply Kd.R_alloc | apply Kd.R_drewN | apply Kd.R_drew)); exact HO_73.out⟩, ⟨by (with_reducible repeat (first | apply Kd.R_alloc | apply Kd.R_drewN | apply Kd.R_drew)); exact HO_82.out⟩, ⟨by (with_reducible repeat (first | refine blk_drewN ?_ _ | refine blk_drew ?_ | refine blk_alloc ?_ _)); exact BK161.out⟩, ⟨by repeat (first | (with_reducible first | exact HB.out | apply below_alloc | apply pw_below_drewN | apply below_drew1 | refine below_set ?_ GE161.out) | exact HB.out)⟩⟩
                                                · replace c57 := Bool.eq_false_iff.mpr c57
                                                  subst c57
                                                  have H1 : ((rights_May.f t171 (rd y181 x84_5) x55_2 (rdOf false y177 x75_4)).bind fun t187 => ((rights_May.f l0 (rd y181 x84_5) x55_2 (rdOf false y177 x75_4)).bind fun t188 => (if (t187 != t188) = true then (some false) else (chancellaw03_RightsApart.l3 k5 l0 a2 t171 x55_2 false (rdOf false y177 x75_4) (l0.length : Int) x55_2 y177 (y177.length : Int) x75_4 y181 (y181.length : Int) (wrap64 (x84_5 + 1)) a1_0 a1_1 a1_2 a1_3 a1_4)))) = some r := by rw [if_neg (show ¬ (false = true) by decide)] at H; exact H
                                                  clear H
                                                  have H := H1
                                                  clear H1
                                                  replace H := Option.bind_eq_some_iff.mp H
                                                  obtain ⟨t187, A590, H⟩ := H
                                                  replace H : ((rights_May.f l0 (rd y181 x84_5) x55_2 (rdOf false y177 x75_4)).bind fun t188 => (if (t187 != t188) = true then (some false) else (chancellaw03_RightsApart.l3 k5 l0 a2 t171 x55_2 false (rdOf false y177 x75_4) (l0.length : Int) x55_2 y177 (y177.length : Int) x75_4 y181 (y181.length : Int) (wrap64 (x84_5 + 1)) a1_0 a1_1 a1_2 a1_3 a1_4))) = some r := H
                                                  have A59 := Aside0.mk A590
                                                  clear A590
                                                  replace H := Option.bind_eq_some_iff.mp H
                                                  obtain ⟨t188, A600, H⟩ := H
                                                  replace H : (if (t187 != t188) = true then (some false) else (chancellaw03_RightsApart.l3 k5 l0 a2 t171 x55_2 false (rdOf false y177 x75_4) (l0.length : Int) x55_2 y177 (y177.length : Int) x75_4 y181 (y181.length : Int) (wrap64 (x84_5 + 1)) a1_0 a1_1 a1_2 a1_3 a1_4)) = some r := H
                                                  have A60 := Aside0.mk A600
                                                  clear A600
                                                  by_cases c61 : (t187 != t188) = true
                                                  · rw [if_pos c61] at H
                                                    have c61b0 : (t187 != t188) = true := c61
                                                    (try (have c61b1 : decide (t187 = t188) = false := by simpa using c61))
                                                    (try (have c61b2 : (t187 == t188) = false := by simpa using c61))
                                                    (try (have c61b3 : ¬ (t187 = t188) := by simpa using c61))
                                                    clear c61
                                                    obtain rfl := Option.some.inj H
                                                    have p184 : 0 ≤ (x84_5 : Int) := of_decide_eq_true (by first | (with_reducible assumption) | assumption)
                                                    have q184 : x84_5 < (y181.length : Int) := of_decide_eq_true (by first | (with_reducible assumption) | assumption)
                                                    obtain ⟨ad184, e184, hx184_0⟩ := Kd.at_int (Kd.R_reads' HO_82.out).2.2 x84_5 p184 q184
                                                    cases e184
                                                    replace p184 := eq_true p184
                                                    replace q184 := eq_true q184
                                                    have hcz62_0 : wr.cell? ⟨gb161, 0, none⟩ = some (.int .i64 a1_0) := (blk_cell BK161.out 0).trans rfl
                                                    have hcz62_1 : wr.cell? ⟨gb161, 1, none⟩ = some (.int .i64 a1_1) := (blk_cell BK161.out 1).trans rfl
                                                    have hcz62_2 : wr.cell? ⟨gb161, 2, none⟩ = some (.int .i64 a1_2) := (blk_cell BK161.out 2).trans rfl
                                                    have hcz62_3 : wr.cell? ⟨gb161, 3, none⟩ = some (.bool a1_3) := (blk_cell BK161.out 3).trans rfl
                                                    have hcz62_4 : wr.cell? ⟨gb161, 4, none⟩ = some (.bool a1_4) := (blk_cell BK161.out 4).trans rfl
                                                    have hfz62_0 := blk_frozen BK161.out 0
                                                    have hfz62_1 := blk_frozen BK161.out 1
                                                    have hfz62_2 := blk_frozen BK161.out 2
                                                    have hfz62_3 := blk_frozen BK161.out 3
                                                    have hfz62_4 := blk_frozen BK161.out 4
                                                    obtain ⟨Ao63, co63, eo63⟩ := Kd.V_slice HO_9.out
                                                    subst eo63
                                                    go_wp2_with (first | (go_at_call 13; (with_reducible refine (rights_May.calls _ _ t171 (rd y181 x84_5) x55_2 (rdOf false y177 x75_4) t187 _ ?side1 ?side2 A59.out).mono ?_); (case side1 => repeat (first | exact (Kd.V_reads' HO_9.out).2.2 | (with_reducible refine Kd.C_alloc ?_ _) | (with_reducible refine Kd.C_drewN ?_ _) | (with_reducible refine Kd.C_drew ?_))); (case side2 => exact (Kd.V_reads' HO_9.out).2.1); rintro e w64 ⟨rfl, hb⟩; have n0_ := Aside0.mk (Kd.V_below (by (with_reducible repeat (first | apply Kd.V_alloc | apply Kd.V_drewN | apply Kd.V_drew)); exact HO_9.out) hb); have n1_ := Aside0.mk (Kd.R_below (by (with_reducible repeat (first | apply Kd.R_alloc | apply Kd.R_drewN | apply Kd.R_drew)); exact HO_73.out) hb); have n2_ := Aside0.mk (Kd.R_below (by (with_reducible repeat (first | apply Kd.R_alloc | apply Kd.R_drewN | apply Kd.R_drew)); exact HO_82.out) hb); have n3_ := Aside0.mk (blk_below (g := gb161) (o := .cells #[.int .i64 a1_0, .int .i64 a1_1, .int .i64 a1_2, .bool a1_3, .bool a1_4] 33 (0, 0)) (by (with_reducible repeat (first | refine blk_drewN ?_ _ | refine blk_drew ?_ | refine blk_alloc ?_ _)); exact BK161.out) hb); have n4_ := Aside0.mk (below_step (by repeat (first | (with_reducible first | exact HB.out | apply below_alloc | apply pw_below_drewN | apply below_drew1 | refine below_set ?_ GE161.out) | exact HB.out)) hb); clear HO_9; clear HO_73; clear HO_82; clear BK161; clear HB; have HO_9 := n0_; have HO_73 := n1_; have HO_82 := n2_; have BK161 := n3_; have HB := n4_; clear n0_ n1_ n2_ n3_ n4_; (try clear hb); (try clear hb2); (try clear hk); (try clear hi)) | (go_at_call 13; (with_reducible refine (rights_May.calls _ _ l0 (rd y181 x84_5) x55_2 (rdOf false y177 x75_4) t188 _ ?side1 ?side2 A60.out).mono ?_); (case side1 => repeat (first | exact (Kd.C_below HR0.out HB.out) | (with_reducible refine Kd.C_alloc ?_ _) | (with_reducible refine Kd.C_drewN ?_ _) | (with_reducible refine Kd.C_drew ?_))); (case side2 => exact HC0.out); rintro e w65 ⟨rfl, hb⟩; have n0_ := Aside0.mk (Kd.V_below (by (with_reducible repeat (first | apply Kd.V_alloc | apply Kd.V_drewN | apply Kd.V_drew)); exact HO_9.out) hb); have n1_ := Aside0.mk (Kd.R_below (by (with_reducible repeat (first | apply Kd.R_alloc | apply Kd.R_drewN | apply Kd.R_drew)); exact HO_73.out) hb); have n2_ := Aside0.mk (Kd.R_below (by (with_reducible repeat (first | apply Kd.R_alloc | apply Kd.R_drewN | apply Kd.R_drew)); exact HO_82.out) hb); have n3_ := Aside0.mk (blk_below (g := gb161) (o := .cells #[.int .i64 a1_0, .int .i64 a1_1, .int .i64 a1_2, .bool a1_3, .bool a1_4] 33 (0, 0)) (by (with_reducible repeat (first | refine blk_drewN ?_ _ | refine blk_drew ?_ | refine blk_alloc ?_ _)); exact BK161.out) hb); have n4_ := Aside0.mk (below_step (by repeat (first | (with_reducible first | exact HB.out | apply below_alloc | apply pw_below_drewN | apply below_drew1 | refine below_set ?_ GE161.out) | exact HB.out)) hb); clear HO_9; clear HO_73; clear HO_82; clear BK161; clear HB; have HO_9 := n0_; have HO_73 := n1_; have HO_82 := n2_; have BK161 := n3_; have HB := n4_; clear n0_ n1_ n2_ n3_ n4_; (try clear hb); (try clear hb2); (try clear hk); (try clear hi)))
                                                    go_ret
                                                    exact ⟨by first | rfl | (simp [errW_none, errW_some] <;> rfl) | (simp [*, errW_none, errW_some] <;> rfl), by repeat (first | (with_reducible first | exact HB.out | apply below_alloc | apply pw_below_drewN | apply below_drew1 | refine below_set ?_ GE161.out) | exact HB.out)⟩
                                                  · rw [if_neg c61] at H
                                                    have c61b0 : (t187 != t188) = false := by simpa using c61
                                                    (try (have c61b1 : decide (t187 = t188) = true := by simpa using c61))
                                                    (try (have c61b2 : (t187 == t188) = true := by simpa using c61))
                                                    clear c61
                                                    have H' := Aside0.mk H
                                                    clear H
                                                    have p184 : 0 ≤ (x84_5 : Int) := of_decide_eq_true (by first | (with_reducible assumption) | assumption)
                                                    have q184 : x84_5 < (y181.length : Int) := of_decide_eq_true (by first | (with_reducible assumption) | assumption)
                                                    obtain ⟨ad184, e184, hx184_0⟩ := Kd.at_int (Kd.R_reads' HO_82.out).2.2 x84_5 p184 q184
                                                    cases e184
                                                    replace p184 := eq_true p184
                                                    replace q184 := eq_true q184
                                                    have hcz66_0 : wr.cell? ⟨gb161, 0, none⟩ = some (.int .i64 a1_0) := (blk_cell BK161.out 0).trans rfl
                                                    have hcz66_1 : wr.cell? ⟨gb161, 1, none⟩ = some (.int .i64 a1_1) := (blk_cell BK161.out 1).trans rfl
                                                    have hcz66_2 : wr.cell? ⟨gb161, 2, none⟩ = some (.int .i64 a1_2) := (blk_cell BK161.out 2).trans rfl
                                                    have hcz66_3 : wr.cell? ⟨gb161, 3, none⟩ = some (.bool a1_3) := (blk_cell BK161.out 3).trans rfl
                                                    have hcz66_4 : wr.cell? ⟨gb161, 4, none⟩ = some (.bool a1_4) := (blk_cell BK161.out 4).trans rfl
                                                    have hfz66_0 := blk_frozen BK161.out 0
                                                    have hfz66_1 := blk_frozen BK161.out 1
                                                    have hfz66_2 := blk_frozen BK161.out 2
                                                    have hfz66_3 := blk_frozen BK161.out 3
                                                    have hfz66_4 := blk_frozen BK161.out 4
                                                    obtain ⟨Ao67, co67, eo67⟩ := Kd.V_slice HO_9.out
                                                    subst eo67
                                                    go_wp2_with (first | (go_at_call 13; (with_reducible refine (rights_May.calls _ _ t171 (rd y181 x84_5) x55_2 (rdOf false y177 x75_4) t187 _ ?side1 ?side2 A59.out).mono ?_); (case side1 => repeat (first | exact (Kd.V_reads' HO_9.out).2.2 | (with_reducible refine Kd.C_alloc ?_ _) | (with_reducible refine Kd.C_drewN ?_ _) | (with_reducible refine Kd.C_drew ?_))); (case side2 => exact (Kd.V_reads' HO_9.out).2.1); rintro e w68 ⟨rfl, hb⟩; have n0_ := Aside0.mk (Kd.V_below (by (with_reducible repeat (first | apply Kd.V_alloc | apply Kd.V_drewN | apply Kd.V_drew)); exact HO_9.out) hb); have n1_ := Aside0.mk (Kd.R_below (by (with_reducible repeat (first | apply Kd.R_alloc | apply Kd.R_drewN | apply Kd.R_drew)); exact HO_73.out) hb); have n2_ := Aside0.mk (Kd.R_below (by (with_reducible repeat (first | apply Kd.R_alloc | apply Kd.R_drewN | apply Kd.R_drew)); exact HO_82.out) hb); have n3_ := Aside0.mk (blk_below (g := gb161) (o := .cells #[.int .i64 a1_0, .int .i64 a1_1, .int .i64 a1_2, .bool a1_3, .bool a1_4] 33 (0, 0)) (by (with_reducible repeat (first | refine blk_drewN ?_ _ | refine blk_drew ?_ | refine blk_alloc ?_ _)); exact BK161.out) hb); have n4_ := Aside0.mk (below_step (by repeat (first | (with_reducible first | exact HB.out | apply below_alloc | apply pw_below_drewN | apply below_drew1 | refine below_set ?_ GE161.out) | exact HB.out)) hb); clear HO_9; clear HO_73; clear HO_82; clear BK161; clear HB; have HO_9 := n0_; have HO_73 := n1_; have HO_82 := n2_; have BK161 := n3_; have HB := n4_; clear n0_ n1_ n2_ n3_ n4_; (try clear hb); (try clear hb2); (try clear hk); (try clear hi)) | (go_at_call 13; (with_reducible refine (rights_May.calls _ _ l0 (rd y181 x84_5) x55_2 (rdOf false y177 x75_4) t188 _ ?side1 ?side2 A60.out).mono ?_); (case side1 => repeat (first | exact (Kd.C_below HR0.out HB.out) | (with_reducible refine Kd.C_alloc ?_ _) | (with_reducible refine Kd.C_drewN ?_ _) | (with_reducible refine Kd.C_drew ?_))); (case side2 => exact HC0.out); rintro e w69 ⟨rfl, hb⟩; have n0_ := Aside0.mk (Kd.V_below (by (with_reducible repeat (first | apply Kd.V_alloc | apply Kd.V_drewN | apply Kd.V_drew)); exact HO_9.out) hb); have n1_ := Aside0.mk (Kd.R_below (by (with_reducible repeat (first | apply Kd.R_alloc | apply Kd.R_drewN | apply Kd.R_drew)); exact HO_73.out) hb); have n2_ := Aside0.mk (Kd.R_below (by (with_reducible repeat (first | apply Kd.R_alloc | apply Kd.R_drewN | apply Kd.R_drew)); exact HO_82.out) hb); have n3_ := Aside0.mk (blk_below (g := gb161) (o := .cells #[.int .i64 a1_0, .int .i64 a1_1, .int .i64 a1_2, .bool a1_3, .bool a1_4] 33 (0, 0)) (by (with_reducible repeat (first | refine blk_drewN ?_ _ | refine blk_drew ?_ | refine blk_alloc ?_ _)); exact BK161.out) hb); have n4_ := Aside0.mk (below_step (by repeat (first | (with_reducible first | exact HB.out | apply below_alloc | apply pw_below_drewN | apply below_drew1 | refine below_set ?_ GE161.out) | exact HB.out)) hb); clear HO_9; clear HO_73; clear HO_82; clear BK161; clear HB; have HO_9 := n0_; have HO_73 := n1_; have HO_82 := n2_; have BK161 := n3_; have HB := n4_; clear n0_ n1_ n2_ n3_ n4_; (try clear hb); (try clear hb2); (try clear hk); (try clear hi)))
                                                    go_roundg k5
                                                    case measure => have := HJ5.out; have := HK2.out; have := HK3.out; have := HK4.out; have := HK5.out; omega
                                                    case rel => exact ⟨(wrap64 (x84_5 + 1)), (by first | rfl | (simp; done) | (simp [*]; done)), H', ⟨by have := HJ5.out; have := HK2.out; have := HK3.out; have := HK4.out; have := HK5.out; omega⟩, ⟨by (with_reducible repeat (first | apply Kd.V_alloc | apply Kd.V_drewN | apply Kd.V_drew)); exact HO_9.out⟩, ⟨by (with_reducible repeat (first | apply Kd.R_alloc | apply Kd.R_drewN | apply Kd.R_drew)); exact HO_73.out⟩, ⟨by (with_reducible repeat (first | apply Kd.R_alloc | apply Kd.R_drewN | apply Kd.R_drew)); exact HO_82.out⟩, ⟨by (with_reducible repeat (first | refine blk_drewN ?_ _ | refine blk_drew ?_ | refine blk_alloc ?_ _)); exact BK161.out⟩, ⟨by repeat (first | (with_reducible first | exact HB.out | apply below_alloc | apply pw_below_drewN | apply below_drew1 | refine below_set ?_ GE161.out) | exact HB.out)⟩⟩
                                            · rw [if_neg c44] at H
                                              have c44b0 : ((rd y181 x84_5) == a1_2) = false := beq_eq_false_iff_ne.mpr c44
                                              have c44b1 : ((rd y181 x84_5) != a1_2) = true := bne_iff_ne.mpr c44
                                              replace H := Option.bind_eq_some_iff.mp H
                                              obtain ⟨t189, A700, H⟩ := H
                                              replace H : ((rights_May.f l0 (rd y181 x84_5) x55_2 (rdOf false y177 x75_4)).bind fun t190 => (if (t189 != t190) = true then (some false) else (chancellaw03_RightsApart.l3 k5 l0 a2 t171 x55_2 x12_3 (rdOf false y177 x75_4) (l0.length : Int) x55_2 y177 (y177.length : Int) x75_4 y181 (y181.length : Int) (wrap64 (x84_5 + 1)) a1_0 a1_1 a1_2 a1_3 a1_4))) = some r := H
                                              have A70 := Aside0.mk A700
                                              clear A700
                                              replace H := Option.bind_eq_some_iff.mp H
                                              obtain ⟨t190, A710, H⟩ := H
                                              replace H : (if (t189 != t190) = true then (some false) else (chancellaw03_RightsApart.l3 k5 l0 a2 t171 x55_2 x12_3 (rdOf false y177 x75_4) (l0.length : Int) x55_2 y177 (y177.length : Int) x75_4 y181 (y181.length : Int) (wrap64 (x84_5 + 1)) a1_0 a1_1 a1_2 a1_3 a1_4)) = some r := H
                                              have A71 := Aside0.mk A710
                                              clear A710
                                              by_cases c72 : (t189 != t190) = true
                                              · rw [if_pos c72] at H
                                                have c72b0 : (t189 != t190) = true := c72
                                                (try (have c72b1 : decide (t189 = t190) = false := by simpa using c72))
                                                (try (have c72b2 : (t189 == t190) = false := by simpa using c72))
                                                (try (have c72b3 : ¬ (t189 = t190) := by simpa using c72))
                                                clear c72
                                                obtain rfl := Option.some.inj H
                                                have p184 : 0 ≤ (x84_5 : Int) := of_decide_eq_true (by first | (with_reducible assumption) | assumption)
                                                have q184 : x84_5 < (y181.length : Int) := of_decide_eq_true (by first | (with_reducible assumption) | assumption)
                                                obtain ⟨ad184, e184, hx184_0⟩ := Kd.at_int (Kd.R_reads' HO_82.out).2.2 x84_5 p184 q184
                                                cases e184
                                                replace p184 := eq_true p184
                                                replace q184 := eq_true q184
                                                have hcz73_0 : wr.cell? ⟨gb161, 0, none⟩ = some (.int .i64 a1_0) := (blk_cell BK161.out 0).trans rfl
                                                have hcz73_1 : wr.cell? ⟨gb161, 1, none⟩ = some (.int .i64 a1_1) := (blk_cell BK161.out 1).trans rfl
                                                have hcz73_2 : wr.cell? ⟨gb161, 2, none⟩ = some (.int .i64 a1_2) := (blk_cell BK161.out 2).trans rfl
                                                have hcz73_3 : wr.cell? ⟨gb161, 3, none⟩ = some (.bool a1_3) := (blk_cell BK161.out 3).trans rfl
                                                have hcz73_4 : wr.cell? ⟨gb161, 4, none⟩ = some (.bool a1_4) := (blk_cell BK161.out 4).trans rfl
                                                have hfz73_0 := blk_frozen BK161.out 0
                                                have hfz73_1 := blk_frozen BK161.out 1
                                                have hfz73_2 := blk_frozen BK161.out 2
                                                have hfz73_3 := blk_frozen BK161.out 3
                                                have hfz73_4 := blk_frozen BK161.out 4
                                                obtain ⟨Ao74, co74, eo74⟩ := Kd.V_slice HO_9.out
                                                subst eo74
                                                go_wp2_with (first | (go_at_call 13; (with_reducible refine (rights_May.calls _ _ t171 (rd y181 x84_5) x55_2 (rdOf false y177 x75_4) t189 _ ?side1 ?side2 A70.out).mono ?_); (case side1 => repeat (first | exact (Kd.V_reads' HO_9.out).2.2 | (with_reducible refine Kd.C_alloc ?_ _) | (with_reducible refine Kd.C_drewN ?_ _) | (with_reducible refine Kd.C_drew ?_))); (case side2 => exact (Kd.V_reads' HO_9.out).2.1); rintro e w75 ⟨rfl, hb⟩; have n0_ := Aside0.mk (Kd.V_below (by (with_reducible repeat (first | apply Kd.V_alloc | apply Kd.V_drewN | apply Kd.V_drew)); exact HO_9.out) hb); have n1_ := Aside0.mk (Kd.R_below (by (with_reducible repeat (first | apply Kd.R_alloc | apply Kd.R_drewN | apply Kd.R_drew)); exact HO_73.out) hb); have n2_ := Aside0.mk (Kd.R_below (by (with_reducible repeat (first | apply Kd.R_alloc | apply Kd.R_drewN | apply Kd.R_drew)); exact HO_82.out) hb); have n3_ := Aside0.mk (blk_below (g := gb161) (o := .cells #[.int .i64 a1_0, .int .i64 a1_1, .int .i64 a1_2, .bool a1_3, .bool a1_4] 33 (0, 0)) (by (with_reducible repeat (first | refine blk_drewN ?_ _ | refine blk_drew ?_ | refine blk_alloc ?_ _)); exact BK161.out) hb); have n4_ := Aside0.mk (below_step (by repeat (first | (with_reducible first | exact HB.out | apply below_alloc | apply pw_below_drewN | apply below_drew1 | refine below_set ?_ GE161.out) | exact HB.out)) hb); clear HO_9; clear HO_73; clear HO_82; clear BK161; clear HB; have HO_9 := n0_; have HO_73 := n1_; have HO_82 := n2_; have BK161 := n3_; have HB := n4_; clear n0_ n1_ n2_ n3_ n4_; (try clear hb); (try clear hb2); (try clear hk); (try clear hi)) | (go_at_call 13; (with_reducible refine (rights_May.calls _ _ l0 (rd y181 x84_5) x55_2 (rdOf false y177 x75_4) t190 _ ?side1 ?side2 A71.out).mono ?_); (case side1 => repeat (first | exact (Kd.C_below HR0.out HB.out) | (with_reducible refine Kd.C_alloc ?_ _) | (with_reducible refine Kd.C_drewN ?_ _) | (with_reducible refine Kd.C_drew ?_))); (case side2 => exact HC0.out); rintro e w76 ⟨rfl, hb⟩; have n0_ := Aside0.mk (Kd.V_below (by (with_reducible repeat (first | apply Kd.V_alloc | apply Kd.V_drewN | apply Kd.V_drew)); exact HO_9.out) hb); have n1_ := Aside0.mk (Kd.R_below (by (with_reducible repeat (first | apply Kd.R_alloc | apply Kd.R_drewN | apply Kd.R_drew)); exact HO_73.out) hb); have n2_ := Aside0.mk (Kd.R_below (by (with_reducible repeat (first | apply Kd.R_alloc | apply Kd.R_drewN | apply Kd.R_drew)); exact HO_82.out) hb); have n3_ := Aside0.mk (blk_below (g := gb161) (o := .cells #[.int .i64 a1_0, .int .i64 a1_1, .int .i64 a1_2, .bool a1_3, .bool a1_4] 33 (0, 0)) (by (with_reducible repeat (first | refine blk_drewN ?_ _ | refine blk_drew ?_ | refine blk_alloc ?_ _)); exact BK161.out) hb); have n4_ := Aside0.mk (below_step (by repeat (first | (with_reducible first | exact HB.out | apply below_alloc | apply pw_below_drewN | apply below_drew1 | refine below_set ?_ GE161.out) | exact HB.out)) hb); clear HO_9; clear HO_73; clear HO_82; clear BK161; clear HB; have HO_9 := n0_; have HO_73 := n1_; have HO_82 := n2_; have BK161 := n3_; have HB := n4_; clear n0_ n1_ n2_ n3_ n4_; (try clear hb); (try clear hb2); (try clear hk); (try clear hi)))
                                                go_ret
                                                exact ⟨by first | rfl | (simp [errW_none, errW_some] <;> rfl) | (simp [*, errW_none, errW_some] <;> rfl), by repeat (first | (with_reducible first | exact HB.out | apply below_alloc | apply pw_below_drewN | apply below_drew1 | refine below_set ?_ GE161.out) | exact HB.out)⟩
                                              · rw [if_neg c72] at H
                                                have c72b0 : (t189 != t190) = false := by simpa using c72
                                                (try (have c72b1 : decide (t189 = t190) = true := by simpa using c72))
                                                (try (have c72b2 : (t189 == t190) = true := by simpa using c72))
                                                clear c72
                                                have H' := Aside0.mk H
                                                clear H
                                                have p184 : 0 ≤ (x84_5 : Int) := of_decide_eq_true (by first | (with_reducible assumption) | assumption)
                                                have q184 : x84_5 < (y181.length : Int) := of_decide_eq_true (by first | (with_reducible assumption) | assumption)
                                                obtain ⟨ad184, e184, hx184_0⟩ := Kd.at_int (Kd.R_reads' HO_82.out).2.2 x84_5 p184 q184
                                                cases e184
                                                replace p184 := eq_true p184
                                                replace q184 := eq_true q184
                                                have hcz77_0 : wr.cell? ⟨gb161, 0, none⟩ = some (.int .i64 a1_0) := (blk_cell BK161.out 0).trans rfl
                                                have hcz77_1 : wr.cell? ⟨gb161, 1, none⟩ = some (.int .i64 a1_1) := (blk_cell BK161.out 1).trans rfl
                                                have hcz77_2 : wr.cell? ⟨gb161, 2, none⟩ = some (.int .i64 a1_2) := (blk_cell BK161.out 2).trans rfl
                                                have hcz77_3 : wr.cell? ⟨gb161, 3, none⟩ = some (.bool a1_3) := (blk_cell BK161.out 3).trans rfl
                                                have hcz77_4 : wr.cell? ⟨gb161, 4, none⟩ = some (.bool a1_4) := (blk_cell BK161.out 4).trans rfl
                                                have hfz77_0 := blk_frozen BK161.out 0
                                                have hfz77_1 := blk_frozen BK161.out 1
                                                have hfz77_2 := blk_frozen BK161.out 2
                                                have hfz77_3 := blk_frozen BK161.out 3
                                                have hfz77_4 := blk_frozen BK161.out 4
                                                obtain ⟨Ao78, co78, eo78⟩ := Kd.V_slice HO_9.out
                                                subst eo78
                                                go_wp2_with (first | (go_at_call 13; (with_reducible refine (rights_May.calls _ _ t171 (rd y181 x84_5) x55_2 (rdOf false y177 x75_4) t189 _ ?side1 ?side2 A70.out).mono ?_); (case side1 => repeat (first | exact (Kd.V_reads' HO_9.out).2.2 | (with_reducible refine Kd.C_alloc ?_ _) | (with_reducible refine Kd.C_drewN ?_ _) | (with_reducible refine Kd.C_drew ?_))); (case side2 => exact (Kd.V_reads' HO_9.out).2.1); rintro e w79 ⟨rfl, hb⟩; have n0_ := Aside0.mk (Kd.V_below (by (with_reducible repeat (first | apply Kd.V_alloc | apply Kd.V_drewN | apply Kd.V_drew)); exact HO_9.out) hb); have n1_ := Aside0.mk (Kd.R_below (by (with_reducible repeat (first | apply Kd.R_alloc | apply Kd.R_drewN | apply Kd.R_drew)); exact HO_73.out) hb); have n2_ := Aside0.mk (Kd.R_below (by (with_reducible repeat (first | apply Kd.R_alloc | apply Kd.R_drewN | apply Kd.R_drew)); exact HO_82.out) hb); have n3_ := Aside0.mk (blk_below (g := gb161) (o := .cells #[.int .i64 a1_0, .int .i64 a1_1, .int .i64 a1_2, .bool a1_3, .bool a1_4] 33 (0, 0)) (by (with_reducible repeat (first | refine blk_drewN ?_ _ | refine blk_drew ?_ | refine blk_alloc ?_ _)); exact BK161.out) hb); have n4_ := Aside0.mk (below_step (by repeat (first | (with_reducible first | exact HB.out | apply below_alloc | apply pw_below_drewN | apply below_drew1 | refine below_set ?_ GE161.out) | exact HB.out)) hb); clear HO_9; clear HO_73; clear HO_82; clear BK161; clear HB; have HO_9 := n0_; have HO_73 := n1_; have HO_82 := n2_; have BK161 := n3_; have HB := n4_; clear n0_ n1_ n2_ n3_ n4_; (try clear hb); (try clear hb2); (try clear hk); (try clear hi)) | (go_at_call 13; (with_reducible refine (rights_May.calls _ _ l0 (rd y181 x84_5) x55_2 (rdOf false y177 x75_4) t190 _ ?side1 ?side2 A71.out).mono ?_); (case side1 => repeat (first | exact (Kd.C_below HR0.out HB.out) | (with_reducible refine Kd.C_alloc ?_ _) | (with_reducible refine Kd.C_drewN ?_ _) | (with_reducible refine Kd.C_drew ?_))); (case side2 => exact HC0.out); rintro e w80 ⟨rfl, hb⟩; have n0_ := Aside0.mk (Kd.V_below (by (with_reducible repeat (first | apply Kd.V_alloc | apply Kd.V_drewN | apply Kd.V_drew)); exact HO_9.out) hb); have n1_ := Aside0.mk (Kd.R_below (by (with_reducible repeat (first | apply Kd.R_alloc | apply Kd.R_drewN | apply Kd.R_drew)); exact HO_73.out) hb); have n2_ := Aside0.mk (Kd.R_below (by (with_reducible repeat (first | apply Kd.R_alloc | apply Kd.R_drewN | apply Kd.R_drew)); exact HO_82.out) hb); have n3_ := Aside0.mk (blk_below (g := gb161) (o := .cells #[.int .i64 a1_0, .int .i64 a1_1, .int .i64 a1_2, .bool a1_3, .bool a1_4] 33 (0, 0)) (by (with_reducible repeat (first | refine blk_drewN ?_ _ | refine blk_drew ?_ | refine blk_alloc ?_ _)); exact BK161.out) hb); have n4_ := Aside0.mk (below_step (by repeat (first | (with_reducible first | exact HB.out | apply below_alloc | apply pw_below_drewN | apply below_drew1 | refine below_set ?_ GE161.out) | exact HB.out)) hb); clear HO_9; clear HO_73; clear HO_82; clear BK161; clear HB; have HO_9 := n0_; have HO_73 := n1_; have HO_82 := n2_; have BK161 := n3_; have HB := n4_; clear n0_ n1_ n2_ n3_ n4_; (try clear hb); (try clear hb2); (try clear hk); (try clear hi)))
                                                go_roundg k5
                                                case measure => have := HJ5.out; have := HK2.out; have := HK3.out; have := HK4.out; have := HK5.out; omega
                                                case rel => exact ⟨(wrap64 (x84_5 + 1)), (by first | rfl | (simp; done) | (simp [*]; done)), H', ⟨by have := HJ5.out; have := HK2.out; have := HK3.out; have := HK4.out; have := HK5.out; omega⟩, ⟨by (with_reducible repeat (first | apply Kd.V_alloc | apply Kd.V_drewN | apply Kd.V_drew)); exact HO_9.out⟩, ⟨by (with_reducible repeat (first | apply Kd.R_alloc | apply Kd.R_drewN | apply Kd.R_drew)); exact HO_73.out⟩, ⟨by (with_reducible repeat (first | apply Kd.R_alloc | apply Kd.R_drewN | apply Kd.R_drew)); exact HO_82.out⟩, ⟨by (with_reducible repeat (first | refine blk_drewN ?_ _ | refine blk_drew ?_ | refine blk_alloc ?_ _)); exact BK161.out⟩, ⟨by repeat (first | (with_reducible first | exact HB.out | apply below_alloc | apply pw_below_drewN | apply below_drew1 | refine below_set ?_ GE161.out) | exact HB.out)⟩⟩
                                          · rw [if_neg c43] at H
                                            exact absurd H (by simp)
                                        · rw [if_neg c42] at H
                                          exact absurd H (by simp)
                                      · rw [if_neg c41] at H
                                        have c41b0 : decide (x84_5 < (y181.length : Int)) = false := decide_eq_false c41
                                        clear c41
                                        have H' := Aside0.mk H
                                        clear H
                                        go_wp2
                                        go_roundg k5
                                        case measure => have := HJ5.out; have := HK2.out; have := HK3.out; have := HK4.out; have := HK5.out; omega
                                        case rel => exact ⟨(wrap64 (x75_4 + 1)), (by first | rfl | (simp; done) | (simp [*]; done)), H', ⟨by have := HJ5.out; have := HK2.out; have := HK3.out; have := HK4.out; have := HK5.out; omega⟩, ⟨by (with_reducible repeat (first | apply Kd.V_alloc | apply Kd.V_drewN | apply Kd.V_drew)); exact Kd.V_mono HO_9.out (fun _ hk => ⟨hk.1, hk.2.2⟩)⟩, ⟨by (with_reducible repeat (first | apply Kd.R_alloc | apply Kd.R_drewN | apply Kd.R_drew)); exact HO_73.out⟩, ⟨by (with_reducible repeat (first | refine blk_drewN ?_ _ | refine blk_drew ?_ | refine blk_alloc ?_ _)); exact BK161.out⟩, ⟨by repeat (first | (with_reducible first | exact HB.out | apply below_alloc | apply pw_below_drewN | apply below_drew1 | refine below_set ?_ GE161.out) | exact HB.out)⟩⟩
                                · rw [if_neg c36] at H
                                  exact absurd H (by simp)
                              · rw [if_neg c35] at H
                                exact absurd H (by simp)
                            · rw [if_neg c34] at H
                              have c34b0 : decide (x75_4 < (y177.length : Int)) = false := decide_eq_false c34
                              clear c34
                              have H' := Aside0.mk H
                              clear H
                              go_wp2
                              go_roundg k4
                              case measure => have := HJ5.out; have := HK2.out; have := HK3.out; have := HK4.out; omega
                              case rel => exact ⟨(wrap64 (x55_2 + 1)), (by first | rfl | (simp; done) | (simp [*]; done)), H', ⟨by have := HJ5.out; have := HK2.out; have := HK3.out; have := HK4.out; omega⟩, ⟨by (with_reducible repeat (first | apply Kd.V_alloc | apply Kd.V_drewN | apply Kd.V_drew)); exact Kd.V_mono HO_9.out (fun _ hk => hk.2)⟩, ⟨by (with_reducible repeat (first | refine blk_drewN ?_ _ | refine blk_drew ?_ | refine blk_alloc ?_ _)); exact BK161.out⟩, ⟨by repeat (first | (with_reducible first | exact HB.out | apply below_alloc | apply pw_below_drewN | apply below_drew1 | refine below_set ?_ GE161.out) | exact HB.out)⟩⟩
                · rw [if_neg c23] at H
                  have c23b0 : decide (x55_2 < (l0.length : Int)) = false := decide_eq_false c23
                  clear c23
                  obtain rfl := Option.some.inj H
                  go_wp2
                  go_ret
                  exact ⟨by first | rfl | (simp [errW_none, errW_some] <;> rfl) | (simp [*, errW_none, errW_some] <;> rfl), by repeat (first | (with_reducible first | exact HB.out | apply below_alloc | apply pw_below_drewN | apply below_drew1 | refine below_set ?_ GE161.out) | exact HB.out)⟩
          · rw [if_neg c19] at H
            have c19b0 : (t174 == 0) = false := beq_eq_false_iff_ne.mpr c19
            have c19b1 : (t174 != 0) = true := bne_iff_ne.mpr c19
            obtain rfl := Option.some.inj H
            go_wp2_with (first | ((with_reducible refine gate_callee (f := 12) rfl ?_); refine goesL_ (some 31) rfl rfl Try.func12 (by kernel_rfl) rfl #[.slice A0 l0.length c0, .int .i64 8] rfl (by (try simp only [List.map_toArray, List.map_cons, List.map_nil]); first | done | rfl | (simp only [List.length_drop, List.length_take]; rfl)) ?_; (with_reducible refine (chancelref03_Right.calls kj5 _ _ l0 8 true _ ?side1 ?side2 A16.out).mono ?_); (case side1 => repeat (first | exact (Kd.C_below HR0.out HB.out) | (with_reducible refine Kd.C_alloc ?_ _) | (with_reducible refine Kd.C_drewN ?_ _) | (with_reducible refine Kd.C_drew ?_))); (case side2 => exact HC0.out); rintro e w81 ⟨rfl, hb⟩; refine ⟨_, rfl, ?_⟩; have n0_ := Aside0.mk (blk_below (g := gb161) (o := .cells #[.int .i64 a1_0, .int .i64 a1_1, .int .i64 a1_2, .bool a1_3, .bool a1_4] 33 (0, 0)) (by (with_reducible repeat (first | refine blk_drewN ?_ _ | refine blk_drew ?_ | refine blk_alloc ?_ _)); exact BK161.out) hb); have n1_ := Aside0.mk (below_step (by repeat (first | (with_reducible first | exact HB.out | apply below_alloc | apply pw_below_drewN | apply below_drew1 | refine below_set ?_ GE161.out) | exact HB.out)) hb); clear BK161; clear HB; have BK161 := n0_; have HB := n1_; clear n0_ n1_; (try clear hb); (try clear hb2); (try clear hk); (try clear hi); have hcz82_0 : w81.cell? ⟨gb161, 0, none⟩ = some (.int .i64 a1_0) := (blk_cell BK161.out 0).trans rfl; have hcz82_1 : w81.cell? ⟨gb161, 1, none⟩ = some (.int .i64 a1_1) := (blk_cell BK161.out 1).trans rfl; have hcz82_2 : w81.cell? ⟨gb161, 2, none⟩ = some (.int .i64 a1_2) := (blk_cell BK161.out 2).trans rfl; have hcz82_3 : w81.cell? ⟨gb161, 3, none⟩ = some (.bool a1_3) := (blk_cell BK161.out 3).trans rfl; have hcz82_4 : w81.cell? ⟨gb161, 4, none⟩ = some (.bool a1_4) := (blk_cell BK161.out 4).trans rfl; have hfz82_0 := blk_frozen BK161.out 0; have hfz82_1 := blk_frozen BK161.out 1; have hfz82_2 := blk_frozen BK161.out 2; have hfz82_3 := blk_frozen BK161.out 3; have hfz82_4 := blk_frozen BK161.out 4) | ((with_reducible refine gate_callee (f := 16) rfl ?_); refine goesL_ (some 45) rfl rfl Try.func16 (by kernel_rfl) rfl #[.slice A0 l0.length c0, .int .i64 a1_0, .int .i64 a1_1, .int .i64 a1_2, .bool a1_3, .bool a1_4] rfl (by (try simp only [List.map_toArray, List.map_cons, List.map_nil]); first | done | rfl | (simp only [List.length_drop, List.length_take]; rfl)) ?_; (with_reducible refine (rights_Grant.calls (fun k_ => k_ < w.heap.size) _ _ l0 a1_0 a1_1 a1_2 a1_3 a1_4 t171 t174 _ ?side1 A18.out).mono ?_); (case side1 => exact Kd.V_mk HC0.out (Kd.F_below (Kd.C_F k29_heap HR0.out) (by repeat (first | (with_reducible first | exact HB.out | apply below_alloc | apply pw_below_drewN | apply below_drew1 | refine below_set ?_ GE161.out) | exact HB.out)))); rintro e w83 ⟨v172, rfl, ho0, hb⟩; refine ⟨_, rfl, ?_⟩; have n0_ := Aside0.mk (Kd.V_lower (Kd.V_mono (ok' := fun k_ => k_ ≠ gb161) ho0 (fun k_ hk_ => Or.elim hk_ (fun hs_ => fun e_ => Nat.not_le.2 hs_ (by rw [e_]; exact GW161.out)) (fun hn_ => (Kd.freshB (g := gb161) (o := .cells #[.int .i64 a1_0, .int .i64 a1_1, .int .i64 a1_2, .bool a1_3, .bool a1_4] 33 (0, 0)) (by (with_reducible repeat (first | refine blk_drewN ?_ _ | refine blk_drew ?_ | refine blk_alloc ?_ _)); exact BK161.out) k_ hn_)))) (below_size (by repeat (first | (with_reducible first | exact HB.out | apply below_alloc | apply pw_below_drewN | apply below_drew1 | refine below_set ?_ GE161.out) | exact HB.out)))); have n1_ := Aside0.mk (blk_below (g := gb161) (o := .cells #[.int .i64 a1_0, .int .i64 a1_1, .int .i64 a1_2, .bool a1_3, .bool a1_4] 33 (0, 0)) (by (with_reducible repeat (first | refine blk_drewN ?_ _ | refine blk_drew ?_ | refine blk_alloc ?_ _)); exact BK161.out) hb); have n2_ := Aside0.mk (below_step (by repeat (first | (with_reducible first | exact HB.out | apply below_alloc | apply pw_below_drewN | apply below_drew1 | refine below_set ?_ GE161.out) | exact HB.out)) hb); clear BK161; clear HB; have HO173 := n0_; have BK161 := n1_; have HB := n2_; clear n0_ n1_ n2_; (try clear hb); (try clear hb2); (try clear hk); (try clear hi); (try clear ho0); obtain ⟨Ao84, co84, eo84⟩ := Kd.V_slice HO173.out; subst eo84))
            go_ret
            exact ⟨by first | rfl | (simp [errW_none, errW_some] <;> rfl) | (simp [*, errW_none, errW_some] <;> rfl), by repeat (first | (with_reducible first | exact HB.out | apply below_alloc | apply pw_below_drewN | apply below_drew1 | refine below_set ?_ GE161.out) | exact HB.out)⟩
        · replace c17 := Bool.eq_false_iff.mpr c17
          subst c17
          have H1 : (some true) = some r := by rw [if_neg (show ¬ (false = true) by decide)] at H; exact H
          clear H
          have H := H1
          clear H1
          obtain rfl := Option.some.inj H
          go_wp2_with (first | ((with_reducible refine gate_callee (f := 12) rfl ?_); refine goesL_ (some 31) rfl rfl Try.func12 (by kernel_rfl) rfl #[.slice A0 l0.length c0, .int .i64 8] rfl (by (try simp only [List.map_toArray, List.map_cons, List.map_nil]); first | done | rfl | (simp only [List.length_drop, List.length_take]; rfl)) ?_; (with_reducible refine (chancelref03_Right.calls kj5 _ _ l0 8 false _ ?side1 ?side2 A16.out).mono ?_); (case side1 => repeat (first | exact (Kd.C_below HR0.out HB.out) | (with_reducible refine Kd.C_alloc ?_ _) | (with_reducible refine Kd.C_drewN ?_ _) | (with_reducible refine Kd.C_drew ?_))); (case side2 => exact HC0.out); rintro e w85 ⟨rfl, hb⟩; refine ⟨_, rfl, ?_⟩; have n0_ := Aside0.mk (blk_below (g := gb161) (o := .cells #[.int .i64 a1_0, .int .i64 a1_1, .int .i64 a1_2, .bool a1_3, .bool a1_4] 33 (0, 0)) (by (with_reducible repeat (first | refine blk_drewN ?_ _ | refine blk_drew ?_ | refine blk_alloc ?_ _)); exact BK161.out) hb); have n1_ := Aside0.mk (below_step (by repeat (first | (with_reducible first | exact HB.out | apply below_alloc | apply pw_below_drewN | apply below_drew1 | refine below_set ?_ GE161.out) | exact HB.out)) hb); clear BK161; clear HB; have BK161 := n0_; have HB := n1_; clear n0_ n1_; (try clear hb); (try clear hb2); (try clear hk); (try clear hi)))
          go_ret
          exact ⟨by first | rfl | (simp [errW_none, errW_some] <;> rfl) | (simp [*, errW_none, errW_some] <;> rfl), by repeat (first | (with_reducible first | exact HB.out | apply below_alloc | apply pw_below_drewN | apply below_drew1 | refine below_set ?_ GE161.out) | exact HB.out)⟩

/-- THE ONE PURE STATEMENT of chancellaw03_RightsApart: yours. -/
def chancellaw03_RightsApart.Pure : Prop := ∀ (l0 : List (S29)) (a1_0 : Int) (a1_1 : Int) (a1_2 : Int) (a1_3 : Bool) (a1_4 : Bool) (a2 : Int), (fun l : List (S29) => l.length ≤ maxLen ∧ ∀ a ∈ l, (fun b : S29 => (fun n : Int => (Lit.int .i64 n).wf = true) b.f0 ∧ (fun n : Int => (Lit.int .i64 n).wf = true) b.f1 ∧ (fun l : List Int => l.length ≤ maxLen ∧ ∀ a ∈ l, (fun n : Int => (Lit.int .i64 n).wf = true) a) b.f2 ∧ (fun l : List Int => l.length ≤ maxLen ∧ ∀ a ∈ l, (fun n : Int => (Lit.int .i64 n).wf = true) a) b.f3) a) l0 → (fun n : Int => (Lit.int .i64 n).wf = true) a1_0 → (fun n : Int => (Lit.int .i64 n).wf = true) a1_1 → (fun n : Int => (Lit.int .i64 n).wf = true) a1_2 → (Lit.int .i64 a2).wf = true → ∃ k, chancellaw03_RightsApart.f k l0 a1_0 a1_1 a1_2 a1_3 a1_4 a2 = some true
theorem chancellaw03_RightsApart.walk (P : chancellaw03_RightsApart.Pure)   (a2 : Int) (w : World) (w2 : (Lit.int .i64 a2).wf = true) (A0 : Option Addr) (c0 : Nat) (l0 : List (S29)) (hr0 : Kd.C k29 w A0 l0.length l0) (hc0 : l0.length ≤ c0) (g0_0 : (fun l : List (S29) => l.length ≤ maxLen ∧ ∀ a ∈ l, (fun b : S29 => (fun n : Int => (Lit.int .i64 n).wf = true) b.f0 ∧ (fun n : Int => (Lit.int .i64 n).wf = true) b.f1 ∧ (fun l : List Int => l.length ≤ maxLen ∧ ∀ a ∈ l, (fun n : Int => (Lit.int .i64 n).wf = true) a) b.f2 ∧ (fun l : List Int => l.length ≤ maxLen ∧ ∀ a ∈ l, (fun n : Int => (Lit.int .i64 n).wf = true) a) b.f3) a) l0) (a1_0 : Int) (a1_1 : Int) (a1_2 : Int) (a1_3 : Bool) (a1_4 : Bool) (g1_0 : (fun n : Int => (Lit.int .i64 n).wf = true) a1_0) (g1_1 : (fun n : Int => (Lit.int .i64 n).wf = true) a1_1) (g1_2 : (fun n : Int => (Lit.int .i64 n).wf = true) a1_2) :
    Calls Try.prog 6 #[.slice A0 l0.length c0, .agg #[.int .i64 a1_0, .int .i64 a1_1, .int .i64 a1_2, .bool a1_3, .bool a1_4], .int .i64 a2] w fun e w' => e = .returned (.bool true) ∧ Below w.heap.size w w' := by
  obtain ⟨k, h⟩ := P l0 a1_0 a1_1 a1_2 a1_3 a1_4 a2 g0_0 g1_0 g1_1 g1_2 w2
  refine (chancellaw03_RightsApart.calls k A0 c0 l0 a1_0 a1_1 a1_2 a1_3 a1_4 a2 true w hr0 hc0 h).mono ?_
  rintro e w' ⟨rfl, hd⟩
  exact ⟨rfl, hd⟩

end Go.Proofs.Ytgjlnjjgpddcnaa.ARightsApart
