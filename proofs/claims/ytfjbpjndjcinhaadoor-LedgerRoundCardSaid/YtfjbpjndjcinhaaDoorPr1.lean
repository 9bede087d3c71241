/- What the library's small functions and the document's compute: ledger_head, stringslite_HasPrefix, strings_HasPrefix, strings_trimLeftByte, strings_trimRightByte, ledger_Plates, chancelref12_Same, chancelref17_Read. -/
import Derived.Test.YtfjbpjndjcinhaaDoorPr0
namespace Go.Proofs.YtfjbpjndjcinhaaDoor.Pr
open Go.RowKit Go.Proofs.YtfjbpjndjcinhaaDoorW.PrintWords Go.Proofs.YtfjbpjndjcinhaaDoorW.PrintLast Go.Proofs.YtfjbpjndjcinhaaDoorW.PrintMore
attribute [local go_sem] max2_int min2_int max_two min_two max_three min_three max_four min_four   -- for this text's walks alone
set_option linter.unusedVariables false
set_option linter.unusedSimpArgs false

/-! ledger_head: function 26 -/
def ledger_head.l0 : Nat → Int → ByteArray → List Int → Int → Option (ByteArray)
  | 0, _, _, _, _ => none
  | k + 1, x0, x1, x5, x6 => if x6 ≥ 0 then (if 0 ≤ x6 then (if x5.length < 140737488355328 then (ledger_head.l0 k x0 x1 (x5 ++ [(shr .i64 x0 x6) % 256]) (wrap64 (x6 - 8))) else (none)) else (none)) else ((some (([((x1.size : Int) / 256) % 256, ((x1.size : Int)) % 256] : List Int) : List Int)).bind fun y107 => (if x5.length + y107.length < 140737488355328 then (some (strOfNums (x5 ++ y107))) else (none)))
def ledger_head.f (k : Nat) (a0 : Int) (a1 : ByteArray) : Option (ByteArray) := ledger_head.l0 k a0 a1 (([72] : List Int)) 56
theorem ledger_head.mono_l : ∀ k, (∀ y0 y1 y2 y3, LeO (ledger_head.l0 k y0 y1 y2 y3) (ledger_head.l0 (k + 1) y0 y1 y2 y3))
  | 0 => fun _ _ _ _ r h => by simp [ledger_head.l0] at h
  | k + 1 => by
    have ih0 := ledger_head.mono_l k
    · intro y0 y1 y2 y3
      unfold ledger_head.l0
      repeat' first
      | (with_reducible exact ih0 _ _ _ _)
      | (with_reducible exact LeO.refl _)
      | (with_reducible exact LeO.none _)
      | (with_reducible refine LeO.ite ?_ ?_)
      | (with_reducible refine LeO.bind ?_ (fun _ => ?_))
      | exact ih0 _ _ _ _
      | exact LeO.none _
      | refine LeO.ite ?_ ?_
      | refine LeO.bind ?_ (fun _ => ?_)
theorem ledger_head.mono : ∀ a0 a1 k, LeO (ledger_head.f k a0 a1) (ledger_head.f (k + 1) a0 a1) := by
  intro a0 a1 k
  have ih0 := ledger_head.mono_l k
  unfold ledger_head.f
  repeat' first
      | (with_reducible exact ih0 _ _ _ _)
      | (with_reducible exact LeO.refl _)
      | (with_reducible exact LeO.none _)
      | (with_reducible refine LeO.ite ?_ ?_)
      | (with_reducible refine LeO.bind ?_ (fun _ => ?_))
      | exact ih0 _ _ _ _
      | exact LeO.none _
      | refine LeO.ite ?_ ?_
      | refine LeO.bind ?_ (fun _ => ?_)
set_option maxHeartbeats 8000000 in
set_option maxRecDepth 100000 in
theorem ledger_head.calls (k : Nat) (a0 : Int) (a1 : ByteArray) (r : ByteArray) (w : World) (h : ledger_head.f k a0 a1 = some r) :
    Calls Tryd.prog 26 #[.int .i64 a0, .string a1] w fun e w' => e = .returned (.string r) ∧ Below w.heap.size w w' := by
  have HB := Aside0.mk (Below.refl w.heap.size w)
  have H : (ledger_head.l0 k a0 a1 (([72] : List Int)) 56) = some r := h
  clear h
  obtain ⟨y101, hy101⟩ : ∃ y_ : List Int, y_ = (([72] : List Int)) := ⟨_, rfl⟩
  replace H : (ledger_head.l0 k a0 a1 y101 56) = some r := by first | (rw [hy101]; with_reducible exact H) | (have H2_ := (Option.bind_some _ _).symm.trans H; rw [hy101]; with_reducible exact H2_) | (have H2_ := (Option.bind_some _ _).symm.trans H; with_reducible exact H2_) | with_reducible exact H | (rw [hy101]; exact H) | exact H
  have Ny101 := Aside0.mk hy101
  clear hy101
  have H' := Aside0.mk H
  clear H
  go_enter Tryd.func26, Tryd.ntmps26
  go_wp2_with (first | ((with_reducible refine gate_dst (N := 7) rfl ?_); refine Kd.R_lit (Kd.int .u8) _ 5 ?hg (N := 7) ?hd (xs := ([72] : List Int)) (inner := [.int .u8 72]) (ok := fun _ => True) (okp := fun _ => True) ?hr ?hp (fun _ hk => hk) trivial (Below.refl _ _) (Nat.le_refl _) (by simp) ?_; (case hd => rfl); (case hg => rfl); (case hr => first | (go_simp; done) | (go_simp; rfl)); (case hp => exact (Reps.one (show Kd.M (Kd.int .u8) _ _ _ 72 [.int .u8 72] from rfl) (Reps.none _ _))); intro v102 w3 ho4 hb hg_ hnew_; clear hg_ hnew_; (first | rw [← Ny101.out] at ho4 | (simp only [Int.reduceToNat] at ho4; rw [← Ny101.out] at ho4)); have n0_ := Aside0.mk (Kd.R_lower ho4 (below_size (by repeat (first | (with_reducible first | exact HB.out | apply below_alloc | apply pw_below_drewN | apply below_drew1) | exact HB.out)))); have n1_ := Aside0.mk (below_step (by repeat (first | (with_reducible first | exact HB.out | apply below_alloc | apply pw_below_drewN | apply below_drew1) | exact HB.out)) hb); clear HB; have HO103 := n0_; have HB := n1_; clear n0_ n1_; clear hb ho4))
  go_loopg [5, 6] k (fun kq v5 v6 w' => ∃ (x5_1 : List Int) (x6_1 : Int), v6 = .int .i64 x6_1 ∧ Aside0 (ledger_head.l0 kq a0 a1 x5_1 x6_1 = some r) ∧ Aside0 (kq ≤ k) ∧ Aside0 (Kd.R (Kd.int .u8) 5 w' w.heap.size (fun _ => True) v5 x5_1) ∧ Aside0 (Below w.heap.size w w'))
  case atStart => exact ⟨(y101), (56), (by first | rfl | (simp; done) | (simp [*]; done)), H', ⟨Nat.le_refl _⟩, ⟨by (with_reducible repeat (first | apply Kd.R_alloc | apply Kd.R_drewN | apply Kd.R_drew)); exact HO103.out⟩, ⟨by repeat (first | (with_reducible first | exact HB.out | apply below_alloc | apply pw_below_drewN | apply below_drew1) | exact HB.out)⟩⟩
  case round =>
    clear H'
    try clear c2
    try clear p2
    obtain ⟨x5_1, x6_1, rfl, HA, HK1, HO_5, HB⟩ := hrel
    cases gk with
    | zero => exact absurd HA.out (by simp [ledger_head.l0])
    | succ k1 =>
      have H := HA.out
      clear HA
      simp only [ledger_head.l0] at H
      by_cases c5 : x6_1 ≥ 0
      · rw [if_pos c5] at H
        have c5b0 : decide (0 ≤ x6_1) = true := decide_eq_true c5
        clear c5
        by_cases c6 : 0 ≤ x6_1
        · rw [if_pos c6] at H
          have c6b0 := eq_true c6
          have c6b1 : decide (0 ≤ x6_1) = true := decide_eq_true c6
          clear c6
          obtain ⟨ji7, hji7⟩ : ∃ j_ : Int, (shr .i64 a0 x6_1) = j_ := ⟨_, rfl⟩
          replace H : (if x5_1.length < 140737488355328 then (ledger_head.l0 k1 a0 a1 (x5_1 ++ [(ji7) % 256]) (wrap64 (x6_1 - 8))) else (none)) = some r := by first | (rw [hji7] at H; exact H) | (simp only [hji7] at H ⊢; exact H)
          have hji7_ : (a0 / 2 ^ min x6_1.toNat 64) = ji7 := hji7
          have hji7z : x6_1 ≤ 64 → (a0 / 2 ^ x6_1.toNat) = ji7 := shr_small hji7
          by_cases c8 : x5_1.length < 140737488355328
          · rw [if_pos c8] at H
            have LMc8 := Aside0.mk c8
            clear c8
            obtain ⟨y104, hy104⟩ : ∃ y_ : List Int, y_ = (x5_1 ++ [(ji7) % 256]) := ⟨_, rfl⟩
            replace H : (ledger_head.l0 k1 a0 a1 y104 (wrap64 (x6_1 - 8))) = some r := by first | (rw [hy104]; with_reducible exact H) | (have H2_ := (Option.bind_some _ _).symm.trans H; rw [hy104]; with_reducible exact H2_) | (have H2_ := (Option.bind_some _ _).symm.trans H; with_reducible exact H2_) | with_reducible exact H | (rw [hy104]; exact H) | exact H
            have Ny104 := Aside0.mk hy104
            clear hy104
            have H' := Aside0.mk H
            clear H
            go_wp2_with (first | ((with_reducible refine gate_builtin (b := .append) (xs := #[.tmp 12, .tmp 17]) rfl ?_); at_builtin; refine Kd.R_append (Kd.int .u8) (w0 := w) w.heap.size rfl (.tmp 12) (.tmp 17) 57 5 (.int .u8 0) 1 rfl Tryd.underlying57 info5 rfl (by decide) (by omega) u5 x5_1 ((ji7) % 256) [.int .u8 ((ji7) % 256)] (fun _ => True) (fun _ => False) rfl rfl ?aP (fun _ hk => hk.elim) ?aF ?aO ?aB ?aS ?aL ?_; (case aP => exact rfl); (case aB => exact (by repeat (first | (with_reducible first | exact HB.out | apply below_alloc | apply pw_below_drewN | apply below_drew1) | exact HB.out))); (case aF => exact (fun _ _ => trivial)); (case aO => exact (by (with_reducible repeat (first | apply Kd.R_alloc | apply Kd.R_drewN | apply Kd.R_drew)); exact HO_5.out)); (case aS => exact (below_size (by repeat (first | (with_reducible first | exact HB.out | apply below_alloc | apply pw_below_drewN | apply below_drew1) | exact HB.out)))); (case aL => have := LMc8.out; omega); intro v105 w9 ho hb hg hat; rw [← Ny104.out] at ho; have n0_ := Aside0.mk (hb); have n1_ := Aside0.mk (ho); clear HB; clear HO_5; have HB := n0_; have HO106 := n1_; clear n0_ n1_; clear ho hb hg hat))
            go_roundg k1
            case measure => have := HK1.out; omega
            case rel => exact ⟨(y104), (wrap64 (x6_1 - 8)), (by first | rfl | (simp; done) | (simp [*]; done)), H', ⟨by have := HK1.out; omega⟩, ⟨by (with_reducible repeat (first | apply Kd.R_alloc | apply Kd.R_drewN | apply Kd.R_drew)); exact HO106.out⟩, ⟨by repeat (first | (with_reducible first | exact HB.out | apply below_alloc | apply pw_below_drewN | apply below_drew1) | exact HB.out)⟩⟩
          · rw [if_neg c8] at H
            exact absurd H (by simp)
        · rw [if_neg c6] at H
          exact absurd H (by simp)
      · rw [if_neg c5] at H
        have c5b0 : decide (0 ≤ x6_1) = false := decide_eq_false c5
        clear c5
        obtain ⟨y107, hy107⟩ : ∃ y_ : List Int, y_ = (([((a1.size : Int) / 256) % 256, ((a1.size : Int)) % 256] : List Int)) := ⟨_, rfl⟩
        replace H : (if x5_1.length + y107.length < 140737488355328 then (some (strOfNums (x5_1 ++ y107))) else (none)) = some r := by first | (rw [hy107]; with_reducible exact H) | (have H2_ := (Option.bind_some _ _).symm.trans H; rw [hy107]; with_reducible exact H2_) | (have H2_ := (Option.bind_some _ _).symm.trans H; with_reducible exact H2_) | with_reducible exact H | (rw [hy107]; exact H) | exact H
        have Ny107 := Aside0.mk hy107
        clear hy107
        by_cases c10 : x5_1.length + y107.length < 140737488355328
        · rw [if_pos c10] at H
          have LMc10 := Aside0.mk c10
          clear c10
          obtain ⟨y110, hy110⟩ : ∃ y_ : List Int, y_ = (x5_1 ++ y107) := ⟨_, rfl⟩
          replace H : (some (strOfNums y110)) = some r := by first | (rw [hy110]; with_reducible exact H) | (have H2_ := (Option.bind_some _ _).symm.trans H; rw [hy110]; with_reducible exact H2_) | (have H2_ := (Option.bind_some _ _).symm.trans H; with_reducible exact H2_) | with_reducible exact H | (rw [hy110]; exact H) | exact H
          have Ny110 := Aside0.mk hy110
          clear hy110
          obtain rfl := Option.some.inj H
          go_wp2_with (first | ((with_reducible refine gate_dst (N := 27) rfl ?_); refine Kd.R_lit (Kd.int .u8) _ 5 ?hg (N := 27) ?hd (xs := ([((a1.size : Int) / 256) % 256, ((a1.size : Int)) % 256] : List Int)) (inner := [.int .u8 (((a1.size : Int) / 256) % 256), .int .u8 (((a1.size : Int)) % 256)]) (ok := fun _ => True) (okp := fun _ => True) ?hr ?hp (fun _ hk => hk) trivial (Below.refl _ _) (Nat.le_refl _) (by simp) ?_; (case hd => rfl); (case hg => rfl); (case hr => first | (go_simp; done) | (go_simp; rfl)); (case hp => exact (Reps.one (show Kd.M (Kd.int .u8) _ _ _ (((a1.size : Int) / 256) % 256) [.int .u8 (((a1.size : Int) / 256) % 256)] from rfl) (Reps.one (show Kd.M (Kd.int .u8) _ _ _ (((a1.size : Int)) % 256) [.int .u8 (((a1.size : Int)) % 256)] from rfl) (Reps.none _ _)))); intro v108 w11 ho12 hb hg_ hnew_; clear hg_ hnew_; (first | rw [← Ny107.out] at ho12 | (simp only [Int.reduceToNat] at ho12; rw [← Ny107.out] at ho12)); have n0_ := Aside0.mk (Kd.R_elder' (by (with_reducible repeat (first | apply Kd.R_alloc | apply Kd.R_drewN | apply Kd.R_drew)); exact HO_5.out) (Kd.R_base ho12) hb); have n1_ := Aside0.mk (Kd.R_lower (Kd.R_new' ho12 (Kd.R_lt (by (with_reducible repeat (first | apply Kd.R_alloc | apply Kd.R_drewN | apply Kd.R_drew)); exact HO_5.out))) (below_size (by repeat (first | (with_reducible first | exact HB.out | apply below_alloc | apply pw_below_drewN | apply below_drew1) | exact HB.out)))); have n2_ := Aside0.mk (below_step (by repeat (first | (with_reducible first | exact HB.out | apply below_alloc | apply pw_below_drewN | apply below_drew1) | exact HB.out)) hb); clear HO_5; clear HB; have HO_5 := n0_; have HO109 := n1_; have HB := n2_; clear n0_ n1_ n2_; clear hb ho12; obtain ⟨Ao14, co14, eo14⟩ := Kd.R_slice HO109.out; subst eo14) | ((with_reducible refine gate_builtin (b := .append) (xs := #[.tmp 19, .tmp 27]) rfl ?_); at_builtin; refine Kd.R_append_rows (Kd.int .u8) (w0 := w) w.heap.size rfl (.tmp 19) (.tmp 27) 57 5 (.int .u8 0) 1 rfl Tryd.underlying57 info5 rfl (by decide) (by omega) u5 x5_1 y107 _ _ _ (fun k_ => some k_ ≠ (.slice Ao14 y107.length co14 : Value).ownBlock) (fun _ => False) rfl rfl ?aO ?aR (fun _ _ h => h) (fun _ h => h.elim) ?aF ?aB ?aS ?aL ?_; (case aR => repeat (first | exact (Kd.R_reads' HO109.out).2.2 | (with_reducible refine Kd.C_alloc ?_ _) | (with_reducible refine Kd.C_drewN ?_ _) | (with_reducible refine Kd.C_drew ?_))); (case aB => exact (by repeat (first | (with_reducible first | exact HB.out | apply below_alloc | apply pw_below_drewN | apply below_drew1) | exact HB.out))); (case aF => exact (fun k_ hk => Kd.fresh' (Kd.R_lt (by (with_reducible repeat (first | apply Kd.R_alloc | apply Kd.R_drewN | apply Kd.R_drew)); exact HO109.out)) k_ hk)); (case aO => exact (by (with_reducible repeat (first | apply Kd.R_alloc | apply Kd.R_drewN | apply Kd.R_drew)); exact Kd.R_mono HO_5.out (fun _ hk => hk.2))); (case aS => exact (below_size (by repeat (first | (with_reducible first | exact HB.out | apply below_alloc | apply pw_below_drewN | apply below_drew1) | exact HB.out)))); (case aL => have := LMc10.out; omega); intro v111 w13 ho hb hg hat; rw [← Ny110.out] at ho; have n0_ := Aside0.mk (Kd.R_after (ok := (fun _ => True)) (by (with_reducible repeat (first | apply Kd.R_alloc | apply Kd.R_drewN | apply Kd.R_drew)); exact HO109.out) hg hat); have n1_ := Aside0.mk (hb); have n2_ := Aside0.mk (ho); clear HO109; clear HB; clear HO_5; have HO109 := n0_; have HB := n1_; have HO112 := n2_; clear n0_ n1_ n2_; clear ho hb hg hat; have hcv15 := own_string (P := Tryd.prog) Tryd.underlying57 Tryd.underlying5 Tryd.underlying9 (Kd.own_of_R HO112.out)))
          go_ret
          exact ⟨by first | rfl | (simp [errW_none, errW_some] <;> rfl) | (simp [*, errW_none, errW_some] <;> rfl), by repeat (first | (with_reducible first | exact HB.out | apply below_alloc | apply pw_below_drewN | apply below_drew1) | exact HB.out)⟩
        · rw [if_neg c10] at H
          exact absurd H (by simp)

/-! stringslite_HasPrefix: function 47 -/
def stringslite_HasPrefix.f (a0 : ByteArray) (a1 : ByteArray) : Option (Bool) := if (a0.size : Int) ≥ (a1.size : Int) then (if 0 ≤ (a1.size : Int) then (if (a1.size : Int) ≤ (a0.size : Int) then (some ((a0.extract 0 ((a1.size : Int) : Int).toNat).toList == a1.toList)) else (none)) else (none)) else (some false)
set_option maxHeartbeats 8000000 in
set_option maxRecDepth 100000 in
theorem stringslite_HasPrefix.calls (a0 : ByteArray) (a1 : ByteArray) (r : Bool) (w : World) (h : stringslite_HasPrefix.f a0 a1 = some r) :
    Calls Tryd.prog 47 #[.string a0, .string a1] w fun e w' => e = .returned (.bool r) ∧ Drawn0 w w' := by
  have H : (if (a0.size : Int) ≥ (a1.size : Int) then (if 0 ≤ (a1.size : Int) then (if (a1.size : Int) ≤ (a0.size : Int) then (some ((a0.extract 0 ((a1.size : Int) : Int).toNat).toList == a1.toList)) else (none)) else (none)) else (some false)) = some r := h
  clear h
  by_cases c3 : (a0.size : Int) ≥ (a1.size : Int)
  · rw [if_pos c3] at H
    have c3b0 : decide ((a1.size : Int) ≤ (a0.size : Int)) = true := decide_eq_true c3
    have c3b1 : decide (a1.size ≤ a0.size) = true := decide_eq_true (Int.ofNat_le.mp c3)
    clear c3
    by_cases c4 : 0 ≤ (a1.size : Int)
    · rw [if_pos c4] at H
      have c4b0 := eq_true c4
      have c4b1 : decide (0 ≤ (a1.size : Int)) = true := decide_eq_true c4
      clear c4
      by_cases c5 : (a1.size : Int) ≤ (a0.size : Int)
      · rw [if_pos c5] at H
        have c5b0 := eq_true c5
        have c5b1 : decide ((a1.size : Int) ≤ (a0.size : Int)) = true := decide_eq_true c5
        clear c5
        obtain rfl := Option.some.inj H
        go_enter Tryd.func47, Tryd.ntmps47
        go_wp2
        go_ret
        exact ⟨by first | rfl | (simp; done) | (simp [*]; done), by repeat (first | exact Drawn0.refl _ | apply Drawn0.step)⟩
      · rw [if_neg c5] at H
        exact absurd H (by simp)
    · rw [if_neg c4] at H
      exact absurd H (by simp)
  · rw [if_neg c3] at H
    have c3b0 : decide ((a1.size : Int) ≤ (a0.size : Int)) = false := decide_eq_false c3
    have c3b1 : decide (a1.size ≤ a0.size) = false := decide_eq_false (fun h => c3 (Int.ofNat_le.mpr h))
    clear c3
    obtain rfl := Option.some.inj H
    go_enter Tryd.func47, Tryd.ntmps47
    go_wp2
    go_ret
    exact ⟨by first | rfl | (simp; done) | (simp [*]; done), by repeat (first | exact Drawn0.refl _ | apply Drawn0.step)⟩

/-! strings_HasPrefix: function 33 -/
def strings_HasPrefix.f (a0 : ByteArray) (a1 : ByteArray) : Option (Bool) := (stringslite_HasPrefix.f a0 a1).bind fun t113 => (some t113)
set_option maxHeartbeats 8000000 in
set_option maxRecDepth 100000 in
theorem strings_HasPrefix.calls (a0 : ByteArray) (a1 : ByteArray) (r : Bool) (w : World) (h : strings_HasPrefix.f a0 a1 = some r) :
    Calls Tryd.prog 33 #[.string a0, .string a1] w fun e w' => e = .returned (.bool r) ∧ Drawn0 w w' := by
  have H : ((stringslite_HasPrefix.f a0 a1).bind fun t113 => (some t113)) = some r := h
  clear h
  replace H := Option.bind_eq_some_iff.mp H
  obtain ⟨t113, A30, H⟩ := H
  replace H : (some t113) = some r := H
  have A3 := Aside0.mk A30
  clear A30
  obtain rfl := Option.some.inj H
  go_enter Tryd.func33, Tryd.ntmps33
  go_wp2_with (first | ((with_reducible refine gate_callee (f := 47) rfl ?_); refine goesL_ (some 7) rfl rfl Tryd.func47 (by kernel_rfl) rfl #[.string a0, .string a1] rfl (by (try simp only [List.map_toArray, List.map_cons, List.map_nil]); first | done | rfl | (simp only [List.length_drop, List.length_take]; rfl)) ?_; (with_reducible refine (stringslite_HasPrefix.calls a0 a1 t113 _ A3.out).mono ?_); rintro e w' ⟨rfl, ⟨nd, rfl⟩⟩; refine ⟨_, rfl, ?_⟩))
  go_ret
  exact ⟨by first | rfl | (simp; done) | (simp [*]; done), by repeat (first | exact Drawn0.refl _ | apply Drawn0.step)⟩

/-! strings_trimLeftByte: function 40 -/
def strings_trimLeftByte.l0 : Nat → ByteArray → Int → Option (ByteArray)
  | 0, _, _ => none
  | k + 1, x0, x1 => if (x0.size : Int) > 0 then (if 0 < (x0.size : Int) then (if (bt x0 0) = x1 then (if 1 ≤ (x0.size : Int) then (strings_trimLeftByte.l0 k (x0.extract 1 x0.size) x1) else (none)) else (some x0)) else (none)) else (some x0)
def strings_trimLeftByte.f (k : Nat) (a0 : ByteArray) (a1 : Int) : Option (ByteArray) := strings_trimLeftByte.l0 k a0 a1
theorem strings_trimLeftByte.mono_l : ∀ k, (∀ y0 y1, LeO (strings_trimLeftByte.l0 k y0 y1) (strings_trimLeftByte.l0 (k + 1) y0 y1))
  | 0 => fun _ _ r h => by simp [strings_trimLeftByte.l0] at h
  | k + 1 => by
    have ih0 := strings_trimLeftByte.mono_l k
    · intro y0 y1
      unfold strings_trimLeftByte.l0
      repeat' first
      | (with_reducible exact ih0 _ _)
      | (with_reducible exact LeO.refl _)
      | (with_reducible exact LeO.none _)
      | (with_reducible refine LeO.ite ?_ ?_)
      | (with_reducible refine LeO.bind ?_ (fun _ => ?_))
      | exact ih0 _ _
      | exact LeO.none _
      | refine LeO.ite ?_ ?_
      | refine LeO.bind ?_ (fun _ => ?_)
theorem strings_trimLeftByte.mono : ∀ a0 a1 k, LeO (strings_trimLeftByte.f k a0 a1) (strings_trimLeftByte.f (k + 1) a0 a1) := by
  intro a0 a1 k
  have ih0 := strings_trimLeftByte.mono_l k
  unfold strings_trimLeftByte.f
  repeat' first
      | (with_reducible exact ih0 _ _)
      | (with_reducible exact LeO.refl _)
      | (with_reducible exact LeO.none _)
      | (with_reducible refine LeO.ite ?_ ?_)
      | (with_reducible refine LeO.bind ?_ (fun _ => ?_))
      | exact ih0 _ _
      | exact LeO.none _
      | refine LeO.ite ?_ ?_
      | refine LeO.bind ?_ (fun _ => ?_)
set_option maxHeartbeats 8000000 in
set_option maxRecDepth 100000 in
theorem strings_trimLeftByte.calls (k : Nat) (a0 : ByteArray) (a1 : Int) (r : ByteArray) (w : World) (h : strings_trimLeftByte.f k a0 a1 = some r) :
    Calls Tryd.prog 40 #[.string a0, .int .u8 a1] w fun e w' => e = .returned (.string r) ∧ Drawn0 w w' := by
  have H : (strings_trimLeftByte.l0 k a0 a1) = some r := h
  clear h
  have H' := Aside0.mk H
  clear H
  go_enter Tryd.func40, Tryd.ntmps40
  go_wp2
  go_loopg [0] k (fun kq v0 w' => ∃ (x0_1 : ByteArray), v0 = .string x0_1 ∧ Aside0 (strings_trimLeftByte.l0 kq x0_1 a1 = some r) ∧ Aside0 (kq ≤ k) ∧ Drawn0 w w')
  case atStart => exact ⟨(a0), (by first | rfl | (simp; done) | (simp [*]; done)), H', ⟨Nat.le_refl _⟩, by repeat (first | exact Drawn0.refl _ | apply Drawn0.step)⟩
  case round =>
    clear H'
    try clear p2
    obtain ⟨x0_1, rfl, HA, HK1, ⟨m1, rfl⟩⟩ := hrel
    cases gk with
    | zero => exact absurd HA.out (by simp [strings_trimLeftByte.l0])
    | succ k1 =>
      have H := HA.out
      clear HA
      simp only [strings_trimLeftByte.l0] at H
      by_cases c3 : (x0_1.size : Int) > 0
      · rw [if_pos c3] at H
        have c3b0 : decide (0 < (x0_1.size : Int)) = true := decide_eq_true c3
        have c3b1 : decide (0 < x0_1.size) = true := decide_eq_true (by omega)
        clear c3
        by_cases c4 : 0 < (x0_1.size : Int)
        · rw [if_pos c4] at H
          have c4b0 : decide (0 < (x0_1.size : Int)) = true := decide_eq_true c4
          have c4b1 : decide (0 < x0_1.size) = true := decide_eq_true (by omega)
          clear c4
          by_cases c6 : (bt x0_1 0) = a1
          · rw [if_pos c6] at H
            have c6b0 : ((bt x0_1 0) == a1) = true := beq_iff_eq.mpr c6
            have c6b1 : ((bt x0_1 0) != a1) = false := bne_eq_false_iff_eq.mpr c6
            clear c6
            by_cases c7 : 1 ≤ (x0_1.size : Int)
            · rw [if_pos c7] at H
              have c7b0 := eq_true c7
              have c7b1 : decide (1 ≤ (x0_1.size : Int)) = true := decide_eq_true c7
              clear c7
              have H' := Aside0.mk H
              clear H
              have p5 : 0 ≤ (0 : Int) := (by omega)
              have q5 : 0 < x0_1.size := (by have : (0 : Int) < (x0_1.size : Int) := of_decide_eq_true (by first | (with_reducible assumption) | assumption); omega)
              have hx5 : ∀ h : 0 < x0_1.size, ((x0_1[0]'h).toNat : Int) = bt x0_1 0 := bt_at x0_1 0
              clear p5
              have qi5 : (0 < (x0_1.size : Int)) = True := eq_true (of_decide_eq_true (by first | (with_reducible assumption) | assumption))
              replace q5 := eq_true q5
              go_wp2
              go_roundg k1
              case measure => have := HK1.out; omega
              case rel => exact ⟨(x0_1.extract 1 x0_1.size), (by first | rfl | (simp; done) | (simp [*]; done)), H', ⟨by have := HK1.out; omega⟩, by repeat (first | exact Drawn0.refl _ | apply Drawn0.step)⟩
            · rw [if_neg c7] at H
              exact absurd H (by simp)
          · rw [if_neg c6] at H
            have c6b0 : ((bt x0_1 0) == a1) = false := beq_eq_false_iff_ne.mpr c6
            have c6b1 : ((bt x0_1 0) != a1) = true := bne_iff_ne.mpr c6
            obtain rfl := Option.some.inj H
            have p5 : 0 ≤ (0 : Int) := (by omega)
            have q5 : 0 < x0_1.size := (by have : (0 : Int) < (x0_1.size : Int) := of_decide_eq_true (by first | (with_reducible assumption) | assumption); omega)
            have hx5 : ∀ h : 0 < x0_1.size, ((x0_1[0]'h).toNat : Int) = bt x0_1 0 := bt_at x0_1 0
            clear p5
            have qi5 : (0 < (x0_1.size : Int)) = True := eq_true (of_decide_eq_true (by first | (with_reducible assumption) | assumption))
            replace q5 := eq_true q5
            go_wp2
            go_ret
            exact ⟨by first | rfl | (simp; done) | (simp [*]; done), by repeat (first | exact Drawn0.refl _ | apply Drawn0.step)⟩
        · rw [if_neg c4] at H
          exact absurd H (by simp)
      · rw [if_neg c3] at H
        have c3b0 : decide (0 < (x0_1.size : Int)) = false := decide_eq_false c3
        have c3b1 : decide (0 < x0_1.size) = false := decide_eq_false (by omega)
        clear c3
        obtain rfl := Option.some.inj H
        go_wp2
        go_ret
        exact ⟨by first | rfl | (simp; done) | (simp [*]; done), by repeat (first | exact Drawn0.refl _ | apply Drawn0.step)⟩

/-! strings_trimRightByte: function 41 -/
def strings_trimRightByte.l0 : Nat → ByteArray → Int → Option (ByteArray)
  | 0, _, _ => none
  | k + 1, x0, x1 => if (x0.size : Int) > 0 then (if 0 ≤ (wrap64 ((x0.size : Int) - 1)) then (if (wrap64 ((x0.size : Int) - 1)) < (x0.size : Int) then (if (bt x0 (wrap64 ((x0.size : Int) - 1))) = x1 then (if (wrap64 ((x0.size : Int) - 1)) ≤ (x0.size : Int) then (strings_trimRightByte.l0 k (x0.extract 0 ((wrap64 ((x0.size : Int) - 1)) : Int).toNat) x1) else (none)) else (some x0)) else (none)) else (none)) else (some x0)
def strings_trimRightByte.f (k : Nat) (a0 : ByteArray) (a1 : Int) : Option (ByteArray) := strings_trimRightByte.l0 k a0 a1
theorem strings_trimRightByte.mono_l : ∀ k, (∀ y0 y1, LeO (strings_trimRightByte.l0 k y0 y1) (strings_trimRightByte.l0 (k + 1) y0 y1))
  | 0 => fun _ _ r h => by simp [strings_trimRightByte.l0] at h
  | k + 1 => by
    have ih0 := strings_trimRightByte.mono_l k
    · intro y0 y1
      unfold strings_trimRightByte.l0
      repeat' first
      | (with_reducible exact ih0 _ _)
      | (with_reducible exact LeO.refl _)
      | (with_reducible exact LeO.none _)
      | (with_reducible refine LeO.ite ?_ ?_)
      | (with_reducible refine LeO.bind ?_ (fun _ => ?_))
      | exact ih0 _ _
      | exact LeO.none _
      | refine LeO.ite ?_ ?_
      | refine LeO.bind ?_ (fun _ => ?_)
theorem strings_trimRightByte.mono : ∀ a0 a1 k, LeO (strings_trimRightByte.f k a0 a1) (strings_trimRightByte.f (k + 1) a0 a1) := by
  intro a0 a1 k
  have ih0 := strings_trimRightByte.mono_l k
  unfold strings_trimRightByte.f
  repeat' first
      | (with_reducible exact ih0 _ _)
      | (with_reducible exact LeO.refl _)
      | (with_reducible exact LeO.none _)
      | (with_reducible refine LeO.ite ?_ ?_)
      | (with_reducible refine LeO.bind ?_ (fun _ => ?_))
      | exact ih0 _ _
      | exact LeO.none _
      | refine LeO.ite ?_ ?_
      | refine LeO.bind ?_ (fun _ => ?_)
set_option maxHeartbeats 8000000 in
set_option maxRecDepth 100000 in
theorem strings_trimRightByte.calls (k : Nat) (a0 : ByteArray) (a1 : Int) (r : ByteArray) (w : World) (h : strings_trimRightByte.f k a0 a1 = some r) :
    Calls Tryd.prog 41 #[.string a0, .int .u8 a1] w fun e w' => e = .returned (.string r) ∧ Drawn0 w w' := by
  have H : (strings_trimRightByte.l0 k a0 a1) = some r := h
  clear h
  have H' := Aside0.mk H
  clear H
  go_enter Tryd.func41, Tryd.ntmps41
  go_wp2
  go_loopg [0] k (fun kq v0 w' => ∃ (x0_1 : ByteArray), v0 = .string x0_1 ∧ Aside0 (strings_trimRightByte.l0 kq x0_1 a1 = some r) ∧ Aside0 (kq ≤ k) ∧ Drawn0 w w')
  case atStart => exact ⟨(a0), (by first | rfl | (simp; done) | (simp [*]; done)), H', ⟨Nat.le_refl _⟩, by repeat (first | exact Drawn0.refl _ | apply Drawn0.step)⟩
  case round =>
    clear H'
    try clear p2
    obtain ⟨x0_1, rfl, HA, HK1, ⟨m1, rfl⟩⟩ := hrel
    cases gk with
    | zero => exact absurd HA.out (by simp [strings_trimRightByte.l0])
    | succ k1 =>
      have H := HA.out
      clear HA
      simp only [strings_trimRightByte.l0] at H
      by_cases c3 : (x0_1.size : Int) > 0
      · rw [if_pos c3] at H
        have c3b0 : decide (0 < (x0_1.size : Int)) = true := decide_eq_true c3
        have c3b1 : decide (0 < x0_1.size) = true := decide_eq_true (by omega)
        clear c3
        obtain ⟨ji4, hji4⟩ : ∃ j_ : Int, (wrap64 ((x0_1.size : Int) - 1)) = j_ := ⟨_, rfl⟩
        replace H : (if 0 ≤ (ji4) then (if (ji4) < (x0_1.size : Int) then (if (bt x0_1 (ji4)) = a1 then (if (ji4) ≤ (x0_1.size : Int) then (strings_trimRightByte.l0 k1 (x0_1.extract 0 ((ji4) : Int).toNat) a1) else (none)) else (some x0_1)) else (none)) else (none)) = some r := by first | (rw [hji4] at H; exact H) | (simp only [hji4] at H ⊢; exact H)
        have hji4w : (IntKind.i64.wrap ((x0_1.size : Int) - 1)) = ji4 := (i64_w _).trans hji4
        by_cases c5 : 0 ≤ (ji4)
        · rw [if_pos c5] at H
          have c5b0 : decide (0 ≤ (ji4)) = true := decide_eq_true c5
          clear c5
          by_cases c6 : (ji4) < (x0_1.size : Int)
          · rw [if_pos c6] at H
            have c6b0 : decide ((ji4) < (x0_1.size : Int)) = true := decide_eq_true c6
            clear c6
            by_cases c8 : (bt x0_1 (ji4)) = a1
            · rw [if_pos c8] at H
              have c8b0 : ((bt x0_1 (ji4)) == a1) = true := beq_iff_eq.mpr c8
              have c8b1 : ((bt x0_1 (ji4)) != a1) = false := bne_eq_false_iff_eq.mpr c8
              clear c8
              have c9b0 := eq_true (of_decide_eq_true (by first | (with_reducible assumption) | assumption) : 0 ≤ (ji4))
              by_cases c10 : (ji4) ≤ (x0_1.size : Int)
              · rw [if_pos c10] at H
                have c10b0 := eq_true c10
                have c10b1 : decide ((ji4) ≤ (x0_1.size : Int)) = true := decide_eq_true c10
                clear c10
                have H' := Aside0.mk H
                clear H
                have p7 : 0 ≤ ((ji4) : Int) := of_decide_eq_true (by first | (with_reducible assumption) | assumption)
                have q7 : (ji4) < (x0_1.size : Int) := of_decide_eq_true (by first | (with_reducible assumption) | assumption)
                have hx7 := bt_at x0_1 (ji4)
                replace p7 := eq_true p7
                replace q7 := eq_true q7
                go_wp2
                go_roundg k1
                case measure => have := HK1.out; omega
                case rel => exact ⟨(x0_1.extract 0 ((ji4) : Int).toNat), (by first | rfl | (simp; done) | (simp only [← hji4] <;> (first | rfl | simp)) | (simp [*]; done)), H', ⟨by have := HK1.out; omega⟩, by repeat (first | exact Drawn0.refl _ | apply Drawn0.step)⟩
              · rw [if_neg c10] at H
                exact absurd H (by simp)
            · rw [if_neg c8] at H
              have c8b0 : ((bt x0_1 (ji4)) == a1) = false := beq_eq_false_iff_ne.mpr c8
              have c8b1 : ((bt x0_1 (ji4)) != a1) = true := bne_iff_ne.mpr c8
              obtain rfl := Option.some.inj H
              have p7 : 0 ≤ ((ji4) : Int) := of_decide_eq_true (by first | (with_reducible assumption) | assumption)
              have q7 : (ji4) < (x0_1.size : Int) := of_decide_eq_true (by first | (with_reducible assumption) | assumption)
              have hx7 := bt_at x0_1 (ji4)
              replace p7 := eq_true p7
              replace q7 := eq_true q7
              go_wp2
              go_ret
              exact ⟨by first | rfl | (simp; done) | (simp only [← hji4] <;> (first | rfl | simp)) | (simp [*]; done), by repeat (first | exact Drawn0.refl _ | apply Drawn0.step)⟩
          · rw [if_neg c6] at H
            exact absurd H (by simp)
        · rw [if_neg c5] at H
          exact absurd H (by simp)
      · rw [if_neg c3] at H
        have c3b0 : decide (0 < (x0_1.size : Int)) = false := decide_eq_false c3
        have c3b1 : decide (0 < x0_1.size) = false := decide_eq_false (by omega)
        clear c3
        obtain rfl := Option.some.inj H
        go_wp2
        go_ret
        exact ⟨by first | rfl | (simp; done) | (simp [*]; done), by repeat (first | exact Drawn0.refl _ | apply Drawn0.step)⟩

/-! ledger_Plates: function 24 -/
def ledger_Plates.f (a0 : ByteArray) : Option (Int) := if (a0.size : Int) < 1 then (some 0) else (if (a0.size : Int) > 65535 then (some 0) else (some (wrap64 (1 + (wrap64 (Int.tdiv (wrap64 ((wrap64 ((a0.size : Int) + 127)) - 1)) 127))))))
set_option maxHeartbeats 8000000 in
set_option maxRecDepth 100000 in
theorem ledger_Plates.calls (a0 : ByteArray) (r : Int) (w : World) (h : ledger_Plates.f a0 = some r) :
    Calls Tryd.prog 24 #[.string a0] w fun e w' => e = .returned (.int .i64 r) ∧ Drawn0 w w' := by
  have H : (if (a0.size : Int) < 1 then (some 0) else (if (a0.size : Int) > 65535 then (some 0) else (some (wrap64 (1 + (wrap64 (Int.tdiv (wrap64 ((wrap64 ((a0.size : Int) + 127)) - 1)) 127))))))) = some r := h
  clear h
  by_cases c2 : (a0.size : Int) < 1
  · rw [if_pos c2] at H
    have c2b0 : decide ((a0.size : Int) < 1) = true := decide_eq_true c2
    have c2b1 : decide (a0.size < 1) = true := decide_eq_true (by omega)
    clear c2
    obtain rfl := Option.some.inj H
    go_enter Tryd.func24, Tryd.ntmps24
    go_wp2
    go_ret
    exact ⟨by first | rfl | (simp; done) | (simp [*]; done), by repeat (first | exact Drawn0.refl _ | apply Drawn0.step)⟩
  · rw [if_neg c2] at H
    have c2b0 : decide ((a0.size : Int) < 1) = false := decide_eq_false c2
    have c2b1 : decide (a0.size < 1) = false := decide_eq_false (by omega)
    clear c2
    by_cases c3 : (a0.size : Int) > 65535
    · rw [if_pos c3] at H
      have c3b0 : decide (65535 < (a0.size : Int)) = true := decide_eq_true c3
      have c3b1 : decide (65535 < a0.size) = true := decide_eq_true (by omega)
      clear c3
      obtain rfl := Option.some.inj H
      go_enter Tryd.func24, Tryd.ntmps24
      go_wp2
      go_ret
      exact ⟨by first | rfl | (simp; done) | (simp [*]; done), by repeat (first | exact Drawn0.refl _ | apply Drawn0.step)⟩
    · rw [if_neg c3] at H
      have c3b0 : decide (65535 < (a0.size : Int)) = false := decide_eq_false c3
      have c3b1 : decide (65535 < a0.size) = false := decide_eq_false (by omega)
      clear c3
      obtain rfl := Option.some.inj H
      go_enter Tryd.func24, Tryd.ntmps24
      go_wp2
      go_ret
      exact ⟨by first | rfl | (simp; done) | (simp [*]; done), by repeat (first | exact Drawn0.refl _ | apply Drawn0.step)⟩

/-! chancelref12_Same: function 10 -/
def chancelref12_Same.l0 : Nat → List ByteArray → List ByteArray → Int → Option (Bool)
  | 0, _, _, _ => none
  | k + 1, x0, x1, x5 => if x5 < (x0.length : Int) then (if 0 ≤ x5 then (if x5 < (x1.length : Int) then (if (rdOf ByteArray.empty x0 x5).toList = (rdOf ByteArray.empty x1 x5).toList then (chancelref12_Same.l0 k x0 x1 (wrap64 (x5 + 1))) else (some false)) else (none)) else (none)) else (some true)
def chancelref12_Same.f (k : Nat) (l0 : List ByteArray) (l1 : List ByteArray) : Option (Bool) := if (l0.length : Int) = (l1.length : Int) then (chancelref12_Same.l0 k l0 l1 0) else (some false)
theorem chancelref12_Same.mono_l : ∀ k, (∀ y0 y1 y2, LeO (chancelref12_Same.l0 k y0 y1 y2) (chancelref12_Same.l0 (k + 1) y0 y1 y2))
  | 0 => fun _ _ _ r h => by simp [chancelref12_Same.l0] at h
  | k + 1 => by
    have ih0 := chancelref12_Same.mono_l k
    · intro y0 y1 y2
      unfold chancelref12_Same.l0
      repeat' first
      | (with_reducible exact ih0 _ _ _)
      | (with_reducible exact LeO.refl _)
      | (with_reducible exact LeO.none _)
      | (with_reducible refine LeO.ite ?_ ?_)
      | (with_reducible refine LeO.bind ?_ (fun _ => ?_))
      | exact ih0 _ _ _
      | exact LeO.none _
      | refine LeO.ite ?_ ?_
      | refine LeO.bind ?_ (fun _ => ?_)
theorem chancelref12_Same.mono : ∀ a0 a1 k, LeO (chancelref12_Same.f k a0 a1) (chancelref12_Same.f (k + 1) a0 a1) := by
  intro a0 a1 k
  have ih0 := chancelref12_Same.mono_l k
  unfold chancelref12_Same.f
  repeat' first
      | (with_reducible exact ih0 _ _ _)
      | (with_reducible exact LeO.refl _)
      | (with_reducible exact LeO.none _)
      | (with_reducible refine LeO.ite ?_ ?_)
      | (with_reducible refine LeO.bind ?_ (fun _ => ?_))
      | exact ih0 _ _ _
      | exact LeO.none _
      | refine LeO.ite ?_ ?_
      | refine LeO.bind ?_ (fun _ => ?_)
set_option maxHeartbeats 8000000 in
set_option maxRecDepth 100000 in
theorem chancelref12_Same.calls (k : Nat) (A0 : Option Addr) (c0 : Nat) (l0 : List ByteArray) (A1 : Option Addr) (c1 : Nat) (l1 : List ByteArray) (r : Bool) (w : World) (hr0 : Kd.C Kd.string w A0 l0.length l0) (hc0 : l0.length ≤ c0) (hr1 : Kd.C Kd.string w A1 l1.length l1) (hc1 : l1.length ≤ c1) (h : chancelref12_Same.f k l0 l1 = some r) :
    Calls Tryd.prog 10 #[.slice A0 l0.length c0, .slice A1 l1.length c1] w fun e w' => e = .returned (.bool r) ∧ Drawn0 w w' := by
  have HR0 := Aside0.mk hr0
  have HC0 := Aside0.mk hc0
  clear hr0 hc0
  have HR1 := Aside0.mk hr1
  have HC1 := Aside0.mk hc1
  clear hr1 hc1
  have H : (if (l0.length : Int) = (l1.length : Int) then (chancelref12_Same.l0 k l0 l1 0) else (some false)) = some r := h
  clear h
  by_cases c3 : (l0.length : Int) = (l1.length : Int)
  · rw [if_pos c3] at H
    have c3b0 : ((l0.length : Int) == (l1.length : Int)) = true := beq_iff_eq.mpr c3
    have c3b1 : ((l0.length : Int) != (l1.length : Int)) = false := bne_eq_false_iff_eq.mpr c3
    have c3b2 : (l0.length == l1.length) = true := by first | simpa using c3 | (simp at c3 ⊢; omega)
    clear c3
    have H' := Aside0.mk H
    clear H
    go_enter Tryd.func10, Tryd.ntmps10
    go_wp2
    repeat (go_quiet (fail); try go_wp2)
    go_loopg [5] k (fun kq v5 w' => ∃ (x5_1 : Int), v5 = .int .i64 x5_1 ∧ Aside0 (chancelref12_Same.l0 kq l0 l1 x5_1 = some r) ∧ Aside0 (kq ≤ k) ∧ Drawn0 w w')
    case atStart => exact ⟨(0), (by first | rfl | (simp; done) | (simp [*]; done)), H', ⟨Nat.le_refl _⟩, by repeat (first | exact Drawn0.refl _ | apply Drawn0.step)⟩
    case round =>
      clear H'
      try clear c1
      try clear p2
      try clear c3
      try clear c3b0
      try clear c3b1
      try clear c3b2
      obtain ⟨x5_1, rfl, HA, HK1, ⟨m1, rfl⟩⟩ := hrel
      cases gk with
      | zero => exact absurd HA.out (by simp [chancelref12_Same.l0])
      | succ k1 =>
        have H := HA.out
        clear HA
        simp only [chancelref12_Same.l0] at H
        by_cases c4 : x5_1 < (l0.length : Int)
        · rw [if_pos c4] at H
          have c4b0 : decide (x5_1 < (l0.length : Int)) = true := decide_eq_true c4
          clear c4
          by_cases c5 : 0 ≤ x5_1
          · rw [if_pos c5] at H
            have c5b0 : decide (0 ≤ x5_1) = true := decide_eq_true c5
            clear c5
            by_cases c6 : x5_1 < (l1.length : Int)
            · rw [if_pos c6] at H
              have c6b0 : decide (x5_1 < (l1.length : Int)) = true := decide_eq_true c6
              clear c6
              by_cases c7 : (rdOf ByteArray.empty l0 x5_1).toList = (rdOf ByteArray.empty l1 x5_1).toList
              · rw [if_pos c7] at H
                have c7b0 : ((rdOf ByteArray.empty l0 x5_1).toList == (rdOf ByteArray.empty l1 x5_1).toList) = true := beq_iff_eq.mpr c7
                have c7b1 : ((rdOf ByteArray.empty l0 x5_1).toList != (rdOf ByteArray.empty l1 x5_1).toList) = false := bne_eq_false_iff_eq.mpr c7
                clear c7
                have H' := Aside0.mk H
                clear H
                have p239 : 0 ≤ (x5_1 : Int) := of_decide_eq_true (by first | (with_reducible assumption) | assumption)
                have q239 : x5_1 < (l0.length : Int) := of_decide_eq_true (by first | (with_reducible assumption) | assumption)
                obtain ⟨ad239, e239, hx239_0⟩ := Kd.at_string HR0.out x5_1 p239 q239
                cases e239
                replace p239 := eq_true p239
                replace q239 := eq_true q239
                have p240 : 0 ≤ (x5_1 : Int) := of_decide_eq_true (by first | (with_reducible assumption) | assumption)
                have q240 : x5_1 < (l1.length : Int) := of_decide_eq_true (by first | (with_reducible assumption) | assumption)
                obtain ⟨ad240, e240, hx240_0⟩ := Kd.at_string HR1.out x5_1 p240 q240
                cases e240
                replace p240 := eq_true p240
                replace q240 := eq_true q240
                go_wp2
                repeat (go_quiet (fail); try go_wp2)
                go_roundg k1
                case measure => have := HK1.out; omega
                case rel => exact ⟨(wrap64 (x5_1 + 1)), (by first | rfl | (simp; done) | (simp [*]; done)), H', ⟨by have := HK1.out; omega⟩, by repeat (first | exact Drawn0.refl _ | apply Drawn0.step)⟩
              · rw [if_neg c7] at H
                have c7b0 : ((rdOf ByteArray.empty l0 x5_1).toList == (rdOf ByteArray.empty l1 x5_1).toList) = false := beq_eq_false_iff_ne.mpr c7
                have c7b1 : ((rdOf ByteArray.empty l0 x5_1).toList != (rdOf ByteArray.empty l1 x5_1).toList) = true := bne_iff_ne.mpr c7
                obtain rfl := Option.some.inj H
                have p239 : 0 ≤ (x5_1 : Int) := of_decide_eq_true (by first | (with_reducible assumption) | assumption)
                have q239 : x5_1 < (l0.length : Int) := of_decide_eq_true (by first | (with_reducible assumption) | assumption)
                obtain ⟨ad239, e239, hx239_0⟩ := Kd.at_string HR0.out x5_1 p239 q239
                cases e239
                replace p239 := eq_true p239
                replace q239 := eq_true q239
                have p240 : 0 ≤ (x5_1 : Int) := of_decide_eq_true (by first | (with_reducible assumption) | assumption)
                have q240 : x5_1 < (l1.length : Int) := of_decide_eq_true (by first | (with_reducible assumption) | assumption)
                obtain ⟨ad240, e240, hx240_0⟩ := Kd.at_string HR1.out x5_1 p240 q240
                cases e240
                replace p240 := eq_true p240
                replace q240 := eq_true q240
                go_wp2
                repeat (go_quiet (fail); try go_wp2)
                go_ret
                exact ⟨by first | rfl | (simp; done) | (simp [*]; done), by repeat (first | exact Drawn0.refl _ | apply Drawn0.step)⟩
            · rw [if_neg c6] at H
              exact absurd H (by simp)
          · rw [if_neg c5] at H
            exact absurd H (by simp)
        · rw [if_neg c4] at H
          have c4b0 : decide (x5_1 < (l0.length : Int)) = false := decide_eq_false c4
          clear c4
          obtain rfl := Option.some.inj H
          go_wp2
          repeat (go_quiet (fail); try go_wp2)
          go_ret
          exact ⟨by first | rfl | (simp; done) | (simp [*]; done), by repeat (first | exact Drawn0.refl _ | apply Drawn0.step)⟩
  · rw [if_neg c3] at H
    have c3b0 : ((l0.length : Int) == (l1.length : Int)) = false := beq_eq_false_iff_ne.mpr c3
    have c3b1 : ((l0.length : Int) != (l1.length : Int)) = true := bne_iff_ne.mpr c3
    have c3b2 : (l0.length == l1.length) = false := by first | simpa using c3 | (simp at c3 ⊢; omega)
    obtain rfl := Option.some.inj H
    go_enter Tryd.func10, Tryd.ntmps10
    go_wp2
    repeat (go_quiet (fail); try go_wp2)
    go_ret
    exact ⟨by first | rfl | (simp; done) | (simp [*]; done), by repeat (first | exact Drawn0.refl _ | apply Drawn0.step)⟩

/-! chancelref17_Read: function 11 -/
mutual
def chancelref17_Read.l0 : Nat → List ByteArray → Int → Int → List ByteArray → Int → Int → Option (List ByteArray)
  | 0, _, _, _, _, _, _ => none
  | k + 1, x0, x2, x7, x8, x9, x10 => if 0 ≤ x9 then (if x9 < (x0.length : Int) then (if 0 < ((rdOf ByteArray.empty x0 x9).size : Int) then (if (bt (rdOf ByteArray.empty x0 x9) 0) = 72 then (chancelref17_Read.l1 k x0 x2 x7 x8 x9 x10 (rdOf ByteArray.empty x0 x9) 0 1) else (some x8)) else (none)) else (none)) else (none)
def chancelref17_Read.l1 : Nat → List ByteArray → Int → Int → List ByteArray → Int → Int → ByteArray → Int → Int → Option (List ByteArray)
  | 0, _, _, _, _, _, _, _, _, _ => none
  | k + 1, x0, x2, x7, x8, x9, x10, x11, x12, x13 => if x13 < 9 then (if x12 > 70368744177664 then (some x8) else (if 0 ≤ x13 then (if x13 < (x11.size : Int) then (chancelref17_Read.l1 k x0 x2 x7 x8 x9 x10 x11 (wrap64 ((wrap64 (x12 * 256)) + (wrap64 (bt x11 x13)))) (wrap64 (x13 + 1))) else (none)) else (none))) else (if 9 < (x11.size : Int) then (if 10 < (x11.size : Int) then (if x12 = (wrap64 (x2 + (x8.length : Int))) then (if x12 ≥ 1099511627776 then (chancelref17_Read.j2 k x0 x2 x7 x8 x9 x10 x11 (wrap64 ((wrap64 ((wrap64 (bt x11 9)) * 256)) + (wrap64 (bt x11 10)))) (wrap64 (1 + (wrap64 (Int.tdiv (wrap64 ((wrap64 ((wrap64 ((wrap64 (bt x11 9)) * 256)) + (wrap64 (bt x11 10)))) + 126)) 127)))) true) else (if (wrap64 ((wrap64 ((wrap64 (bt x11 9)) * 256)) + (wrap64 (bt x11 10)))) = 0 then (chancelref17_Read.j2 k x0 x2 x7 x8 x9 x10 x11 (wrap64 ((wrap64 ((wrap64 (bt x11 9)) * 256)) + (wrap64 (bt x11 10)))) (wrap64 (1 + (wrap64 (Int.tdiv (wrap64 ((wrap64 ((wrap64 ((wrap64 (bt x11 9)) * 256)) + (wrap64 (bt x11 10)))) + 126)) 127)))) true) else (chancelref17_Read.j2 k x0 x2 x7 x8 x9 x10 x11 (wrap64 ((wrap64 ((wrap64 (bt x11 9)) * 256)) + (wrap64 (bt x11 10)))) (wrap64 (1 + (wrap64 (Int.tdiv (wrap64 ((wrap64 ((wrap64 ((wrap64 (bt x11 9)) * 256)) + (wrap64 (bt x11 10)))) + 126)) 127)))) (decide ((wrap64 (1 + (wrap64 (Int.tdiv (wrap64 ((wrap64 ((wrap64 ((wrap64 (bt x11 9)) * 256)) + (wrap64 (bt x11 10)))) + 126)) 127)))) > x10))))) else (chancelref17_Read.j2 k x0 x2 x7 x8 x9 x10 x11 (wrap64 ((wrap64 ((wrap64 (bt x11 9)) * 256)) + (wrap64 (bt x11 10)))) (wrap64 (1 + (wrap64 (Int.tdiv (wrap64 ((wrap64 ((wrap64 ((wrap64 (bt x11 9)) * 256)) + (wrap64 (bt x11 10)))) + 126)) 127)))) true)) else (none)) else (none))
def chancelref17_Read.j2 : Nat → List ByteArray → Int → Int → List ByteArray → Int → Int → ByteArray → Int → Int → Bool → Option (List ByteArray)
  | 0, _, _, _, _, _, _, _, _, _, _ => none
  | k + 1, x0, x2, x7, x8, x9, x10, x11, x14, x15, x77 => if x77 = true then (some x8) else (chancelref17_Read.l2 k x0 x2 x7 x8 x9 x10 x11 x14 x15 11)
def chancelref17_Read.l2 : Nat → List ByteArray → Int → Int → List ByteArray → Int → Int → ByteArray → Int → Int → Int → Option (List ByteArray)
  | 0, _, _, _, _, _, _, _, _, _, _ => none
  | k + 1, x0, x2, x7, x8, x9, x10, x11, x14, x15, x16 => if x16 < 128 then (if 0 ≤ x16 then (if x16 < (x11.size : Int) then (if (bt x11 x16) = 0 then (chancelref17_Read.l2 k x0 x2 x7 x8 x9 x10 x11 x14 x15 (wrap64 (x16 + 1))) else (some x8)) else (none)) else (none)) else (chancelref17_Read.l3 k x0 x2 x7 x8 x9 x10 x14 x15 (⟨#[]⟩ : ByteArray) 1)
def chancelref17_Read.l3 : Nat → List ByteArray → Int → Int → List ByteArray → Int → Int → Int → Int → ByteArray → Int → Option (List ByteArray)
  | 0, _, _, _, _, _, _, _, _, _, _ => none
  | k + 1, x0, x2, x7, x8, x9, x10, x14, x15, x17, x18 => if x18 < x15 then (if x7 = 0 then (none) else (if 0 ≤ (Int.tmod (wrap64 (x9 + x18)) x7) then (if (Int.tmod (wrap64 (x9 + x18)) x7) < (x0.length : Int) then (if 0 < ((rdOf ByteArray.empty x0 (Int.tmod (wrap64 (x9 + x18)) x7)).size : Int) then (if (bt (rdOf ByteArray.empty x0 (Int.tmod (wrap64 (x9 + x18)) x7)) 0) = 66 then (if 1 ≤ ((rdOf ByteArray.empty x0 (Int.tmod (wrap64 (x9 + x18)) x7)).size : Int) then (if x17.size + ((rdOf ByteArray.empty x0 (Int.tmod (wrap64 (x9 + x18)) x7)).extract 1 (rdOf ByteArray.empty x0 (Int.tmod (wrap64 (x9 + x18)) x7)).size).size ≤ 9223372036854775807 then (chancelref17_Read.l3 k x0 x2 x7 x8 x9 x10 x14 x15 (x17 ++ ((rdOf ByteArray.empty x0 (Int.tmod (wrap64 (x9 + x18)) x7)).extract 1 (rdOf ByteArray.empty x0 (Int.tmod (wrap64 (x9 + x18)) x7)).size)) (wrap64 (x18 + 1))) else (none)) else (none)) else (some x8)) else (none)) else (none)) else (none))) else (chancelref17_Read.l4 k x0 x2 x7 x8 x9 x10 x14 x15 x17 x14)
def chancelref17_Read.l4 : Nat → List ByteArray → Int → Int → List ByteArray → Int → Int → Int → Int → ByteArray → Int → Option (List ByteArray)
  | 0, _, _, _, _, _, _, _, _, _, _ => none
  | k + 1, x0, x2, x7, x8, x9, x10, x14, x15, x17, x20 => if x20 < (x17.size : Int) then (if 0 ≤ x20 then (if (bt x17 x20) = 0 then (chancelref17_Read.l4 k x0 x2 x7 x8 x9 x10 x14 x15 x17 (wrap64 (x20 + 1))) else (some x8)) else (none)) else (if 0 ≤ x14 then (if x14 ≤ (x17.size : Int) then (if x8.length < 8796093022208 then ((some (x8 ++ [x17.extract 0 (x14 : Int).toNat] : List ByteArray)).bind fun y243 => (if x7 = 0 then (none) else (if (wrap64 (x10 - x15)) = 0 then (some y243) else (chancelref17_Read.l0 k x0 x2 x7 y243 (Int.tmod (wrap64 (x9 + x15)) x7) (wrap64 (x10 - x15)))))) else (none)) else (none)) else (none))
end
def chancelref17_Read.f (k : Nat) (l0 : List ByteArray) (a1 : Int) (a2 : Int) : Option (List ByteArray) := chancelref17_Read.l0 k l0 a2 (l0.length : Int) ([] : List ByteArray) a1 (l0.length : Int)
theorem chancelref17_Read.mono_l : ∀ k, (∀ y0 y1 y2 y3 y4 y5, LeO (chancelref17_Read.l0 k y0 y1 y2 y3 y4 y5) (chancelref17_Read.l0 (k + 1) y0 y1 y2 y3 y4 y5)) ∧ (∀ y0 y1 y2 y3 y4 y5 y6 y7 y8, LeO (chancelref17_Read.l1 k y0 y1 y2 y3 y4 y5 y6 y7 y8) (chancelref17_Read.l1 (k + 1) y0 y1 y2 y3 y4 y5 y6 y7 y8)) ∧ (∀ y0 y1 y2 y3 y4 y5 y6 y7 y8 y9, LeO (chancelref17_Read.j2 k y0 y1 y2 y3 y4 y5 y6 y7 y8 y9) (chancelref17_Read.j2 (k + 1) y0 y1 y2 y3 y4 y5 y6 y7 y8 y9)) ∧ (∀ y0 y1 y2 y3 y4 y5 y6 y7 y8 y9, LeO (chancelref17_Read.l2 k y0 y1 y2 y3 y4 y5 y6 y7 y8 y9) (chancelref17_Read.l2 (k + 1) y0 y1 y2 y3 y4 y5 y6 y7 y8 y9)) ∧ (∀ y0 y1 y2 y3 y4 y5 y6 y7 y8 y9, LeO (chancelref17_Read.l3 k y0 y1 y2 y3 y4 y5 y6 y7 y8 y9) (chancelref17_Read.l3 (k + 1) y0 y1 y2 y3 y4 y5 y6 y7 y8 y9)) ∧ (∀ y0 y1 y2 y3 y4 y5 y6 y7 y8 y9, LeO (chancelref17_Read.l4 k y0 y1 y2 y3 y4 y5 y6 y7 y8 y9) (chancelref17_Read.l4 (k + 1) y0 y1 y2 y3 y4 y5 y6 y7 y8 y9))
  | 0 => ⟨fun _ _ _ _ _ _ r h => by simp [chancelref17_Read.l0] at h, fun _ _ _ _ _ _ _ _ _ r h => by simp [chancelref17_Read.l1] at h, fun _ _ _ _ _ _ _ _ _ _ r h => by simp [chancelref17_Read.j2] at h, fun _ _ _ _ _ _ _ _ _ _ r h => by simp [chancelref17_Read.l2] at h, fun _ _ _ _ _ _ _ _ _ _ r h => by simp [chancelref17_Read.l3] at h, fun _ _ _ _ _ _ _ _ _ _ r h => by simp [chancelref17_Read.l4] at h⟩
  | k + 1 => by
    obtain ⟨ih0, ih1, ih2, ih3, ih4, ih5⟩ := chancelref17_Read.mono_l k
    refine ⟨?_, ?_, ?_, ?_, ?_, ?_⟩
    · intro y0 y1 y2 y3 y4 y5
      unfold chancelref17_Read.l0
      repeat' first
      | (with_reducible exact ih0 _ _ _ _ _ _)
      | (with_reducible exact ih1 _ _ _ _ _ _ _ _ _)
      | (with_reducible exact ih2 _ _ _ _ _ _ _ _ _ _)
      | (with_reducible exact ih3 _ _ _ _ _ _ _ _ _ _)
      | (with_reducible exact ih4 _ _ _ _ _ _ _ _ _ _)
      | (with_reducible exact ih5 _ _ _ _ _ _ _ _ _ _)
      | (with_reducible exact LeO.refl _)
      | (with_reducible exact LeO.none _)
      | (with_reducible refine LeO.ite ?_ ?_)
      | (with_reducible refine LeO.bind ?_ (fun _ => ?_))
      | exact ih0 _ _ _ _ _ _
      | exact ih1 _ _ _ _ _ _ _ _ _
      | exact ih2 _ _ _ _ _ _ _ _ _ _
      | exact ih3 _ _ _ _ _ _ _ _ _ _
      | exact ih4 _ _ _ _ _ _ _ _ _ _
      | exact ih5 _ _ _ _ _ _ _ _ _ _
      | exact LeO.none _
      | refine LeO.ite ?_ ?_
      | refine LeO.bind ?_ (fun _ => ?_)
    · intro y0 y1 y2 y3 y4 y5 y6 y7 y8
      unfold chancelref17_Read.l1
      repeat' first
      | (with_reducible exact ih0 _ _ _ _ _ _)
      | (with_reducible exact ih1 _ _ _ _ _ _ _ _ _)
      | (with_reducible exact ih2 _ _ _ _ _ _ _ _ _ _)
      | (with_reducible exact ih3 _ _ _ _ _ _ _ _ _ _)
      | (with_reducible exact ih4 _ _ _ _ _ _ _ _ _ _)
      | (with_reducible exact ih5 _ _ _ _ _ _ _ _ _ _)
      | (with_reducible exact LeO.refl _)
      | (with_reducible exact LeO.none _)
      | (with_reducible refine LeO.ite ?_ ?_)
      | (with_reducible refine LeO.bind ?_ (fun _ => ?_))
      | exact ih0 _ _ _ _ _ _
      | exact ih1 _ _ _ _ _ _ _ _ _
      | exact ih2 _ _ _ _ _ _ _ _ _ _
      | exact ih3 _ _ _ _ _ _ _ _ _ _
      | exact ih4 _ _ _ _ _ _ _ _ _ _
      | exact ih5 _ _ _ _ _ _ _ _ _ _
      | exact LeO.none _
      | refine LeO.ite ?_ ?_
      | refine LeO.bind ?_ (fun _ => ?_)
    · intro y0 y1 y2 y3 y4 y5 y6 y7 y8 y9
      unfold chancelref17_Read.j2
      repeat' first
      | (with_reducible exact ih0 _ _ _ _ _ _)
      | (with_reducible exact ih1 _ _ _ _ _ _ _ _ _)
      | (with_reducible exact ih2 _ _ _ _ _ _ _ _ _ _)
      | (with_reducible exact ih3 _ _ _ _ _ _ _ _ _ _)
      | (with_reducible exact ih4 _ _ _ _ _ _ _ _ _ _)
      | (with_reducible exact ih5 _ _ _ _ _ _ _ _ _ _)
      | (with_reducible exact LeO.refl _)
      | (with_reducible exact LeO.none _)
      | (with_reducible refine LeO.ite ?_ ?_)
      | (with_reducible refine LeO.bind ?_ (fun _ => ?_))
      | exact ih0 _ _ _ _ _ _
      | exact ih1 _ _ _ _ _ _ _ _ _
      | exact ih2 _ _ _ _ _ _ _ _ _ _
      | exact ih3 _ _ _ _ _ _ _ _ _ _
      | exact ih4 _ _ _ _ _ _ _ _ _ _
      | exact ih5 _ _ _ _ _ _ _ _ _ _
      | exact LeO.none _
      | refine LeO.ite ?_ ?_
      | refine LeO.bind ?_ (fun _ => ?_)
    · intro y0 y1 y2 y3 y4 y5 y6 y7 y8 y9
      unfold chancelref17_Read.l2
      repeat' first
      | (with_reducible exact ih0 _ _ _ _ _ _)
      | (with_reducible exact ih1 _ _ _ _ _ _ _ _ _)
      | (with_reducible exact ih2 _ _ _ _ _ _ _ _ _ _)
      | (with_reducible exact ih3 _ _ _ _ _ _ _ _ _ _)
      | (with_reducible exact ih4 _ _ _ _ _ _ _ _ _ _)
      | (with_reducible exact ih5 _ _ _ _ _ _ _ _ _ _)
      | (with_reducible exact LeO.refl _)
      | (with_reducible exact LeO.none _)
      | (with_reducible refine LeO.ite ?_ ?_)
      | (with_reducible refine LeO.bind ?_ (fun _ => ?_))
      | exact ih0 _ _ _ _ _ _
      | exact ih1 _ _ _ _ _ _ _ _ _
      | exact ih2 _ _ _ _ _ _ _ _ _ _
      | exact ih3 _ _ _ _ _ _ _ _ _ _
      | exact ih4 _ _ _ _ _ _ _ _ _ _
      | exact ih5 _ _ _ _ _ _ _ _ _ _
      | exact LeO.none _
      | refine LeO.ite ?_ ?_
      | refine LeO.bind ?_ (fun _ => ?_)
    · intro y0 y1 y2 y3 y4 y5 y6 y7 y8 y9
      unfold chancelref17_Read.l3
      repeat' first
      | (with_reducible exact ih0 _ _ _ _ _ _)
      | (with_reducible exact ih1 _ _ _ _ _ _ _ _ _)
      | (with_reducible exact ih2 _ _ _ _ _ _ _ _ _ _)
      | (with_reducible exact ih3 _ _ _ _ _ _ _ _ _ _)
      | (with_reducible exact ih4 _ _ _ _ _ _ _ _ _ _)
      | (with_reducible exact ih5 _ _ _ _ _ _ _ _ _ _)
      | (with_reducible exact LeO.refl _)
      | (with_reducible exact LeO.none _)
      | (with_reducible refine LeO.ite ?_ ?_)
      | (with_reducible refine LeO.bind ?_ (fun _ => ?_))
      | exact ih0 _ _ _ _ _ _
      | exact ih1 _ _ _ _ _ _ _ _ _
      | exact ih2 _ _ _ _ _ _ _ _ _ _
      | exact ih3 _ _ _ _ _ _ _ _ _ _
      | exact ih4 _ _ _ _ _ _ _ _ _ _
      | exact ih5 _ _ _ _ _ _ _ _ _ _
      | exact LeO.none _
      | refine LeO.ite ?_ ?_
      | refine LeO.bind ?_ (fun _ => ?_)
    · intro y0 y1 y2 y3 y4 y5 y6 y7 y8 y9
      unfold chancelref17_Read.l4
      repeat' first
      | (with_reducible exact ih0 _ _ _ _ _ _)
      | (with_reducible exact ih1 _ _ _ _ _ _ _ _ _)
      | (with_reducible exact ih2 _ _ _ _ _ _ _ _ _ _)
      | (with_reducible exact ih3 _ _ _ _ _ _ _ _ _ _)
      | (with_reducible exact ih4 _ _ _ _ _ _ _ _ _ _)
      | (with_reducible exact ih5 _ _ _ _ _ _ _ _ _ _)
      | (with_reducible exact LeO.refl _)
      | (with_reducible exact LeO.none _)
      | (with_reducible refine LeO.ite ?_ ?_)
      | (with_reducible refine LeO.bind ?_ (fun _ => ?_))
      | exact ih0 _ _ _ _ _ _
      | exact ih1 _ _ _ _ _ _ _ _ _
      | exact ih2 _ _ _ _ _ _ _ _ _ _
      | exact ih3 _ _ _ _ _ _ _ _ _ _
      | exact ih4 _ _ _ _ _ _ _ _ _ _
      | exact ih5 _ _ _ _ _ _ _ _ _ _
      | exact LeO.none _
      | refine LeO.ite ?_ ?_
      | refine LeO.bind ?_ (fun _ => ?_)
theorem chancelref17_Read.mono : ∀ a0 a1 a2 k, LeO (chancelref17_Read.f k a0 a1 a2) (chancelref17_Read.f (k + 1) a0 a1 a2) := by
  intro a0 a1 a2 k
  obtain ⟨ih0, ih1, ih2, ih3, ih4, ih5⟩ := chancelref17_Read.mono_l k
  unfold chancelref17_Read.f
  repeat' first
      | (with_reducible exact ih0 _ _ _ _ _ _)
      | (with_reducible exact ih1 _ _ _ _ _ _ _ _ _)
      | (with_reducible exact ih2 _ _ _ _ _ _ _ _ _ _)
      | (with_reducible exact ih3 _ _ _ _ _ _ _ _ _ _)
      | (with_reducible exact ih4 _ _ _ _ _ _ _ _ _ _)
      | (with_reducible exact ih5 _ _ _ _ _ _ _ _ _ _)
      | (with_reducible exact LeO.refl _)
      | (with_reducible exact LeO.none _)
      | (with_reducible refine LeO.ite ?_ ?_)
      | (with_reducible refine LeO.bind ?_ (fun _ => ?_))
      | exact ih0 _ _ _ _ _ _
      | exact ih1 _ _ _ _ _ _ _ _ _
      | exact ih2 _ _ _ _ _ _ _ _ _ _
      | exact ih3 _ _ _ _ _ _ _ _ _ _
      | exact ih4 _ _ _ _ _ _ _ _ _ _
      | exact ih5 _ _ _ _ _ _ _ _ _ _
      | exact LeO.none _
      | refine LeO.ite ?_ ?_
      | refine LeO.bind ?_ (fun _ => ?_)
set_option maxHeartbeats 8000000 in
set_option maxRecDepth 100000 in
theorem chancelref17_Read.calls (k : Nat) (A0 : Option Addr) (c0 : Nat) (l0 : List ByteArray) (a1 : Int) (a2 : Int) (r : List ByteArray) (w : World) (hr0 : Kd.C Kd.string w A0 l0.length l0) (hc0 : l0.length ≤ c0) (h : chancelref17_Read.f k l0 a1 a2 = some r) :
    Calls Tryd.prog 11 #[.slice A0 l0.length c0, .int .i64 a1, .int .i64 a2] w fun e w' => ∃ v0_ : Value, e = .returned (v0_) ∧ Kd.R Kd.string 9 w' w.heap.size (fun _ => True) v0_ r ∧ Below w.heap.size w w' := by
  have HR0 := Aside0.mk hr0
  have HC0 := Aside0.mk hc0
  clear hr0 hc0
  have HB := Aside0.mk (Below.refl w.heap.size w)
  have H : (chancelref17_Read.l0 k l0 a2 (l0.length : Int) ([] : List ByteArray) a1 (l0.length : Int)) = some r := h
  clear h
  have H' := Aside0.mk H
  clear H
  go_enter Tryd.func11, Tryd.ntmps11
  go_wp2
  repeat (go_quiet (fail); try go_wp2)
  go_loopg [8, 9, 10] k (fun kq v8 v9 v10 w' => ∃ (x8_1 : List ByteArray) (x9_1 : Int) (x10_1 : Int), v9 = .int .i64 x9_1 ∧ v10 = .int .i64 x10_1 ∧ Aside0 (chancelref17_Read.l0 kq l0 a2 (l0.length : Int) x8_1 x9_1 x10_1 = some r) ∧ Aside0 (kq ≤ k) ∧ Aside0 (Kd.R Kd.string 9 w' w.heap.size (fun _ => True) v8 x8_1) ∧ Aside0 (Below w.heap.size w w'))
  case atStart => exact ⟨(([] : List ByteArray)), (a1), ((l0.length : Int)), (by first | rfl | (simp; done) | (simp [*]; done)), (by first | rfl | (simp; done) | (simp [*]; done)), H', ⟨Nat.le_refl _⟩, ⟨by first | exact Kd.R_nil _ _ _ _ _ | exact Kd.N_nil _ _ _ _ _ | exact Kd.V_nil _ _ _ _ _ | exact Kd.Q_nil _ _ _ _ _ | exact Kd.S_nil _ _ _ _ _⟩, ⟨by repeat (first | (with_reducible first | exact HB.out | apply below_alloc | apply pw_below_drewN | apply below_drew1) | exact HB.out)⟩⟩
  case round =>
    clear H'
    try clear c1
    try clear p2
    obtain ⟨x8_1, x9_1, x10_1, rfl, rfl, HA, HK1, HO_8, HB⟩ := hrel
    cases gk with
    | zero => exact absurd HA.out (by simp [chancelref17_Read.l0])
    | succ k1 =>
      have H := HA.out
      clear HA
      simp only [chancelref17_Read.l0] at H
      by_cases c4 : 0 ≤ x9_1
      · rw [if_pos c4] at H
        have c4b0 : decide (0 ≤ x9_1) = true := decide_eq_true c4
        clear c4
        by_cases c5 : x9_1 < (l0.length : Int)
        · rw [if_pos c5] at H
          have c5b0 : decide (x9_1 < (l0.length : Int)) = true := decide_eq_true c5
          clear c5
          by_cases c6 : 0 < ((rdOf ByteArray.empty l0 x9_1).size : Int)
          · rw [if_pos c6] at H
            have c6b0 : decide (0 < ((rdOf ByteArray.empty l0 x9_1).size : Int)) = true := decide_eq_true c6
            have c6b1 : decide (0 < (rdOf ByteArray.empty l0 x9_1).size) = true := decide_eq_true (by omega)
            clear c6
            by_cases c8 : (bt (rdOf ByteArray.empty l0 x9_1) 0) = 72
            · rw [if_pos c8] at H
              have c8b0 : ((bt (rdOf ByteArray.empty l0 x9_1) 0) == 72) = true := beq_iff_eq.mpr c8
              have c8b1 : ((bt (rdOf ByteArray.empty l0 x9_1) 0) != 72) = false := bne_eq_false_iff_eq.mpr c8
              clear c8
              have H' := Aside0.mk H
              clear H
              have p241 : 0 ≤ (x9_1 : Int) := of_decide_eq_true (by first | (with_reducible assumption) | assumption)
              have q241 : x9_1 < (l0.length : Int) := of_decide_eq_true (by first | (with_reducible assumption) | assumption)
              obtain ⟨ad241, e241, hx241_0⟩ := Kd.at_string HR0.out x9_1 p241 q241
              cases e241
              replace hx241_0 := (HB.out.cell (World.block_lt_of_cell? w _ hx241_0)).trans hx241_0
              replace p241 := eq_true p241
              replace q241 := eq_true q241
              have p7 : 0 ≤ (0 : Int) := (by omega)
              have q7 : 0 < (rdOf ByteArray.empty l0 x9_1).size := (by have : (0 : Int) < ((rdOf ByteArray.empty l0 x9_1).size : Int) := of_decide_eq_true (by first | (with_reducible assumption) | assumption); omega)
              have hx7 : ∀ h : 0 < (rdOf ByteArray.empty l0 x9_1).size, (((rdOf ByteArray.empty l0 x9_1)[0]'h).toNat : Int) = bt (rdOf ByteArray.empty l0 x9_1) 0 := bt_at (rdOf ByteArray.empty l0 x9_1) 0
              clear p7
              have qi7 : (0 < ((rdOf ByteArray.empty l0 x9_1).size : Int)) = True := eq_true (of_decide_eq_true (by first | (with_reducible assumption) | assumption))
              replace q7 := eq_true q7
              go_wp2
              repeat (go_quiet (fail); try go_wp2)
              go_loopg [12, 13] k1 (fun kq v12 v13 w' => ∃ (x12_2 : Int) (x13_2 : Int), v12 = .int .i64 x12_2 ∧ v13 = .int .i64 x13_2 ∧ Aside0 (chancelref17_Read.l1 kq l0 a2 (l0.length : Int) x8_1 x9_1 x10_1 (rdOf ByteArray.empty l0 x9_1) x12_2 x13_2 = some r) ∧ Aside0 (kq ≤ k1) ∧ Aside0 (Kd.R Kd.string 9 w' w.heap.size (fun _ => True) u8 x8_1) ∧ Aside0 (Below w.heap.size w w'))
              case atStart => exact ⟨(0), (1), (by first | rfl | (simp; done) | (simp [*]; done)), (by first | rfl | (simp; done) | (simp [*]; done)), H', ⟨Nat.le_refl _⟩, ⟨by (with_reducible repeat (first | apply Kd.R_alloc | apply Kd.R_drewN | apply Kd.R_drew)); exact HO_8.out⟩, ⟨by repeat (first | (with_reducible first | exact HB.out | apply below_alloc | apply pw_below_drewN | apply below_drew1) | exact HB.out)⟩⟩
              case round =>
                clear H'
                try clear c1
                try clear p2
                try clear q2
                try clear hx2
                try clear c4
                try clear c4b0
                try clear c5
                try clear c5b0
                try clear c6
                try clear c6b0
                try clear c6b1
                try clear p7
                try clear q7
                try clear hx7
                try clear qi7
                try clear c8
                try clear c8b0
                try clear c8b1
                try clear hx241_0
                try clear p2
                try clear p241
                try clear p7
                try clear q241
                try clear q7
                obtain ⟨x12_2, x13_2, rfl, rfl, HA, HK2, HO_8, HB⟩ := hrel
                cases gk with
                | zero => exact absurd HA.out (by simp [chancelref17_Read.l1])
                | succ k2 =>
                  have H := HA.out
                  clear HA
                  simp only [chancelref17_Read.l1] at H
                  by_cases c9 : x13_2 < 9
                  · rw [if_pos c9] at H
                    have c9b0 : decide (x13_2 < 9) = true := decide_eq_true c9
                    clear c9
                    by_cases c10 : x12_2 > 70368744177664
                    · rw [if_pos c10] at H
                      have c10b0 : decide (70368744177664 < x12_2) = true := decide_eq_true c10
                      clear c10
                      obtain rfl := Option.some.inj H
                      go_wp2
                      repeat (go_quiet (fail); try go_wp2)
                      go_ret
                      exact ⟨_, by first | rfl | (simp [errW_none, errW_some] <;> rfl) | (simp [*, errW_none, errW_some] <;> rfl), by (with_reducible repeat (first | apply Kd.R_alloc | apply Kd.R_drewN | apply Kd.R_drew)); exact HO_8.out, by repeat (first | (with_reducible first | exact HB.out | apply below_alloc | apply pw_below_drewN | apply below_drew1) | exact HB.out)⟩
                    · rw [if_neg c10] at H
                      have c10b0 : decide (70368744177664 < x12_2) = false := decide_eq_false c10
                      clear c10
                      by_cases c11 : 0 ≤ x13_2
                      · rw [if_pos c11] at H
                        have c11b0 : decide (0 ≤ x13_2) = true := decide_eq_true c11
                        clear c11
                        by_cases c12 : x13_2 < ((rdOf ByteArray.empty l0 x9_1).size : Int)
                        · rw [if_pos c12] at H
                          have c12b0 : decide (x13_2 < ((rdOf ByteArray.empty l0 x9_1).size : Int)) = true := decide_eq_true c12
                          clear c12
                          have H' := Aside0.mk H
                          clear H
                          have p13 : 0 ≤ (x13_2 : Int) := of_decide_eq_true (by first | (with_reducible assumption) | assumption)
                          have q13 : x13_2 < ((rdOf ByteArray.empty l0 x9_1).size : Int) := of_decide_eq_true (by first | (with_reducible assumption) | assumption)
                          have hx13 := bt_at (rdOf ByteArray.empty l0 x9_1) x13_2
                          replace p13 := eq_true p13
                          replace q13 := eq_true q13
                          go_wp2
                          repeat (go_quiet (fail); try go_wp2)
                          go_roundg k2
                          case measure => have := HK1.out; have := HK2.out; omega
                          case rel => exact ⟨(wrap64 ((wrap64 (x12_2 * 256)) + (wrap64 (bt (rdOf ByteArray.empty l0 x9_1) x13_2)))), (wrap64 (x13_2 + 1)), (by first | rfl | (simp; done) | (simp [*]; done)), (by first | rfl | (simp; done) | (simp [*]; done)), H', ⟨by have := HK1.out; have := HK2.out; omega⟩, ⟨by (with_reducible repeat (first | apply Kd.R_alloc | apply Kd.R_drewN | apply Kd.R_drew)); exact HO_8.out⟩, ⟨by repeat (first | (with_reducible first | exact HB.out | apply below_alloc | apply pw_below_drewN | apply below_drew1) | exact HB.out)⟩⟩
                        · rw [if_neg c12] at H
                          exact absurd H (by simp)
                      · rw [if_neg c11] at H
                        exact absurd H (by simp)
                  · rw [if_neg c9] at H
                    have c9b0 : decide (x13_2 < 9) = false := decide_eq_false c9
                    clear c9
                    by_cases c14 : 9 < ((rdOf ByteArray.empty l0 x9_1).size : Int)
                    · rw [if_pos c14] at H
                      have c14b0 : decide (9 < ((rdOf ByteArray.empty l0 x9_1).size : Int)) = true := decide_eq_true c14
                      have c14b1 : decide (9 < (rdOf ByteArray.empty l0 x9_1).size) = true := decide_eq_true (by omega)
                      clear c14
                      by_cases c16 : 10 < ((rdOf ByteArray.empty l0 x9_1).size : Int)
                      · rw [if_pos c16] at H
                        have c16b0 : decide (10 < ((rdOf ByteArray.empty l0 x9_1).size : Int)) = true := decide_eq_true c16
                        have c16b1 : decide (10 < (rdOf ByteArray.empty l0 x9_1).size) = true := decide_eq_true (by omega)
                        clear c16
                        have HC18 := Aside0.mk H
                        clear H
                        have p15 : 0 ≤ (9 : Int) := (by omega)
                        have q15 : 9 < (rdOf ByteArray.empty l0 x9_1).size := (by have : (9 : Int) < ((rdOf ByteArray.empty l0 x9_1).size : Int) := of_decide_eq_true (by first | (with_reducible assumption) | assumption); omega)
                        have hx15 : ∀ h : 9 < (rdOf ByteArray.empty l0 x9_1).size, (((rdOf ByteArray.empty l0 x9_1)[9]'h).toNat : Int) = bt (rdOf ByteArray.empty l0 x9_1) 9 := bt_at (rdOf ByteArray.empty l0 x9_1) 9
                        clear p15
                        have qi15 : (9 < ((rdOf ByteArray.empty l0 x9_1).size : Int)) = True := eq_true (of_decide_eq_true (by first | (with_reducible assumption) | assumption))
                        replace q15 := eq_true q15
                        have p17 : 0 ≤ (10 : Int) := (by omega)
                        have q17 : 10 < (rdOf ByteArray.empty l0 x9_1).size := (by have : (10 : Int) < ((rdOf ByteArray.empty l0 x9_1).size : Int) := of_decide_eq_true (by first | (with_reducible assumption) | assumption); omega)
                        have hx17 : ∀ h : 10 < (rdOf ByteArray.empty l0 x9_1).size, (((rdOf ByteArray.empty l0 x9_1)[10]'h).toNat : Int) = bt (rdOf ByteArray.empty l0 x9_1) 10 := bt_at (rdOf ByteArray.empty l0 x9_1) 10
                        clear p17
                        have qi17 : (10 < ((rdOf ByteArray.empty l0 x9_1).size : Int)) = True := eq_true (of_decide_eq_true (by first | (with_reducible assumption) | assumption))
                        replace q17 := eq_true q17
                        go_upto_region 17 with (fail)
                        repeat (go_quiet (fail); go_upto_region 17 with (fail))
                        go_cut [77] (fun v77 wc => ∃ (kq : Nat) (x77_17 : Bool), v77 = .bool x77_17 ∧ Aside0 (chancelref17_Read.j2 kq l0 a2 (l0.length : Int) x8_1 x9_1 x10_1 (rdOf ByteArray.empty l0 x9_1) (wrap64 ((wrap64 ((wrap64 (bt (rdOf ByteArray.empty l0 x9_1) 9)) * 256)) + (wrap64 (bt (rdOf ByteArray.empty l0 x9_1) 10)))) (wrap64 (1 + (wrap64 (Int.tdiv (wrap64 ((wrap64 ((wrap64 ((wrap64 (bt (rdOf ByteArray.empty l0 x9_1) 9)) * 256)) + (wrap64 (bt (rdOf ByteArray.empty l0 x9_1) 10)))) + 126)) 127)))) x77_17 = some r) ∧ Aside0 (kq ≤ k2) ∧ Aside0 (Kd.R Kd.string 9 wc w.heap.size (fun _ => True) u8 x8_1) ∧ Aside0 (Below w.heap.size w wc))
                        case first =>
                          have H := HC18.out
                          clear HC18
                          by_cases c19 : x12_2 = (wrap64 (a2 + (x8_1.length : Int)))
                          · rw [if_pos c19] at H
                            have c19b0 : (x12_2 == (wrap64 (a2 + (x8_1.length : Int)))) = true := beq_iff_eq.mpr c19
                            have c19b1 : (x12_2 != (wrap64 (a2 + (x8_1.length : Int)))) = false := bne_eq_false_iff_eq.mpr c19
                            clear c19
                            (first | rw [c19b0] | (simp only [i64_w, i32_w]; rw [c19b0]) | skip)
                            by_cases c20 : x12_2 ≥ 1099511627776
                            · rw [if_pos c20] at H
                              have c20b0 : decide (1099511627776 ≤ x12_2) = true := decide_eq_true c20
                              clear c20
                              have H' := Aside0.mk H
                              clear H
                              obtain ⟨Ao21, co21, eo21⟩ := Kd.R_slice HO_8.out
                              subst eo21
                              go_wp2
                              repeat (go_quiet (fail); try go_wp2)
                              go_meet
                              case rel => exact ⟨_, (true), (by first | rfl | (simp; done) | (simp [*]; done)), H', ⟨by have := HK1.out; have := HK2.out; first | omega | exact Nat.le_refl _⟩, ⟨by (with_reducible repeat (first | apply Kd.R_alloc | apply Kd.R_drewN | apply Kd.R_drew)); exact HO_8.out⟩, ⟨by repeat (first | (with_reducible first | exact HB.out | apply below_alloc | apply pw_below_drewN | apply below_drew1) | exact HB.out)⟩⟩
                            · rw [if_neg c20] at H
                              have c20b0 : decide (1099511627776 ≤ x12_2) = false := decide_eq_false c20
                              clear c20
                              by_cases c22 : (wrap64 ((wrap64 ((wrap64 (bt (rdOf ByteArray.empty l0 x9_1) 9)) * 256)) + (wrap64 (bt (rdOf ByteArray.empty l0 x9_1) 10)))) = 0
                              · rw [if_pos c22] at H
                                have c22b0 : ((wrap64 ((wrap64 ((wrap64 (bt (rdOf ByteArray.empty l0 x9_1) 9)) * 256)) + (wrap64 (bt (rdOf ByteArray.empty l0 x9_1) 10)))) == 0) = true := beq_iff_eq.mpr c22
                                have c22b1 : ((wrap64 ((wrap64 ((wrap64 (bt (rdOf ByteArray.empty l0 x9_1) 9)) * 256)) + (wrap64 (bt (rdOf ByteArray.empty l0 x9_1) 10)))) != 0) = false := bne_eq_false_iff_eq.mpr c22
                                clear c22
                                have H' := Aside0.mk H
                                clear H
                                obtain ⟨Ao23, co23, eo23⟩ := Kd.R_slice HO_8.out
                                subst eo23
                                go_wp2
                                repeat (go_quiet (fail); try go_wp2)
                                go_meet
                                case rel => exact ⟨_, (true), (by first | rfl | (simp; done) | (simp [*]; done)), H', ⟨by have := HK1.out; have := HK2.out; first | omega | exact Nat.le_refl _⟩, ⟨by (with_reducible repeat (first | apply Kd.R_alloc | apply Kd.R_drewN | apply Kd.R_drew)); exact HO_8.out⟩, ⟨by repeat (first | (with_reducible first | exact HB.out | apply below_alloc | apply pw_below_drewN | apply below_drew1) | exact HB.out)⟩⟩
                              · rw [if_neg c22] at H
                                have c22b0 : ((wrap64 ((wrap64 ((wrap64 (bt (rdOf ByteArray.empty l0 x9_1) 9)) * 256)) + (wrap64 (bt (rdOf ByteArray.empty l0 x9_1) 10)))) == 0) = false := beq_eq_false_iff_ne.mpr c22
                                have c22b1 : ((wrap64 ((wrap64 ((wrap64 (bt (rdOf ByteArray.empty l0 x9_1) 9)) * 256)) + (wrap64 (bt (rdOf ByteArray.empty l0 x9_1) 10)))) != 0) = true := bne_iff_ne.mpr c22
                                have H' := Aside0.mk H
                                clear H
                                obtain ⟨Ao24, co24, eo24⟩ := Kd.R_slice HO_8.out
                                subst eo24
                                go_wp2
                                repeat (go_quiet (fail); try go_wp2)
                                go_meet
                                case rel => exact ⟨_, (decide ((wrap64 (1 + (wrap64 (Int.tdiv (wrap64 ((wrap64 ((wrap64 ((wrap64 (bt (rdOf ByteArray.empty l0 x9_1) 9)) * 256)) + (wrap64 (bt (rdOf ByteArray.empty l0 x9_1) 10)))) + 126)) 127)))) > x10_1)), (by first | rfl | (simp; done) | (simp [*]; done)), H', ⟨by have := HK1.out; have := HK2.out; first | omega | exact Nat.le_refl _⟩, ⟨by (with_reducible repeat (first | apply Kd.R_alloc | apply Kd.R_drewN | apply Kd.R_drew)); exact HO_8.out⟩, ⟨by repeat (first | (with_reducible first | exact HB.out | apply below_alloc | apply pw_below_drewN | apply below_drew1) | exact HB.out)⟩⟩
                          · rw [if_neg c19] at H
                            have c19b0 : (x12_2 == (wrap64 (a2 + (x8_1.length : Int)))) = false := beq_eq_false_iff_ne.mpr c19
                            have c19b1 : (x12_2 != (wrap64 (a2 + (x8_1.length : Int)))) = true := bne_iff_ne.mpr c19
                            (first | rw [c19b0] | (simp only [i64_w, i32_w]; rw [c19b0]) | skip)
                            have H' := Aside0.mk H
                            clear H
                            obtain ⟨Ao25, co25, eo25⟩ := Kd.R_slice HO_8.out
                            subst eo25
                            go_wp2
                            repeat (go_quiet (fail); try go_wp2)
                            go_meet
                            case rel => exact ⟨_, (true), (by first | rfl | (simp; done) | (simp [*]; done)), H', ⟨by have := HK1.out; have := HK2.out; first | omega | exact Nat.le_refl _⟩, ⟨by (with_reducible repeat (first | apply Kd.R_alloc | apply Kd.R_drewN | apply Kd.R_drew)); exact HO_8.out⟩, ⟨by repeat (first | (with_reducible first | exact HB.out | apply below_alloc | apply pw_below_drewN | apply below_drew1) | exact HB.out)⟩⟩
                        case rest =>
                          clear HC18
                          try clear c1
                          try clear p1
                          try clear q1
                          try clear hx1
                          try clear qi1
                          try clear c2
                          try clear p2
                          try clear q2
                          try clear hx2
                          try clear c4
                          try clear c4b0
                          try clear c5
                          try clear c5b0
                          try clear c6
                          try clear c6b0
                          try clear c6b1
                          try clear p6
                          try clear p7
                          try clear q7
                          try clear hx7
                          try clear qi7
                          try clear c8
                          try clear c8b0
                          try clear c8b1
                          try clear c9
                          try clear c9b0
                          try clear c10
                          try clear c10b0
                          try clear c11
                          try clear c11b0
                          try clear c12
                          try clear c12b0
                          try clear p13
                          try clear q13
                          try clear hx13
                          try clear c14
                          try clear c14b0
                          try clear c14b1
                          try clear p15
                          try clear q15
                          try clear hx15
                          try clear qi15
                          try clear c16
                          try clear c16b0
                          try clear c16b1
                          try clear p17
                          try clear q17
                          try clear hx17
                          try clear qi17
                          try clear c19
                          try clear c19b0
                          try clear c19b1
                          try clear c20
                          try clear c20b0
                          try clear c22
                          try clear c22b0
                          try clear c22b1
                          try clear p24
                          try clear q24
                          try clear hx24
                          try clear hx241_0
                          try clear p13
                          try clear p15
                          try clear p17
                          try clear p2
                          try clear p241
                          try clear p7
                          try clear q13
                          try clear q15
                          try clear q17
                          try clear q2
                          try clear q241
                          try clear q7
                          obtain ⟨kq, x77_17, rfl, HA, HJ17, HO_8, HB⟩ := hcut
                          cases kq with
                          | zero => exact absurd HA.out (by simp [chancelref17_Read.j2])
                          | succ kj17 =>
                            have H := HA.out
                            clear HA
                            simp only [chancelref17_Read.j2] at H
                            by_cases c26 : x77_17 = true
                            · subst c26
                              have H1 : (some x8_1) = some r := by rw [if_pos rfl] at H; exact H
                              clear H
                              have H := H1
                              clear H1
                              obtain rfl := Option.some.inj H
                              go_wp2
                              repeat (go_quiet (fail); try go_wp2)
                              go_ret
                              exact ⟨_, by first | rfl | (simp [errW_none, errW_some] <;> rfl) | (simp [*, errW_none, errW_some] <;> rfl), by (with_reducible repeat (first | apply Kd.R_alloc | apply Kd.R_drewN | apply Kd.R_drew)); exact HO_8.out, by repeat (first | (with_reducible first | exact HB.out | apply below_alloc | apply pw_below_drewN | apply below_drew1) | exact HB.out)⟩
                            · replace c26 := Bool.eq_false_iff.mpr c26
                              subst c26
                              have H1 : (chancelref17_Read.l2 kj17 l0 a2 (l0.length : Int) x8_1 x9_1 x10_1 (rdOf ByteArray.empty l0 x9_1) (wrap64 ((wrap64 ((wrap64 (bt (rdOf ByteArray.empty l0 x9_1) 9)) * 256)) + (wrap64 (bt (rdOf ByteArray.empty l0 x9_1) 10)))) (wrap64 (1 + (wrap64 (Int.tdiv (wrap64 ((wrap64 ((wrap64 ((wrap64 (bt (rdOf ByteArray.empty l0 x9_1) 9)) * 256)) + (wrap64 (bt (rdOf ByteArray.empty l0 x9_1) 10)))) + 126)) 127)))) 11) = some r := by rw [if_neg (show ¬ (false = true) by decide)] at H; exact H
                              clear H
                              have H := H1
                              clear H1
                              have H' := Aside0.mk H
                              clear H
                              go_wp2
                              repeat (go_quiet (fail); try go_wp2)
                              go_loopg [16] kj17 (fun kq v16 w' => ∃ (x16_4 : Int), v16 = .int .i64 x16_4 ∧ Aside0 (chancelref17_Read.l2 kq l0 a2 (l0.length : Int) x8_1 x9_1 x10_1 (rdOf ByteArray.empty l0 x9_1) (wrap64 ((wrap64 ((wrap64 (bt (rdOf ByteArray.empty l0 x9_1) 9)) * 256)) + (wrap64 (bt (rdOf ByteArray.empty l0 x9_1) 10)))) (wrap64 (1 + (wrap64 (Int.tdiv (wrap64 ((wrap64 ((wrap64 ((wrap64 (bt (rdOf ByteArray.empty l0 x9_1) 9)) * 256)) + (wrap64 (bt (rdOf ByteArray.empty l0 x9_1) 10)))) + 126)) 127)))) x16_4 = some r) ∧ Aside0 (kq ≤ kj17) ∧ Aside0 (Kd.R Kd.string 9 w' w.heap.size (fun _ => True) u8 x8_1) ∧ Aside0 (Below w.heap.size w w'))
                              case atStart => exact ⟨(11), (by first | rfl | (simp; done) | (simp [*]; done)), H', ⟨Nat.le_refl _⟩, ⟨by (with_reducible repeat (first | apply Kd.R_alloc | apply Kd.R_drewN | apply Kd.R_drew)); exact HO_8.out⟩, ⟨by repeat (first | (with_reducible first | exact HB.out | apply below_alloc | apply pw_below_drewN | apply below_drew1) | exact HB.out)⟩⟩
                              case round =>
                                clear H'
                                try clear c1
                                try clear p1
                                try clear q1
                                try clear hx1
                                try clear qi1
                                try clear c2
                                try clear p2
                                try clear q2
                                try clear hx2
                                try clear c4
                                try clear c4b0
                                try clear c5
                                try clear c5b0
                                try clear c6
                                try clear c6b0
                                try clear c6b1
                                try clear p6
                                try clear p7
                                try clear q7
                                try clear hx7
                                try clear qi7
                                try clear c8
                                try clear c8b0
                                try clear c8b1
                                try clear c9
                                try clear c9b0
                                try clear c10
                                try clear c10b0
                                try clear c11
                                try clear c11b0
                                try clear c12
                                try clear c12b0
                                try clear p13
                                try clear q13
                                try clear hx13
                                try clear c14
                                try clear c14b0
                                try clear c14b1
                                try clear p15
                                try clear q15
                                try clear hx15
                                try clear qi15
                                try clear c16
                                try clear c16b0
                                try clear c16b1
                                try clear p17
                                try clear q17
                                try clear hx17
                                try clear qi17
                                try clear c19
                                try clear c19b0
                                try clear c19b1
                                try clear c20
                                try clear c20b0
                                try clear c22
                                try clear c22b0
                                try clear c22b1
                                try clear p24
                                try clear q24
                                try clear hx24
                                try clear c26
                                try clear hx241_0
                                try clear p1
                                try clear p13
                                try clear p15
                                try clear p17
                                try clear p2
                                try clear p24
                                try clear p241
                                try clear p6
                                try clear p7
                                try clear q1
                                try clear q13
                                try clear q15
                                try clear q17
                                try clear q2
                                try clear q24
                                try clear q241
                                try clear q7
                                obtain ⟨x16_4, rfl, HA, HK4, HO_8, HB⟩ := hrel
                                cases gk with
                                | zero => exact absurd HA.out (by simp [chancelref17_Read.l2])
                                | succ k4 =>
                                  have H := HA.out
                                  clear HA
                                  simp only [chancelref17_Read.l2] at H
                                  by_cases c27 : x16_4 < 128
                                  · rw [if_pos c27] at H
                                    have c27b0 : decide (x16_4 < 128) = true := decide_eq_true c27
                                    clear c27
                                    by_cases c28 : 0 ≤ x16_4
                                    · rw [if_pos c28] at H
                                      have c28b0 : decide (0 ≤ x16_4) = true := decide_eq_true c28
                                      clear c28
                                      by_cases c29 : x16_4 < ((rdOf ByteArray.empty l0 x9_1).size : Int)
                                      · rw [if_pos c29] at H
                                        have c29b0 : decide (x16_4 < ((rdOf ByteArray.empty l0 x9_1).size : Int)) = true := decide_eq_true c29
                                        clear c29
                                        by_cases c31 : (bt (rdOf ByteArray.empty l0 x9_1) x16_4) = 0
                                        · rw [if_pos c31] at H
                                          have c31b0 : ((bt (rdOf ByteArray.empty l0 x9_1) x16_4) == 0) = true := beq_iff_eq.mpr c31
                                          have c31b1 : ((bt (rdOf ByteArray.empty l0 x9_1) x16_4) != 0) = false := bne_eq_false_iff_eq.mpr c31
                                          clear c31
                                          have H' := Aside0.mk H
                                          clear H
                                          have p30 : 0 ≤ (x16_4 : Int) := of_decide_eq_true (by first | (with_reducible assumption) | assumption)
                                          have q30 : x16_4 < ((rdOf ByteArray.empty l0 x9_1).size : Int) := of_decide_eq_true (by first | (with_reducible assumption) | assumption)
                                          have hx30 := bt_at (rdOf ByteArray.empty l0 x9_1) x16_4
                                          replace p30 := eq_true p30
                                          replace q30 := eq_true q30
                                          go_wp2
                                          repeat (go_quiet (fail); try go_wp2)
                                          go_roundg k4
                                          case measure => have := HK1.out; have := HK2.out; have := HJ17.out; have := HK4.out; omega
                                          case rel => exact ⟨(wrap64 (x16_4 + 1)), (by first | rfl | (simp; done) | (simp [*]; done)), H', ⟨by have := HK1.out; have := HK2.out; have := HJ17.out; have := HK4.out; omega⟩, ⟨by (with_reducible repeat (first | apply Kd.R_alloc | apply Kd.R_drewN | apply Kd.R_drew)); exact HO_8.out⟩, ⟨by repeat (first | (with_reducible first | exact HB.out | apply below_alloc | apply pw_below_drewN | apply below_drew1) | exact HB.out)⟩⟩
                                        · rw [if_neg c31] at H
                                          have c31b0 : ((bt (rdOf ByteArray.empty l0 x9_1) x16_4) == 0) = false := beq_eq_false_iff_ne.mpr c31
                                          have c31b1 : ((bt (rdOf ByteArray.empty l0 x9_1) x16_4) != 0) = true := bne_iff_ne.mpr c31
                                          obtain rfl := Option.some.inj H
                                          have p30 : 0 ≤ (x16_4 : Int) := of_decide_eq_true (by first | (with_reducible assumption) | assumption)
                                          have q30 : x16_4 < ((rdOf ByteArray.empty l0 x9_1).size : Int) := of_decide_eq_true (by first | (with_reducible assumption) | assumption)
                                          have hx30 := bt_at (rdOf ByteArray.empty l0 x9_1) x16_4
                                          replace p30 := eq_true p30
                                          replace q30 := eq_true q30
                                          go_wp2
                                          repeat (go_quiet (fail); try go_wp2)
                                          go_ret
                                          exact ⟨_, by first | rfl | (simp [errW_none, errW_some] <;> rfl) | (simp [*, errW_none, errW_some] <;> rfl), by (with_reducible repeat (first | apply Kd.R_alloc | apply Kd.R_drewN | apply Kd.R_drew)); exact HO_8.out, by repeat (first | (with_reducible first | exact HB.out | apply below_alloc | apply pw_below_drewN | apply below_drew1) | exact HB.out)⟩
                                      · rw [if_neg c29] at H
                                        exact absurd H (by simp)
                                    · rw [if_neg c28] at H
                                      exact absurd H (by simp)
                                  · rw [if_neg c27] at H
                                    have c27b0 : decide (x16_4 < 128) = false := decide_eq_false c27
                                    clear c27
                                    have H' := Aside0.mk H
                                    clear H
                                    go_wp2
                                    repeat (go_quiet (fail); try go_wp2)
                                    go_loopg [17, 18] k4 (fun kq v17 v18 w' => ∃ (x17_5 : ByteArray) (x18_5 : Int), v17 = .string x17_5 ∧ v18 = .int .i64 x18_5 ∧ Aside0 (chancelref17_Read.l3 kq l0 a2 (l0.length : Int) x8_1 x9_1 x10_1 (wrap64 ((wrap64 ((wrap64 (bt (rdOf ByteArray.empty l0 x9_1) 9)) * 256)) + (wrap64 (bt (rdOf ByteArray.empty l0 x9_1) 10)))) (wrap64 (1 + (wrap64 (Int.tdiv (wrap64 ((wrap64 ((wrap64 ((wrap64 (bt (rdOf ByteArray.empty l0 x9_1) 9)) * 256)) + (wrap64 (bt (rdOf ByteArray.empty l0 x9_1) 10)))) + 126)) 127)))) x17_5 x18_5 = some r) ∧ Aside0 (kq ≤ k4) ∧ Aside0 (Kd.R Kd.string 9 w' w.heap.size (fun _ => True) u8 x8_1) ∧ Aside0 (Below w.heap.size w w'))
                                    case atStart => exact ⟨((⟨#[]⟩ : ByteArray)), (1), (by first | rfl | (simp; done) | (simp [*]; done)), (by first | rfl | (simp; done) | (simp [*]; done)), H', ⟨Nat.le_refl _⟩, ⟨by (with_reducible repeat (first | apply Kd.R_alloc | apply Kd.R_drewN | apply Kd.R_drew)); exact HO_8.out⟩, ⟨by repeat (first | (with_reducible first | exact HB.out | apply below_alloc | apply pw_below_drewN | apply below_drew1) | exact HB.out)⟩⟩
                                    case round =>
                                      clear H'
                                      try clear c1
                                      try clear p1
                                      try clear q1
                                      try clear hx1
                                      try clear qi1
                                      try clear c2
                                      try clear p2
                                      try clear q2
                                      try clear hx2
                                      try clear c3
                                      try clear p3
                                      try clear q3
                                      try clear hx3
                                      try clear c4
                                      try clear c4b0
                                      try clear c5
                                      try clear c5b0
                                      try clear c6
                                      try clear c6b0
                                      try clear c6b1
                                      try clear p6
                                      try clear p7
                                      try clear q7
                                      try clear hx7
                                      try clear qi7
                                      try clear c8
                                      try clear c8b0
                                      try clear c8b1
                                      try clear c9
                                      try clear c9b0
                                      try clear c10
                                      try clear c10b0
                                      try clear c11
                                      try clear c11b0
                                      try clear c12
                                      try clear c12b0
                                      try clear p13
                                      try clear q13
                                      try clear hx13
                                      try clear c14
                                      try clear c14b0
                                      try clear c14b1
                                      try clear p15
                                      try clear q15
                                      try clear hx15
                                      try clear qi15
                                      try clear c16
                                      try clear c16b0
                                      try clear c16b1
                                      try clear p17
                                      try clear q17
                                      try clear hx17
                                      try clear qi17
                                      try clear c19
                                      try clear c19b0
                                      try clear c19b1
                                      try clear c20
                                      try clear c20b0
                                      try clear c22
                                      try clear c22b0
                                      try clear c22b1
                                      try clear p24
                                      try clear q24
                                      try clear hx24
                                      try clear c26
                                      try clear c27
                                      try clear c27b0
                                      try clear c28
                                      try clear c28b0
                                      try clear c29
                                      try clear c29b0
                                      try clear p30
                                      try clear q30
                                      try clear hx30
                                      try clear c31
                                      try clear c31b0
                                      try clear c31b1
                                      try clear hx241_0
                                      try clear p1
                                      try clear p13
                                      try clear p15
                                      try clear p17
                                      try clear p2
                                      try clear p24
                                      try clear p241
                                      try clear p30
                                      try clear p6
                                      try clear p7
                                      try clear q1
                                      try clear q13
                                      try clear q15
                                      try clear q17
                                      try clear q2
                                      try clear q24
                                      try clear q241
                                      try clear q30
                                      try clear q7
                                      obtain ⟨x17_5, x18_5, rfl, rfl, HA, HK5, HO_8, HB⟩ := hrel
                                      cases gk with
                                      | zero => exact absurd HA.out (by simp [chancelref17_Read.l3])
                                      | succ k5 =>
                                        have H := HA.out
                                        clear HA
                                        simp only [chancelref17_Read.l3] at H
                                        by_cases c32 : x18_5 < (wrap64 (1 + (wrap64 (Int.tdiv (wrap64 ((wrap64 ((wrap64 ((wrap64 (bt (rdOf ByteArray.empty l0 x9_1) 9)) * 256)) + (wrap64 (bt (rdOf ByteArray.empty l0 x9_1) 10)))) + 126)) 127))))
                                        · rw [if_pos c32] at H
                                          have c32b0 : decide (x18_5 < (wrap64 (1 + (wrap64 (Int.tdiv (wrap64 ((wrap64 ((wrap64 ((wrap64 (bt (rdOf ByteArray.empty l0 x9_1) 9)) * 256)) + (wrap64 (bt (rdOf ByteArray.empty l0 x9_1) 10)))) + 126)) 127))))) = true := decide_eq_true c32
                                          clear c32
                                          by_cases c33 : (l0.length : Int) = 0
                                          · rw [if_pos c33] at H
                                            exact absurd H (by simp)
                                          · rw [if_neg c33] at H
                                            have c33b0 : ((l0.length : Int) == 0) = false := beq_eq_false_iff_ne.mpr c33
                                            have c33b1 : ((l0.length : Int) != 0) = true := bne_iff_ne.mpr c33
                                            have c33b2 : ¬ (l0 = []) := fun h_ => c33 (by rw [h_]; rfl)
                                            obtain ⟨ji34, hji34⟩ : ∃ j_ : Int, (Int.tmod (wrap64 (x9_1 + x18_5)) (l0.length : Int)) = j_ := ⟨_, rfl⟩
                                            replace H : (if 0 ≤ (ji34) then (if (ji34) < (l0.length : Int) then (if 0 < ((rdOf ByteArray.empty l0 (ji34)).size : Int) then (if (bt (rdOf ByteArray.empty l0 (ji34)) 0) = 66 then (if 1 ≤ ((rdOf ByteArray.empty l0 (ji34)).size : Int) then (if x17_5.size + ((rdOf ByteArray.empty l0 (ji34)).extract 1 (rdOf ByteArray.empty l0 (ji34)).size).size ≤ 9223372036854775807 then (chancelref17_Read.l3 k5 l0 a2 (l0.length : Int) x8_1 x9_1 x10_1 (wrap64 ((wrap64 ((wrap64 (bt (rdOf ByteArray.empty l0 x9_1) 9)) * 256)) + (wrap64 (bt (rdOf ByteArray.empty l0 x9_1) 10)))) (wrap64 (1 + (wrap64 (Int.tdiv (wrap64 ((wrap64 ((wrap64 ((wrap64 (bt (rdOf ByteArray.empty l0 x9_1) 9)) * 256)) + (wrap64 (bt (rdOf ByteArray.empty l0 x9_1) 10)))) + 126)) 127)))) (x17_5 ++ ((rdOf ByteArray.empty l0 (ji34)).extract 1 (rdOf ByteArray.empty l0 (ji34)).size)) (wrap64 (x18_5 + 1))) else (none)) else (none)) else (some x8_1)) else (none)) else (none)) else (none)) = some r := by first | (rw [hji34] at H; exact H) | (simp only [hji34] at H ⊢; exact H)
                                            by_cases c35 : 0 ≤ (ji34)
                                            · rw [if_pos c35] at H
                                              have c35b0 : decide (0 ≤ (ji34)) = true := decide_eq_true c35
                                              clear c35
                                              by_cases c36 : (ji34) < (l0.length : Int)
                                              · rw [if_pos c36] at H
                                                have c36b0 : decide ((ji34) < (l0.length : Int)) = true := decide_eq_true c36
                                                clear c36
                                                by_cases c37 : 0 < ((rdOf ByteArray.empty l0 (ji34)).size : Int)
                                                · rw [if_pos c37] at H
                                                  have c37b0 : decide (0 < ((rdOf ByteArray.empty l0 (ji34)).size : Int)) = true := decide_eq_true c37
                                                  have c37b1 : decide (0 < (rdOf ByteArray.empty l0 (ji34)).size) = true := decide_eq_true (by omega)
                                                  clear c37
                                                  by_cases c39 : (bt (rdOf ByteArray.empty l0 (ji34)) 0) = 66
                                                  · rw [if_pos c39] at H
                                                    have c39b0 : ((bt (rdOf ByteArray.empty l0 (ji34)) 0) == 66) = true := beq_iff_eq.mpr c39
                                                    have c39b1 : ((bt (rdOf ByteArray.empty l0 (ji34)) 0) != 66) = false := bne_eq_false_iff_eq.mpr c39
                                                    clear c39
                                                    by_cases c40 : 1 ≤ ((rdOf ByteArray.empty l0 (ji34)).size : Int)
                                                    · rw [if_pos c40] at H
                                                      have c40b0 := eq_true c40
                                                      have c40b1 : decide (1 ≤ ((rdOf ByteArray.empty l0 (ji34)).size : Int)) = true := decide_eq_true c40
                                                      clear c40
                                                      by_cases c41 : x17_5.size + ((rdOf ByteArray.empty l0 (ji34)).extract 1 (rdOf ByteArray.empty l0 (ji34)).size).size ≤ 9223372036854775807
                                                      · rw [if_pos c41] at H
                                                        have c41b0 := eq_true c41
                                                        have c41b1 : decide (x17_5.size + ((rdOf ByteArray.empty l0 (ji34)).extract 1 (rdOf ByteArray.empty l0 (ji34)).size).size ≤ 9223372036854775807) = true := decide_eq_true c41
                                                        try have c41b2 : (9223372036854775807 < x17_5.size + ((rdOf ByteArray.empty l0 (ji34)).extract 1 (rdOf ByteArray.empty l0 (ji34)).size).size) = False := eq_false (Nat.not_lt.2 c41)
                                                        have H' := Aside0.mk H
                                                        clear H
                                                        have p242 : 0 ≤ ((ji34) : Int) := of_decide_eq_true (by first | (with_reducible assumption) | assumption)
                                                        have q242 : (ji34) < (l0.length : Int) := of_decide_eq_true (by first | (with_reducible assumption) | assumption)
                                                        obtain ⟨ad242, e242, hx242_0⟩ := Kd.at_string HR0.out (ji34) p242 q242
                                                        obtain rfl : ad241 = ad242 := (by injection e242)
                                                        replace hx242_0 := (HB.out.cell (World.block_lt_of_cell? w _ hx242_0)).trans hx242_0
                                                        replace p242 := eq_true p242
                                                        replace q242 := eq_true q242
                                                        have p38 : 0 ≤ (0 : Int) := (by omega)
                                                        have q38 : 0 < (rdOf ByteArray.empty l0 (ji34)).size := (by have : (0 : Int) < ((rdOf ByteArray.empty l0 (ji34)).size : Int) := of_decide_eq_true (by first | (with_reducible assumption) | assumption); omega)
                                                        have hx38 : ∀ h : 0 < (rdOf ByteArray.empty l0 (ji34)).size, (((rdOf ByteArray.empty l0 (ji34))[0]'h).toNat : Int) = bt (rdOf ByteArray.empty l0 (ji34)) 0 := bt_at (rdOf ByteArray.empty l0 (ji34)) 0
                                                        clear p38
                                                        have qi38 : (0 < ((rdOf ByteArray.empty l0 (ji34)).size : Int)) = True := eq_true (of_decide_eq_true (by first | (with_reducible assumption) | assumption))
                                                        replace q38 := eq_true q38
                                                        go_wp2
                                                        repeat (go_quiet (fail); try go_wp2)
                                                        go_roundg k5
                                                        case measure => have := HK1.out; have := HK2.out; have := HJ17.out; have := HK4.out; have := HK5.out; omega
                                                        case rel => exact ⟨(x17_5 ++ ((rdOf ByteArray.empty l0 (ji34)).extract 1 (rdOf ByteArray.empty l0 (ji34)).size)), (wrap64 (x18_5 + 1)), (by first | rfl | (simp; done) | (simp only [← hji34] <;> (first | rfl | simp)) | (simp [*]; done)), (by first | rfl | (simp; done) | (simp [*]; done)), H', ⟨by have := HK1.out; have := HK2.out; have := HJ17.out; have := HK4.out; have := HK5.out; omega⟩, ⟨by (with_reducible repeat (first | apply Kd.R_alloc | apply Kd.R_drewN | apply Kd.R_drew)); exact HO_8.out⟩, ⟨by repeat (first | (with_reducible first | exact HB.out | apply below_alloc | apply pw_below_drewN | apply below_drew1) | exact HB.out)⟩⟩
                                                      · rw [if_neg c41] at H
                                                        exact absurd H (by simp)
                                                    · rw [if_neg c40] at H
                                                      exact absurd H (by simp)
                                                  · rw [if_neg c39] at H
                                                    have c39b0 : ((bt (rdOf ByteArray.empty l0 (ji34)) 0) == 66) = false := beq_eq_false_iff_ne.mpr c39
                                                    have c39b1 : ((bt (rdOf ByteArray.empty l0 (ji34)) 0) != 66) = true := bne_iff_ne.mpr c39
                                                    obtain rfl := Option.some.inj H
                                                    have p242 : 0 ≤ ((ji34) : Int) := of_decide_eq_true (by first | (with_reducible assumption) | assumption)
                                                    have q242 : (ji34) < (l0.length : Int) := of_decide_eq_true (by first | (with_reducible assumption) | assumption)
                                                    obtain ⟨ad242, e242, hx242_0⟩ := Kd.at_string HR0.out (ji34) p242 q242
                                                    obtain rfl : ad241 = ad242 := (by injection e242)
                                                    replace hx242_0 := (HB.out.cell (World.block_lt_of_cell? w _ hx242_0)).trans hx242_0
                                                    replace p242 := eq_true p242
                                                    replace q242 := eq_true q242
                                                    have p38 : 0 ≤ (0 : Int) := (by omega)
                                                    have q38 : 0 < (rdOf ByteArray.empty l0 (ji34)).size := (by have : (0 : Int) < ((rdOf ByteArray.empty l0 (ji34)).size : Int) := of_decide_eq_true (by first | (with_reducible assumption) | assumption); omega)
                                                    have hx38 : ∀ h : 0 < (rdOf ByteArray.empty l0 (ji34)).size, (((rdOf ByteArray.empty l0 (ji34))[0]'h).toNat : Int) = bt (rdOf ByteArray.empty l0 (ji34)) 0 := bt_at (rdOf ByteArray.empty l0 (ji34)) 0
                                                    clear p38
                                                    have qi38 : (0 < ((rdOf ByteArray.empty l0 (ji34)).size : Int)) = True := eq_true (of_decide_eq_true (by first | (with_reducible assumption) | assumption))
                                                    replace q38 := eq_true q38
                                                    go_wp2
                                                    repeat (go_quiet (fail); try go_wp2)
                                                    go_ret
                                                    exact ⟨_, by first | rfl | (simp [errW_none, errW_some] <;> rfl) | (simp only [← hji34]; first | rfl | (simp [errW_none, errW_some] <;> rfl)) | (simp [*, errW_none, errW_some] <;> rfl), by (with_reducible repeat (first | apply Kd.R_alloc | apply Kd.R_drewN | apply Kd.R_drew)); exact HO_8.out, by repeat (first | (with_reducible first | exact HB.out | apply below_alloc | apply pw_below_drewN | apply below_drew1) | exact HB.out)⟩
                                                · rw [if_neg c37] at H
                                                  exact absurd H (by simp)
                                              · rw [if_neg c36] at H
                                                exact absurd H (by simp)
                                            · rw [if_neg c35] at H
                                              exact absurd H (by simp)
                                        · rw [if_neg c32] at H
                                          have c32b0 : decide (x18_5 < (wrap64 (1 + (wrap64 (Int.tdiv (wrap64 ((wrap64 ((wrap64 ((wrap64 (bt (rdOf ByteArray.empty l0 x9_1) 9)) * 256)) + (wrap64 (bt (rdOf ByteArray.empty l0 x9_1) 10)))) + 126)) 127))))) = false := decide_eq_false c32
                                          clear c32
                                          have H' := Aside0.mk H
                                          clear H
                                          go_wp2
                                          repeat (go_quiet (fail); try go_wp2)
                                          go_loopg [20] k5 (fun kq v20 w' => ∃ (x20_6 : Int), v20 = .int .i64 x20_6 ∧ Aside0 (chancelref17_Read.l4 kq l0 a2 (l0.length : Int) x8_1 x9_1 x10_1 (wrap64 ((wrap64 ((wrap64 (bt (rdOf ByteArray.empty l0 x9_1) 9)) * 256)) + (wrap64 (bt (rdOf ByteArray.empty l0 x9_1) 10)))) (wrap64 (1 + (wrap64 (Int.tdiv (wrap64 ((wrap64 ((wrap64 ((wrap64 (bt (rdOf ByteArray.empty l0 x9_1) 9)) * 256)) + (wrap64 (bt (rdOf ByteArray.empty l0 x9_1) 10)))) + 126)) 127)))) x17_5 x20_6 = some r) ∧ Aside0 (kq ≤ k5) ∧ Aside0 (Kd.R Kd.string 9 w' w.heap.size (fun _ => True) u8 x8_1) ∧ Aside0 (Below w.heap.size w w'))
                                          case atStart => exact ⟨((wrap64 ((wrap64 ((wrap64 (bt (rdOf ByteArray.empty l0 x9_1) 9)) * 256)) + (wrap64 (bt (rdOf ByteArray.empty l0 x9_1) 10))))), (by first | rfl | (simp; done) | (simp [*]; done)), H', ⟨Nat.le_refl _⟩, ⟨by (with_reducible repeat (first | apply Kd.R_alloc | apply Kd.R_drewN | apply Kd.R_drew)); exact HO_8.out⟩, ⟨by repeat (first | (with_reducible first | exact HB.out | apply below_alloc | apply pw_below_drewN | apply below_drew1) | exact HB.out)⟩⟩
                                          case round =>
                                            clear H'
                                            try clear c1
                                            try clear p1
                                            try clear q1
                                            try clear hx1
                                            try clear qi1
                                            try clear c2
                                            try clear p2
                                            try clear q2
                                            try clear hx2
                                            try clear c3
                                            try clear p3
                                            try clear q3
                                            try clear hx3
                                            try clear qi3
                                            try clear c4
                                            try clear c4b0
                                            try clear c5
                                            try clear c5b0
                                            try clear c6
                                            try clear c6b0
                                            try clear c6b1
                                            try clear p6
                                            try clear p7
                                            try clear q7
                                            try clear hx7
                                            try clear qi7
                                            try clear c8
                                            try clear c8b0
                                            try clear c8b1
                                            try clear c9
                                            try clear c9b0
                                            try clear c10
                                            try clear c10b0
                                            try clear c11
                                            try clear c11b0
                                            try clear c12
                                            try clear c12b0
                                            try clear p13
                                            try clear q13
                                            try clear hx13
                                            try clear c14
                                            try clear c14b0
                                            try clear c14b1
                                            try clear p15
                                            try clear q15
                                            try clear hx15
                                            try clear qi15
                                            try clear c16
                                            try clear c16b0
                                            try clear c16b1
                                            try clear p17
                                            try clear q17
                                            try clear hx17
                                            try clear qi17
                                            try clear c19
                                            try clear c19b0
                                            try clear c19b1
                                            try clear c20
                                            try clear c20b0
                                            try clear c22
                                            try clear c22b0
                                            try clear c22b1
                                            try clear p24
                                            try clear q24
                                            try clear hx24
                                            try clear c26
                                            try clear c27
                                            try clear c27b0
                                            try clear c28
                                            try clear c28b0
                                            try clear c29
                                            try clear c29b0
                                            try clear p30
                                            try clear q30
                                            try clear hx30
                                            try clear c31
                                            try clear c31b0
                                            try clear c31b1
                                            try clear c32
                                            try clear c32b0
                                            try clear c33
                                            try clear c33b0
                                            try clear c33b1
                                            try clear c33b2
                                            try clear c35
                                            try clear c35b0
                                            try clear c36
                                            try clear c36b0
                                            try clear c37
                                            try clear c37b0
                                            try clear c37b1
                                            try clear p38
                                            try clear q38
                                            try clear hx38
                                            try clear qi38
                                            try clear c39
                                            try clear c39b0
                                            try clear c39b1
                                            try clear c40
                                            try clear c40b0
                                            try clear c40b1
                                            try clear c41
                                            try clear c41b0
                                            try clear c41b1
                                            try clear c41b2
                                            try clear hx241_0
                                            try clear hx242_0
                                            try clear p1
                                            try clear p13
                                            try clear p15
                                            try clear p17
                                            try clear p2
                                            try clear p24
                                            try clear p241
                                            try clear p242
                                            try clear p3
                                            try clear p30
                                            try clear p38
                                            try clear p6
                                            try clear p7
                                            try clear q1
                                            try clear q13
                                            try clear q15
                                            try clear q17
                                            try clear q2
                                            try clear q24
                                            try clear q241
                                            try clear q242
                                            try clear q3
                                            try clear q30
                                            try clear q38
                                            try clear q7
                                            obtain ⟨x20_6, rfl, HA, HK6, HO_8, HB⟩ := hrel
                                            cases gk with
                                            | zero => exact absurd HA.out (by simp [chancelref17_Read.l4])
                                            | succ k6 =>
                                              have H := HA.out
                                              clear HA
                                              simp only [chancelref17_Read.l4] at H
                                              by_cases c42 : x20_6 < (x17_5.size : Int)
                                              · rw [if_pos c42] at H
                                                have c42b0 : decide (x20_6 < (x17_5.size : Int)) = true := decide_eq_true c42
                                                clear c42
                                                by_cases c43 : 0 ≤ x20_6
                                                · rw [if_pos c43] at H
                                                  have c43b0 : decide (0 ≤ x20_6) = true := decide_eq_true c43
                                                  clear c43
                                                  by_cases c45 : (bt x17_5 x20_6) = 0
                                                  · rw [if_pos c45] at H
                                                    have c45b0 : ((bt x17_5 x20_6) == 0) = true := beq_iff_eq.mpr c45
                                                    have c45b1 : ((bt x17_5 x20_6) != 0) = false := bne_eq_false_iff_eq.mpr c45
                                                    clear c45
                                                    have H' := Aside0.mk H
                                                    clear H
                                                    have p44 : 0 ≤ (x20_6 : Int) := of_decide_eq_true (by first | (with_reducible assumption) | assumption)
                                                    have q44 : x20_6 < (x17_5.size : Int) := of_decide_eq_true (by first | (with_reducible assumption) | assumption)
                                                    have hx44 := bt_at x17_5 x20_6
                                                    replace p44 := eq_true p44
                                                    replace q44 := eq_true q44
                                                    go_wp2
                                                    repeat (go_quiet (fail); try go_wp2)
                                                    go_roundg k6
                                                    case measure => have := HK1.out; have := HK2.out; have := HJ17.out; have := HK4.out; have := HK5.out; have := HK6.out; omega
                                                    case rel => exact ⟨(wrap64 (x20_6 + 1)), (by first | rfl | (simp; done) | (simp [*]; done)), H', ⟨by have := HK1.out; have := HK2.out; have := HJ17.out; have := HK4.out; have := HK5.out; have := HK6.out; omega⟩, ⟨by (with_reducible repeat (first | apply Kd.R_alloc | apply Kd.R_drewN | apply Kd.R_drew)); exact HO_8.out⟩, ⟨by repeat (first | (with_reducible first | exact HB.out | apply below_alloc | apply pw_below_drewN | apply below_drew1) | exact HB.out)⟩⟩
                                                  · rw [if_neg c45] at H
                                                    have c45b0 : ((bt x17_5 x20_6) == 0) = false := beq_eq_false_iff_ne.mpr c45
                                                    have c45b1 : ((bt x17_5 x20_6) != 0) = true := bne_iff_ne.mpr c45
                                                    obtain rfl := Option.some.inj H
                                                    have p44 : 0 ≤ (x20_6 : Int) := of_decide_eq_true (by first | (with_reducible assumption) | assumption)
                                                    have q44 : x20_6 < (x17_5.size : Int) := of_decide_eq_true (by first | (with_reducible assumption) | assumption)
                                                    have hx44 := bt_at x17_5 x20_6
                                                    replace p44 := eq_true p44
                                                    replace q44 := eq_true q44
                                                    go_wp2
                                                    repeat (go_quiet (fail); try go_wp2)
                                                    go_ret
                                                    exact ⟨_, by first | rfl | (simp [errW_none, errW_some] <;> rfl) | (simp [*, errW_none, errW_some] <;> rfl), by (with_reducible repeat (first | apply Kd.R_alloc | apply Kd.R_drewN | apply Kd.R_drew)); exact HO_8.out, by repeat (first | (with_reducible first | exact HB.out | apply below_alloc | apply pw_below_drewN | apply below_drew1) | exact HB.out)⟩
                                                · rw [if_neg c43] at H
                                                  exact absurd H (by simp)
                                              · rw [if_neg c42] at H
                                                have c42b0 : decide (x20_6 < (x17_5.size : Int)) = false := decide_eq_false c42
                                                clear c42
                                                obtain ⟨ji46, hji46⟩ : ∃ j_ : Int, (wrap64 ((wrap64 ((wrap64 (bt (rdOf ByteArray.empty l0 x9_1) 9)) * 256)) + (wrap64 (bt (rdOf ByteArray.empty l0 x9_1) 10)))) = j_ := ⟨_, rfl⟩
                                                replace H : (if 0 ≤ (ji46) then (if (ji46) ≤ (x17_5.size : Int) then (if x8_1.length < 8796093022208 then ((some (x8_1 ++ [x17_5.extract 0 ((ji46) : Int).toNat] : List ByteArray)).bind fun y243 => (if (l0.length : Int) = 0 then (none) else (if (wrap64 (x10_1 - (wrap64 (1 + (wrap64 (Int.tdiv (wrap64 ((ji46) + 126)) 127)))))) = 0 then (some y243) else (chancelref17_Read.l0 k6 l0 a2 (l0.length : Int) y243 (Int.tmod (wrap64 (x9_1 + (wrap64 (1 + (wrap64 (Int.tdiv (wrap64 ((ji46) + 126)) 127)))))) (l0.length : Int)) (wrap64 (x10_1 - (wrap64 (1 + (wrap64 (Int.tdiv (wrap64 ((ji46) + 126)) 127)))))))))) else (none)) else (none)) else (none)) = some r := by first | (rw [hji46] at H; exact H) | (simp only [hji46] at H ⊢; exact H)
                                                (try rw [hji46] at c32b0)
                                                have hji46w : (IntKind.i64.wrap ((wrap64 ((wrap64 (bt (rdOf ByteArray.empty l0 x9_1) 9)) * 256)) + (wrap64 (bt (rdOf ByteArray.empty l0 x9_1) 10)))) = ji46 := (i64_w _).trans hji46
                                                by_cases c47 : 0 ≤ (ji46)
                                                · rw [if_pos c47] at H
                                                  have c47b0 := eq_true c47
                                                  have c47b1 : decide (0 ≤ (ji46)) = true := decide_eq_true c47
                                                  clear c47
                                                  by_cases c48 : (ji46) ≤ (x17_5.size : Int)
                                                  · rw [if_pos c48] at H
                                                    have c48b0 := eq_true c48
                                                    have c48b1 : decide ((ji46) ≤ (x17_5.size : Int)) = true := decide_eq_true c48
                                                    clear c48
                                                    by_cases c49 : x8_1.length < 8796093022208
                                                    · rw [if_pos c49] at H
                                                      have LMc49 := Aside0.mk c49
                                                      clear c49
                                                      obtain ⟨y243, hy243⟩ : ∃ y_ : List ByteArray, y_ = (x8_1 ++ [x17_5.extract 0 ((ji46) : Int).toNat]) := ⟨_, rfl⟩
                                                      replace H : (if (l0.length : Int) = 0 then (none) else (if (wrap64 (x10_1 - (wrap64 (1 + (wrap64 (Int.tdiv (wrap64 ((ji46) + 126)) 127)))))) = 0 then (some y243) else (chancelref17_Read.l0 k6 l0 a2 (l0.length : Int) y243 (Int.tmod (wrap64 (x9_1 + (wrap64 (1 + (wrap64 (Int.tdiv (wrap64 ((ji46) + 126)) 127)))))) (l0.length : Int)) (wrap64 (x10_1 - (wrap64 (1 + (wrap64 (Int.tdiv (wrap64 ((ji46) + 126)) 127))))))))) = some r := by first | (rw [hy243]; with_reducible exact H) | (have H2_ := (Option.bind_some _ _).symm.trans H; rw [hy243]; with_reducible exact H2_) | (have H2_ := (Option.bind_some _ _).symm.trans H; with_reducible exact H2_) | with_reducible exact H | (rw [hy243]; exact H) | exact H
                                                      have Ny243 := Aside0.mk hy243
                                                      clear hy243
                                                      by_cases c50 : (l0.length : Int) = 0
                                                      · rw [if_pos c50] at H
                                                        exact absurd H (by simp)
                                                      · rw [if_neg c50] at H
                                                        have c50b0 : ((l0.length : Int) == 0) = false := beq_eq_false_iff_ne.mpr c50
                                                        have c50b1 : ((l0.length : Int) != 0) = true := bne_iff_ne.mpr c50
                                                        have c50b2 : ¬ (l0 = []) := fun h_ => c50 (by rw [h_]; rfl)
                                                        by_cases c51 : (wrap64 (x10_1 - (wrap64 (1 + (wrap64 (Int.tdiv (wrap64 ((ji46) + 126)) 127)))))) = 0
                                                        · rw [if_pos c51] at H
                                                          have c51b0 : ((wrap64 (x10_1 - (wrap64 (1 + (wrap64 (Int.tdiv (wrap64 ((ji46) + 126)) 127)))))) == 0) = true := beq_iff_eq.mpr c51
                                                          have c51b1 : ((wrap64 (x10_1 - (wrap64 (1 + (wrap64 (Int.tdiv (wrap64 ((ji46) + 126)) 127)))))) != 0) = false := bne_eq_false_iff_eq.mpr c51
                                                          clear c51
                                                          obtain rfl := Option.some.inj H
                                                          go_wp2_with (first | ((with_reducible refine gate_builtin (b := .append) (xs := #[.tmp 121, .tmp 125]) rfl ?_); at_builtin; refine Kd.R_append Kd.string (w0 := w) w.heap.size rfl (.tmp 121) (.tmp 125) 22 9 (.string ⟨#[]⟩) 16 rfl Tryd.underlying22 info9 rfl (by decide) (by omega) u8 x8_1 (x17_5.extract 0 ((ji46) : Int).toNat) [.string (x17_5.extract 0 ((ji46) : Int).toNat)] (fun _ => True) (fun _ => False) rfl rfl ?aP (fun _ hk => hk.elim) ?aF ?aO ?aB ?aS ?aL ?_; (case aP => exact rfl); (case aB => exact (by repeat (first | (with_reducible first | exact HB.out | apply below_alloc | apply pw_below_drewN | apply below_drew1) | exact HB.out))); (case aF => exact (fun _ _ => trivial)); (case aO => exact (by (with_reducible repeat (first | apply Kd.R_alloc | apply Kd.R_drewN | apply Kd.R_drew)); exact HO_8.out)); (case aS => exact (below_size (by repeat (first | (with_reducible first | exact HB.out | apply below_alloc | apply pw_below_drewN | apply below_drew1) | exact HB.out)))); (case aL => have := LMc49.out; omega); intro v244 w52 ho hb hg hat; rw [← Ny243.out] at ho; have n0_ := Aside0.mk (hb); have n1_ := Aside0.mk (ho); clear HB; clear HO_8; have HB := n0_; have HO245 := n1_; clear n0_ n1_; clear ho hb hg hat))
                                                          repeat (go_quiet (first | ((with_reducible refine gate_builtin (b := .append) (xs := #[.tmp 121, .tmp 125]) rfl ?_); at_builtin; refine Kd.R_append Kd.string (w0 := w) w.heap.size rfl (.tmp 121) (.tmp 125) 22 9 (.string ⟨#[]⟩) 16 rfl Tryd.underlying22 info9 rfl (by decide) (by omega) u8 x8_1 (x17_5.extract 0 ((ji46) : Int).toNat) [.string (x17_5.extract 0 ((ji46) : Int).toNat)] (fun _ => True) (fun _ => False) rfl rfl ?aP (fun _ hk => hk.elim) ?aF ?aO ?aB ?aS ?aL ?_; (case aP => exact rfl); (case aB => exact (by repeat (first | (with_reducible first | exact HB.out | apply below_alloc | apply pw_below_drewN | apply below_drew1) | exact HB.out))); (case aF => exact (fun _ _ => trivial)); (case aO => exact (by (with_reducible repeat (first | apply Kd.R_alloc | apply Kd.R_drewN | apply Kd.R_drew)); exact HO_8.out)); (case aS => exact (below_size (by repeat (first | (with_reducible first | exact HB.out | apply below_alloc | apply pw_below_drewN | apply below_drew1) | exact HB.out)))); (case aL => have := LMc49.out; omega); intro v244 w52 ho hb hg hat; rw [← Ny243.out] at ho; have n0_ := Aside0.mk (hb); have n1_ := Aside0.mk (ho); clear HB; clear HO_8; have HB := n0_; have HO245 := n1_; clear n0_ n1_; clear ho hb hg hat)); try go_wp2_with (first | ((with_reducible refine gate_builtin (b := .append) (xs := #[.tmp 121, .tmp 125]) rfl ?_); at_builtin; refine Kd.R_append Kd.string (w0 := w) w.heap.size rfl (.tmp 121) (.tmp 125) 22 9 (.string ⟨#[]⟩) 16 rfl Tryd.underlying22 info9 rfl (by decide) (by omega) u8 x8_1 (x17_5.extract 0 ((ji46) : Int).toNat) [.string (x17_5.extract 0 ((ji46) : Int).toNat)] (fun _ => True) (fun _ => False) rfl rfl ?aP (fun _ hk => hk.elim) ?aF ?aO ?aB ?aS ?aL ?_; (case aP => exact rfl); (case aB => exact (by repeat (first | (with_reducible first | exact HB.out | apply below_alloc | apply pw_below_drewN | apply below_drew1) | exact HB.out))); (case aF => exact (fun _ _ => trivial)); (case aO => exact (by (with_reducible repeat (first | apply Kd.R_alloc | apply Kd.R_drewN | apply Kd.R_drew)); exact HO_8.out)); (case aS => exact (below_size (by repeat (first | (with_reducible first | exact HB.out | apply below_alloc | apply pw_below_drewN | apply below_drew1) | exact HB.out)))); (case aL => have := LMc49.out; omega); intro v244 w52 ho hb hg hat; rw [← Ny243.out] at ho; have n0_ := Aside0.mk (hb); have n1_ := Aside0.mk (ho); clear HB; clear HO_8; have HB := n0_; have HO245 := n1_; clear n0_ n1_; clear ho hb hg hat)))
                                                          go_ret
                                                          exact ⟨_, by first | rfl | (simp [errW_none, errW_some] <;> rfl) | (simp only [← hji46]; first | rfl | (simp [errW_none, errW_some] <;> rfl)) | (simp [*, errW_none, errW_some] <;> rfl), by (with_reducible repeat (first | apply Kd.R_alloc | apply Kd.R_drewN | apply Kd.R_drew)); exact HO245.out, by repeat (first | (with_reducible first | exact HB.out | apply below_alloc | apply pw_below_drewN | apply below_drew1) | exact HB.out)⟩
                                                        · rw [if_neg c51] at H
                                                          have c51b0 : ((wrap64 (x10_1 - (wrap64 (1 + (wrap64 (Int.tdiv (wrap64 ((ji46) + 126)) 127)))))) == 0) = false := beq_eq_false_iff_ne.mpr c51
                                                          have c51b1 : ((wrap64 (x10_1 - (wrap64 (1 + (wrap64 (Int.tdiv (wrap64 ((ji46) + 126)) 127)))))) != 0) = true := bne_iff_ne.mpr c51
                                                          have H' := Aside0.mk H
                                                          clear H
                                                          go_wp2_with (first | ((with_reducible refine gate_builtin (b := .append) (xs := #[.tmp 121, .tmp 125]) rfl ?_); at_builtin; refine Kd.R_append Kd.string (w0 := w) w.heap.size rfl (.tmp 121) (.tmp 125) 22 9 (.string ⟨#[]⟩) 16 rfl Tryd.underlying22 info9 rfl (by decide) (by omega) u8 x8_1 (x17_5.extract 0 ((ji46) : Int).toNat) [.string (x17_5.extract 0 ((ji46) : Int).toNat)] (fun _ => True) (fun _ => False) rfl rfl ?aP (fun _ hk => hk.elim) ?aF ?aO ?aB ?aS ?aL ?_; (case aP => exact rfl); (case aB => exact (by repeat (first | (with_reducible first | exact HB.out | apply below_alloc | apply pw_below_drewN | apply below_drew1) | exact HB.out))); (case aF => exact (fun _ _ => trivial)); (case aO => exact (by (with_reducible repeat (first | apply Kd.R_alloc | apply Kd.R_drewN | apply Kd.R_drew)); exact HO_8.out)); (case aS => exact (below_size (by repeat (first | (with_reducible first | exact HB.out | apply below_alloc | apply pw_below_drewN | apply below_drew1) | exact HB.out)))); (case aL => have := LMc49.out; omega); intro v244 w53 ho hb hg hat; rw [← Ny243.out] at ho; have n0_ := Aside0.mk (hb); have n1_ := Aside0.mk (ho); clear HB; clear HO_8; have HB := n0_; have HO245 := n1_; clear n0_ n1_; clear ho hb hg hat))
                                                          repeat (go_quiet (first | ((with_reducible refine gate_builtin (b := .append) (xs := #[.tmp 121, .tmp 125]) rfl ?_); at_builtin; refine Kd.R_append Kd.string (w0 := w) w.heap.size rfl (.tmp 121) (.tmp 125) 22 9 (.string ⟨#[]⟩) 16 rfl Tryd.underlying22 info9 rfl (by decide) (by omega) u8 x8_1 (x17_5.extract 0 ((ji46) : Int).toNat) [.string (x17_5.extract 0 ((ji46) : Int).toNat)] (fun _ => True) (fun _ => False) rfl rfl ?aP (fun _ hk => hk.elim) ?aF ?aO ?aB ?aS ?aL ?_; (case aP => exact rfl); (case aB => exact (by repeat (first | (with_reducible first | exact HB.out | apply below_alloc | apply pw_below_drewN | apply below_drew1) | exact HB.out))); (case aF => exact (fun _ _ => trivial)); (case aO => exact (by (with_reducible repeat (first | apply Kd.R_alloc | apply Kd.R_drewN | apply Kd.R_drew)); exact HO_8.out)); (case aS => exact (below_size (by repeat (first | (with_reducible first | exact HB.out | apply below_alloc | apply pw_below_drewN | apply below_drew1) | exact HB.out)))); (case aL => have := LMc49.out; omega); intro v244 w53 ho hb hg hat; rw [← Ny243.out] at ho; have n0_ := Aside0.mk (hb); have n1_ := Aside0.mk (ho); clear HB; clear HO_8; have HB := n0_; have HO245 := n1_; clear n0_ n1_; clear ho hb hg hat)); try go_wp2_with (first | ((with_reducible refine gate_builtin (b := .append) (xs := #[.tmp 121, .tmp 125]) rfl ?_); at_builtin; refine Kd.R_append Kd.string (w0 := w) w.heap.size rfl (.tmp 121) (.tmp 125) 22 9 (.string ⟨#[]⟩) 16 rfl Tryd.underlying22 info9 rfl (by decide) (by omega) u8 x8_1 (x17_5.extract 0 ((ji46) : Int).toNat) [.string (x17_5.extract 0 ((ji46) : Int).toNat)] (fun _ => True) (fun _ => False) rfl rfl ?aP (fun _ hk => hk.elim) ?aF ?aO ?aB ?aS ?aL ?_; (case aP => exact rfl); (case aB => exact (by repeat (first | (with_reducible first | exact HB.out | apply below_alloc | apply pw_below_drewN | apply below_drew1) | exact HB.out))); (case aF => exact (fun _ _ => trivial)); (case aO => exact (by (with_reducible repeat (first | apply Kd.R_alloc | apply Kd.R_drewN | apply Kd.R_drew)); exact HO_8.out)); (case aS => exact (below_size (by repeat (first | (with_reducible first | exact HB.out | apply below_alloc | apply pw_below_drewN | apply below_drew1) | exact HB.out)))); (case aL => have := LMc49.out; omega); intro v244 w53 ho hb hg hat; rw [← Ny243.out] at ho; have n0_ := Aside0.mk (hb); have n1_ := Aside0.mk (ho); clear HB; clear HO_8; have HB := n0_; have HO245 := n1_; clear n0_ n1_; clear ho hb hg hat)))
                                                          go_roundg k6
                                                          case measure => have := HK1.out; have := HK2.out; have := HJ17.out; have := HK4.out; have := HK5.out; have := HK6.out; omega
                                                          case rel => exact ⟨(y243), (Int.tmod (wrap64 (x9_1 + (wrap64 (1 + (wrap64 (Int.tdiv (wrap64 ((ji46) + 126)) 127)))))) (l0.length : Int)), (wrap64 (x10_1 - (wrap64 (1 + (wrap64 (Int.tdiv (wrap64 ((ji46) + 126)) 127)))))), (by first | rfl | (simp; done) | (simp only [← hji46] <;> (first | rfl | simp)) | (simp [*]; done)), (by first | rfl | (simp; done) | (simp only [← hji46] <;> (first | rfl | simp)) | (simp [*]; done)), H', ⟨by have := HK1.out; have := HK2.out; have := HJ17.out; have := HK4.out; have := HK5.out; have := HK6.out; omega⟩, ⟨by (with_reducible repeat (first | apply Kd.R_alloc | apply Kd.R_drewN | apply Kd.R_drew)); exact HO245.out⟩, ⟨by repeat (first | (with_reducible first | exact HB.out | apply below_alloc | apply pw_below_drewN | apply below_drew1) | exact HB.out)⟩⟩
                                                    · rw [if_neg c49] at H
                                                      exact absurd H (by simp)
                                                  · rw [if_neg c48] at H
                                                    exact absurd H (by simp)
                                                · rw [if_neg c47] at H
                                                  exact absurd H (by simp)
                      · rw [if_neg c16] at H
                        exact absurd H (by simp)
                    · rw [if_neg c14] at H
                      exact absurd H (by simp)
            · rw [if_neg c8] at H
              have c8b0 : ((bt (rdOf ByteArray.empty l0 x9_1) 0) == 72) = false := beq_eq_false_iff_ne.mpr c8
              have c8b1 : ((bt (rdOf ByteArray.empty l0 x9_1) 0) != 72) = true := bne_iff_ne.mpr c8
              obtain rfl := Option.some.inj H
              have p241 : 0 ≤ (x9_1 : Int) := of_decide_eq_true (by first | (with_reducible assumption) | assumption)
              have q241 : x9_1 < (l0.length : Int) := of_decide_eq_true (by first | (with_reducible assumption) | assumption)
              obtain ⟨ad241, e241, hx241_0⟩ := Kd.at_string HR0.out x9_1 p241 q241
              cases e241
              replace hx241_0 := (HB.out.cell (World.block_lt_of_cell? w _ hx241_0)).trans hx241_0
              replace p241 := eq_true p241
              replace q241 := eq_true q241
              have p7 : 0 ≤ (0 : Int) := (by omega)
              have q7 : 0 < (rdOf ByteArray.empty l0 x9_1).size := (by have : (0 : Int) < ((rdOf ByteArray.empty l0 x9_1).size : Int) := of_decide_eq_true (by first | (with_reducible assumption) | assumption); omega)
              have hx7 : ∀ h : 0 < (rdOf ByteArray.empty l0 x9_1).size, (((rdOf ByteArray.empty l0 x9_1)[0]'h).toNat : Int) = bt (rdOf ByteArray.empty l0 x9_1) 0 := bt_at (rdOf ByteArray.empty l0 x9_1) 0
              clear p7
              have qi7 : (0 < ((rdOf ByteArray.empty l0 x9_1).size : Int)) = True := eq_true (of_decide_eq_true (by first | (with_reducible assumption) | assumption))
              replace q7 := eq_true q7
              go_wp2
              repeat (go_quiet (fail); try go_wp2)
              go_ret
              exact ⟨_, by first | rfl | (simp [errW_none, errW_some] <;> rfl) | (simp [*, errW_none, errW_some] <;> rfl), by (with_reducible repeat (first | apply Kd.R_alloc | apply Kd.R_drewN | apply Kd.R_drew)); exact HO_8.out, by repeat (first | (with_reducible first | exact HB.out | apply below_alloc | apply pw_below_drewN | apply below_drew1) | exact HB.out)⟩
          · rw [if_neg c6] at H
            exact absurd H (by simp)
        · rw [if_neg c5] at H
          exact absurd H (by simp)
      · rw [if_neg c4] at H
        exact absurd H (by simp)

end Go.Proofs.YtfjbpjndjcinhaaDoor.Pr
