/- What the functions that the law RightsGrant reaches compute, and the row of the law (printed by a program of this session). -/
import Derived.Test.YtgjlnjjgpddcnaaARightsGrantx0
namespace Go.Proofs.Ytgjlnjjgpddcnaa.ARightsGrant
open Go.RowKit Go.Proofs.YtgjlnjjgpddcnaaW.PrintWords Go.Proofs.YtgjlnjjgpddcnaaW.PrintLast Go.Proofs.YtgjlnjjgpddcnaaW.PrintMore
attribute [local go_sem] max2_int min2_int max_two min_two max_three min_three max_four min_four   -- for this text's walks alone
set_option linter.unusedVariables false
set_option linter.unusedSimpArgs false

/-! ### chancelref03_Ints: function 29 -/
def chancelref03_Ints.l0 : Nat → List Int → List Int → Int → Option (Bool)
  | 0, _, _, _ => none
  | k + 1, x0, x1, x5 => if x5 < (x0.length : Int) then (if 0 ≤ x5 then (if x5 < (x1.length : Int) then (if (rd x0 x5) = (rd x1 x5) then (chancelref03_Ints.l0 k x0 x1 (wrap64 (x5 + 1))) else (some false)) else (none)) else (none)) else (some true)
def chancelref03_Ints.f (k : Nat) (l0 : List Int) (l1 : List Int) : Option (Bool) := if (l0.length : Int) = (l1.length : Int) then (chancelref03_Ints.l0 k l0 l1 0) else (some false)
theorem chancelref03_Ints.mono_l : ∀ k, (∀ y0 y1 y2, LeO (chancelref03_Ints.l0 k y0 y1 y2) (chancelref03_Ints.l0 (k + 1) y0 y1 y2))
  | 0 => fun _ _ _ r h => by simp [chancelref03_Ints.l0] at h
  | k + 1 => by
    have ih0 := chancelref03_Ints.mono_l k
    · intro y0 y1 y2
      unfold chancelref03_Ints.l0
      repeat' first
      | (with_reducible exact ih0 _ _ _)
      | (with_reducible exact LeO.refl _)
      | (with_reducible exact LeO.none _)
      | (with_reducible refine LeO.ite ?_ ?_)
      | (with_reducible refine LeO.bind ?_ (fun _ => ?_))
      | exact ih0 _ _ _
      | exact LeO.none _
      | refine LeO.ite ?_ ?_
      | refine LeO.bind ?_ (fun _ => ?_)
theorem chancelref03_Ints.mono : ∀ a0 a1 k, LeO (chancelref03_Ints.f k a0 a1) (chancelref03_Ints.f (k + 1) a0 a1) := by
  intro a0 a1 k
  have ih0 := chancelref03_Ints.mono_l k
  unfold chancelref03_Ints.f
  repeat' first
      | (with_reducible exact ih0 _ _ _)
      | (with_reducible exact LeO.refl _)
      | (with_reducible exact LeO.none _)
      | (with_reducible refine LeO.ite ?_ ?_)
      | (with_reducible refine LeO.bind ?_ (fun _ => ?_))
      | exact ih0 _ _ _
      | exact LeO.none _
      | refine LeO.ite ?_ ?_
      | refine LeO.bind ?_ (fun _ => ?_)
set_option maxHeartbeats 8000000 in
set_option maxRecDepth 100000 in
theorem chancelref03_Ints.calls (k : Nat) (A0 : Option Addr) (c0 : Nat) (l0 : List Int) (A1 : Option Addr) (c1 : Nat) (l1 : List Int) (r : Bool) (w : World) (hr0 : Kd.C (Kd.int .i64) w A0 l0.length l0) (hc0 : l0.length ≤ c0) (hr1 : Kd.C (Kd.int .i64) w A1 l1.length l1) (hc1 : l1.length ≤ c1) (h : chancelref03_Ints.f k l0 l1 = some r) :
    Calls Try.prog 29 #[.slice A0 l0.length c0, .slice A1 l1.length c1] w fun e w' => e = .returned (.bool r) ∧ Drawn0 w w' := by
  have HR0 := Aside0.mk hr0
  have HC0 := Aside0.mk hc0
  clear hr0 hc0
  have HR1 := Aside0.mk hr1
  have HC1 := Aside0.mk hc1
  clear hr1 hc1
  have H : (if (l0.length : Int) = (l1.length : Int) then (chancelref03_Ints.l0 k l0 l1 0) else (some false)) = some r := h
  clear h
  by_cases c3 : (l0.length : Int) = (l1.length : Int)
  · rw [if_pos c3] at H
    have c3b0 : ((l0.length : Int) == (l1.length : Int)) = true := beq_iff_eq.mpr c3
    have c3b1 : ((l0.length : Int) != (l1.length : Int)) = false := bne_eq_false_iff_eq.mpr c3
    have c3b2 : (l0.length == l1.length) = true := by first | simpa using c3 | (simp at c3 ⊢; omega)
    clear c3
    have H' := Aside0.mk H
    clear H
    go_enter Try.func29, Try.ntmps29
    go_wp2
    repeat (go_quiet (fail); try go_wp2)
    go_loopg [5] k (fun kq v5 w' => ∃ (x5_1 : Int), v5 = .int .i64 x5_1 ∧ Aside0 (chancelref03_Ints.l0 kq l0 l1 x5_1 = some r) ∧ Aside0 (kq ≤ k) ∧ Drawn0 w w')
    case atStart => exact ⟨(0), (by first | rfl | (simp; done) | (simp [*]; done)), H', ⟨Nat.le_refl _⟩, by repeat (first | exact Drawn0.refl _ | apply Drawn0.step)⟩
    case round =>
      clear H'
      try clear c1
      try clear c2
      try clear p2
      try clear c3
      try clear c3b0
      try clear c3b1
      try clear c3b2
      obtain ⟨x5_1, rfl, HA, HK1, ⟨m1, rfl⟩⟩ := hrel
      cases gk with
      | zero => exact absurd HA.out (by simp [chancelref03_Ints.l0])
      | succ k1 =>
        have H := HA.out
        clear HA
        simp only [chancelref03_Ints.l0] at H
        by_cases c4 : x5_1 < (l0.length : Int)
        · rw [if_pos c4] at H
          have c4b0 : decide (x5_1 < (l0.length : Int)) = true := decide_eq_true c4
          clear c4
          by_cases c5 : 0 ≤ x5_1
          · rw [if_pos c5] at H
            have c5b0 : decide (0 ≤ x5_1) = true := decide_eq_true c5
            clear c5
            by_cases c6 : x5_1 < (l1.length : Int)
            · rw [if_pos c6] at H
              have c6b0 : decide (x5_1 < (l1.length : Int)) = true := decide_eq_true c6
              clear c6
              by_cases c7 : (rd l0 x5_1) = (rd l1 x5_1)
              · rw [if_pos c7] at H
                have c7b0 : ((rd l0 x5_1) == (rd l1 x5_1)) = true := beq_iff_eq.mpr c7
                have c7b1 : ((rd l0 x5_1) != (rd l1 x5_1)) = false := bne_eq_false_iff_eq.mpr c7
                clear c7
                have H' := Aside0.mk H
                clear H
                have p166 : 0 ≤ (x5_1 : Int) := of_decide_eq_true (by first | (with_reducible assumption) | assumption)
                have q166 : x5_1 < (l0.length : Int) := of_decide_eq_true (by first | (with_reducible assumption) | assumption)
                obtain ⟨ad166, e166, hx166_0⟩ := Kd.at_int HR0.out x5_1 p166 q166
                cases e166
                replace p166 := eq_true p166
                replace q166 := eq_true q166
                have p167 : 0 ≤ (x5_1 : Int) := of_decide_eq_true (by first | (with_reducible assumption) | assumption)
                have q167 : x5_1 < (l1.length : Int) := of_decide_eq_true (by first | (with_reducible assumption) | assumption)
                obtain ⟨ad167, e167, hx167_0⟩ := Kd.at_int HR1.out x5_1 p167 q167
                cases e167
                replace p167 := eq_true p167
                replace q167 := eq_true q167
                go_wp2
                repeat (go_quiet (fail); try go_wp2)
                go_roundg k1
                case measure => have := HK1.out; omega
                case rel => exact ⟨(wrap64 (x5_1 + 1)), (by first | rfl | (simp; done) | (simp [*]; done)), H', ⟨by have := HK1.out; omega⟩, by repeat (first | exact Drawn0.refl _ | apply Drawn0.step)⟩
              · rw [if_neg c7] at H
                have c7b0 : ((rd l0 x5_1) == (rd l1 x5_1)) = false := beq_eq_false_iff_ne.mpr c7
                have c7b1 : ((rd l0 x5_1) != (rd l1 x5_1)) = true := bne_iff_ne.mpr c7
                obtain rfl := Option.some.inj H
                have p166 : 0 ≤ (x5_1 : Int) := of_decide_eq_true (by first | (with_reducible assumption) | assumption)
                have q166 : x5_1 < (l0.length : Int) := of_decide_eq_true (by first | (with_reducible assumption) | assumption)
                obtain ⟨ad166, e166, hx166_0⟩ := Kd.at_int HR0.out x5_1 p166 q166
                cases e166
                replace p166 := eq_true p166
                replace q166 := eq_true q166
                have p167 : 0 ≤ (x5_1 : Int) := of_decide_eq_true (by first | (with_reducible assumption) | assumption)
                have q167 : x5_1 < (l1.length : Int) := of_decide_eq_true (by first | (with_reducible assumption) | assumption)
                obtain ⟨ad167, e167, hx167_0⟩ := Kd.at_int HR1.out x5_1 p167 q167
                cases e167
                replace p167 := eq_true p167
                replace q167 := eq_true q167
                go_wp2
                repeat (go_quiet (fail); try go_wp2)
                go_ret
                exact ⟨by first | rfl | (simp; done) | (simp [*]; done), by repeat (first | exact Drawn0.refl _ | apply Drawn0.step)⟩
            · rw [if_neg c6] at H
              exact absurd H (by simp)
          · rw [if_neg c5] at H
            exact absurd H (by simp)
        · rw [if_neg c4] at H
          have c4b0 : decide (x5_1 < (l0.length : Int)) = false := decide_eq_false c4
          clear c4
          obtain rfl := Option.some.inj H
          go_wp2
          repeat (go_quiet (fail); try go_wp2)
          go_ret
          exact ⟨by first | rfl | (simp; done) | (simp [*]; done), by repeat (first | exact Drawn0.refl _ | apply Drawn0.step)⟩
  · rw [if_neg c3] at H
    have c3b0 : ((l0.length : Int) == (l1.length : Int)) = false := beq_eq_false_iff_ne.mpr c3
    have c3b1 : ((l0.length : Int) != (l1.length : Int)) = true := bne_iff_ne.mpr c3
    have c3b2 : (l0.length == l1.length) = false := by first | simpa using c3 | (simp at c3 ⊢; omega)
    obtain rfl := Option.some.inj H
    go_enter Try.func29, Try.ntmps29
    go_wp2
    repeat (go_quiet (fail); try go_wp2)
    go_ret
    exact ⟨by first | rfl | (simp; done) | (simp [*]; done), by repeat (first | exact Drawn0.refl _ | apply Drawn0.step)⟩

/-! ### chancelref03_Same: function 18 -/
/-! chancelref03.Same -/
theorem ints_loop (l0 l1 : List Int) (hlen : l0.length = l1.length) (hl : l0.length ≤ 9223372036854775807) : ∀ (d k i : Nat), l0.length - i = d → d < k → i ≤ l0.length → chancelref03_Ints.l0 k l0 l1 (i : Int) = some (decide (l0.drop i = l1.drop i)) := by
  intro d
  induction d with
  | zero =>
    intro k i hd hk hi
    obtain ⟨k, rfl⟩ : ∃ m, k = m + 1 := ⟨k - 1, by omega⟩
    rw [chancelref03_Ints.l0, if_neg (by omega), List.drop_eq_nil_of_le (by omega), List.drop_eq_nil_of_le (by omega)]
    simp
  | succ d ih =>
    intro k i hd hk hi
    obtain ⟨k, rfl⟩ : ∃ m, k = m + 1 := ⟨k - 1, by omega⟩
    have hlt : i < l0.length := by omega
    have hlt1 : i < l1.length := by omega
    have hrd : rd l0 (i : Int) = l0[i] := by simp [rd, hlt]
    have hrd1 : rd l1 (i : Int) = l1[i] := by simp [rd, hlt1]
    rw [chancelref03_Ints.l0, List.drop_eq_getElem_cons hlt, List.drop_eq_getElem_cons hlt1]
    have e1 : ((i : Int) < (l0.length : Int)) = True := eq_true (by omega)
    have e2 : ((i : Int) < (l1.length : Int)) = True := eq_true (by omega)
    have e3 : (0 ≤ (i : Int)) = True := eq_true (by omega)
    by_cases h : l0[i] = l1[i]
    · simp only [hrd, hrd1, h, e1, e2, e3, if_true, if_false, not_true]
      rw [show wrap64 ((i : Int) + 1) = ((i + 1 : Nat) : Int) by unfold wrap64; omega, ih k (i + 1) (by omega) (by omega) (by omega)]
      congr 1
      rw [decide_eq_decide]
      exact ⟨fun e => by rw [e], fun e => by injection e⟩
    · simp only [hrd, hrd1, h, e1, e2, e3, if_true, if_false, not_false_eq_true]
      congr 1
      exact (decide_eq_false (fun e => h (by injection e))).symm
theorem ints_tells (l0 l1 : List Int) (hl : l0.length ≤ 9223372036854775807) : chancelref03_Ints.f (l0.length + 1) l0 l1 = some (decide (l0 = l1)) := by
  unfold chancelref03_Ints.f
  by_cases h : l0.length = l1.length
  · rw [if_pos (by omega)]
    have := ints_loop l0 l1 h hl l0.length (l0.length + 1) 0 (by omega) (by omega) (by omega)
    rw [List.drop_zero, List.drop_zero] at this
    exact this
  · rw [if_neg (by omega), decide_eq_false (fun e => h (by rw [e]))]
def sameX (x y : S29) : Bool := decide (x.f0 = y.f0) && (decide (x.f1 = y.f1) && (decide (x.f2 = y.f2) && decide (x.f3 = y.f3)))
def sameL : List S29 → List S29 → Bool
  | [], [] => true
  | x :: xs, y :: ys => sameX x y && sameL xs ys
  | _, _ => false
theorem sameL_self : ∀ l : List S29, sameL l l = true
  | [] => rfl
  | x :: xs => by rw [sameL, sameL_self xs]; simp [sameX]
theorem sameL_len : ∀ (l0 l1 : List S29), l0.length ≠ l1.length → sameL l0 l1 = false
  | [], [], h => absurd rfl h
  | [], _ :: _, _ => rfl
  | _ :: _, [], _ => rfl
  | x :: xs, y :: ys, h => by rw [sameL, sameL_len xs ys (by simpa using h), Bool.and_false]
def chancelref03_Same.f (l0 l1 : List (S29)) : Option (Bool) := some (sameL l0 l1)
set_option maxHeartbeats 4000000 in
set_option maxRecDepth 100000 in
theorem chancelref03_Same.calls (A0 : Option Addr) (c0 : Nat) (l0 : List (S29)) (A1 : Option Addr) (c1 : Nat) (l1 : List (S29)) (r : Bool) (w : World) (hr0 : Kd.C k29 w A0 l0.length l0) (hc0 : l0.length ≤ c0) (hr1 : Kd.C k29 w A1 l1.length l1) (hc1 : l1.length ≤ c1) (h : chancelref03_Same.f l0 l1 = some r) :
    Calls Try.prog 18 #[.slice A0 l0.length c0, .slice A1 l1.length c1] w fun e w' => e = .returned (.bool r) ∧ Below w.heap.size w w' := by
  have hbig : l0.length ≤ 9223372036854775807 := hr0.2.1
  have hbig1 : l1.length ≤ 9223372036854775807 := hr1.2.1
  have hS : sameL l0 l1 = r := Option.some.inj h
  have HR0 := Aside0.mk hr0
  have HR1 := Aside0.mk hr1
  clear h hr0 hr1
  have hu29 := Try.underlying29
  by_cases hlen : l0.length = l1.length
  case neg =>
    have b1 : ((l0.length : Int) == (l1.length : Int)) = false := beq_eq_false_iff_ne.mpr (by omega)
    have b2 : ((l0.length : Int) != (l1.length : Int)) = true := by simp [bne, b1]
    have b3 : (l0.length == l1.length) = false := beq_eq_false_iff_ne.mpr hlen
    have b4 : (l0.length != l1.length) = true := by simp [bne, b3]
    obtain rfl : false = r := (sameL_len l0 l1 hlen).symm.trans hS
    clear hS hlen
    go_enter Try.func18, Try.ntmps18
    go_wp2
    go_ret
    exact ⟨rfl, Below.refl _ _⟩
  have b1 : ((l0.length : Int) == (l1.length : Int)) = true := beq_iff_eq.mpr (by omega)
  have b2 : ((l0.length : Int) != (l1.length : Int)) = false := by simp [bne, b1]
  have b3 : (l0.length == l1.length) = true := beq_iff_eq.mpr hlen
  have b4 : (l0.length != l1.length) = false := by simp [bne, b3]
  have HLEN := Aside0.mk hlen
  have HS := Aside0.mk (show sameL (l0.drop 0) (l1.drop 0) = r from hS)
  clear hS hlen
  go_enter Try.func18, Try.ntmps18
  go_wp2
  go_loopg [5] l0.length (fun gg s5 wr => ∃ kk : Nat, kk ≤ l0.length ∧ l0.length - kk ≤ gg ∧ s5 = .int .i64 kk ∧ Aside (Below w.heap.size w wr) ∧ Aside (sameL (l0.drop kk) (l1.drop kk) = r))
  case atStart => exact ⟨0, Nat.zero_le _, by omega, rfl, Below.refl _ w, HS.out⟩
  case round =>
    clear HS
    obtain ⟨kk, hkk, hg, rfl, BW, AS⟩ := hrel
    by_cases hlt : kk < l0.length
    · have hltz : (kk : Int) < (l0.length : Int) := by omega
      have hlt1 : kk < l1.length := by have := HLEN.out; omega
      have hltz1 : (kk : Int) < (l1.length : Int) := by omega
      obtain ⟨ad, A2, c2, A3, c3, rfl, x0, x1, x2, x3, l2, g2, l3, g3⟩ := at_T29 (Kd.C_below HR0.out BW.out) (kk : Int) (by omega) (by omega)
      obtain ⟨ae, B2, d2, B3, d3, rfl, y0, y1, y2, y3, m2, h2, m3, h3⟩ := at_T29 (Kd.C_below HR1.out BW.out) (kk : Int) (by omega) (by omega)
      simp only [Int.toNat_natCast] at x0 x1 x2 x3 y0 y1 y2 y3
      have hxx : rd_T29 l0 (kk : Int) = l0[kk] := by unfold rd_T29; rw [Int.toNat_natCast, List.getD_eq_getElem?_getD, List.getElem?_eq_getElem hlt, Option.getD_some]
      have hyy : rd_T29 l1 (kk : Int) = l1[kk] := by unfold rd_T29; rw [Int.toNat_natCast, List.getD_eq_getElem?_getD, List.getElem?_eq_getElem hlt1, Option.getD_some]
      have hst := AS.out
      rw [List.drop_eq_getElem_cons hlt, List.drop_eq_getElem_cons hlt1, sameL, ← hxx, ← hyy] at hst
      have ST := Aside0.mk hst
      clear hst hxx hyy AS
      generalize rd_T29 l0 (kk : Int) = x at x0 x1 x2 x3 l2 g2 l3 g3 ST
      generalize rd_T29 l1 (kk : Int) = y at y0 y1 y2 y3 m2 h2 m3 h3 ST
      have I2 := Aside0.mk (ints_tells x.f2 y.f2 g2.2.1)
      have I3 := Aside0.mk (ints_tells x.f3 y.f3 g3.2.1)
      have G2 := Aside0.mk g2
      have G3 := Aside0.mk g3
      have H2 := Aside0.mk h2
      have H3 := Aside0.mk h3
      have L2 := Aside0.mk l2
      have L3 := Aside0.mk l3
      have M2 := Aside0.mk m2
      have M3 := Aside0.mk m3
      clear g2 g3 h2 h3 l2 l3 m2 m3
      by_cases q0 : x.f0 = y.f0
      case neg =>
        have p0 : (x.f0 == y.f0) = false := beq_eq_false_iff_ne.mpr q0
        have p0b : (x.f0 != y.f0) = true := by simp [bne, p0]
        have hr : false = r := by rw [← ST.out]; simp [sameX, q0]
        subst hr
        clear ST q0
        go_wp2
        go_quiet (fail)
        go_wp2
        go_ret
        exact ⟨rfl, BW.out.trans (pw_below_drewN (Below.refl _ _) _)⟩
      have p0 : (x.f0 == y.f0) = true := beq_iff_eq.mpr q0
      have p0b : (x.f0 != y.f0) = false := by simp [bne, p0]
      by_cases q1 : x.f1 = y.f1
      case neg =>
        have p1 : (x.f1 == y.f1) = false := beq_eq_false_iff_ne.mpr q1
        have p1b : (x.f1 != y.f1) = true := by simp [bne, p1]
        have hr : false = r := by rw [← ST.out]; simp [sameX, q1]
        subst hr
        clear ST q1
        go_wp2
        go_quiet (fail)
        go_wp2
        go_ret
        exact ⟨rfl, BW.out.trans (pw_below_drewN (Below.refl _ _) _)⟩
      have p1 : (x.f1 == y.f1) = true := beq_iff_eq.mpr q1
      have p1b : (x.f1 != y.f1) = false := by simp [bne, p1]
      have Q0 := Aside0.mk q0
      have Q1 := Aside0.mk q1
      clear q0 q1
      by_cases q2 : x.f2 = y.f2
      case neg =>
        have hr : false = r := by rw [← ST.out]; simp [sameX, q2]
        subst hr
        have I2b : Aside0 (chancelref03_Ints.f (x.f2.length + 1) x.f2 y.f2 = some false) := ⟨by rw [I2.out, decide_eq_false q2]⟩
        clear ST q2 I2
        go_wp2
        go_quiet ((go_at_call 29; (with_reducible refine (chancelref03_Ints.calls (x.f2.length + 1) A2 c2 x.f2 B2 d2 y.f2 false _ ?aa L2.out ?bb M2.out I2b.out).mono ?_); (case aa => exact Kd.C_drewN G2.out _); (case bb => exact Kd.C_drewN H2.out _); rintro e w' ⟨rfl, ⟨m, rfl⟩⟩; exact ⟨rfl, _, World.drewN_drewN _ _ _⟩))
        go_wp2
        go_ret
        exact ⟨rfl, BW.out.trans (pw_below_drewN (Below.refl _ _) _)⟩
      have I2b : Aside0 (chancelref03_Ints.f (x.f2.length + 1) x.f2 y.f2 = some true) := ⟨by rw [I2.out, decide_eq_true q2]⟩
      have Q2 := Aside0.mk q2
      clear q2 I2
      by_cases q3 : x.f3 = y.f3
      case neg =>
        have hr : false = r := by rw [← ST.out]; simp [sameX, q3]
        subst hr
        have I3b : Aside0 (chancelref03_Ints.f (x.f3.length + 1) x.f3 y.f3 = some false) := ⟨by rw [I3.out, decide_eq_false q3]⟩
        clear ST q3 I3
        go_wp2
        go_quiet ((first | (go_at_call 29; (with_reducible refine (chancelref03_Ints.calls (x.f2.length + 1) A2 c2 x.f2 B2 d2 y.f2 true _ ?aa L2.out ?bb M2.out I2b.out).mono ?_); (case aa => exact Kd.C_drewN G2.out _); (case bb => exact Kd.C_drewN H2.out _); rintro e w' ⟨rfl, ⟨m, rfl⟩⟩; exact ⟨rfl, _, World.drewN_drewN _ _ _⟩) | (go_at_call 29; (with_reducible refine (chancelref03_Ints.calls (x.f3.length + 1) A3 c3 x.f3 B3 d3 y.f3 false _ ?aa L3.out ?bb M3.out I3b.out).mono ?_); (case aa => exact Kd.C_drewN G3.out _); (case bb => exact Kd.C_drewN H3.out _); rintro e w' ⟨rfl, ⟨m, rfl⟩⟩; exact ⟨rfl, _, World.drewN_drewN _ _ _⟩)))
        go_wp2
        go_ret
        exact ⟨rfl, BW.out.trans (pw_below_drewN (Below.refl _ _) _)⟩
      have I3b : Aside0 (chancelref03_Ints.f (x.f3.length + 1) x.f3 y.f3 = some true) := ⟨by rw [I3.out, decide_eq_true q3]⟩
      have hr : sameL (l0.drop (kk + 1)) (l1.drop (kk + 1)) = r := by rw [← ST.out, sameX, decide_eq_true Q0.out, decide_eq_true Q1.out, decide_eq_true Q2.out, decide_eq_true q3]; rfl
      have HRR := Aside0.mk hr
      clear ST q3 I3 hr
      go_wp2
      go_quiet ((first | (go_at_call 29; (with_reducible refine (chancelref03_Ints.calls (x.f2.length + 1) A2 c2 x.f2 B2 d2 y.f2 true _ ?aa L2.out ?bb M2.out I2b.out).mono ?_); (case aa => exact Kd.C_drewN G2.out _); (case bb => exact Kd.C_drewN H2.out _); rintro e w' ⟨rfl, ⟨m, rfl⟩⟩; exact ⟨rfl, _, World.drewN_drewN _ _ _⟩) | (go_at_call 29; (with_reducible refine (chancelref03_Ints.calls (x.f3.length + 1) A3 c3 x.f3 B3 d3 y.f3 true _ ?aa L3.out ?bb M3.out I3b.out).mono ?_); (case aa => exact Kd.C_drewN G3.out _); (case bb => exact Kd.C_drewN H3.out _); rintro e w' ⟨rfl, ⟨m, rfl⟩⟩; exact ⟨rfl, _, World.drewN_drewN _ _ _⟩)))
      go_wp2
      go_roundg (l0.length - (kk + 1))
      case measure => omega
      case rel => exact ⟨kk + 1, by omega, by omega, by go_num, BW.out.trans (pw_below_drewN (Below.refl _ _) _), HRR.out⟩
    · have hltz : decide ((kk : Int) < (l0.length : Int)) = false := decide_eq_false (by omega)
      have hkl : kk = l0.length := by omega
      have hAS := AS.out
      rw [List.drop_eq_nil_of_le (by omega), List.drop_eq_nil_of_le (by have := HLEN.out; omega)] at hAS
      have HA := Aside0.mk hAS
      clear hAS AS
      go_wp2
      go_ret
      exact ⟨by rw [← HA.out]; rfl, BW.out⟩

/-! ### chancelref03_Copy: function 19 -/
def chancelref03_Copy.l0 : Nat → List (S29) → List (S29) → Int → Option ((List (S29)))
  | 0, _, _, _ => none
  | k + 1, x0, x3, x4 => if x4 < (x0.length : Int) then (if 0 ≤ x4 then ((some (([] : List Int) : List Int)).bind fun y170 => (if y170.length + ((rd_T29 x0 x4).f2).length < 17592186044416 then ((some (([] : List Int) : List Int)).bind fun y176 => (if y176.length + ((rd_T29 x0 x4).f3).length < 17592186044416 then (if x3.length < 2199023255552 then (chancelref03_Copy.l0 k x0 (x3 ++ [(⟨(rd_T29 x0 x4).f0, (rd_T29 x0 x4).f1, (y170 ++ ((rd_T29 x0 x4).f2)), (y176 ++ ((rd_T29 x0 x4).f3))⟩ : S29)]) (wrap64 (x4 + 1))) else (none)) else (none))) else (none))) else (none)) else (some x3)
def chancelref03_Copy.f (k : Nat) (l0 : List (S29)) : Option ((List (S29))) := chancelref03_Copy.l0 k l0 ([] : List (S29)) 0
theorem chancelref03_Copy.mono_l : ∀ k, (∀ y0 y1 y2, LeO (chancelref03_Copy.l0 k y0 y1 y2) (chancelref03_Copy.l0 (k + 1) y0 y1 y2))
  | 0 => fun _ _ _ r h => by simp [chancelref03_Copy.l0] at h
  | k + 1 => by
    have ih0 := chancelref03_Copy.mono_l k
    · intro y0 y1 y2
      unfold chancelref03_Copy.l0
      repeat' first
      | (with_reducible exact ih0 _ _ _)
      | (with_reducible exact LeO.refl _)
      | (with_reducible exact LeO.none _)
      | (with_reducible refine LeO.ite ?_ ?_)
      | (with_reducible refine LeO.bind ?_ (fun _ => ?_))
      | exact ih0 _ _ _
      | exact LeO.none _
      | refine LeO.ite ?_ ?_
      | refine LeO.bind ?_ (fun _ => ?_)
theorem chancelref03_Copy.mono : ∀ a0 k, LeO (chancelref03_Copy.f k a0) (chancelref03_Copy.f (k + 1) a0) := by
  intro a0 k
  have ih0 := chancelref03_Copy.mono_l k
  unfold chancelref03_Copy.f
  repeat' first
      | (with_reducible exact ih0 _ _ _)
      | (with_reducible exact LeO.refl _)
      | (with_reducible exact LeO.none _)
      | (with_reducible refine LeO.ite ?_ ?_)
      | (with_reducible refine LeO.bind ?_ (fun _ => ?_))
      | exact ih0 _ _ _
      | exact LeO.none _
      | refine LeO.ite ?_ ?_
      | refine LeO.bind ?_ (fun _ => ?_)
set_option maxHeartbeats 8000000 in
set_option maxRecDepth 100000 in
theorem chancelref03_Copy.calls (k : Nat) (A0 : Option Addr) (c0 : Nat) (l0 : List (S29)) (r : List (S29)) (w : World) (hr0 : Kd.C k29 w A0 l0.length l0) (hc0 : l0.length ≤ c0) (h : chancelref03_Copy.f k l0 = some r) :
    Calls Try.prog 19 #[.slice A0 l0.length c0] w fun e w' => ∃ v0_ : Value, e = .returned (v0_) ∧ Kd.S k29 29 w' w.heap.size (fun _ => True) v0_ r ∧ Below w.heap.size w w' := by
  have hu29 := Try.underlying29
  have HR0 := Aside0.mk hr0
  have HC0 := Aside0.mk hc0
  clear hr0 hc0
  have HB := Aside0.mk (Below.refl w.heap.size w)
  have H : (chancelref03_Copy.l0 k l0 ([] : List (S29)) 0) = some r := h
  clear h
  have H' := Aside0.mk H
  clear H
  go_enter Try.func19, Try.ntmps19
  go_wp2
  go_loopg [3, 4] k (fun kq v3 v4 w' => ∃ (x3_1 : List (S29)) (x4_1 : Int), v4 = .int .i64 x4_1 ∧ Aside0 (chancelref03_Copy.l0 kq l0 x3_1 x4_1 = some r) ∧ Aside0 (kq ≤ k) ∧ Aside0 (Kd.S k29 29 w' w.heap.size (fun _ => True) v3 x3_1) ∧ Aside0 (Below w.heap.size w w'))
  case atStart => exact ⟨(([] : List (S29))), (0), (by first | rfl | (simp; done) | (simp [*]; done)), H', ⟨Nat.le_refl _⟩, ⟨by first | exact Kd.S_nil _ _ _ _ _ | exact Kd.N_nil _ _ _ _ _ | exact Kd.V_nil _ _ _ _ _ | exact Kd.Q_nil _ _ _ _ _ | exact Kd.R_nil _ _ _ _ _⟩, ⟨by repeat (first | (with_reducible first | exact HB.out | apply below_alloc | apply pw_below_drewN | apply below_drew1) | exact HB.out)⟩⟩
  case round =>
    clear H'
    try clear c1
    obtain ⟨x3_1, x4_1, rfl, HA, HK1, HO_3, HB⟩ := hrel
    cases gk with
    | zero => exact absurd HA.out (by simp [chancelref03_Copy.l0])
    | succ k1 =>
      have H := HA.out
      clear HA
      simp only [chancelref03_Copy.l0] at H
      by_cases c2 : x4_1 < (l0.length : Int)
      · rw [if_pos c2] at H
        have c2b0 : decide (x4_1 < (l0.length : Int)) = true := decide_eq_true c2
        clear c2
        by_cases c3 : 0 ≤ x4_1
        · rw [if_pos c3] at H
          have c3b0 : decide (0 ≤ x4_1) = true := decide_eq_true c3
          clear c3
          obtain ⟨y170, hy170⟩ : ∃ y_ : List Int, y_ = (([] : List Int)) := ⟨_, rfl⟩
          replace H : (if y170.length + ((rd_T29 l0 x4_1).f2).length < 17592186044416 then ((some (([] : List Int) : List Int)).bind fun y176 => (if y176.length + ((rd_T29 l0 x4_1).f3).length < 17592186044416 then (if x3_1.length < 2199023255552 then (chancelref03_Copy.l0 k1 l0 (x3_1 ++ [(⟨(rd_T29 l0 x4_1).f0, (rd_T29 l0 x4_1).f1, (y170 ++ ((rd_T29 l0 x4_1).f2)), (y176 ++ ((rd_T29 l0 x4_1).f3))⟩ : S29)]) (wrap64 (x4_1 + 1))) else (none)) else (none))) else (none)) = some r := by first | (rw [hy170]; with_reducible exact H) | (have H2_ := (Option.bind_some _ _).symm.trans H; rw [hy170]; with_reducible exact H2_) | (have H2_ := (Option.bind_some _ _).symm.trans H; with_reducible exact H2_) | with_reducible exact H | (rw [hy170]; exact H) | exact H
          have Ny170 := Aside0.mk hy170
          clear hy170
          by_cases c4 : y170.length + ((rd_T29 l0 x4_1).f2).length < 17592186044416
          · rw [if_pos c4] at H
            have LMc4 := Aside0.mk c4
            clear c4
            obtain ⟨y173, hy173⟩ : ∃ y_ : List Int, y_ = (y170 ++ ((rd_T29 l0 x4_1).f2)) := ⟨_, rfl⟩
            replace H : ((some (([] : List Int) : List Int)).bind fun y176 => (if y176.length + ((rd_T29 l0 x4_1).f3).length < 17592186044416 then (if x3_1.length < 2199023255552 then (chancelref03_Copy.l0 k1 l0 (x3_1 ++ [(⟨(rd_T29 l0 x4_1).f0, (rd_T29 l0 x4_1).f1, y173, (y176 ++ ((rd_T29 l0 x4_1).f3))⟩ : S29)]) (wrap64 (x4_1 + 1))) else (none)) else (none))) = some r := by first | (rw [hy173]; with_reducible exact H) | (have H2_ := (Option.bind_some _ _).symm.trans H; rw [hy173]; with_reducible exact H2_) | (have H2_ := (Option.bind_some _ _).symm.trans H; with_reducible exact H2_) | with_reducible exact H | (rw [hy173]; exact H) | exact H
            have Ny173 := Aside0.mk hy173
            clear hy173
            obtain ⟨y176, hy176⟩ : ∃ y_ : List Int, y_ = (([] : List Int)) := ⟨_, rfl⟩
            replace H : (if y176.length + ((rd_T29 l0 x4_1).f3).length < 17592186044416 then (if x3_1.length < 2199023255552 then (chancelref03_Copy.l0 k1 l0 (x3_1 ++ [(⟨(rd_T29 l0 x4_1).f0, (rd_T29 l0 x4_1).f1, y173, (y176 ++ ((rd_T29 l0 x4_1).f3))⟩ : S29)]) (wrap64 (x4_1 + 1))) else (none)) else (none)) = some r := by first | (rw [hy176]; with_reducible exact H) | (have H2_ := (Option.bind_some _ _).symm.trans H; rw [hy176]; with_reducible exact H2_) | (have H2_ := (Option.bind_some _ _).symm.trans H; with_reducible exact H2_) | with_reducible exact H | (rw [hy176]; exact H) | exact H
            have Ny176 := Aside0.mk hy176
            clear hy176
            by_cases c5 : y176.length + ((rd_T29 l0 x4_1).f3).length < 17592186044416
            · rw [if_pos c5] at H
              have LMc5 := Aside0.mk c5
              clear c5
              obtain ⟨y179, hy179⟩ : ∃ y_ : List Int, y_ = (y176 ++ ((rd_T29 l0 x4_1).f3)) := ⟨_, rfl⟩
              replace H : (if x3_1.length < 2199023255552 then (chancelref03_Copy.l0 k1 l0 (x3_1 ++ [(⟨(rd_T29 l0 x4_1).f0, (rd_T29 l0 x4_1).f1, y173, y179⟩ : S29)]) (wrap64 (x4_1 + 1))) else (none)) = some r := by first | (rw [hy179]; with_reducible exact H) | (have H2_ := (Option.bind_some _ _).symm.trans H; rw [hy179]; with_reducible exact H2_) | (have H2_ := (Option.bind_some _ _).symm.trans H; with_reducible exact H2_) | with_reducible exact H | (rw [hy179]; exact H) | exact H
              have Ny179 := Aside0.mk hy179
              clear hy179
              by_cases c6 : x3_1.length < 2199023255552
              · rw [if_pos c6] at H
                have LMc6 := Aside0.mk c6
                clear c6
                obtain ⟨y182, hy182⟩ : ∃ y_ : List (S29), y_ = (x3_1 ++ [(⟨(rd_T29 l0 x4_1).f0, (rd_T29 l0 x4_1).f1, y173, y179⟩ : S29)]) := ⟨_, rfl⟩
                replace H : (chancelref03_Copy.l0 k1 l0 y182 (wrap64 (x4_1 + 1))) = some r := by first | (rw [hy182]; with_reducible exact H) | (have H2_ := (Option.bind_some _ _).symm.trans H; rw [hy182]; with_reducible exact H2_) | (have H2_ := (Option.bind_some _ _).symm.trans H; with_reducible exact H2_) | with_reducible exact H | (rw [hy182]; exact H) | exact H
                have Ny182 := Aside0.mk hy182
                clear hy182
                have H' := Aside0.mk H
                clear H
                have p168 : 0 ≤ (x4_1 : Int) := of_decide_eq_true (by first | (with_reducible assumption) | assumption)
                have q168 : x4_1 < (l0.length : Int) := of_decide_eq_true (by first | (with_reducible assumption) | assumption)
                obtain ⟨ad168, A168_2, c168_2, A168_3, c168_3, e168, hx168_0, hx168_1, hx168_2, hx168_3, hl168_2, hi168_2, hl168_3, hi168_3⟩ := at_T29 HR0.out x4_1 p168 q168
                cases e168
                replace hx168_0 := (HB.out.cell (World.block_lt_of_cell? w _ hx168_0)).trans hx168_0
                replace hx168_1 := (HB.out.cell (World.block_lt_of_cell? w _ hx168_1)).trans hx168_1
                replace hx168_2 := (HB.out.cell (World.block_lt_of_cell? w _ hx168_2)).trans hx168_2
                replace hx168_3 := (HB.out.cell (World.block_lt_of_cell? w _ hx168_3)).trans hx168_3
                have HR168_2 := Aside0.mk hi168_2
                have HC168_2 := Aside0.mk hl168_2
                clear hi168_2 hl168_2
                have HR168_3 := Aside0.mk hi168_3
                have HC168_3 := Aside0.mk hl168_3
                clear hi168_3 hl168_3
                replace p168 := eq_true p168
                replace q168 := eq_true q168
                go_wp2_with (first | ((with_reducible refine gate_dst (N := 5) rfl ?_); refine box_event ?hg (N := 5) ?hd (cs := #[.int .i64 0, .int .i64 0, .slice none 0 0, .slice none 0 0]) (t := 29) ?hr ?_; (case hd => rfl); (case hg => rfl); (case hr => first | (go_simp; done) | (go_simp; rfl)); intro gb169 hg w7 hbox hb; have n0_ := Aside0.mk (Kd.S_below (Kd.S_elderB (by (with_reducible repeat (first | apply Kd.S_alloc | apply Kd.S_drewN | apply Kd.S_drew)); exact HO_3.out) gb169 (Nat.le_of_eq hg.symm)) hb); have n1_ := Aside0.mk (below_step (by repeat (first | (with_reducible first | exact HB.out | apply below_alloc | apply pw_below_drewN | apply below_drew1) | exact HB.out)) hb); have n2_ := Aside0.mk (hbox); have n3_ := Aside0.mk ((by rw [hg]; exact (below_size (by repeat (first | (with_reducible first | exact HB.out | apply below_alloc | apply pw_below_drewN | apply below_drew1) | exact HB.out))) : w.heap.size ≤ gb169)); have n4_ := Aside0.mk ((by rw [hg]; exact (below_size (by repeat (first | (with_reducible first | exact HB.out | apply below_alloc | apply pw_below_drewN | apply below_drew1) | exact HB.out))) : w.heap.size ≤ gb169)); clear HO_3; clear HB; have HO_3 := n0_; have HB := n1_; have BK169 := n2_; have GW169 := n3_; have GE169 := n4_; clear n0_ n1_ n2_ n3_ n4_; clear hb hbox hg; have hcz8_0 : w7.cell? ⟨gb169, 0, none⟩ = some (.int .i64 0) := (blk_cell BK169.out 0).trans rfl; have hcz8_1 : w7.cell? ⟨gb169, 1, none⟩ = some (.int .i64 0) := (blk_cell BK169.out 1).trans rfl; have hcz8_2 : w7.cell? ⟨gb169, 2, none⟩ = some (.slice none 0 0) := (blk_cell BK169.out 2).trans rfl; have hcz8_3 : w7.cell? ⟨gb169, 3, none⟩ = some (.slice none 0 0) := (blk_cell BK169.out 3).trans rfl; have hfz8_0 := blk_frozen BK169.out 0; have hfz8_1 := blk_frozen BK169.out 1; have hfz8_2 := blk_frozen BK169.out 2; have hfz8_3 := blk_frozen BK169.out 3) | ((with_reducible refine gate_dst (N := 16) rfl ?_); refine Kd.R_lit (Kd.int .i64) _ 3 ?hg (N := 16) ?hd (xs := ([] : List Int)) (inner := []) (ok := fun _ => True) (okp := fun _ => True) ?hr ?hp (fun _ hk => hk) trivial (Below.refl _ _) (Nat.le_refl _) (by simp) ?_; (case hd => rfl); (case hg => rfl); (case hr => first | (go_simp; done) | (go_simp; rfl)); (case hp => exact (Reps.none _ _)); intro v171 w9 ho10 hb hg_ hnew_; clear hg_ hnew_; (first | rw [← Ny170.out] at ho10 | (simp only [Int.reduceToNat] at ho10; rw [← Ny170.out] at ho10)); have n0_ := Aside0.mk (Kd.S_elder' (by (with_reducible repeat (first | apply Kd.S_alloc | apply Kd.S_drewN | apply Kd.S_drew)); exact (Kd.S_mono (Kd.S_far (p := ⟨gb169, 3, none⟩) (Kd.S_far (p := ⟨gb169, 2, none⟩) (Kd.S_far (p := ⟨gb169, 1, none⟩) (Kd.S_far (p := ⟨gb169, 0, none⟩) (Kd.S_mono HO_3.out (fun k_ hk => (⟨hk, hk.2⟩ : _ ∧ k_ ≠ gb169))) (fun _ hk => hk.2) (.int .i64 ((rd_T29 l0 x4_1).f0))) (fun _ hk => hk.2) (.int .i64 ((rd_T29 l0 x4_1).f1))) (fun _ hk => hk.2) (.slice A168_2 ((rd_T29 l0 x4_1).f2).length c168_2)) (fun _ hk => hk.2) (.slice A168_3 ((rd_T29 l0 x4_1).f3).length c168_3)) (fun _ h_ => h_.1))) (Kd.R_base ho10) hb); have n1_ := Aside0.mk (Kd.R_lower ho10 (below_size (by repeat (first | (with_reducible first | exact HB.out | apply below_alloc | apply pw_below_drewN | apply below_drew1 | refine below_set ?_ GE169.out) | exact HB.out)))); have n2_ := Aside0.mk (blk_below (g := gb169) (o := .cells #[.int .i64 ((rd_T29 l0 x4_1).f0), .int .i64 ((rd_T29 l0 x4_1).f1), .slice A168_2 ((rd_T29 l0 x4_1).f2).length c168_2, .slice A168_3 ((rd_T29 l0 x4_1).f3).length c168_3] 29 (0, 0)) (by (with_reducible repeat (first | refine blk_drewN ?_ _ | refine blk_drew ?_ | refine blk_alloc ?_ _)); refine blk_put (cs := #[.int .i64 ((rd_T29 l0 x4_1).f0), .int .i64 ((rd_T29 l0 x4_1).f1), .slice A168_2 ((rd_T29 l0 x4_1).f2).length c168_2, .slice none 0 0]) ?_ 3 _ rfl; (with_reducible repeat (first | refine blk_drewN ?_ _ | refine blk_drew ?_ | refine blk_alloc ?_ _)); refine blk_put (cs := #[.int .i64 ((rd_T29 l0 x4_1).f0), .int .i64 ((rd_T29 l0 x4_1).f1), .slice none 0 0, .slice none 0 0]) ?_ 2 _ rfl; (with_reducible repeat (first | refine blk_drewN ?_ _ | refine blk_drew ?_ | refine blk_alloc ?_ _)); refine blk_put (cs := #[.int .i64 ((rd_T29 l0 x4_1).f0), .int .i64 0, .slice none 0 0, .slice none 0 0]) ?_ 1 _ rfl; (with_reducible repeat (first | refine blk_drewN ?_ _ | refine blk_drew ?_ | refine blk_alloc ?_ _)); refine blk_put (cs := #[.int .i64 0, .int .i64 0, .slice none 0 0, .slice none 0 0]) ?_ 0 _ rfl; (with_reducible repeat (first | refine blk_drewN ?_ _ | refine blk_drew ?_ | refine blk_alloc ?_ _)); exact BK169.out) hb); have n3_ := Aside0.mk (below_step (by repeat (first | (with_reducible first | exact HB.out | apply below_alloc | apply pw_below_drewN | apply below_drew1 | refine below_set ?_ GE169.out) | exact HB.out)) hb); clear HO_3; clear BK169; clear HB; have HO_3 := n0_; have HO172 := n1_; have BK169 := n2_; have HB := n3_; clear n0_ n1_ n2_ n3_; clear hb ho10; have hcz11_0 : w9.cell? ⟨gb169, 0, none⟩ = some (.int .i64 ((rd_T29 l0 x4_1).f0)) := (blk_cell BK169.out 0).trans rfl; have hcz11_1 : w9.cell? ⟨gb169, 1, none⟩ = some (.int .i64 ((rd_T29 l0 x4_1).f1)) := (blk_cell BK169.out 1).trans rfl; have hcz11_2 : w9.cell? ⟨gb169, 2, none⟩ = some (.slice A168_2 ((rd_T29 l0 x4_1).f2).length c168_2) := (blk_cell BK169.out 2).trans rfl; have hcz11_3 : w9.cell? ⟨gb169, 3, none⟩ = some (.slice A168_3 ((rd_T29 l0 x4_1).f3).length c168_3) := (blk_cell BK169.out 3).trans rfl; have hfz11_0 := blk_frozen BK169.out 0; have hfz11_1 := blk_frozen BK169.out 1; have hfz11_2 := blk_frozen BK169.out 2; have hfz11_3 := blk_frozen BK169.out 3) | ((with_reducible refine gate_builtin (b := .append) (xs := #[.tmp 16, .tmp 18]) rfl ?_); at_builtin; refine Kd.R_append_rows (Kd.int .i64) (w0 := w) w.heap.size rfl (.tmp 16) (.tmp 18) 27 3 (.int .i64 0) 8 rfl Try.underlying27 info3 rfl (by decide) (by omega) v171 y170 ((rd_T29 l0 x4_1).f2) _ _ _ (fun _ => True) (fun _ => False) rfl rfl ?aO ?aR (fun _ _ h => h) (fun _ h => h.elim) ?aF ?aB ?aS ?aL ?_; (case aR => repeat (first | exact (Kd.C_below HR168_2.out HB.out) | (with_reducible refine Kd.C_alloc ?_ _) | (with_reducible refine Kd.C_drewN ?_ _) | (with_reducible refine Kd.C_drew ?_))); (case aB => exact (by repeat (first | (with_reducible first | exact HB.out | apply below_alloc | apply pw_below_drewN | apply below_drew1 | refine below_set ?_ GE169.out) | exact HB.out))); (case aF => exact (fun _ _ => trivial)); (case aO => exact (by (with_reducible repeat (first | apply Kd.R_alloc | apply Kd.R_drewN | apply Kd.R_drew)); exact HO172.out)); (case aS => exact (below_size (by repeat (first | (with_reducible first | exact HB.out | apply below_alloc | apply pw_below_drewN | apply below_drew1 | refine below_set ?_ GE169.out) | exact HB.out)))); (case aL => have := LMc4.out; omega); intro v174 w12 ho hb hg hat; rw [← Ny173.out] at ho; have n0_ := Aside0.mk (Kd.S_after (ok := (fun k_ => k_ ≠ gb169)) (by (with_reducible repeat (first | apply Kd.S_alloc | apply Kd.S_drewN | apply Kd.S_drew)); exact Kd.S_mono HO_3.out (fun _ hk => ⟨hk.1.2, hk.2⟩)) hg hat); have n1_ := Aside0.mk (blk_grown (g := gb169) (o := .cells #[.int .i64 ((rd_T29 l0 x4_1).f0), .int .i64 ((rd_T29 l0 x4_1).f1), .slice A168_2 ((rd_T29 l0 x4_1).f2).length c168_2, .slice A168_3 ((rd_T29 l0 x4_1).f3).length c168_3] 29 (0, 0)) (by (with_reducible repeat (first | refine blk_drewN ?_ _ | refine blk_drew ?_ | refine blk_alloc ?_ _)); exact BK169.out) hg (Kd.R_ne HO172.out BK169.out (by decide))); have n2_ := Aside0.mk (hb); have n3_ := Aside0.mk (ho); clear HO_3; clear BK169; clear HB; clear HO172; have HO_3 := n0_; have BK169 := n1_; have HB := n2_; have HO175 := n3_; clear n0_ n1_ n2_ n3_; clear ho hb hg hat; obtain ⟨Ao13, co13, eo13⟩ := Kd.R_slice HO175.out; subst eo13; have hcz14_0 : w12.cell? ⟨gb169, 0, none⟩ = some (.int .i64 ((rd_T29 l0 x4_1).f0)) := (blk_cell BK169.out 0).trans rfl; have hcz14_1 : w12.cell? ⟨gb169, 1, none⟩ = some (.int .i64 ((rd_T29 l0 x4_1).f1)) := (blk_cell BK169.out 1).trans rfl; have hcz14_2 : w12.cell? ⟨gb169, 2, none⟩ = some (.slice A168_2 ((rd_T29 l0 x4_1).f2).length c168_2) := (blk_cell BK169.out 2).trans rfl; have hcz14_3 : w12.cell? ⟨gb169, 3, none⟩ = some (.slice A168_3 ((rd_T29 l0 x4_1).f3).length c168_3) := (blk_cell BK169.out 3).trans rfl; have hfz14_0 := blk_frozen BK169.out 0; have hfz14_1 := blk_frozen BK169.out 1; have hfz14_2 := blk_frozen BK169.out 2; have hfz14_3 := blk_frozen BK169.out 3) | ((with_reducible refine gate_dst (N := 21) rfl ?_); refine Kd.R_lit (Kd.int .i64) _ 3 ?hg (N := 21) ?hd (xs := ([] : List Int)) (inner := []) (ok := fun _ => True) (okp := fun _ => True) ?hr ?hp (fun _ hk => hk) trivial (Below.refl _ _) (Nat.le_refl _) (by simp) ?_; (case hd => rfl); (case hg => rfl); (case hr => first | (go_simp; done) | (go_simp; rfl)); (case hp => exact (Reps.none _ _)); intro v177 w15 ho16 hb hg_ hnew_; clear hg_ hnew_; (first | rw [← Ny176.out] at ho16 | (simp only [Int.reduceToNat] at ho16; rw [← Ny176.out] at ho16)); have n0_ := Aside0.mk (Kd.S_elder' (by (with_reducible repeat (first | apply Kd.S_alloc | apply Kd.S_drewN | apply Kd.S_drew)); exact (Kd.S_mono (Kd.S_far (p := ⟨gb169, 2, none⟩) (Kd.S_mono HO_3.out (fun k_ hk => (⟨hk, hk.1⟩ : _ ∧ k_ ≠ gb169))) (fun _ hk => hk.2) (.slice Ao13 y173.length co13)) (fun _ h_ => h_.1))) (Kd.R_base ho16) hb); have n1_ := Aside0.mk (Kd.R_elder' (by (with_reducible repeat (first | apply Kd.R_alloc | apply Kd.R_drewN | apply Kd.R_drew)); exact (Kd.R_mono (Kd.R_far (p := ⟨gb169, 2, none⟩) (Kd.R_types HO175.out BK169.out (by decide)) (fun _ hk => hk.2) (.slice Ao13 y173.length co13)) (fun _ h_ => h_.1))) (Kd.R_base ho16) hb); have n2_ := Aside0.mk (Kd.R_lower (Kd.R_new' ho16 (Kd.R_lt (by (with_reducible repeat (first | apply Kd.R_alloc | apply Kd.R_drewN | apply Kd.R_drew)); exact (Kd.R_mono (Kd.R_far (p := ⟨gb169, 2, none⟩) (Kd.R_types HO175.out BK169.out (by decide)) (fun _ hk => hk.2) (.slice Ao13 y173.length co13)) (fun _ h_ => h_.1))))) (below_size (by repeat (first | (with_reducible first | exact HB.out | apply below_alloc | apply pw_below_drewN | apply below_drew1 | refine below_set ?_ GE169.out) | exact HB.out)))); have n3_ := Aside0.mk (blk_below (g := gb169) (o := .cells #[.int .i64 ((rd_T29 l0 x4_1).f0), .int .i64 ((rd_T29 l0 x4_1).f1), .slice Ao13 y173.length co13, .slice A168_3 ((rd_T29 l0 x4_1).f3).length c168_3] 29 (0, 0)) (by (with_reducible repeat (first | refine blk_drewN ?_ _ | refine blk_drew ?_ | refine blk_alloc ?_ _)); refine blk_put (cs := #[.int .i64 ((rd_T29 l0 x4_1).f0), .int .i64 ((rd_T29 l0 x4_1).f1), .slice A168_2 ((rd_T29 l0 x4_1).f2).length c168_2, .slice A168_3 ((rd_T29 l0 x4_1).f3).length c168_3]) ?_ 2 _ rfl; (with_reducible repeat (first | refine blk_drewN ?_ _ | refine blk_drew ?_ | refine blk_alloc ?_ _)); exact BK169.out) hb); have n4_ := Aside0.mk (below_step (by repeat (first | (with_reducible first | exact HB.out | apply below_alloc | apply pw_below_drewN | apply below_drew1 | refine below_set ?_ GE169.out) | exact HB.out)) hb); clear HO_3; clear HO175; clear BK169; clear HB; have HO_3 := n0_; have HO175 := n1_; have HO178 := n2_; have BK169 := n3_; have HB := n4_; clear n0_ n1_ n2_ n3_ n4_; clear hb ho16; have hcz17_0 : w15.cell? ⟨gb169, 0, none⟩ = some (.int .i64 ((rd_T29 l0 x4_1).f0)) := (blk_cell BK169.out 0).trans rfl; have hcz17_1 : w15.cell? ⟨gb169, 1, none⟩ = some (.int .i64 ((rd_T29 l0 x4_1).f1)) := (blk_cell BK169.out 1).trans rfl; have hcz17_2 : w15.cell? ⟨gb169, 2, none⟩ = some (.slice Ao13 y173.length co13) := (blk_cell BK169.out 2).trans rfl; have hcz17_3 : w15.cell? ⟨gb169, 3, none⟩ = some (.slice A168_3 ((rd_T29 l0 x4_1).f3).length c168_3) := (blk_cell BK169.out 3).trans rfl; have hfz17_0 := blk_frozen BK169.out 0; have hfz17_1 := blk_frozen BK169.out 1; have hfz17_2 := blk_frozen BK169.out 2; have hfz17_3 := blk_frozen BK169.out 3) | ((with_reducible refine gate_builtin (b := .append) (xs := #[.tmp 21, .tmp 23]) rfl ?_); at_builtin; refine Kd.R_append_rows (Kd.int .i64) (w0 := w) w.heap.size rfl (.tmp 21) (.tmp 23) 27 3 (.int .i64 0) 8 rfl Try.underlying27 info3 rfl (by decide) (by omega) v177 y176 ((rd_T29 l0 x4_1).f3) _ _ _ (fun k_ => some k_ ≠ (.slice Ao13 y173.length co13 : Value).ownBlock) (fun _ => False) rfl rfl ?aO ?aR (fun _ _ h => h) (fun _ h => h.elim) ?aF ?aB ?aS ?aL ?_; (case aR => repeat (first | exact (Kd.C_below HR168_3.out HB.out) | (with_reducible refine Kd.C_alloc ?_ _) | (with_reducible refine Kd.C_drewN ?_ _) | (with_reducible refine Kd.C_drew ?_))); (case aB => exact (by repeat (first | (with_reducible first | exact HB.out | apply below_alloc | apply pw_below_drewN | apply below_drew1 | refine below_set ?_ GE169.out) | exact HB.out))); (case aF => exact (fun k_ hk => Kd.fresh' (Kd.R_lt (by (with_reducible repeat (first | apply Kd.R_alloc | apply Kd.R_drewN | apply Kd.R_drew)); exact HO175.out)) k_ hk)); (case aO => exact (by (with_reducible repeat (first | apply Kd.R_alloc | apply Kd.R_drewN | apply Kd.R_drew)); exact Kd.R_mono HO178.out (fun _ hk => hk.2))); (case aS => exact (below_size (by repeat (first | (with_reducible first | exact HB.out | apply below_alloc | apply pw_below_drewN | apply below_drew1 | refine below_set ?_ GE169.out) | exact HB.out)))); (case aL => have := LMc5.out; omega); intro v180 w18 ho hb hg hat; rw [← Ny179.out] at ho; have n0_ := Aside0.mk (Kd.S_after (ok := (fun k_ => some k_ ≠ (.slice Ao13 y173.length co13 : Value).ownBlock ∧ k_ ≠ gb169)) (by (with_reducible repeat (first | apply Kd.S_alloc | apply Kd.S_drewN | apply Kd.S_drew)); exact Kd.S_mono HO_3.out (fun _ hk => ⟨⟨hk.1.2, hk.1.1⟩, hk.2⟩)) hg hat); have n1_ := Aside0.mk (blk_grown (g := gb169) (o := .cells #[.int .i64 ((rd_T29 l0 x4_1).f0), .int .i64 ((rd_T29 l0 x4_1).f1), .slice Ao13 y173.length co13, .slice A168_3 ((rd_T29 l0 x4_1).f3).length c168_3] 29 (0, 0)) (by (with_reducible repeat (first | refine blk_drewN ?_ _ | refine blk_drew ?_ | refine blk_alloc ?_ _)); exact BK169.out) hg (Kd.R_ne HO178.out BK169.out (by decide))); have n2_ := Aside0.mk (Kd.R_after (ok := (fun _ => True)) (by (with_reducible repeat (first | apply Kd.R_alloc | apply Kd.R_drewN | apply Kd.R_drew)); exact HO175.out) hg hat); have n3_ := Aside0.mk (hb); have n4_ := Aside0.mk (ho); clear HO_3; clear BK169; clear HO175; clear HB; clear HO178; have HO_3 := n0_; have BK169 := n1_; have HO175 := n2_; have HB := n3_; have HO181 := n4_; clear n0_ n1_ n2_ n3_ n4_; clear ho hb hg hat; obtain ⟨Ao19, co19, eo19⟩ := Kd.R_slice HO181.out; subst eo19; have hcz20_0 : w18.cell? ⟨gb169, 0, none⟩ = some (.int .i64 ((rd_T29 l0 x4_1).f0)) := (blk_cell BK169.out 0).trans rfl; have hcz20_1 : w18.cell? ⟨gb169, 1, none⟩ = some (.int .i64 ((rd_T29 l0 x4_1).f1)) := (blk_cell BK169.out 1).trans rfl; have hcz20_2 : w18.cell? ⟨gb169, 2, none⟩ = some (.slice Ao13 y173.length co13) := (blk_cell BK169.out 2).trans rfl; have hcz20_3 : w18.cell? ⟨gb169, 3, none⟩ = some (.slice A168_3 ((rd_T29 l0 x4_1).f3).length c168_3) := (blk_cell BK169.out 3).trans rfl; have hfz20_0 := blk_frozen BK169.out 0; have hfz20_1 := blk_frozen BK169.out 1; have hfz20_2 := blk_frozen BK169.out 2; have hfz20_3 := blk_frozen BK169.out 3) | ((with_reducible refine gate_store (t := 27) (p := 25) rfl ?_); refine store_event (t := 27) (p := 25) (v := ?vo_w21) (w1 := (w18.setCell ⟨gb169, 3, none⟩ (.slice Ao19 y179.length co19))) ?hg ?ho ?hn ?hr ?_; (case ho => rfl); (case hg => rfl); (case hn => rfl); (case hr => first | (go_simp; done) | (go_simp; rfl)); intro w21 hw; have n0_ : Aside0 (Kd.S k29 29 w21 w.heap.size (fun k_ => some k_ ≠ (.slice Ao13 y173.length co13 : Value).ownBlock ∧ some k_ ≠ (.slice Ao19 y179.length co19 : Value).ownBlock ∧ k_ ≠ gb169) u3 x3_1) := ⟨(by rw [hw]; exact (by (with_reducible repeat (first | apply Kd.S_alloc | apply Kd.S_drewN | apply Kd.S_drew)); exact Kd.S_mono (Kd.S_far (p := ⟨gb169, 3, none⟩) (Kd.S_mono HO_3.out (fun k_ hk => (⟨hk, hk.1.2⟩ : _ ∧ k_ ≠ gb169))) (fun _ hk => hk.2) (.slice Ao19 y179.length co19)) (fun _ hk => ⟨hk.1.1.1, ⟨hk.1.2, hk.1.1.2⟩⟩)))⟩; have n1_ : Aside0 (Kd.R (Kd.int .i64) 3 w21 w.heap.size (fun k_ => some k_ ≠ (.slice Ao19 y179.length co19 : Value).ownBlock) (.slice Ao13 y173.length co13) y173) := ⟨(by rw [hw]; exact (by (with_reducible repeat (first | apply Kd.R_alloc | apply Kd.R_drewN | apply Kd.R_drew)); exact Kd.R_mono (Kd.R_far (p := ⟨gb169, 3, none⟩) (Kd.R_types HO175.out BK169.out (by decide)) (fun _ hk => hk.2) (.slice Ao19 y179.length co19)) (fun _ hk => hk.1.2)))⟩; have n2_ : Aside0 (Kd.R (Kd.int .i64) 3 w21 w.heap.size (fun k_ => some k_ ≠ (.slice Ao13 y173.length co13 : Value).ownBlock) (.slice Ao19 y179.length co19) y179) := ⟨(by rw [hw]; exact (by (with_reducible repeat (first | apply Kd.R_alloc | apply Kd.R_drewN | apply Kd.R_drew)); exact Kd.R_mono (Kd.R_far (p := ⟨gb169, 3, none⟩) (Kd.R_types HO181.out BK169.out (by decide)) (fun _ hk => hk.2) (.slice Ao19 y179.length co19)) (fun _ hk => hk.1)))⟩; have n3_ : Aside0 (w21.heap[gb169]? = some (.cells #[.int .i64 ((rd_T29 l0 x4_1).f0), .int .i64 ((rd_T29 l0 x4_1).f1), .slice Ao13 y173.length co13, .slice Ao19 y179.length co19] 29 (0, 0))) := ⟨(by rw [hw]; exact (by (with_reducible repeat (first | refine blk_drewN ?_ _ | refine blk_drew ?_ | refine blk_alloc ?_ _)); refine blk_put (cs := #[.int .i64 ((rd_T29 l0 x4_1).f0), .int .i64 ((rd_T29 l0 x4_1).f1), .slice Ao13 y173.length co13, .slice A168_3 ((rd_T29 l0 x4_1).f3).length c168_3]) ?_ 3 _ rfl; (with_reducible repeat (first | refine blk_drewN ?_ _ | refine blk_drew ?_ | refine blk_alloc ?_ _)); exact BK169.out))⟩; have n4_ : Aside0 (Below w.heap.size w w21) := ⟨(by rw [hw]; exact (by repeat (first | (with_reducible first | exact HB.out | apply below_alloc | apply pw_below_drewN | apply below_drew1 | refine below_set ?_ GE169.out) | exact HB.out)))⟩; clear hw; clear HO_3; clear HO175; clear HO181; clear BK169; clear HB; have HO_3 := n0_; have HO175 := n1_; have HO181 := n2_; have BK169 := n3_; have HB := n4_; clear n0_ n1_ n2_ n3_ n4_; have hcz22_0 : w21.cell? ⟨gb169, 0, none⟩ = some (.int .i64 ((rd_T29 l0 x4_1).f0)) := (blk_cell BK169.out 0).trans rfl; have hcz22_1 : w21.cell? ⟨gb169, 1, none⟩ = some (.int .i64 ((rd_T29 l0 x4_1).f1)) := (blk_cell BK169.out 1).trans rfl; have hcz22_2 : w21.cell? ⟨gb169, 2, none⟩ = some (.slice Ao13 y173.length co13) := (blk_cell BK169.out 2).trans rfl; have hcz22_3 : w21.cell? ⟨gb169, 3, none⟩ = some (.slice Ao19 y179.length co19) := (blk_cell BK169.out 3).trans rfl; have hfz22_0 := blk_frozen BK169.out 0; have hfz22_1 := blk_frozen BK169.out 1; have hfz22_2 := blk_frozen BK169.out 2; have hfz22_3 := blk_frozen BK169.out 3) | ((with_reducible refine gate_builtin (b := .append) (xs := #[.tmp 26, .tmp 28]) rfl ?_); at_builtin; refine Kd.S_append k29 (w0 := w) w.heap.size rfl (.tmp 26) (.tmp 28) 22 29 (.agg #[(.int .i64 0), (.int .i64 0), (.slice none 0 0), (.slice none 0 0)]) 64 rfl Try.underlying22 info29 rfl (by decide) (by omega) u3 x3_1 (⟨(rd_T29 l0 x4_1).f0, (rd_T29 l0 x4_1).f1, y173, y179⟩ : S29) [.int .i64 ((rd_T29 l0 x4_1).f0), .int .i64 ((rd_T29 l0 x4_1).f1), .slice Ao13 y173.length co13, .slice Ao19 y179.length co19] (fun k_ => k_ ≠ gb169) (fun k_ => some k_ = (.slice Ao13 y173.length co13 : Value).ownBlock ∨ some k_ = (.slice Ao19 y179.length co19 : Value).ownBlock) rfl rfl ?aP (fun k_ hk_ => hk_.elim (fun h_ => ((Kd.R_mono (ok' := fun k_ => ((fun k_ => k_ ≠ gb169)) k_ ∧ some k_ ≠ (u3 : Value).ownBlock) (Kd.R_types (Kd.R_apart' (HO175.out) (Kd.S_typed HO_3.out) (by decide)) BK169.out (by decide)) (fun k_ hk => ⟨hk.2, hk.1.2⟩))).1 k_ h_.symm) (fun h_ => ((Kd.R_mono (ok' := fun k_ => ((fun k_ => k_ ≠ gb169)) k_ ∧ some k_ ≠ (u3 : Value).ownBlock) (Kd.R_types (Kd.R_apart' (HO181.out) (Kd.S_typed HO_3.out) (by decide)) BK169.out (by decide)) (fun k_ hk => ⟨hk.2, hk.1.2⟩))).1 k_ h_.symm)) ?aF ?aO ?aB ?aS ?aL ?_; (case aP => exact k29_mkM _ _ _ (⟨(rd_T29 l0 x4_1).f0, (rd_T29 l0 x4_1).f1, y173, y179⟩ : S29) (Kd.R_mono (Kd.R_tight rfl (Kd.R_mono (ok' := fun k_ => ((fun k_ => k_ ≠ gb169)) k_ ∧ some k_ ≠ (u3 : Value).ownBlock) (Kd.R_types (Kd.R_apart' (HO175.out) (Kd.S_typed HO_3.out) (by decide)) BK169.out (by decide)) (fun k_ hk => ⟨hk.2, hk.1.2⟩))) (fun _ h_ => Or.inl h_)) (Kd.R_mono (Kd.R_tight rfl (Kd.R_mono (ok' := fun k_ => ((fun k_ => k_ ≠ gb169)) k_ ∧ some k_ ≠ (u3 : Value).ownBlock) (Kd.R_types (Kd.R_apart' (HO181.out) (Kd.S_typed HO_3.out) (by decide)) BK169.out (by decide)) (fun k_ hk => ⟨hk.2, hk.1.2⟩))) (fun _ h_ => Or.inr (h_)))); (case aB => exact (by repeat (first | (with_reducible first | exact HB.out | apply below_alloc | apply pw_below_drewN | apply below_drew1 | refine below_set ?_ GE169.out) | exact HB.out))); (case aF => exact (fun k_ hk => Kd.freshB (g := gb169) (o := .cells #[.int .i64 ((rd_T29 l0 x4_1).f0), .int .i64 ((rd_T29 l0 x4_1).f1), .slice Ao13 y173.length co13, .slice Ao19 y179.length co19] 29 (0, 0)) (by (with_reducible repeat (first | refine blk_drewN ?_ _ | refine blk_drew ?_ | refine blk_alloc ?_ _)); exact BK169.out) k_ hk)); (case aO => exact (by (with_reducible repeat (first | apply Kd.S_alloc | apply Kd.S_drewN | apply Kd.S_drew)); exact Kd.S_mono HO_3.out (fun k_ hk => ⟨hk.2.2, fun e_ => e_.elim (fun h_ => hk.1 h_) (fun h_ => hk.2.1 h_)⟩))); (case aS => exact (below_size (by repeat (first | (with_reducible first | exact HB.out | apply below_alloc | apply pw_below_drewN | apply below_drew1 | refine below_set ?_ GE169.out) | exact HB.out)))); (case aL => have := LMc6.out; omega); intro v183 w23 ho hb hg hat; rw [← Ny182.out] at ho; have n0_ := Aside0.mk (blk_grown (g := gb169) (o := .cells #[.int .i64 ((rd_T29 l0 x4_1).f0), .int .i64 ((rd_T29 l0 x4_1).f1), .slice Ao13 y173.length co13, .slice Ao19 y179.length co19] 29 (0, 0)) (by (with_reducible repeat (first | refine blk_drewN ?_ _ | refine blk_drew ?_ | refine blk_alloc ?_ _)); exact BK169.out) hg (Kd.S_away HO_3.out (fun _ hk => hk.2.2))); have n1_ := Aside0.mk (hb); have n2_ := Aside0.mk (ho); clear BK169; clear HB; clear HO_3; clear HO175; clear HO181; have BK169 := n0_; have HB := n1_; have HO184 := n2_; clear n0_ n1_ n2_; clear ho hb hg hat))
                go_roundg k1
                case measure => have := HK1.out; omega
                case rel => exact ⟨(y182), (wrap64 (x4_1 + 1)), (by first | rfl | (simp; done) | (simp [*]; done)), H', ⟨by have := HK1.out; omega⟩, ⟨by (with_reducible repeat (first | apply Kd.S_alloc | apply Kd.S_drewN | apply Kd.S_drew)); exact Kd.S_mono HO184.out (fun _ hk => trivial)⟩, ⟨by repeat (first | (with_reducible first | exact HB.out | apply below_alloc | apply pw_below_drewN | apply below_drew1 | refine below_set ?_ GE169.out) | exact HB.out)⟩⟩
              · rw [if_neg c6] at H
                exact absurd H (by simp)
            · rw [if_neg c5] at H
              exact absurd H (by simp)
          · rw [if_neg c4] at H
            exact absurd H (by simp)
        · rw [if_neg c3] at H
          exact absurd H (by simp)
      · rw [if_neg c2] at H
        have c2b0 : decide (x4_1 < (l0.length : Int)) = false := decide_eq_false c2
        clear c2
        obtain rfl := Option.some.inj H
        go_wp2
        go_ret
        exact ⟨_, by first | rfl | (simp [errW_none, errW_some] <;> rfl) | (simp [*, errW_none, errW_some] <;> rfl), by (with_reducible repeat (first | apply Kd.S_alloc | apply Kd.S_drewN | apply Kd.S_drew)); exact HO_3.out, by repeat (first | (with_reducible first | exact HB.out | apply below_alloc | apply pw_below_drewN | apply below_drew1) | exact HB.out)⟩

end Go.Proofs.Ytgjlnjjgpddcnaa.ARightsGrant
