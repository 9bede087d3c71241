/- What the functions that the law FrameMany reaches compute, and the row of the law (printed by a program of this session). -/
import Derived.Test.YtiipapndmjbciaaAFrameManyx0
namespace Go.Proofs.Ytiipapndmjbciaa.AFrameMany
open Go.RowKit Go.Proofs.YtiipapndmjbciaaW.PrintWords Go.Proofs.YtiipapndmjbciaaW.PrintLast Go.Proofs.YtiipapndmjbciaaW.PrintMore
attribute [local go_sem] max2_int min2_int max_two min_two max_three min_three max_four min_four   -- for this text's walks alone
set_option linter.unusedVariables false
set_option linter.unusedSimpArgs false

/-! ### frame_Split: function 7 -/
open Go.Proofs.Ytiipapndmjbciaa.Split
def frame_Split.f (a0 : ByteArray) (a1 : Int) : Option (List ByteArray × ByteArray × Bool) :=
  if a0.size < 8796093022208 then some ((split a1 (L a0)).1.map BA, BA (split a1 (L a0)).2.1, (split a1 (L a0)).2.2) else none
/-- What a round of the loop knows. -/
def frame_Split.Inv (s : ByteArray) (most : Int) (r1 : List ByteArray) (r2 : ByteArray) (r3 : Bool) (d : Nat) (acc : List ByteArray) (p : Nat) : Prop :=
  s.size < 8796093022208 ∧ p ≤ s.size ∧ acc.length ≤ p ∧ s.size - p < d ∧ acc ++ (split most ((L s).drop p)).1.map BA = r1 ∧ BA (split most ((L s).drop p)).2.1 = r2 ∧ (split most ((L s).drop p)).2.2 = r3
theorem frame_Split.start {s : ByteArray} {most : Int} {r1 : List ByteArray} {r2 : ByteArray} {r3 : Bool} (h : frame_Split.f s most = some (r1, r2, r3)) : frame_Split.Inv s most r1 r2 r3 (s.size + 1) [] 0 := by
  unfold frame_Split.f at h
  split at h
  · rename_i hs
    simp only [Option.some.injEq, Prod.mk.injEq] at h
    obtain ⟨h1, h2, h3⟩ := h
    exact ⟨hs, by omega, by simp, by omega, by simpa using h1, by simpa using h2, by simpa using h3⟩
  · cases h
theorem frame_Split.left {s : ByteArray} {p : Nat} {r : ByteArray} (hr : r = s.extract p s.size) : L r = (L s).drop p := by
  rw [hr, L_extract, ← L_size s, List.take_length]
theorem frame_Split.short {s : ByteArray} {most : Int} {r1 : List ByteArray} {r2 : ByteArray} {r3 : Bool} {d : Nat} {acc : List ByteArray} {p : Nat} {r : ByteArray}
    (h : frame_Split.Inv s most r1 r2 r3 d acc p) (hr : r = s.extract p s.size) (h2 : r.size < 2) : acc = r1 ∧ r = r2 ∧ true = r3 := by
  obtain ⟨_, _, _, _, e1, e2, e3⟩ := h
  rw [← frame_Split.left hr, split_short _ _ (by rw [L_size]; exact h2)] at e1 e2 e3
  exact ⟨by simpa using e1, by simpa [BA_L] using e2, e3⟩
theorem or_bt (r : ByteArray) : bits .or .i64 (wrap64 (wrap64 (bt r 0) * 256)) (wrap64 (bt r 1)) = (((bt r 0).toNat * 256 + (bt r 1).toNat : Nat) : Int) := by
  have h0 := bt_range r 0
  have h1 := bt_range r 1
  have := or_bytes (bt r 0).toNat (bt r 1).toNat (by omega) (by omega)
  rw [Int.toNat_of_nonneg h0.1, Int.toNat_of_nonneg h1.1] at this
  rw [this]; omega
theorem frame_Split.word {r : ByteArray} {n : Nat} (hn : n = (bt r 0).toNat * 256 + (bt r 1).toNat) : n ≤ 65535 := by
  have h0 := bt_range r 0
  have h1 := bt_range r 1
  omega
theorem frame_Split.two {r : ByteArray} (h2 : 2 ≤ r.size) : ∃ a b t, L r = a :: b :: t ∧ bt r 0 = (a.toNat : Int) ∧ bt r 1 = (b.toNat : Int) ∧ t.length + 2 = r.size := by
  rcases bytes_cases (L r) with h | ⟨a, b, t, e⟩
  · rw [L_size] at h; omega
  · refine ⟨a, b, t, e, ?_, ?_, ?_⟩
    · rw [bt_L, e]; rfl
    · rw [bt_L, e]; rfl
    · have := L_size r; rw [e] at this; simpa using this
section
variable {s : ByteArray} {most : Int} {r1 : List ByteArray} {r2 : ByteArray} {r3 : Bool} {d : Nat} {acc : List ByteArray} {p : Nat} {r : ByteArray} {n : Nat}
theorem frame_Split.bad (h : frame_Split.Inv s most r1 r2 r3 d acc p) (hr : r = s.extract p s.size) (h2 : 2 ≤ r.size) (hn : n = (bt r 0).toNat * 256 + (bt r 1).toNat) (hb : n = 0 ∨ most < (n : Int)) :
    acc = r1 ∧ (⟨#[]⟩ : ByteArray) = r2 ∧ false = r3 := by
  obtain ⟨_, _, _, _, e1, e2, e3⟩ := h
  obtain ⟨a, b, t, e, ea, eb, _⟩ := frame_Split.two h2
  rw [ea, eb, Int.toNat_natCast, Int.toNat_natCast] at hn
  rw [← frame_Split.left hr, e, split_two, ← hn, if_pos hb] at e1 e2 e3
  exact ⟨by simpa using e1, by simpa [BA] using e2, e3⟩
theorem frame_Split.long (h : frame_Split.Inv s most r1 r2 r3 d acc p) (hr : r = s.extract p s.size) (h2 : 2 ≤ r.size) (hn : n = (bt r 0).toNat * 256 + (bt r 1).toNat) (hb : ¬ (n = 0 ∨ most < (n : Int))) (h3 : r.size - 2 < n) :
    acc = r1 ∧ r = r2 ∧ true = r3 := by
  obtain ⟨_, _, _, _, e1, e2, e3⟩ := h
  obtain ⟨a, b, t, e, ea, eb, ht⟩ := frame_Split.two h2
  rw [ea, eb, Int.toNat_natCast, Int.toNat_natCast] at hn
  rw [← frame_Split.left hr, e, split_two, ← hn, if_neg hb, if_pos (by omega)] at e1 e2 e3
  exact ⟨by simpa using e1, by rw [← e2]; simp only; rw [← e, BA_L], e3⟩
theorem frame_Split.next (h : frame_Split.Inv s most r1 r2 r3 d acc p) (hr : r = s.extract p s.size) (h2 : 2 ≤ r.size) (hn : n = (bt r 0).toNat * 256 + (bt r 1).toNat) (hb : ¬ (n = 0 ∨ most < (n : Int))) (h3 : n ≤ r.size - 2) :
    ∃ d', d = d' + 1 ∧ frame_Split.Inv s most r1 r2 r3 d' (acc ++ [r.extract 2 (2 + n)]) (p + (2 + n)) := by
  obtain ⟨f1, f2, f3, f4, e1, e2, e3⟩ := h
  have hL := frame_Split.left hr
  obtain ⟨a, b, t, e, ea, eb, ht⟩ := frame_Split.two h2
  have hlen : r.size = s.size - p := by rw [hr]; simp
  rw [ea, eb, Int.toNat_natCast, Int.toNat_natCast] at hn
  have e4 : L (r.extract 2 (2 + n)) = t.take n := by rw [L_extract, e, Nat.add_comm 2 n]; simp
  have e5 : (L s).drop (p + (2 + n)) = t.drop n := by rw [← List.drop_drop, ← hL, e, Nat.add_comm 2 n]; simp
  rw [← hL, e, split_two, ← hn, if_neg hb, if_neg (by omega)] at e1 e2 e3
  refine ⟨d - 1, by omega, f1, by omega, by simp; omega, by omega, ?_, ?_, ?_⟩
  · rw [e5, ← e1]
    simp only [List.map_cons, List.append_assoc, List.cons_append, List.nil_append]
    rw [← e4, BA_L]
  · rw [e5]; exact e2
  · rw [e5]; exact e3
end
set_option maxHeartbeats 4000000 in
set_option maxRecDepth 100000 in
theorem frame_Split.calls (a0 : ByteArray) (a1 : Int) (r1 : List ByteArray) (r2 : ByteArray) (r3 : Bool) (w : World) (h : frame_Split.f a0 a1 = some (r1, r2, r3)) :
    Calls Try.prog 7 #[.string a0, .int .i64 a1] w fun e w' => ∃ v0_ : Value, e = .returned (.tuple #[v0_, .string r2, .bool r3]) ∧ Kd.R Kd.string 9 w' w.heap.size (fun _ => True) v0_ r1 ∧ Below w.heap.size w w' := by
  have HB := Aside0.mk (Below.refl w.heap.size w)
  have HI := Aside0.mk (frame_Split.start h)
  clear h
  go_enter Try.func7, Try.ntmps7
  go_wp2
  go_loopg [7, 8] (a0.size + 1) (fun dq v7 v8 w' => ∃ (acc : List ByteArray) (p : Nat), v8 = .int .i64 p ∧ Aside0 (frame_Split.Inv a0 a1 r1 r2 r3 dq acc p) ∧ Aside0 (Kd.R Kd.string 9 w' w.heap.size (fun _ => True) v7 acc) ∧ Aside0 (Below w.heap.size w w'))
  case atStart => exact ⟨[], 0, rfl, HI, ⟨Kd.R_nil _ _ _ _ _⟩, HB⟩
  case round =>
    clear HI HB
    obtain ⟨acc, p, rfl, HI, HO, HB⟩ := hrel
    have hp : p ≤ a0.size := HI.out.2.1
    obtain ⟨r, hr⟩ : ∃ r : ByteArray, r = a0.extract p a0.size := ⟨_, rfl⟩
    have HR := Aside0.mk hr
    clear hr
    go_upto_region 3 with (fail)
    go_cut [9] (fun v9 wc => v9 = .string r ∧ Aside0 (Kd.R Kd.string 9 wc w.heap.size (fun _ => True) u7 acc) ∧ Aside0 (Below w.heap.size w wc))
    case first =>
      go_wp2
      go_meet
      case rel => exact ⟨by rw [HR.out], HO, HB⟩
    case rest =>
      clear HO HB
      obtain ⟨rfl, HO, HB⟩ := hcut
      rcases Nat.lt_or_ge r.size 2 with h2 | h2
      · have HI2 := Aside0.mk (frame_Split.short HI.out HR.out h2)
        clear HI HR
        go_wp2
        go_ret3
        obtain ⟨rfl, rfl, rfl⟩ := HI2.out
        exact ⟨_, rfl, HO.out, HB.out⟩
      · obtain ⟨n, hn⟩ : ∃ n : Nat, n = (bt r 0).toNat * 256 + (bt r 1).toNat := ⟨_, rfl⟩
        have HN := Aside0.mk hn
        clear hn
        have q7 : (0 < r.size) = True := eq_true (by omega)
        have hx7 : ∀ h : 0 < r.size, ((r[0]'h).toNat : Int) = bt r 0 := bt_at r 0
        have qi7 : (0 < (r.size : Int)) = True := eq_true (by omega)
        have q9 : (1 < r.size) = True := eq_true (by omega)
        have hx9 : ∀ h : 1 < r.size, ((r[1]'h).toNat : Int) = bt r 1 := bt_at r 1
        have qi9 : (1 < (r.size : Int)) = True := eq_true (by omega)
        go_upto_region 6 with (fail)
        go_cut [10] (fun v10 wc => v10 = .int .i64 n ∧ Aside0 (Kd.R Kd.string 9 wc w.heap.size (fun _ => True) u7 acc) ∧ Aside0 (Below w.heap.size w wc))
        case first =>
          go_wp2
          repeat (go_quiet (fail); try go_wp2)
          go_meet
          case rel => exact ⟨by rw [HN.out]; exact congrArg _ (or_bt r), ⟨by (with_reducible repeat (first | apply Kd.R_alloc | apply Kd.R_drewN | apply Kd.R_drew)); exact HO.out⟩, ⟨by repeat (first | (with_reducible first | exact HB.out | apply below_alloc | apply pw_below_drewN | apply below_drew1) | exact HB.out)⟩⟩
        case rest =>
          clear HO HB q7 hx7 qi7 q9 hx9 qi9
          obtain ⟨rfl, HO, HB⟩ := hcut
          by_cases hbad : n = 0 ∨ a1 < (n : Int)
          · have HI2 := Aside0.mk (frame_Split.bad HI.out HR.out h2 HN.out hbad)
            clear HI HR HN
            rcases Decidable.em ((n : Int) = 0) with h0 | h0
            · have h0b : ((n : Int) == 0) = true := beq_iff_eq.mpr h0
              clear h0 hbad
              go_wp2
              go_ret3
              obtain ⟨rfl, rfl, rfl⟩ := HI2.out
              exact ⟨_, rfl, HO.out, HB.out⟩
            · have h0b : ((n : Int) == 0) = false := beq_eq_false_iff_ne.mpr h0
              have h0c : decide ((n : Int) > a1) = true := decide_eq_true (by omega)
              clear h0 hbad
              go_wp2
              go_ret3
              obtain ⟨rfl, rfl, rfl⟩ := HI2.out
              exact ⟨_, rfl, HO.out, HB.out⟩
          · have h0b : ((n : Int) == 0) = false := beq_eq_false_iff_ne.mpr (by omega)
            have h0c : decide ((n : Int) > a1) = false := decide_eq_false (by omega)
            have hn1 : 1 ≤ n := by omega
            have hn2 : n ≤ 65535 := frame_Split.word HN.out
            have hrs : r.size ≤ 8796093022208 := by rw [HR.out]; have := HI.out.1; simp; omega
            rcases Nat.lt_or_ge (r.size - 2) n with h3 | h3
            · have HI2 := Aside0.mk (frame_Split.long HI.out HR.out h2 HN.out hbad h3)
              clear HI HR HN hbad
              go_wp2
              go_ret3
              obtain ⟨rfl, rfl, rfl⟩ := HI2.out
              exact ⟨_, rfl, HO.out, HB.out⟩
            · obtain ⟨d', hd', hI2⟩ := frame_Split.next HI.out HR.out h2 HN.out hbad h3
              have HI2 := Aside0.mk hI2
              have HD := Aside0.mk hd'
              have hal : acc.length < 8796093022208 := by have := HI.out.1; have := HI.out.2.2.1; omega
              have LM := Aside0.mk hal
              have hp2 : p + (2 + n) ≤ a0.size := hI2.2.1
              have ha0 : a0.size < 8796093022208 := hI2.1
              have c14b0 : (2 ≤ 2 + (n : Int)) = True := eq_true (by omega)
              have c15b0 : (2 + (n : Int) ≤ (r.size : Int)) = True := eq_true (by omega)
              have c14n : (2 + (n : Int)).toNat = 2 + n := by omega
              have h4 : 2 + n ≤ r.size := by omega
              clear hbad HI HR HN hal hd' hI2
              obtain ⟨y, hy⟩ : ∃ y : List ByteArray, y = acc ++ [r.extract 2 (2 + n)] := ⟨_, rfl⟩
              rw [← hy] at HI2
              have Ny := Aside0.mk hy
              clear hy
              go_wp2_with (first | ((with_reducible refine gate_builtin (b := .append) (xs := #[.tmp 42, .tmp 47]) rfl ?_); at_builtin; refine Kd.R_append Kd.string (w0 := w) w.heap.size rfl (.tmp 42) (.tmp 47) 22 9 (.string ⟨#[]⟩) 16 rfl Try.underlying22 info9 rfl (by decide) (by omega) u7 acc (r.extract 2 (2 + n)) [.string (r.extract 2 (2 + n))] (fun _ => True) (fun _ => False) rfl rfl ?aP (fun _ hk => hk.elim) ?aF ?aO ?aB ?aS ?aL ?_; (case aP => exact rfl); (case aB => exact (by repeat (first | (with_reducible first | exact HB.out | apply below_alloc | apply pw_below_drewN | apply below_drew1) | exact HB.out))); (case aF => exact (fun _ _ => trivial)); (case aO => exact (by (with_reducible repeat (first | apply Kd.R_alloc | apply Kd.R_drewN | apply Kd.R_drew)); exact HO.out)); (case aS => exact (below_size (by repeat (first | (with_reducible first | exact HB.out | apply below_alloc | apply pw_below_drewN | apply below_drew1) | exact HB.out)))); (case aL => have := LM.out; omega); intro v102 w17 ho hb hg hat; rw [← Ny.out] at ho; have n0_ := Aside0.mk (hb); have n1_ := Aside0.mk (ho); clear HB; clear HO; have HB := n0_; have HO103 := n1_; clear n0_ n1_; clear ho hb hg hat))
              go_roundg d'
              case measure => have := HD.out; omega
              case rel => exact ⟨y, p + (2 + n), by first | rfl | (simp; done) | (simp [*]; done) | go_num, HI2, HO103, HB⟩


/-! ### chancelref12_Same: function 9 -/
def chancelref12_Same.l0 : Nat → List ByteArray → List ByteArray → Int → Option (Bool)
  | 0, _, _, _ => none
  | k + 1, x0, x1, x5 => if x5 < (x0.length : Int) then (if 0 ≤ x5 then (if x5 < (x1.length : Int) then (if (rdOf ByteArray.empty x0 x5).toList = (rdOf ByteArray.empty x1 x5).toList then (chancelref12_Same.l0 k x0 x1 (wrap64 (x5 + 1))) else (some false)) else (none)) else (none)) else (some true)
def chancelref12_Same.f (k : Nat) (l0 : List ByteArray) (l1 : List ByteArray) : Option (Bool) := if (l0.length : Int) = (l1.length : Int) then (chancelref12_Same.l0 k l0 l1 0) else (some false)
theorem chancelref12_Same.mono_l : ∀ k, (∀ y0 y1 y2, LeO (chancelref12_Same.l0 k y0 y1 y2) (chancelref12_Same.l0 (k + 1) y0 y1 y2))
  | 0 => fun _ _ _ r h => by simp [chancelref12_Same.l0] at h
  | k + 1 => by
    have ih0 := chancelref12_Same.mono_l k
    · intro y0 y1 y2
      unfold chancelref12_Same.l0
      repeat' first
      | (with_reducible exact ih0 _ _ _)
      | (with_reducible exact LeO.refl _)
      | (with_reducible exact LeO.none _)
      | (with_reducible refine LeO.ite ?_ ?_)
      | (with_reducible refine LeO.bind ?_ (fun _ => ?_))
      | exact ih0 _ _ _
      | exact LeO.none _
      | refine LeO.ite ?_ ?_
      | refine LeO.bind ?_ (fun _ => ?_)
theorem chancelref12_Same.mono : ∀ a0 a1 k, LeO (chancelref12_Same.f k a0 a1) (chancelref12_Same.f (k + 1) a0 a1) := by
  intro a0 a1 k
  have ih0 := chancelref12_Same.mono_l k
  unfold chancelref12_Same.f
  repeat' first
      | (with_reducible exact ih0 _ _ _)
      | (with_reducible exact LeO.refl _)
      | (with_reducible exact LeO.none _)
      | (with_reducible refine LeO.ite ?_ ?_)
      | (with_reducible refine LeO.bind ?_ (fun _ => ?_))
      | exact ih0 _ _ _
      | exact LeO.none _
      | refine LeO.ite ?_ ?_
      | refine LeO.bind ?_ (fun _ => ?_)
set_option maxHeartbeats 8000000 in
set_option maxRecDepth 100000 in
theorem chancelref12_Same.calls (k : Nat) (A0 : Option Addr) (c0 : Nat) (l0 : List ByteArray) (A1 : Option Addr) (c1 : Nat) (l1 : List ByteArray) (r : Bool) (w : World) (hr0 : Kd.C Kd.string w A0 l0.length l0) (hc0 : l0.length ≤ c0) (hr1 : Kd.C Kd.string w A1 l1.length l1) (hc1 : l1.length ≤ c1) (h : chancelref12_Same.f k l0 l1 = some r) :
    Calls Try.prog 9 #[.slice A0 l0.length c0, .slice A1 l1.length c1] w fun e w' => e = .returned (.bool r) ∧ Drawn0 w w' := by
  have HR0 := Aside0.mk hr0
  have HC0 := Aside0.mk hc0
  clear hr0 hc0
  have HR1 := Aside0.mk hr1
  have HC1 := Aside0.mk hc1
  clear hr1 hc1
  have H : (if (l0.length : Int) = (l1.length : Int) then (chancelref12_Same.l0 k l0 l1 0) else (some false)) = some r := h
  clear h
  by_cases c3 : (l0.length : Int) = (l1.length : Int)
  · rw [if_pos c3] at H
    have c3b0 : ((l0.length : Int) == (l1.length : Int)) = true := beq_iff_eq.mpr c3
    have c3b1 : ((l0.length : Int) != (l1.length : Int)) = false := bne_eq_false_iff_eq.mpr c3
    have c3b2 : (l0.length == l1.length) = true := by first | simpa using c3 | (simp at c3 ⊢; omega)
    clear c3
    have H' := Aside0.mk H
    clear H
    go_enter Try.func9, Try.ntmps9
    go_wp2
    repeat (go_quiet (fail); try go_wp2)
    go_loopg [5] k (fun kq v5 w' => ∃ (x5_1 : Int), v5 = .int .i64 x5_1 ∧ Aside0 (chancelref12_Same.l0 kq l0 l1 x5_1 = some r) ∧ Aside0 (kq ≤ k) ∧ Drawn0 w w')
    case atStart => exact ⟨(0), (by first | rfl | (simp; done) | (simp [*]; done)), H', ⟨Nat.le_refl _⟩, by repeat (first | exact Drawn0.refl _ | apply Drawn0.step)⟩
    case round =>
      clear H'
      try clear c1
      try clear p2
      try clear c3
      try clear c3b0
      try clear c3b1
      try clear c3b2
      obtain ⟨x5_1, rfl, HA, HK1, ⟨m1, rfl⟩⟩ := hrel
      cases gk with
      | zero => exact absurd HA.out (by simp [chancelref12_Same.l0])
      | succ k1 =>
        have H := HA.out
        clear HA
        simp only [chancelref12_Same.l0] at H
        by_cases c4 : x5_1 < (l0.length : Int)
        · rw [if_pos c4] at H
          have c4b0 : decide (x5_1 < (l0.length : Int)) = true := decide_eq_true c4
          clear c4
          by_cases c5 : 0 ≤ x5_1
          · rw [if_pos c5] at H
            have c5b0 : decide (0 ≤ x5_1) = true := decide_eq_true c5
            clear c5
            by_cases c6 : x5_1 < (l1.length : Int)
            · rw [if_pos c6] at H
              have c6b0 : decide (x5_1 < (l1.length : Int)) = true := decide_eq_true c6
              clear c6
              by_cases c7 : (rdOf ByteArray.empty l0 x5_1).toList = (rdOf ByteArray.empty l1 x5_1).toList
              · rw [if_pos c7] at H
                have c7b0 : ((rdOf ByteArray.empty l0 x5_1).toList == (rdOf ByteArray.empty l1 x5_1).toList) = true := beq_iff_eq.mpr c7
                have c7b1 : ((rdOf ByteArray.empty l0 x5_1).toList != (rdOf ByteArray.empty l1 x5_1).toList) = false := bne_eq_false_iff_eq.mpr c7
                clear c7
                have H' := Aside0.mk H
                clear H
                have p101 : 0 ≤ (x5_1 : Int) := of_decide_eq_true (by first | (with_reducible assumption) | assumption)
                have q101 : x5_1 < (l0.length : Int) := of_decide_eq_true (by first | (with_reducible assumption) | assumption)
                obtain ⟨ad101, e101, hx101_0⟩ := Kd.at_string HR0.out x5_1 p101 q101
                cases e101
                replace p101 := eq_true p101
                replace q101 := eq_true q101
                have p102 : 0 ≤ (x5_1 : Int) := of_decide_eq_true (by first | (with_reducible assumption) | assumption)
                have q102 : x5_1 < (l1.length : Int) := of_decide_eq_true (by first | (with_reducible assumption) | assumption)
                obtain ⟨ad102, e102, hx102_0⟩ := Kd.at_string HR1.out x5_1 p102 q102
                cases e102
                replace p102 := eq_true p102
                replace q102 := eq_true q102
                go_wp2
                repeat (go_quiet (fail); try go_wp2)
                go_roundg k1
                case measure => have := HK1.out; omega
                case rel => exact ⟨(wrap64 (x5_1 + 1)), (by first | rfl | (simp; done) | (simp [*]; done)), H', ⟨by have := HK1.out; omega⟩, by repeat (first | exact Drawn0.refl _ | apply Drawn0.step)⟩
              · rw [if_neg c7] at H
                have c7b0 : ((rdOf ByteArray.empty l0 x5_1).toList == (rdOf ByteArray.empty l1 x5_1).toList) = false := beq_eq_false_iff_ne.mpr c7
                have c7b1 : ((rdOf ByteArray.empty l0 x5_1).toList != (rdOf ByteArray.empty l1 x5_1).toList) = true := bne_iff_ne.mpr c7
                obtain rfl := Option.some.inj H
                have p101 : 0 ≤ (x5_1 : Int) := of_decide_eq_true (by first | (with_reducible assumption) | assumption)
                have q101 : x5_1 < (l0.length : Int) := of_decide_eq_true (by first | (with_reducible assumption) | assumption)
                obtain ⟨ad101, e101, hx101_0⟩ := Kd.at_string HR0.out x5_1 p101 q101
                cases e101
                replace p101 := eq_true p101
                replace q101 := eq_true q101
                have p102 : 0 ≤ (x5_1 : Int) := of_decide_eq_true (by first | (with_reducible assumption) | assumption)
                have q102 : x5_1 < (l1.length : Int) := of_decide_eq_true (by first | (with_reducible assumption) | assumption)
                obtain ⟨ad102, e102, hx102_0⟩ := Kd.at_string HR1.out x5_1 p102 q102
                cases e102
                replace p102 := eq_true p102
                replace q102 := eq_true q102
                go_wp2
                repeat (go_quiet (fail); try go_wp2)
                go_ret
                exact ⟨by first | rfl | (simp; done) | (simp [*]; done), by repeat (first | exact Drawn0.refl _ | apply Drawn0.step)⟩
            · rw [if_neg c6] at H
              exact absurd H (by simp)
          · rw [if_neg c5] at H
            exact absurd H (by simp)
        · rw [if_neg c4] at H
          have c4b0 : decide (x5_1 < (l0.length : Int)) = false := decide_eq_false c4
          clear c4
          obtain rfl := Option.some.inj H
          go_wp2
          repeat (go_quiet (fail); try go_wp2)
          go_ret
          exact ⟨by first | rfl | (simp; done) | (simp [*]; done), by repeat (first | exact Drawn0.refl _ | apply Drawn0.step)⟩
  · rw [if_neg c3] at H
    have c3b0 : ((l0.length : Int) == (l1.length : Int)) = false := beq_eq_false_iff_ne.mpr c3
    have c3b1 : ((l0.length : Int) != (l1.length : Int)) = true := bne_iff_ne.mpr c3
    have c3b2 : (l0.length == l1.length) = false := by first | simpa using c3 | (simp at c3 ⊢; omega)
    obtain rfl := Option.some.inj H
    go_enter Try.func9, Try.ntmps9
    go_wp2
    repeat (go_quiet (fail); try go_wp2)
    go_ret
    exact ⟨by first | rfl | (simp; done) | (simp [*]; done), by repeat (first | exact Drawn0.refl _ | apply Drawn0.step)⟩

/-! ### frame_Wrap: function 10 -/
def frame_Wrap.f (a0 : ByteArray) : Option (ByteArray × Bool) := if (a0.size : Int) < 1 then (some ((⟨#[]⟩ : ByteArray), false)) else (if (a0.size : Int) > 65535 then (some ((⟨#[]⟩ : ByteArray), false)) else ((some (([((a0.size : Int) / 256) % 256, ((a0.size : Int)) % 256] : List Int) : List Int)).bind fun y103 => (if (strOfNums y103).size + a0.size ≤ 9223372036854775807 then (some ((strOfNums y103) ++ a0, true)) else (none))))
set_option maxHeartbeats 8000000 in
set_option maxRecDepth 100000 in
theorem frame_Wrap.calls (a0 : ByteArray) (r1 : ByteArray) (r2 : Bool) (w : World) (h : frame_Wrap.f a0 = some (r1, r2)) :
    Calls Try.prog 10 #[.string a0] w fun e w' => e = .returned (.tuple #[.string r1, .bool r2]) ∧ Below w.heap.size w w' := by
  have HB := Aside0.mk (Below.refl w.heap.size w)
  have H : (if (a0.size : Int) < 1 then (some ((⟨#[]⟩ : ByteArray), false)) else (if (a0.size : Int) > 65535 then (some ((⟨#[]⟩ : ByteArray), false)) else ((some (([((a0.size : Int) / 256) % 256, ((a0.size : Int)) % 256] : List Int) : List Int)).bind fun y103 => (if (strOfNums y103).size + a0.size ≤ 9223372036854775807 then (some ((strOfNums y103) ++ a0, true)) else (none))))) = some (r1, r2) := h
  clear h
  by_cases c2 : (a0.size : Int) < 1
  · rw [if_pos c2] at H
    have c2b0 : decide ((a0.size : Int) < 1) = true := decide_eq_true c2
    have c2b1 : decide (a0.size < 1) = true := decide_eq_true (by omega)
    clear c2
    simp only [Option.some.injEq, Prod.mk.injEq] at H
    obtain ⟨rfl, rfl⟩ := H
    go_enter Try.func10, Try.ntmps10
    go_wp2
    go_ret2
    exact ⟨by first | rfl | (simp [errW_none, errW_some] <;> rfl) | (simp [*, errW_none, errW_some] <;> rfl), by repeat (first | (with_reducible first | exact HB.out | apply below_alloc | apply pw_below_drewN | apply below_drew1) | exact HB.out)⟩
  · rw [if_neg c2] at H
    have c2b0 : decide ((a0.size : Int) < 1) = false := decide_eq_false c2
    have c2b1 : decide (a0.size < 1) = false := decide_eq_false (by omega)
    clear c2
    by_cases c3 : (a0.size : Int) > 65535
    · rw [if_pos c3] at H
      have c3b0 : decide (65535 < (a0.size : Int)) = true := decide_eq_true c3
      have c3b1 : decide (65535 < a0.size) = true := decide_eq_true (by omega)
      clear c3
      simp only [Option.some.injEq, Prod.mk.injEq] at H
      obtain ⟨rfl, rfl⟩ := H
      go_enter Try.func10, Try.ntmps10
      go_wp2
      go_ret2
      exact ⟨by first | rfl | (simp [errW_none, errW_some] <;> rfl) | (simp [*, errW_none, errW_some] <;> rfl), by repeat (first | (with_reducible first | exact HB.out | apply below_alloc | apply pw_below_drewN | apply below_drew1) | exact HB.out)⟩
    · rw [if_neg c3] at H
      have c3b0 : decide (65535 < (a0.size : Int)) = false := decide_eq_false c3
      have c3b1 : decide (65535 < a0.size) = false := decide_eq_false (by omega)
      clear c3
      obtain ⟨y103, hy103⟩ : ∃ y_ : List Int, y_ = (([((a0.size : Int) / 256) % 256, ((a0.size : Int)) % 256] : List Int)) := ⟨_, rfl⟩
      replace H : (if (strOfNums y103).size + a0.size ≤ 9223372036854775807 then (some ((strOfNums y103) ++ a0, true)) else (none)) = some (r1, r2) := by first | (rw [hy103]; with_reducible exact H) | (have H2_ := (Option.bind_some _ _).symm.trans H; rw [hy103]; with_reducible exact H2_) | (have H2_ := (Option.bind_some _ _).symm.trans H; with_reducible exact H2_) | with_reducible exact H | (rw [hy103]; exact H) | exact H
      have Ny103 := Aside0.mk hy103
      clear hy103
      by_cases c4 : (strOfNums y103).size + a0.size ≤ 9223372036854775807
      · rw [if_pos c4] at H
        have c4b0 := eq_true c4
        have c4b1 : decide ((strOfNums y103).size + a0.size ≤ 9223372036854775807) = true := decide_eq_true c4
        try have c4b2 : (9223372036854775807 < (strOfNums y103).size + a0.size) = False := eq_false (Nat.not_lt.2 c4)
        simp only [Option.some.injEq, Prod.mk.injEq] at H
        obtain ⟨rfl, rfl⟩ := H
        go_enter Try.func10, Try.ntmps10
        go_wp2_with (first | ((with_reducible refine gate_dst (N := 18) rfl ?_); refine Kd.R_lit (Kd.int .u8) _ 5 ?hg (N := 18) ?hd (xs := ([((a0.size : Int) / 256) % 256, ((a0.size : Int)) % 256] : List Int)) (inner := [.int .u8 (((a0.size : Int) / 256) % 256), .int .u8 (((a0.size : Int)) % 256)]) (ok := fun _ => True) (okp := fun _ => True) ?hr ?hp (fun _ hk => hk) trivial (Below.refl _ _) (Nat.le_refl _) (by simp) ?_; (case hd => rfl); (case hg => rfl); (case hr => first | (go_simp; done) | (go_simp; rfl)); (case hp => exact (Reps.one (show Kd.M (Kd.int .u8) _ _ _ (((a0.size : Int) / 256) % 256) [.int .u8 (((a0.size : Int) / 256) % 256)] from rfl) (Reps.one (show Kd.M (Kd.int .u8) _ _ _ (((a0.size : Int)) % 256) [.int .u8 (((a0.size : Int)) % 256)] from rfl) (Reps.none _ _)))); intro v104 w5 ho6 hb hg_ hnew_; clear hg_ hnew_; (first | rw [← Ny103.out] at ho6 | (simp only [Int.reduceToNat] at ho6; rw [← Ny103.out] at ho6)); have n0_ := Aside0.mk (Kd.R_lower ho6 (below_size (by repeat (first | (with_reducible first | exact HB.out | apply below_alloc | apply pw_below_drewN | apply below_drew1) | exact HB.out)))); have n1_ := Aside0.mk (below_step (by repeat (first | (with_reducible first | exact HB.out | apply below_alloc | apply pw_below_drewN | apply below_drew1) | exact HB.out)) hb); clear HB; have HO105 := n0_; have HB := n1_; clear n0_ n1_; clear hb ho6; have hcv7 := own_string (P := Try.prog) Try.underlying34 Try.underlying5 Try.underlying9 (Kd.own_of_R HO105.out)))
        go_ret2
        exact ⟨by first | rfl | (simp [errW_none, errW_some] <;> rfl) | (simp [*, errW_none, errW_some] <;> rfl), by repeat (first | (with_reducible first | exact HB.out | apply below_alloc | apply pw_below_drewN | apply below_drew1) | exact HB.out)⟩
      · rw [if_neg c4] at H
        exact absurd H (by simp)

/-! ### chancellaw12_FrameMany: function 6 -/
mutual
def chancellaw12_FrameMany.j0 : Nat → List ByteArray → ByteArray → Bool → Option (Bool)
  | 0, _, _, _ => none
  | k + 1, x0, x1, x24 => if x24 = true then (some false) else (if (x0.length : Int) > 60 then (some true) else (chancellaw12_FrameMany.l0 k x0 x1 (⟨#[]⟩ : ByteArray) x0 (x0.length : Int) 0))
def chancellaw12_FrameMany.l0 : Nat → List ByteArray → ByteArray → ByteArray → List ByteArray → Int → Int → Option (Bool)
  | 0, _, _, _, _, _, _ => none
  | k + 1, x0, x1, x7, x28, x29, x30 => if x30 < x29 then (if 0 ≤ x30 then (if x30 < (x28.length : Int) then ((frame_Wrap.f (rdOf ByteArray.empty x28 x30)).bind fun bt109 => (if bt109.2 = true then (if ((rdOf ByteArray.empty x28 x30).size : Int) > 600 then (some true) else (if x7.size + bt109.1.size ≤ 9223372036854775807 then (chancellaw12_FrameMany.l0 k x0 x1 (x7 ++ bt109.1) x28 x29 (wrap64 (x30 + 1))) else (none))) else (some true))) else (none)) else (none)) else (if (x1.size : Int) > 1 then (if 0 ≤ 1 then (if 1 ≤ (x1.size : Int) then (if x7.size + (x1.extract 0 1).size ≤ 9223372036854775807 then ((frame_Split.f (x7 ++ (x1.extract 0 1)) 600).bind fun bt111 => (if bt111.2.2 = true then (if bt111.2.1.toList = (x1.extract 0 1).toList then ((chancelref12_Same.f k bt111.1 x0).bind fun t116 => (some t116)) else (some false)) else (some false))) else (none)) else (none)) else (none)) else (if x7.size + x1.size ≤ 9223372036854775807 then ((frame_Split.f (x7 ++ x1) 600).bind fun bt117 => (if bt117.2.2 = true then (if bt117.2.1.toList = x1.toList then ((chancelref12_Same.f k bt117.1 x0).bind fun t122 => (some t122)) else (some false)) else (some false))) else (none)))
end
def chancellaw12_FrameMany.f (k : Nat) (l0 : List ByteArray) (a1 : ByteArray) : Option (Bool) := (frame_Wrap.f (⟨#[97, 98]⟩ : ByteArray)).bind fun bt106 => (if bt106.1.toList = ([0, 2, 97, 98] : List UInt8) then (chancellaw12_FrameMany.j0 k l0 a1 (!bt106.2)) else (chancellaw12_FrameMany.j0 k l0 a1 true))
theorem chancellaw12_FrameMany.mono_l : ∀ k, (∀ y0 y1 y2, LeO (chancellaw12_FrameMany.j0 k y0 y1 y2) (chancellaw12_FrameMany.j0 (k + 1) y0 y1 y2)) ∧ (∀ y0 y1 y2 y3 y4 y5, LeO (chancellaw12_FrameMany.l0 k y0 y1 y2 y3 y4 y5) (chancellaw12_FrameMany.l0 (k + 1) y0 y1 y2 y3 y4 y5))
  | 0 => ⟨fun _ _ _ r h => by simp [chancellaw12_FrameMany.j0] at h, fun _ _ _ _ _ _ r h => by simp [chancellaw12_FrameMany.l0] at h⟩
  | k + 1 => by
    obtain ⟨ih0, ih1⟩ := chancellaw12_FrameMany.mono_l k
    refine ⟨?_, ?_⟩
    · intro y0 y1 y2
      unfold chancellaw12_FrameMany.j0
      repeat' first
      | (with_reducible exact ih0 _ _ _)
      | (with_reducible exact ih1 _ _ _ _ _ _)
      | (with_reducible exact chancelref12_Same.mono _ _ _)
      | (with_reducible exact LeO.refl _)
      | (with_reducible exact LeO.none _)
      | (with_reducible refine LeO.ite ?_ ?_)
      | (with_reducible refine LeO.bind ?_ (fun _ => ?_))
      | exact ih0 _ _ _
      | exact ih1 _ _ _ _ _ _
      | exact chancelref12_Same.mono _ _ _
      | exact LeO.none _
      | refine LeO.ite ?_ ?_
      | refine LeO.bind ?_ (fun _ => ?_)
    · intro y0 y1 y2 y3 y4 y5
      unfold chancellaw12_FrameMany.l0
      repeat' first
      | (with_reducible exact ih0 _ _ _)
      | (with_reducible exact ih1 _ _ _ _ _ _)
      | (with_reducible exact chancelref12_Same.mono _ _ _)
      | (with_reducible exact LeO.refl _)
      | (with_reducible exact LeO.none _)
      | (with_reducible refine LeO.ite ?_ ?_)
      | (with_reducible refine LeO.bind ?_ (fun _ => ?_))
      | exact ih0 _ _ _
      | exact ih1 _ _ _ _ _ _
      | exact chancelref12_Same.mono _ _ _
      | exact LeO.none _
      | refine LeO.ite ?_ ?_
      | refine LeO.bind ?_ (fun _ => ?_)
theorem chancellaw12_FrameMany.mono : ∀ a0 a1 k, LeO (chancellaw12_FrameMany.f k a0 a1) (chancellaw12_FrameMany.f (k + 1) a0 a1) := by
  intro a0 a1 k
  obtain ⟨ih0, ih1⟩ := chancellaw12_FrameMany.mono_l k
  unfold chancellaw12_FrameMany.f
  repeat' first
      | (with_reducible exact ih0 _ _ _)
      | (with_reducible exact ih1 _ _ _ _ _ _)
      | (with_reducible exact chancelref12_Same.mono _ _ _)
      | (with_reducible exact LeO.refl _)
      | (with_reducible exact LeO.none _)
      | (with_reducible refine LeO.ite ?_ ?_)
      | (with_reducible refine LeO.bind ?_ (fun _ => ?_))
      | exact ih0 _ _ _
      | exact ih1 _ _ _ _ _ _
      | exact chancelref12_Same.mono _ _ _
      | exact LeO.none _
      | refine LeO.ite ?_ ?_
      | refine LeO.bind ?_ (fun _ => ?_)
set_option maxHeartbeats 8000000 in
set_option maxRecDepth 100000 in
theorem chancellaw12_FrameMany.calls (k : Nat) (A0 : Option Addr) (c0 : Nat) (l0 : List ByteArray) (a1 : ByteArray) (r : Bool) (w : World) (hr0 : Kd.C Kd.string w A0 l0.length l0) (hc0 : l0.length ≤ c0) (h : chancellaw12_FrameMany.f k l0 a1 = some r) :
    Calls Try.prog 6 #[.slice A0 l0.length c0, .string a1] w fun e w' => e = .returned (.bool r) ∧ Below w.heap.size w w' := by
  have HR0 := Aside0.mk hr0
  have HC0 := Aside0.mk hc0
  clear hr0 hc0
  have HB := Aside0.mk (Below.refl w.heap.size w)
  have H : ((frame_Wrap.f (⟨#[97, 98]⟩ : ByteArray)).bind fun bt106 => (if bt106.1.toList = ([0, 2, 97, 98] : List UInt8) then (chancellaw12_FrameMany.j0 k l0 a1 (!bt106.2)) else (chancellaw12_FrameMany.j0 k l0 a1 true))) = some r := h
  clear h
  replace H := Option.bind_eq_some_iff.mp H
  obtain ⟨⟨t106, t107⟩, A30, H⟩ := H
  replace H : (if t106.toList = ([0, 2, 97, 98] : List UInt8) then (chancellaw12_FrameMany.j0 k l0 a1 (!t107)) else (chancellaw12_FrameMany.j0 k l0 a1 true)) = some r := H
  have A3 := Aside0.mk A30
  clear A30
  have HC4 := Aside0.mk H
  clear H
  go_enter Try.func6, Try.ntmps6
  go_upto_region 2 with (first | ((with_reducible refine gate_callee (f := 10) rfl ?_); refine goesL_ (some 16) rfl rfl Try.func10 (by kernel_rfl) rfl #[.string (⟨#[97, 98]⟩ : ByteArray)] rfl (by (try simp only [List.map_toArray, List.map_cons, List.map_nil]); first | done | rfl | (simp only [List.length_drop, List.length_take]; rfl)) ?_; (with_reducible refine (frame_Wrap.calls (⟨#[97, 98]⟩ : ByteArray) t106 t107 _ A3.out).mono ?_); rintro e w5 ⟨rfl, hb⟩; refine ⟨_, rfl, ?_⟩; have n0_ := Aside0.mk (below_step (by repeat (first | (with_reducible first | exact HB.out | apply below_alloc | apply pw_below_drewN | apply below_drew1) | exact HB.out)) hb); clear HB; have HB := n0_; clear n0_; (try clear hb); (try clear hb2); (try clear hk); (try clear hi)))
  (try simp only [Act.put, List.setIfInBounds_toArray, List.set_cons_zero, List.set_cons_succ])
  go_cut [24] (fun v24 wc => ∃ (kq : Nat) (x24_3 : Bool), v24 = .bool x24_3 ∧ Aside0 (chancellaw12_FrameMany.j0 kq l0 a1 x24_3 = some r) ∧ Aside0 (kq ≤ k) ∧ Aside0 (Below w.heap.size w wc))
  case first =>
    have H := HC4.out
    clear HC4
    by_cases c6 : t106.toList = ([0, 2, 97, 98] : List UInt8)
    · rw [if_pos c6] at H
      have c6b0 : (t106.toList == ([0, 2, 97, 98] : List UInt8)) = true := beq_iff_eq.mpr c6
      have c6b1 : (t106.toList != ([0, 2, 97, 98] : List UInt8)) = false := bne_eq_false_iff_eq.mpr c6
      clear c6
      (first | rw [c6b0] | (simp only [i64_w, i32_w]; rw [c6b0]) | skip)
      have H' := Aside0.mk H
      clear H
      go_wp2
      go_meet
      case rel => exact ⟨_, (!t107), (by first | rfl | (simp; done) | (simp [*]; done)), H', ⟨by first | omega | exact Nat.le_refl _⟩, ⟨by repeat (first | (with_reducible first | exact HB.out | apply below_alloc | apply pw_below_drewN | apply below_drew1) | exact HB.out)⟩⟩
    · rw [if_neg c6] at H
      have c6b0 : (t106.toList == ([0, 2, 97, 98] : List UInt8)) = false := beq_eq_false_iff_ne.mpr c6
      have c6b1 : (t106.toList != ([0, 2, 97, 98] : List UInt8)) = true := bne_iff_ne.mpr c6
      (first | rw [c6b0] | (simp only [i64_w, i32_w]; rw [c6b0]) | skip)
      have H' := Aside0.mk H
      clear H
      go_wp2
      go_meet
      case rel => exact ⟨_, (true), (by first | rfl | (simp; done) | (simp [*]; done)), H', ⟨by first | omega | exact Nat.le_refl _⟩, ⟨by repeat (first | (with_reducible first | exact HB.out | apply below_alloc | apply pw_below_drewN | apply below_drew1) | exact HB.out)⟩⟩
  case rest =>
    clear HC4
    try clear c1
    try clear p2
    try clear c6
    try clear c6b0
    try clear c6b1
    obtain ⟨kq, x24_3, rfl, HA, HJ3, HB⟩ := hcut
    cases kq with
    | zero => exact absurd HA.out (by simp [chancellaw12_FrameMany.j0])
    | succ kj3 =>
      have H := HA.out
      clear HA
      simp only [chancellaw12_FrameMany.j0] at H
      by_cases c7 : x24_3 = true
      · subst c7
        have H1 : (some false) = some r := by rw [if_pos rfl] at H; exact H
        clear H
        have H := H1
        clear H1
        obtain rfl := Option.some.inj H
        go_wp2
        go_ret
        exact ⟨by first | rfl | (simp [errW_none, errW_some] <;> rfl) | (simp [*, errW_none, errW_some] <;> rfl), by repeat (first | (with_reducible first | exact HB.out | apply below_alloc | apply pw_below_drewN | apply below_drew1) | exact HB.out)⟩
      · replace c7 := Bool.eq_false_iff.mpr c7
        subst c7
        have H1 : (if (l0.length : Int) > 60 then (some true) else (chancellaw12_FrameMany.l0 kj3 l0 a1 (⟨#[]⟩ : ByteArray) l0 (l0.length : Int) 0)) = some r := by rw [if_neg (show ¬ (false = true) by decide)] at H; exact H
        clear H
        have H := H1
        clear H1
        by_cases c8 : (l0.length : Int) > 60
        · rw [if_pos c8] at H
          have c8b0 : decide (60 < (l0.length : Int)) = true := decide_eq_true c8
          have c8b1 : decide (60 < l0.length) = true := decide_eq_true (by omega)
          clear c8
          obtain rfl := Option.some.inj H
          go_wp2
          go_ret
          exact ⟨by first | rfl | (simp [errW_none, errW_some] <;> rfl) | (simp [*, errW_none, errW_some] <;> rfl), by repeat (first | (with_reducible first | exact HB.out | apply below_alloc | apply pw_below_drewN | apply below_drew1) | exact HB.out)⟩
        · rw [if_neg c8] at H
          have c8b0 : decide (60 < (l0.length : Int)) = false := decide_eq_false c8
          have c8b1 : decide (60 < l0.length) = false := decide_eq_false (by omega)
          clear c8
          have H' := Aside0.mk H
          clear H
          go_wp2
          go_loopg [7, 30] kj3 (fun kq v7 v30 w' => ∃ (x7_2 : ByteArray) (x30_2 : Int), v7 = .string x7_2 ∧ v30 = .int .i64 x30_2 ∧ Aside0 (chancellaw12_FrameMany.l0 kq l0 a1 x7_2 l0 (l0.length : Int) x30_2 = some r) ∧ Aside0 (kq ≤ kj3) ∧ Aside0 (Below w.heap.size w w'))
          case atStart => exact ⟨((⟨#[]⟩ : ByteArray)), (0), (by first | rfl | (simp; done) | (simp [*]; done)), (by first | rfl | (simp; done) | (simp [*]; done)), H', ⟨Nat.le_refl _⟩, ⟨by repeat (first | (with_reducible first | exact HB.out | apply below_alloc | apply pw_below_drewN | apply below_drew1) | exact HB.out)⟩⟩
          case round =>
            clear H'
            try clear c1
            try clear p2
            try clear c6
            try clear c6b0
            try clear c6b1
            try clear c7
            try clear c8
            try clear c8b0
            try clear c8b1
            try clear p2
            obtain ⟨x7_2, x30_2, rfl, rfl, HA, HK2, HB⟩ := hrel
            cases gk with
            | zero => exact absurd HA.out (by simp [chancellaw12_FrameMany.l0])
            | succ k2 =>
              have H := HA.out
              clear HA
              simp only [chancellaw12_FrameMany.l0] at H
              by_cases c9 : x30_2 < (l0.length : Int)
              · rw [if_pos c9] at H
                have c9b0 : decide (x30_2 < (l0.length : Int)) = true := decide_eq_true c9
                clear c9
                by_cases c10 : 0 ≤ x30_2
                · rw [if_pos c10] at H
                  have c10b0 : decide (0 ≤ x30_2) = true := decide_eq_true c10
                  clear c10
                  by_cases c11 : x30_2 < (l0.length : Int)
                  · rw [if_pos c11] at H
                    have c11b0 : decide (x30_2 < (l0.length : Int)) = true := decide_eq_true c11
                    clear c11
                    replace H := Option.bind_eq_some_iff.mp H
                    obtain ⟨⟨t109, t110⟩, A120, H⟩ := H
                    replace H : (if t110 = true then (if ((rdOf ByteArray.empty l0 x30_2).size : Int) > 600 then (some true) else (if x7_2.size + t109.size ≤ 9223372036854775807 then (chancellaw12_FrameMany.l0 k2 l0 a1 (x7_2 ++ t109) l0 (l0.length : Int) (wrap64 (x30_2 + 1))) else (none))) else (some true)) = some r := H
                    have A12 := Aside0.mk A120
                    clear A120
                    by_cases c13 : t110 = true
                    · subst c13
                      have H1 : (if ((rdOf ByteArray.empty l0 x30_2).size : Int) > 600 then (some true) else (if x7_2.size + t109.size ≤ 9223372036854775807 then (chancellaw12_FrameMany.l0 k2 l0 a1 (x7_2 ++ t109) l0 (l0.length : Int) (wrap64 (x30_2 + 1))) else (none))) = some r := by rw [if_pos rfl] at H; exact H
                      clear H
                      have H := H1
                      clear H1
                      by_cases c14 : ((rdOf ByteArray.empty l0 x30_2).size : Int) > 600
                      · rw [if_pos c14] at H
                        have c14b0 : decide (600 < ((rdOf ByteArray.empty l0 x30_2).size : Int)) = true := decide_eq_true c14
                        have c14b1 : decide (600 < (rdOf ByteArray.empty l0 x30_2).size) = true := decide_eq_true (by omega)
                        clear c14
                        obtain rfl := Option.some.inj H
                        have p108 : 0 ≤ (x30_2 : Int) := of_decide_eq_true (by first | (with_reducible assumption) | assumption)
                        have q108 : x30_2 < (l0.length : Int) := of_decide_eq_true (by first | (with_reducible assumption) | assumption)
                        obtain ⟨ad108, e108, hx108_0⟩ := Kd.at_string HR0.out x30_2 p108 q108
                        cases e108
                        replace hx108_0 := (HB.out.cell (World.block_lt_of_cell? w _ hx108_0)).trans hx108_0
                        replace p108 := eq_true p108
                        replace q108 := eq_true q108
                        go_wp2_with (first | ((with_reducible refine gate_callee (f := 10) rfl ?_); refine goesL_ (some 36) rfl rfl Try.func10 (by kernel_rfl) rfl #[.string (rdOf ByteArray.empty l0 x30_2)] rfl (by (try simp only [List.map_toArray, List.map_cons, List.map_nil]); first | done | rfl | (simp only [List.length_drop, List.length_take]; rfl)) ?_; (with_reducible refine (frame_Wrap.calls (rdOf ByteArray.empty l0 x30_2) t109 true _ A12.out).mono ?_); rintro e w15 ⟨rfl, hb⟩; refine ⟨_, rfl, ?_⟩; have n0_ := Aside0.mk (below_step (by repeat (first | (with_reducible first | exact HB.out | apply below_alloc | apply pw_below_drewN | apply below_drew1) | exact HB.out)) hb); clear HB; have HB := n0_; clear n0_; (try clear hb); (try clear hb2); (try clear hk); (try clear hi)))
                        go_ret
                        exact ⟨by first | rfl | (simp [errW_none, errW_some] <;> rfl) | (simp [*, errW_none, errW_some] <;> rfl), by repeat (first | (with_reducible first | exact HB.out | apply below_alloc | apply pw_below_drewN | apply below_drew1) | exact HB.out)⟩
                      · rw [if_neg c14] at H
                        have c14b0 : decide (600 < ((rdOf ByteArray.empty l0 x30_2).size : Int)) = false := decide_eq_false c14
                        have c14b1 : decide (600 < (rdOf ByteArray.empty l0 x30_2).size) = false := decide_eq_false (by omega)
                        clear c14
                        by_cases c16 : x7_2.size + t109.size ≤ 9223372036854775807
                        · rw [if_pos c16] at H
                          have c16b0 := eq_true c16
                          have c16b1 : decide (x7_2.size + t109.size ≤ 9223372036854775807) = true := decide_eq_true c16
                          try have c16b2 : (9223372036854775807 < x7_2.size + t109.size) = False := eq_false (Nat.not_lt.2 c16)
                          have H' := Aside0.mk H
                          clear H
                          have p108 : 0 ≤ (x30_2 : Int) := of_decide_eq_true (by first | (with_reducible assumption) | assumption)
                          have q108 : x30_2 < (l0.length : Int) := of_decide_eq_true (by first | (with_reducible assumption) | assumption)
                          obtain ⟨ad108, e108, hx108_0⟩ := Kd.at_string HR0.out x30_2 p108 q108
                          cases e108
                          replace hx108_0 := (HB.out.cell (World.block_lt_of_cell? w _ hx108_0)).trans hx108_0
                          replace p108 := eq_true p108
                          replace q108 := eq_true q108
                          go_wp2_with (first | ((with_reducible refine gate_callee (f := 10) rfl ?_); refine goesL_ (some 36) rfl rfl Try.func10 (by kernel_rfl) rfl #[.string (rdOf ByteArray.empty l0 x30_2)] rfl (by (try simp only [List.map_toArray, List.map_cons, List.map_nil]); first | done | rfl | (simp only [List.length_drop, List.length_take]; rfl)) ?_; (with_reducible refine (frame_Wrap.calls (rdOf ByteArray.empty l0 x30_2) t109 true _ A12.out).mono ?_); rintro e w17 ⟨rfl, hb⟩; refine ⟨_, rfl, ?_⟩; have n0_ := Aside0.mk (below_step (by repeat (first | (with_reducible first | exact HB.out | apply below_alloc | apply pw_below_drewN | apply below_drew1) | exact HB.out)) hb); clear HB; have HB := n0_; clear n0_; (try clear hb); (try clear hb2); (try clear hk); (try clear hi)))
                          go_roundg k2
                          case measure => have := HJ3.out; have := HK2.out; omega
                          case rel => exact ⟨(x7_2 ++ t109), (wrap64 (x30_2 + 1)), (by first | rfl | (simp; done) | (simp [*]; done)), (by first | rfl | (simp; done) | (simp [*]; done)), H', ⟨by have := HJ3.out; have := HK2.out; omega⟩, ⟨by repeat (first | (with_reducible first | exact HB.out | apply below_alloc | apply pw_below_drewN | apply below_drew1) | exact HB.out)⟩⟩
                        · rw [if_neg c16] at H
                          exact absurd H (by simp)
                    · replace c13 := Bool.eq_false_iff.mpr c13
                      subst c13
                      have H1 : (some true) = some r := by rw [if_neg (show ¬ (false = true) by decide)] at H; exact H
                      clear H
                      have H := H1
                      clear H1
                      obtain rfl := Option.some.inj H
                      have p108 : 0 ≤ (x30_2 : Int) := of_decide_eq_true (by first | (with_reducible assumption) | assumption)
                      have q108 : x30_2 < (l0.length : Int) := of_decide_eq_true (by first | (with_reducible assumption) | assumption)
                      obtain ⟨ad108, e108, hx108_0⟩ := Kd.at_string HR0.out x30_2 p108 q108
                      cases e108
                      replace hx108_0 := (HB.out.cell (World.block_lt_of_cell? w _ hx108_0)).trans hx108_0
                      replace p108 := eq_true p108
                      replace q108 := eq_true q108
                      go_wp2_with (first | ((with_reducible refine gate_callee (f := 10) rfl ?_); refine goesL_ (some 36) rfl rfl Try.func10 (by kernel_rfl) rfl #[.string (rdOf ByteArray.empty l0 x30_2)] rfl (by (try simp only [List.map_toArray, List.map_cons, List.map_nil]); first | done | rfl | (simp only [List.length_drop, List.length_take]; rfl)) ?_; (with_reducible refine (frame_Wrap.calls (rdOf ByteArray.empty l0 x30_2) t109 false _ A12.out).mono ?_); rintro e w18 ⟨rfl, hb⟩; refine ⟨_, rfl, ?_⟩; have n0_ := Aside0.mk (below_step (by repeat (first | (with_reducible first | exact HB.out | apply below_alloc | apply pw_below_drewN | apply below_drew1) | exact HB.out)) hb); clear HB; have HB := n0_; clear n0_; (try clear hb); (try clear hb2); (try clear hk); (try clear hi)))
                      go_ret
                      exact ⟨by first | rfl | (simp [errW_none, errW_some] <;> rfl) | (simp [*, errW_none, errW_some] <;> rfl), by repeat (first | (with_reducible first | exact HB.out | apply below_alloc | apply pw_below_drewN | apply below_drew1) | exact HB.out)⟩
                  · rw [if_neg c11] at H
                    exact absurd H (by simp)
                · rw [if_neg c10] at H
                  exact absurd H (by simp)
              · rw [if_neg c9] at H
                have c9b0 : decide (x30_2 < (l0.length : Int)) = false := decide_eq_false c9
                clear c9
                by_cases c19 : (a1.size : Int) > 1
                · rw [if_pos c19] at H
                  have c19b0 : decide (1 < (a1.size : Int)) = true := decide_eq_true c19
                  have c19b1 : decide (1 < a1.size) = true := decide_eq_true (by omega)
                  clear c19
                  by_cases c20 : 0 ≤ 1
                  · rw [if_pos c20] at H
                    have c20b0 := eq_true c20
                    have c20b1 : decide (0 ≤ 1) = true := decide_eq_true c20
                    clear c20
                    by_cases c21 : 1 ≤ (a1.size : Int)
                    · rw [if_pos c21] at H
                      have c21b0 := eq_true c21
                      have c21b1 : decide (1 ≤ (a1.size : Int)) = true := decide_eq_true c21
                      clear c21
                      by_cases c22 : x7_2.size + (a1.extract 0 1).size ≤ 9223372036854775807
                      · rw [if_pos c22] at H
                        have c22b0 := eq_true c22
                        have c22b1 : decide (x7_2.size + (a1.extract 0 1).size ≤ 9223372036854775807) = true := decide_eq_true c22
                        try have c22b2 : (9223372036854775807 < x7_2.size + (a1.extract 0 1).size) = False := eq_false (Nat.not_lt.2 c22)
                        replace H := Option.bind_eq_some_iff.mp H
                        obtain ⟨⟨t111, t112, t113⟩, A230, H⟩ := H
                        replace H : (if t113 = true then (if t112.toList = (a1.extract 0 1).toList then ((chancelref12_Same.f k2 t111 l0).bind fun t116 => (some t116)) else (some false)) else (some false)) = some r := H
                        have A23 := Aside0.mk A230
                        clear A230
                        by_cases c24 : t113 = true
                        · subst c24
                          have H1 : (if t112.toList = (a1.extract 0 1).toList then ((chancelref12_Same.f k2 t111 l0).bind fun t116 => (some t116)) else (some false)) = some r := by rw [if_pos rfl] at H; exact H
                          clear H
                          have H := H1
                          clear H1
                          by_cases c25 : t112.toList = (a1.extract 0 1).toList
                          · rw [if_pos c25] at H
                            have c25b0 : (t112.toList == (a1.extract 0 1).toList) = true := beq_iff_eq.mpr c25
                            have c25b1 : (t112.toList != (a1.extract 0 1).toList) = false := bne_eq_false_iff_eq.mpr c25
                            clear c25
                            replace H := Option.bind_eq_some_iff.mp H
                            obtain ⟨t116, A260, H⟩ := H
                            replace H : (some t116) = some r := H
                            have A26 := Aside0.mk A260
                            clear A260
                            obtain rfl := Option.some.inj H
                            go_wp2_with (first | ((with_reducible refine gate_callee (f := 7) rfl ?_); refine goesL_ (some 59) rfl rfl Try.func7 (by kernel_rfl) rfl #[.string (x7_2 ++ (a1.extract 0 1)), .int .i64 600] rfl (by (try simp only [List.map_toArray, List.map_cons, List.map_nil]); first | done | rfl | (simp only [List.length_drop, List.length_take]; rfl)) ?_; (with_reducible refine (frame_Split.calls (x7_2 ++ (a1.extract 0 1)) 600 t111 t112 true _ A23.out).mono ?_); rintro e w27 ⟨v114, rfl, ho0, hb⟩; refine ⟨_, rfl, ?_⟩; have n0_ := Aside0.mk (Kd.R_lower ho0 (below_size (by repeat (first | (with_reducible first | exact HB.out | apply below_alloc | apply pw_below_drewN | apply below_drew1) | exact HB.out)))); have n1_ := Aside0.mk (below_step (by repeat (first | (with_reducible first | exact HB.out | apply below_alloc | apply pw_below_drewN | apply below_drew1) | exact HB.out)) hb); clear HB; have HO115 := n0_; have HB := n1_; clear n0_ n1_; (try clear hb); (try clear hb2); (try clear hk); (try clear hi); (try clear ho0); obtain ⟨Ao28, co28, eo28⟩ := Kd.R_slice HO115.out; subst eo28) | (go_at_call 9; (with_reducible refine (chancelref12_Same.calls k2 _ _ t111 _ _ l0 t116 _ ?side1 ?side2 ?side3 ?side4 A26.out).mono ?_); (case side1 => repeat (first | exact (Kd.R_reads' HO115.out).2.2 | (with_reducible refine Kd.C_alloc ?_ _) | (with_reducible refine Kd.C_drewN ?_ _) | (with_reducible refine Kd.C_drew ?_))); (case side2 => exact (Kd.R_reads' HO115.out).2.1); (case side3 => repeat (first | exact (Kd.C_below HR0.out HB.out) | (with_reducible refine Kd.C_alloc ?_ _) | (with_reducible refine Kd.C_drewN ?_ _) | (with_reducible refine Kd.C_drew ?_))); (case side4 => exact HC0.out); rintro e w' ⟨rfl, ⟨nd, rfl⟩⟩))
                            go_ret
                            exact ⟨by first | rfl | (simp [errW_none, errW_some] <;> rfl) | (simp [*, errW_none, errW_some] <;> rfl), by repeat (first | (with_reducible first | exact HB.out | apply below_alloc | apply pw_below_drewN | apply below_drew1) | exact HB.out)⟩
                          · rw [if_neg c25] at H
                            have c25b0 : (t112.toList == (a1.extract 0 1).toList) = false := beq_eq_false_iff_ne.mpr c25
                            have c25b1 : (t112.toList != (a1.extract 0 1).toList) = true := bne_iff_ne.mpr c25
                            obtain rfl := Option.some.inj H
                            go_wp2_with (first | ((with_reducible refine gate_callee (f := 7) rfl ?_); refine goesL_ (some 59) rfl rfl Try.func7 (by kernel_rfl) rfl #[.string (x7_2 ++ (a1.extract 0 1)), .int .i64 600] rfl (by (try simp only [List.map_toArray, List.map_cons, List.map_nil]); first | done | rfl | (simp only [List.length_drop, List.length_take]; rfl)) ?_; (with_reducible refine (frame_Split.calls (x7_2 ++ (a1.extract 0 1)) 600 t111 t112 true _ A23.out).mono ?_); rintro e w29 ⟨v114, rfl, ho0, hb⟩; refine ⟨_, rfl, ?_⟩; have n0_ := Aside0.mk (Kd.R_lower ho0 (below_size (by repeat (first | (with_reducible first | exact HB.out | apply below_alloc | apply pw_below_drewN | apply below_drew1) | exact HB.out)))); have n1_ := Aside0.mk (below_step (by repeat (first | (with_reducible first | exact HB.out | apply below_alloc | apply pw_below_drewN | apply below_drew1) | exact HB.out)) hb); clear HB; have HO115 := n0_; have HB := n1_; clear n0_ n1_; (try clear hb); (try clear hb2); (try clear hk); (try clear hi); (try clear ho0)))
                            go_ret
                            exact ⟨by first | rfl | (simp [errW_none, errW_some] <;> rfl) | (simp [*, errW_none, errW_some] <;> rfl), by repeat (first | (with_reducible first | exact HB.out | apply below_alloc | apply pw_below_drewN | apply below_drew1) | exact HB.out)⟩
                        · replace c24 := Bool.eq_false_iff.mpr c24
                          subst c24
                          have H1 : (some false) = some r := by rw [if_neg (show ¬ (false = true) by decide)] at H; exact H
                          clear H
                          have H := H1
                          clear H1
                          obtain rfl := Option.some.inj H
                          go_wp2_with (first | ((with_reducible refine gate_callee (f := 7) rfl ?_); refine goesL_ (some 59) rfl rfl Try.func7 (by kernel_rfl) rfl #[.string (x7_2 ++ (a1.extract 0 1)), .int .i64 600] rfl (by (try simp only [List.map_toArray, List.map_cons, List.map_nil]); first | done | rfl | (simp only [List.length_drop, List.length_take]; rfl)) ?_; (with_reducible refine (frame_Split.calls (x7_2 ++ (a1.extract 0 1)) 600 t111 t112 false _ A23.out).mono ?_); rintro e w30 ⟨v114, rfl, ho0, hb⟩; refine ⟨_, rfl, ?_⟩; have n0_ := Aside0.mk (Kd.R_lower ho0 (below_size (by repeat (first | (with_reducible first | exact HB.out | apply below_alloc | apply pw_below_drewN | apply below_drew1) | exact HB.out)))); have n1_ := Aside0.mk (below_step (by repeat (first | (with_reducible first | exact HB.out | apply below_alloc | apply pw_below_drewN | apply below_drew1) | exact HB.out)) hb); clear HB; have HO115 := n0_; have HB := n1_; clear n0_ n1_; (try clear hb); (try clear hb2); (try clear hk); (try clear hi); (try clear ho0)))
                          go_ret
                          exact ⟨by first | rfl | (simp [errW_none, errW_some] <;> rfl) | (simp [*, errW_none, errW_some] <;> rfl), by repeat (first | (with_reducible first | exact HB.out | apply below_alloc | apply pw_below_drewN | apply below_drew1) | exact HB.out)⟩
                      · rw [if_neg c22] at H
                        exact absurd H (by simp)
                    · rw [if_neg c21] at H
                      exact absurd H (by simp)
                  · rw [if_neg c20] at H
                    exact absurd H (by simp)
                · rw [if_neg c19] at H
                  have c19b0 : decide (1 < (a1.size : Int)) = false := decide_eq_false c19
                  have c19b1 : decide (1 < a1.size) = false := decide_eq_false (by omega)
                  clear c19
                  by_cases c31 : x7_2.size + a1.size ≤ 9223372036854775807
                  · rw [if_pos c31] at H
                    have c31b0 := eq_true c31
                    have c31b1 : decide (x7_2.size + a1.size ≤ 9223372036854775807) = true := decide_eq_true c31
                    try have c31b2 : (9223372036854775807 < x7_2.size + a1.size) = False := eq_false (Nat.not_lt.2 c31)
                    replace H := Option.bind_eq_some_iff.mp H
                    obtain ⟨⟨t117, t118, t119⟩, A320, H⟩ := H
                    replace H : (if t119 = true then (if t118.toList = a1.toList then ((chancelref12_Same.f k2 t117 l0).bind fun t122 => (some t122)) else (some false)) else (some false)) = some r := H
                    have A32 := Aside0.mk A320
                    clear A320
                    by_cases c33 : t119 = true
                    · subst c33
                      have H1 : (if t118.toList = a1.toList then ((chancelref12_Same.f k2 t117 l0).bind fun t122 => (some t122)) else (some false)) = some r := by rw [if_pos rfl] at H; exact H
                      clear H
                      have H := H1
                      clear H1
                      by_cases c34 : t118.toList = a1.toList
                      · rw [if_pos c34] at H
                        have c34b0 : (t118.toList == a1.toList) = true := beq_iff_eq.mpr c34
                        have c34b1 : (t118.toList != a1.toList) = false := bne_eq_false_iff_eq.mpr c34
                        clear c34
                        replace H := Option.bind_eq_some_iff.mp H
                        obtain ⟨t122, A350, H⟩ := H
                        replace H : (some t122) = some r := H
                        have A35 := Aside0.mk A350
                        clear A350
                        obtain rfl := Option.some.inj H
                        go_wp2_with (first | ((with_reducible refine gate_callee (f := 7) rfl ?_); refine goesL_ (some 59) rfl rfl Try.func7 (by kernel_rfl) rfl #[.string (x7_2 ++ a1), .int .i64 600] rfl (by (try simp only [List.map_toArray, List.map_cons, List.map_nil]); first | done | rfl | (simp only [List.length_drop, List.length_take]; rfl)) ?_; (with_reducible refine (frame_Split.calls (x7_2 ++ a1) 600 t117 t118 true _ A32.out).mono ?_); rintro e w36 ⟨v120, rfl, ho0, hb⟩; refine ⟨_, rfl, ?_⟩; have n0_ := Aside0.mk (Kd.R_lower ho0 (below_size (by repeat (first | (with_reducible first | exact HB.out | apply below_alloc | apply pw_below_drewN | apply below_drew1) | exact HB.out)))); have n1_ := Aside0.mk (below_step (by repeat (first | (with_reducible first | exact HB.out | apply below_alloc | apply pw_below_drewN | apply below_drew1) | exact HB.out)) hb); clear HB; have HO121 := n0_; have HB := n1_; clear n0_ n1_; (try clear hb); (try clear hb2); (try clear hk); (try clear hi); (try clear ho0); obtain ⟨Ao37, co37, eo37⟩ := Kd.R_slice HO121.out; subst eo37) | (go_at_call 9; (with_reducible refine (chancelref12_Same.calls k2 _ _ t117 _ _ l0 t122 _ ?side1 ?side2 ?side3 ?side4 A35.out).mono ?_); (case side1 => repeat (first | exact (Kd.R_reads' HO121.out).2.2 | (with_reducible refine Kd.C_alloc ?_ _) | (with_reducible refine Kd.C_drewN ?_ _) | (with_reducible refine Kd.C_drew ?_))); (case side2 => exact (Kd.R_reads' HO121.out).2.1); (case side3 => repeat (first | exact (Kd.C_below HR0.out HB.out) | (with_reducible refine Kd.C_alloc ?_ _) | (with_reducible refine Kd.C_drewN ?_ _) | (with_reducible refine Kd.C_drew ?_))); (case side4 => exact HC0.out); rintro e w' ⟨rfl, ⟨nd, rfl⟩⟩))
                        go_ret
                        exact ⟨by first | rfl | (simp [errW_none, errW_some] <;> rfl) | (simp [*, errW_none, errW_some] <;> rfl), by repeat (first | (with_reducible first | exact HB.out | apply below_alloc | apply pw_below_drewN | apply below_drew1) | exact HB.out)⟩
                      · rw [if_neg c34] at H
                        have c34b0 : (t118.toList == a1.toList) = false := beq_eq_false_iff_ne.mpr c34
                        have c34b1 : (t118.toList != a1.toList) = true := bne_iff_ne.mpr c34
                        obtain rfl := Option.some.inj H
                        go_wp2_with (first | ((with_reducible refine gate_callee (f := 7) rfl ?_); refine goesL_ (some 59) rfl rfl Try.func7 (by kernel_rfl) rfl #[.string (x7_2 ++ a1), .int .i64 600] rfl (by (try simp only [List.map_toArray, List.map_cons, List.map_nil]); first | done | rfl | (simp only [List.length_drop, List.length_take]; rfl)) ?_; (with_reducible refine (frame_Split.calls (x7_2 ++ a1) 600 t117 t118 true _ A32.out).mono ?_); rintro e w38 ⟨v120, rfl, ho0, hb⟩; refine ⟨_, rfl, ?_⟩; have n0_ := Aside0.mk (Kd.R_lower ho0 (below_size (by repeat (first | (with_reducible first | exact HB.out | apply below_alloc | apply pw_below_drewN | apply below_drew1) | exact HB.out)))); have n1_ := Aside0.mk (below_step (by repeat (first | (with_reducible first | exact HB.out | apply below_alloc | apply pw_below_drewN | apply below_drew1) | exact HB.out)) hb); clear HB; have HO121 := n0_; have HB := n1_; clear n0_ n1_; (try clear hb); (try clear hb2); (try clear hk); (try clear hi); (try clear ho0)))
                        go_ret
                        exact ⟨by first | rfl | (simp [errW_none, errW_some] <;> rfl) | (simp [*, errW_none, errW_some] <;> rfl), by repeat (first | (with_reducible first | exact HB.out | apply below_alloc | apply pw_below_drewN | apply below_drew1) | exact HB.out)⟩
                    · replace c33 := Bool.eq_false_iff.mpr c33
                      subst c33
                      have H1 : (some false) = some r := by rw [if_neg (show ¬ (false = true) by decide)] at H; exact H
                      clear H
                      have H := H1
                      clear H1
                      obtain rfl := Option.some.inj H
                      go_wp2_with (first | ((with_reducible refine gate_callee (f := 7) rfl ?_); refine goesL_ (some 59) rfl rfl Try.func7 (by kernel_rfl) rfl #[.string (x7_2 ++ a1), .int .i64 600] rfl (by (try simp only [List.map_toArray, List.map_cons, List.map_nil]); first | done | rfl | (simp only [List.length_drop, List.length_take]; rfl)) ?_; (with_reducible refine (frame_Split.calls (x7_2 ++ a1) 600 t117 t118 false _ A32.out).mono ?_); rintro e w39 ⟨v120, rfl, ho0, hb⟩; refine ⟨_, rfl, ?_⟩; have n0_ := Aside0.mk (Kd.R_lower ho0 (below_size (by repeat (first | (with_reducible first | exact HB.out | apply below_alloc | apply pw_below_drewN | apply below_drew1) | exact HB.out)))); have n1_ := Aside0.mk (below_step (by repeat (first | (with_reducible first | exact HB.out | apply below_alloc | apply pw_below_drewN | apply below_drew1) | exact HB.out)) hb); clear HB; have HO121 := n0_; have HB := n1_; clear n0_ n1_; (try clear hb); (try clear hb2); (try clear hk); (try clear hi); (try clear ho0)))
                      go_ret
                      exact ⟨by first | rfl | (simp [errW_none, errW_some] <;> rfl) | (simp [*, errW_none, errW_some] <;> rfl), by repeat (first | (with_reducible first | exact HB.out | apply below_alloc | apply pw_below_drewN | apply below_drew1) | exact HB.out)⟩
                  · rw [if_neg c31] at H
                    exact absurd H (by simp)

/-- THE ONE PURE STATEMENT of chancellaw12_FrameMany: yours. -/
def chancellaw12_FrameMany.Pure : Prop := ∀ (l0 : List ByteArray) (a1 : ByteArray), (fun l : List ByteArray => l.length ≤ maxLen ∧ ∀ a ∈ l, (fun s : ByteArray => s.size ≤ maxLen) a) l0 → a1.size ≤ 140737488351232 → ∃ k, chancellaw12_FrameMany.f k l0 a1 = some true
theorem chancellaw12_FrameMany.walk (P : chancellaw12_FrameMany.Pure)  (a1 : ByteArray) (w : World) (w1 : a1.size ≤ 140737488351232) (A0 : Option Addr) (c0 : Nat) (l0 : List ByteArray) (hr0 : Kd.C Kd.string w A0 l0.length l0) (hc0 : l0.length ≤ c0) (g0_0 : (fun l : List ByteArray => l.length ≤ maxLen ∧ ∀ a ∈ l, (fun s : ByteArray => s.size ≤ maxLen) a) l0) :
    Calls Try.prog 6 #[.slice A0 l0.length c0, .string a1] w fun e w' => e = .returned (.bool true) ∧ Below w.heap.size w w' := by
  obtain ⟨k, h⟩ := P l0 a1 g0_0 w1
  refine (chancellaw12_FrameMany.calls k A0 c0 l0 a1 true w hr0 hc0 h).mono ?_
  rintro e w' ⟨rfl, hd⟩
  exact ⟨rfl, hd⟩

end Go.Proofs.Ytiipapndmjbciaa.AFrameMany
