/- What the functions that the law FrameSplits reaches compute, and the row of the law (printed by a program of this session). -/
import Derived.Test.YtiipapndmjbciaaAFrameSplitsx0
namespace Go.Proofs.Ytiipapndmjbciaa.AFrameSplits
open Go.RowKit Go.Proofs.YtiipapndmjbciaaW.PrintWords Go.Proofs.YtiipapndmjbciaaW.PrintLast Go.Proofs.YtiipapndmjbciaaW.PrintMore
attribute [local go_sem] max2_int min2_int max_two min_two max_three min_three max_four min_four   -- for this text's walks alone
set_option linter.unusedVariables false
set_option linter.unusedSimpArgs false

/-! ### frame_Split: function 7 -/
open Go.Proofs.Ytiipapndmjbciaa.Split
def frame_Split.f (a0 : ByteArray) (a1 : Int) : Option (List ByteArray × ByteArray × Bool) :=
  if a0.size < 8796093022208 then some ((split a1 (L a0)).1.map BA, BA (split a1 (L a0)).2.1, (split a1 (L a0)).2.2) else none
/-- What a round of the loop knows. -/
def frame_Split.Inv (s : ByteArray) (most : Int) (r1 : List ByteArray) (r2 : ByteArray) (r3 : Bool) (d : Nat) (acc : List ByteArray) (p : Nat) : Prop :=
  s.size < 8796093022208 ∧ p ≤ s.size ∧ acc.length ≤ p ∧ s.size - p < d ∧ acc ++ (split most ((L s).drop p)).1.map BA = r1 ∧ BA (split most ((L s).drop p)).2.1 = r2 ∧ (split most ((L s).drop p)).2.2 = r3
theorem frame_Split.start {s : ByteArray} {most : Int} {r1 : List ByteArray} {r2 : ByteArray} {r3 : Bool} (h : frame_Split.f s most = some (r1, r2, r3)) : frame_Split.Inv s most r1 r2 r3 (s.size + 1) [] 0 := by
  unfold frame_Split.f at h
  split at h
  · rename_i hs
    simp only [Option.some.injEq, Prod.mk.injEq] at h
    obtain ⟨h1, h2, h3⟩ := h
    exact ⟨hs, by omega, by simp, by omega, by simpa using h1, by simpa using h2, by simpa using h3⟩
  · cases h
theorem frame_Split.left {s : ByteArray} {p : Nat} {r : ByteArray} (hr : r = s.extract p s.size) : L r = (L s).drop p := by
  rw [hr, L_extract, ← L_size s, List.take_length]
theorem frame_Split.short {s : ByteArray} {most : Int} {r1 : List ByteArray} {r2 : ByteArray} {r3 : Bool} {d : Nat} {acc : List ByteArray} {p : Nat} {r : ByteArray}
    (h : frame_Split.Inv s most r1 r2 r3 d acc p) (hr : r = s.extract p s.size) (h2 : r.size < 2) : acc = r1 ∧ r = r2 ∧ true = r3 := by
  obtain ⟨_, _, _, _, e1, e2, e3⟩ := h
  rw [← frame_Split.left hr, split_short _ _ (by rw [L_size]; exact h2)] at e1 e2 e3
  exact ⟨by simpa using e1, by simpa [BA_L] using e2, e3⟩
theorem or_bt (r : ByteArray) : bits .or .i64 (wrap64 (wrap64 (bt r 0) * 256)) (wrap64 (bt r 1)) = (((bt r 0).toNat * 256 + (bt r 1).toNat : Nat) : Int) := by
  have h0 := bt_range r 0
  have h1 := bt_range r 1
  have := or_bytes (bt r 0).toNat (bt r 1).toNat (by omega) (by omega)
  rw [Int.toNat_of_nonneg h0.1, Int.toNat_of_nonneg h1.1] at this
  rw [this]; omega
theorem frame_Split.word {r : ByteArray} {n : Nat} (hn : n = (bt r 0).toNat * 256 + (bt r 1).toNat) : n ≤ 65535 := by
  have h0 := bt_range r 0
  have h1 := bt_range r 1
  omega
theorem frame_Split.two {r : ByteArray} (h2 : 2 ≤ r.size) : ∃ a b t, L r = a :: b :: t ∧ bt r 0 = (a.toNat : Int) ∧ bt r 1 = (b.toNat : Int) ∧ t.length + 2 = r.size := by
  rcases bytes_cases (L r) with h | ⟨a, b, t, e⟩
  · rw [L_size] at h; omega
  · refine ⟨a, b, t, e, ?_, ?_, ?_⟩
    · rw [bt_L, e]; rfl
    · rw [bt_L, e]; rfl
    · have := L_size r; rw [e] at this; simpa using this
section
variable {s : ByteArray} {most : Int} {r1 : List ByteArray} {r2 : ByteArray} {r3 : Bool} {d : Nat} {acc : List ByteArray} {p : Nat} {r : ByteArray} {n : Nat}
theorem frame_Split.bad (h : frame_Split.Inv s most r1 r2 r3 d acc p) (hr : r = s.extract p s.size) (h2 : 2 ≤ r.size) (hn : n = (bt r 0).toNat * 256 + (bt r 1).toNat) (hb : n = 0 ∨ most < (n : Int)) :
    acc = r1 ∧ (⟨#[]⟩ : ByteArray) = r2 ∧ false = r3 := by
  obtain ⟨_, _, _, _, e1, e2, e3⟩ := h
  obtain ⟨a, b, t, e, ea, eb, _⟩ := frame_Split.two h2
  rw [ea, eb, Int.toNat_natCast, Int.toNat_natCast] at hn
  rw [← frame_Split.left hr, e, split_two, ← hn, if_pos hb] at e1 e2 e3
  exact ⟨by simpa using e1, by simpa [BA] using e2, e3⟩
theorem frame_Split.long (h : frame_Split.Inv s most r1 r2 r3 d acc p) (hr : r = s.extract p s.size) (h2 : 2 ≤ r.size) (hn : n = (bt r 0).toNat * 256 + (bt r 1).toNat) (hb : ¬ (n = 0 ∨ most < (n : Int))) (h3 : r.size - 2 < n) :
    acc = r1 ∧ r = r2 ∧ true = r3 := by
  obtain ⟨_, _, _, _, e1, e2, e3⟩ := h
  obtain ⟨a, b, t, e, ea, eb, ht⟩ := frame_Split.two h2
  rw [ea, eb, Int.toNat_natCast, Int.toNat_natCast] at hn
  rw [← frame_Split.left hr, e, split_two, ← hn, if_neg hb, if_pos (by omega)] at e1 e2 e3
  exact ⟨by simpa using e1, by rw [← e2]; simp only; rw [← e, BA_L], e3⟩
theorem frame_Split.next (h : frame_Split.Inv s most r1 r2 r3 d acc p) (hr : r = s.extract p s.size) (h2 : 2 ≤ r.size) (hn : n = (bt r 0).toNat * 256 + (bt r 1).toNat) (hb : ¬ (n = 0 ∨ most < (n : Int))) (h3 : n ≤ r.size - 2) :
    ∃ d', d = d' + 1 ∧ frame_Split.Inv s most r1 r2 r3 d' (acc ++ [r.extract 2 (2 + n)]) (p + (2 + n)) := by
  obtain ⟨f1, f2, f3, f4, e1, e2, e3⟩ := h
  have hL := frame_Split.left hr
  obtain ⟨a, b, t, e, ea, eb, ht⟩ := frame_Split.two h2
  have hlen : r.size = s.size - p := by rw [hr]; simp
  rw [ea, eb, Int.toNat_natCast, Int.toNat_natCast] at hn
  have e4 : L (r.extract 2 (2 + n)) = t.take n := by rw [L_extract, e, Nat.add_comm 2 n]; simp
  have e5 : (L s).drop (p + (2 + n)) = t.drop n := by rw [← List.drop_drop, ← hL, e, Nat.add_comm 2 n]; simp
  rw [← hL, e, split_two, ← hn, if_neg hb, if_neg (by omega)] at e1 e2 e3
  refine ⟨d - 1, by omega, f1, by omega, by simp; omega, by omega, ?_, ?_, ?_⟩
  · rw [e5, ← e1]
    simp only [List.map_cons, List.append_assoc, List.cons_append, List.nil_append]
    rw [← e4, BA_L]
  · rw [e5]; exact e2
  · rw [e5]; exact e3
end
set_option maxHeartbeats 4000000 in
set_option maxRecDepth 100000 in
theorem frame_Split.calls (a0 : ByteArray) (a1 : Int) (r1 : List ByteArray) (r2 : ByteArray) (r3 : Bool) (w : World) (h : frame_Split.f a0 a1 = some (r1, r2, r3)) :
    Calls Try.prog 7 #[.string a0, .int .i64 a1] w fun e w' => ∃ v0_ : Value, e = .returned (.tuple #[v0_, .string r2, .bool r3]) ∧ Kd.R Kd.string 9 w' w.heap.size (fun _ => True) v0_ r1 ∧ Below w.heap.size w w' := by
  have HB := Aside0.mk (Below.refl w.heap.size w)
  have HI := Aside0.mk (frame_Split.start h)
  clear h
  go_enter Try.func7, Try.ntmps7
  go_wp2
  go_loopg [7, 8] (a0.size + 1) (fun dq v7 v8 w' => ∃ (acc : List ByteArray) (p : Nat), v8 = .int .i64 p ∧ Aside0 (frame_Split.Inv a0 a1 r1 r2 r3 dq acc p) ∧ Aside0 (Kd.R Kd.string 9 w' w.heap.size (fun _ => True) v7 acc) ∧ Aside0 (Below w.heap.size w w'))
  case atStart => exact ⟨[], 0, rfl, HI, ⟨Kd.R_nil _ _ _ _ _⟩, HB⟩
  case round =>
    clear HI HB
    obtain ⟨acc, p, rfl, HI, HO, HB⟩ := hrel
    have hp : p ≤ a0.size := HI.out.2.1
    obtain ⟨r, hr⟩ : ∃ r : ByteArray, r = a0.extract p a0.size := ⟨_, rfl⟩
    have HR := Aside0.mk hr
    clear hr
    go_upto_region 3 with (fail)
    go_cut [9] (fun v9 wc => v9 = .string r ∧ Aside0 (Kd.R Kd.string 9 wc w.heap.size (fun _ => True) u7 acc) ∧ Aside0 (Below w.heap.size w wc))
    case first =>
      go_wp2
      go_meet
      case rel => exact ⟨by rw [HR.out], HO, HB⟩
    case rest =>
      clear HO HB
      obtain ⟨rfl, HO, HB⟩ := hcut
      rcases Nat.lt_or_ge r.size 2 with h2 | h2
      · have HI2 := Aside0.mk (frame_Split.short HI.out HR.out h2)
        clear HI HR
        go_wp2
        go_ret3
        obtain ⟨rfl, rfl, rfl⟩ := HI2.out
        exact ⟨_, rfl, HO.out, HB.out⟩
      · obtain ⟨n, hn⟩ : ∃ n : Nat, n = (bt r 0).toNat * 256 + (bt r 1).toNat := ⟨_, rfl⟩
        have HN := Aside0.mk hn
        clear hn
        have q7 : (0 < r.size) = True := eq_true (by omega)
        have hx7 : ∀ h : 0 < r.size, ((r[0]'h).toNat : Int) = bt r 0 := bt_at r 0
        have qi7 : (0 < (r.size : Int)) = True := eq_true (by omega)
        have q9 : (1 < r.size) = True := eq_true (by omega)
        have hx9 : ∀ h : 1 < r.size, ((r[1]'h).toNat : Int) = bt r 1 := bt_at r 1
        have qi9 : (1 < (r.size : Int)) = True := eq_true (by omega)
        go_upto_region 6 with (fail)
        go_cut [10] (fun v10 wc => v10 = .int .i64 n ∧ Aside0 (Kd.R Kd.string 9 wc w.heap.size (fun _ => True) u7 acc) ∧ Aside0 (Below w.heap.size w wc))
        case first =>
          go_wp2
          repeat (go_quiet (fail); try go_wp2)
          go_meet
          case rel => exact ⟨by rw [HN.out]; exact congrArg _ (or_bt r), ⟨by (with_reducible repeat (first | apply Kd.R_alloc | apply Kd.R_drewN | apply Kd.R_drew)); exact HO.out⟩, ⟨by repeat (first | (with_reducible first | exact HB.out | apply below_alloc | apply pw_below_drewN | apply below_drew1) | exact HB.out)⟩⟩
        case rest =>
          clear HO HB q7 hx7 qi7 q9 hx9 qi9
          obtain ⟨rfl, HO, HB⟩ := hcut
          by_cases hbad : n = 0 ∨ a1 < (n : Int)
          · have HI2 := Aside0.mk (frame_Split.bad HI.out HR.out h2 HN.out hbad)
            clear HI HR HN
            rcases Decidable.em ((n : Int) = 0) with h0 | h0
            · have h0b : ((n : Int) == 0) = true := beq_iff_eq.mpr h0
              clear h0 hbad
              go_wp2
              go_ret3
              obtain ⟨rfl, rfl, rfl⟩ := HI2.out
              exact ⟨_, rfl, HO.out, HB.out⟩
            · have h0b : ((n : Int) == 0) = false := beq_eq_false_iff_ne.mpr h0
              have h0c : decide ((n : Int) > a1) = true := decide_eq_true (by omega)
              clear h0 hbad
              go_wp2
              go_ret3
              obtain ⟨rfl, rfl, rfl⟩ := HI2.out
              exact ⟨_, rfl, HO.out, HB.out⟩
          · have h0b : ((n : Int) == 0) = false := beq_eq_false_iff_ne.mpr (by omega)
            have h0c : decide ((n : Int) > a1) = false := decide_eq_false (by omega)
            have hn1 : 1 ≤ n := by omega
            have hn2 : n ≤ 65535 := frame_Split.word HN.out
            have hrs : r.size ≤ 8796093022208 := by rw [HR.out]; have := HI.out.1; simp; omega
            rcases Nat.lt_or_ge (r.size - 2) n with h3 | h3
            · have HI2 := Aside0.mk (frame_Split.long HI.out HR.out h2 HN.out hbad h3)
              clear HI HR HN hbad
              go_wp2
              go_ret3
              obtain ⟨rfl, rfl, rfl⟩ := HI2.out
              exact ⟨_, rfl, HO.out, HB.out⟩
            · obtain ⟨d', hd', hI2⟩ := frame_Split.next HI.out HR.out h2 HN.out hbad h3
              have HI2 := Aside0.mk hI2
              have HD := Aside0.mk hd'
              have hal : acc.length < 8796093022208 := by have := HI.out.1; have := HI.out.2.2.1; omega
              have LM := Aside0.mk hal
              have hp2 : p + (2 + n) ≤ a0.size := hI2.2.1
              have ha0 : a0.size < 8796093022208 := hI2.1
              have c14b0 : (2 ≤ 2 + (n : Int)) = True := eq_true (by omega)
              have c15b0 : (2 + (n : Int) ≤ (r.size : Int)) = True := eq_true (by omega)
              have c14n : (2 + (n : Int)).toNat = 2 + n := by omega
              have h4 : 2 + n ≤ r.size := by omega
              clear hbad HI HR HN hal hd' hI2
              obtain ⟨y, hy⟩ : ∃ y : List ByteArray, y = acc ++ [r.extract 2 (2 + n)] := ⟨_, rfl⟩
              rw [← hy] at HI2
              have Ny := Aside0.mk hy
              clear hy
              go_wp2_with (first | ((with_reducible refine gate_builtin (b := .append) (xs := #[.tmp 42, .tmp 47]) rfl ?_); at_builtin; refine Kd.R_append Kd.string (w0 := w) w.heap.size rfl (.tmp 42) (.tmp 47) 22 9 (.string ⟨#[]⟩) 16 rfl Try.underlying22 info9 rfl (by decide) (by omega) u7 acc (r.extract 2 (2 + n)) [.string (r.extract 2 (2 + n))] (fun _ => True) (fun _ => False) rfl rfl ?aP (fun _ hk => hk.elim) ?aF ?aO ?aB ?aS ?aL ?_; (case aP => exact rfl); (case aB => exact (by repeat (first | (with_reducible first | exact HB.out | apply below_alloc | apply pw_below_drewN | apply below_drew1) | exact HB.out))); (case aF => exact (fun _ _ => trivial)); (case aO => exact (by (with_reducible repeat (first | apply Kd.R_alloc | apply Kd.R_drewN | apply Kd.R_drew)); exact HO.out)); (case aS => exact (below_size (by repeat (first | (with_reducible first | exact HB.out | apply below_alloc | apply pw_below_drewN | apply below_drew1) | exact HB.out)))); (case aL => have := LM.out; omega); intro v102 w17 ho hb hg hat; rw [← Ny.out] at ho; have n0_ := Aside0.mk (hb); have n1_ := Aside0.mk (ho); clear HB; clear HO; have HB := n0_; have HO103 := n1_; clear n0_ n1_; clear ho hb hg hat))
              go_roundg d'
              case measure => have := HD.out; omega
              case rel => exact ⟨y, p + (2 + n), by first | rfl | (simp; done) | (simp [*]; done) | go_num, HI2, HO103, HB⟩


/-! ### chancelref12_Split: function 8 -/
mutual
def chancelref12_Split.l0 : Nat → ByteArray → Int → List ByteArray → Option (List ByteArray × ByteArray × Bool)
  | 0, _, _, _ => none
  | k + 1, x0, x1, x7 => if (x0.size : Int) ≥ 2 then (if 0 < (x0.size : Int) then (if 1 < (x0.size : Int) then (if (wrap64 ((wrap64 ((wrap64 (bt x0 0)) * 256)) + (wrap64 (bt x0 1)))) = 0 then (chancelref12_Split.j1 k x0 x1 x7 (wrap64 ((wrap64 ((wrap64 (bt x0 0)) * 256)) + (wrap64 (bt x0 1)))) true) else (chancelref12_Split.j1 k x0 x1 x7 (wrap64 ((wrap64 ((wrap64 (bt x0 0)) * 256)) + (wrap64 (bt x0 1)))) (decide ((wrap64 ((wrap64 ((wrap64 (bt x0 0)) * 256)) + (wrap64 (bt x0 1)))) > x1)))) else (none)) else (none)) else (some (x7, x0, true))
def chancelref12_Split.j1 : Nat → ByteArray → Int → List ByteArray → Int → Bool → Option (List ByteArray × ByteArray × Bool)
  | 0, _, _, _, _, _ => none
  | k + 1, x0, x1, x7, x8, x26 => if x26 = true then (some (x7, (⟨#[]⟩ : ByteArray), false)) else (if (x0.size : Int) < (wrap64 (x8 + 2)) then (some (x7, x0, true)) else (if 2 ≤ (wrap64 (x8 + 2)) then (if (wrap64 (x8 + 2)) ≤ (x0.size : Int) then (if x7.length < 8796093022208 then (if 0 ≤ (wrap64 (x8 + 2)) then (chancelref12_Split.l0 k (x0.extract ((wrap64 (x8 + 2)) : Int).toNat x0.size) x1 (x7 ++ [x0.extract 2 ((wrap64 (x8 + 2)) : Int).toNat])) else (none)) else (none)) else (none)) else (none)))
end
def chancelref12_Split.f (k : Nat) (a0 : ByteArray) (a1 : Int) : Option (List ByteArray × ByteArray × Bool) := chancelref12_Split.l0 k a0 a1 ([] : List ByteArray)
theorem chancelref12_Split.mono_l : ∀ k, (∀ y0 y1 y2, LeO (chancelref12_Split.l0 k y0 y1 y2) (chancelref12_Split.l0 (k + 1) y0 y1 y2)) ∧ (∀ y0 y1 y2 y3 y4, LeO (chancelref12_Split.j1 k y0 y1 y2 y3 y4) (chancelref12_Split.j1 (k + 1) y0 y1 y2 y3 y4))
  | 0 => ⟨fun _ _ _ r h => by simp [chancelref12_Split.l0] at h, fun _ _ _ _ _ r h => by simp [chancelref12_Split.j1] at h⟩
  | k + 1 => by
    obtain ⟨ih0, ih1⟩ := chancelref12_Split.mono_l k
    refine ⟨?_, ?_⟩
    · intro y0 y1 y2
      unfold chancelref12_Split.l0
      repeat' first
      | (with_reducible exact ih0 _ _ _)
      | (with_reducible exact ih1 _ _ _ _ _)
      | (with_reducible exact LeO.refl _)
      | (with_reducible exact LeO.none _)
      | (with_reducible refine LeO.ite ?_ ?_)
      | (with_reducible refine LeO.bind ?_ (fun _ => ?_))
      | exact ih0 _ _ _
      | exact ih1 _ _ _ _ _
      | exact LeO.none _
      | refine LeO.ite ?_ ?_
      | refine LeO.bind ?_ (fun _ => ?_)
    · intro y0 y1 y2 y3 y4
      unfold chancelref12_Split.j1
      repeat' first
      | (with_reducible exact ih0 _ _ _)
      | (with_reducible exact ih1 _ _ _ _ _)
      | (with_reducible exact LeO.refl _)
      | (with_reducible exact LeO.none _)
      | (with_reducible refine LeO.ite ?_ ?_)
      | (with_reducible refine LeO.bind ?_ (fun _ => ?_))
      | exact ih0 _ _ _
      | exact ih1 _ _ _ _ _
      | exact LeO.none _
      | refine LeO.ite ?_ ?_
      | refine LeO.bind ?_ (fun _ => ?_)
theorem chancelref12_Split.mono : ∀ a0 a1 k, LeO (chancelref12_Split.f k a0 a1) (chancelref12_Split.f (k + 1) a0 a1) := by
  intro a0 a1 k
  obtain ⟨ih0, ih1⟩ := chancelref12_Split.mono_l k
  unfold chancelref12_Split.f
  repeat' first
      | (with_reducible exact ih0 _ _ _)
      | (with_reducible exact ih1 _ _ _ _ _)
      | (with_reducible exact LeO.refl _)
      | (with_reducible exact LeO.none _)
      | (with_reducible refine LeO.ite ?_ ?_)
      | (with_reducible refine LeO.bind ?_ (fun _ => ?_))
      | exact ih0 _ _ _
      | exact ih1 _ _ _ _ _
      | exact LeO.none _
      | refine LeO.ite ?_ ?_
      | refine LeO.bind ?_ (fun _ => ?_)
set_option maxHeartbeats 8000000 in
set_option maxRecDepth 100000 in
theorem chancelref12_Split.calls (k : Nat) (a0 : ByteArray) (a1 : Int) (r1 : List ByteArray) (r2 : ByteArray) (r3 : Bool) (w : World) (h : chancelref12_Split.f k a0 a1 = some (r1, r2, r3)) :
    Calls Try.prog 8 #[.string a0, .int .i64 a1] w fun e w' => ∃ v0_ : Value, e = .returned (.tuple #[v0_, .string r2, .bool r3]) ∧ Kd.R Kd.string 9 w' w.heap.size (fun _ => True) v0_ r1 ∧ Below w.heap.size w w' := by
  have HB := Aside0.mk (Below.refl w.heap.size w)
  have H : (chancelref12_Split.l0 k a0 a1 ([] : List ByteArray)) = some (r1, r2, r3) := h
  clear h
  have H' := Aside0.mk H
  clear H
  go_enter Try.func8, Try.ntmps8
  go_wp2
  repeat (go_quiet (fail); try go_wp2)
  go_loopg [0, 7] k (fun kq v0 v7 w' => ∃ (x0_1 : ByteArray) (x7_1 : List ByteArray), v0 = .string x0_1 ∧ Aside0 (chancelref12_Split.l0 kq x0_1 a1 x7_1 = some (r1, r2, r3)) ∧ Aside0 (kq ≤ k) ∧ Aside0 (Kd.R Kd.string 9 w' w.heap.size (fun _ => True) v7 x7_1) ∧ Aside0 (Below w.heap.size w w'))
  case atStart => exact ⟨(a0), (([] : List ByteArray)), (by first | rfl | (simp; done) | (simp [*]; done)), H', ⟨Nat.le_refl _⟩, ⟨by first | exact Kd.R_nil _ _ _ _ _ | exact Kd.N_nil _ _ _ _ _ | exact Kd.V_nil _ _ _ _ _ | exact Kd.Q_nil _ _ _ _ _ | exact Kd.S_nil _ _ _ _ _⟩, ⟨by repeat (first | (with_reducible first | exact HB.out | apply below_alloc | apply pw_below_drewN | apply below_drew1) | exact HB.out)⟩⟩
  case round =>
    clear H'
    try clear p2
    obtain ⟨x0_1, x7_1, rfl, HA, HK1, HO_7, HB⟩ := hrel
    cases gk with
    | zero => exact absurd HA.out (by simp [chancelref12_Split.l0])
    | succ k1 =>
      have H := HA.out
      clear HA
      simp only [chancelref12_Split.l0] at H
      by_cases c3 : (x0_1.size : Int) ≥ 2
      · rw [if_pos c3] at H
        have c3b0 : decide (2 ≤ (x0_1.size : Int)) = true := decide_eq_true c3
        have c3b1 : decide (2 ≤ x0_1.size) = true := decide_eq_true (by omega)
        clear c3
        by_cases c4 : 0 < (x0_1.size : Int)
        · rw [if_pos c4] at H
          have c4b0 : decide (0 < (x0_1.size : Int)) = true := decide_eq_true c4
          have c4b1 : decide (0 < x0_1.size) = true := decide_eq_true (by omega)
          clear c4
          by_cases c6 : 1 < (x0_1.size : Int)
          · rw [if_pos c6] at H
            have c6b0 : decide (1 < (x0_1.size : Int)) = true := decide_eq_true c6
            have c6b1 : decide (1 < x0_1.size) = true := decide_eq_true (by omega)
            clear c6
            have HC8 := Aside0.mk H
            clear H
            have p5 : 0 ≤ (0 : Int) := (by omega)
            have q5 : 0 < x0_1.size := (by have : (0 : Int) < (x0_1.size : Int) := of_decide_eq_true (by first | (with_reducible assumption) | assumption); omega)
            have hx5 : ∀ h : 0 < x0_1.size, ((x0_1[0]'h).toNat : Int) = bt x0_1 0 := bt_at x0_1 0
            clear p5
            have qi5 : (0 < (x0_1.size : Int)) = True := eq_true (of_decide_eq_true (by first | (with_reducible assumption) | assumption))
            replace q5 := eq_true q5
            have p7 : 0 ≤ (1 : Int) := (by omega)
            have q7 : 1 < x0_1.size := (by have : (1 : Int) < (x0_1.size : Int) := of_decide_eq_true (by first | (with_reducible assumption) | assumption); omega)
            have hx7 : ∀ h : 1 < x0_1.size, ((x0_1[1]'h).toNat : Int) = bt x0_1 1 := bt_at x0_1 1
            clear p7
            have qi7 : (1 < (x0_1.size : Int)) = True := eq_true (of_decide_eq_true (by first | (with_reducible assumption) | assumption))
            replace q7 := eq_true q7
            go_upto_region 4 with (fail)
            repeat (go_quiet (fail); go_upto_region 4 with (fail))
            go_cut [26] (fun v26 wc => ∃ (kq : Nat) (x26_7 : Bool), v26 = .bool x26_7 ∧ Aside0 (chancelref12_Split.j1 kq x0_1 a1 x7_1 (wrap64 ((wrap64 ((wrap64 (bt x0_1 0)) * 256)) + (wrap64 (bt x0_1 1)))) x26_7 = some (r1, r2, r3)) ∧ Aside0 (kq ≤ k1) ∧ Aside0 (Kd.R Kd.string 9 wc w.heap.size (fun _ => True) u7 x7_1) ∧ Aside0 (Below w.heap.size w wc))
            case first =>
              have H := HC8.out
              clear HC8
              by_cases c9 : (wrap64 ((wrap64 ((wrap64 (bt x0_1 0)) * 256)) + (wrap64 (bt x0_1 1)))) = 0
              · rw [if_pos c9] at H
                have c9b0 : ((wrap64 ((wrap64 ((wrap64 (bt x0_1 0)) * 256)) + (wrap64 (bt x0_1 1)))) == 0) = true := beq_iff_eq.mpr c9
                have c9b1 : ((wrap64 ((wrap64 ((wrap64 (bt x0_1 0)) * 256)) + (wrap64 (bt x0_1 1)))) != 0) = false := bne_eq_false_iff_eq.mpr c9
                clear c9
                (first | rw [c9b0] | (simp only [i64_w, i32_w]; rw [c9b0]) | skip)
                have H' := Aside0.mk H
                clear H
                go_wp2
                repeat (go_quiet (fail); try go_wp2)
                go_meet
                case rel => exact ⟨_, (true), (by first | rfl | (simp; done) | (simp [*]; done)), H', ⟨by have := HK1.out; first | omega | exact Nat.le_refl _⟩, ⟨by (with_reducible repeat (first | apply Kd.R_alloc | apply Kd.R_drewN | apply Kd.R_drew)); exact HO_7.out⟩, ⟨by repeat (first | (with_reducible first | exact HB.out | apply below_alloc | apply pw_below_drewN | apply below_drew1) | exact HB.out)⟩⟩
              · rw [if_neg c9] at H
                have c9b0 : ((wrap64 ((wrap64 ((wrap64 (bt x0_1 0)) * 256)) + (wrap64 (bt x0_1 1)))) == 0) = false := beq_eq_false_iff_ne.mpr c9
                have c9b1 : ((wrap64 ((wrap64 ((wrap64 (bt x0_1 0)) * 256)) + (wrap64 (bt x0_1 1)))) != 0) = true := bne_iff_ne.mpr c9
                (first | rw [c9b0] | (simp only [i64_w, i32_w]; rw [c9b0]) | skip)
                have H' := Aside0.mk H
                clear H
                go_wp2
                repeat (go_quiet (fail); try go_wp2)
                go_meet
                case rel => exact ⟨_, (decide ((wrap64 ((wrap64 ((wrap64 (bt x0_1 0)) * 256)) + (wrap64 (bt x0_1 1)))) > a1)), (by first | rfl | (simp; done) | (simp [*]; done)), H', ⟨by have := HK1.out; first | omega | exact Nat.le_refl _⟩, ⟨by (with_reducible repeat (first | apply Kd.R_alloc | apply Kd.R_drewN | apply Kd.R_drew)); exact HO_7.out⟩, ⟨by repeat (first | (with_reducible first | exact HB.out | apply below_alloc | apply pw_below_drewN | apply below_drew1) | exact HB.out)⟩⟩
            case rest =>
              clear HC8
              try clear p2
              try clear c3
              try clear c3b0
              try clear c3b1
              try clear c4
              try clear c4b0
              try clear c4b1
              try clear p5
              try clear q5
              try clear hx5
              try clear qi5
              try clear c6
              try clear c6b0
              try clear c6b1
              try clear p6
              try clear p7
              try clear q7
              try clear hx7
              try clear qi7
              try clear c8
              try clear c9
              try clear c9b0
              try clear c9b1
              try clear p2
              try clear p5
              try clear p7
              try clear q5
              try clear q7
              obtain ⟨kq, x26_7, rfl, HA, HJ7, HO_7, HB⟩ := hcut
              cases kq with
              | zero => exact absurd HA.out (by simp [chancelref12_Split.j1])
              | succ kj7 =>
                have H := HA.out
                clear HA
                simp only [chancelref12_Split.j1] at H
                by_cases c10 : x26_7 = true
                · subst c10
                  have H1 : (some (x7_1, (⟨#[]⟩ : ByteArray), false)) = some (r1, r2, r3) := by rw [if_pos rfl] at H; exact H
                  clear H
                  have H := H1
                  clear H1
                  simp only [Option.some.injEq, Prod.mk.injEq] at H
                  obtain ⟨rfl, rfl, rfl⟩ := H
                  go_wp2
                  repeat (go_quiet (fail); try go_wp2)
                  go_ret3
                  exact ⟨_, by first | rfl | (simp [errW_none, errW_some] <;> rfl) | (simp [*, errW_none, errW_some] <;> rfl), by (with_reducible repeat (first | apply Kd.R_alloc | apply Kd.R_drewN | apply Kd.R_drew)); exact HO_7.out, by repeat (first | (with_reducible first | exact HB.out | apply below_alloc | apply pw_below_drewN | apply below_drew1) | exact HB.out)⟩
                · replace c10 := Bool.eq_false_iff.mpr c10
                  subst c10
                  have H1 : (if (x0_1.size : Int) < (wrap64 ((wrap64 ((wrap64 ((wrap64 (bt x0_1 0)) * 256)) + (wrap64 (bt x0_1 1)))) + 2)) then (some (x7_1, x0_1, true)) else (if 2 ≤ (wrap64 ((wrap64 ((wrap64 ((wrap64 (bt x0_1 0)) * 256)) + (wrap64 (bt x0_1 1)))) + 2)) then (if (wrap64 ((wrap64 ((wrap64 ((wrap64 (bt x0_1 0)) * 256)) + (wrap64 (bt x0_1 1)))) + 2)) ≤ (x0_1.size : Int) then (if x7_1.length < 8796093022208 then (if 0 ≤ (wrap64 ((wrap64 ((wrap64 ((wrap64 (bt x0_1 0)) * 256)) + (wrap64 (bt x0_1 1)))) + 2)) then (chancelref12_Split.l0 kj7 (x0_1.extract ((wrap64 ((wrap64 ((wrap64 ((wrap64 (bt x0_1 0)) * 256)) + (wrap64 (bt x0_1 1)))) + 2)) : Int).toNat x0_1.size) a1 (x7_1 ++ [x0_1.extract 2 ((wrap64 ((wrap64 ((wrap64 ((wrap64 (bt x0_1 0)) * 256)) + (wrap64 (bt x0_1 1)))) + 2)) : Int).toNat])) else (none)) else (none)) else (none)) else (none))) = some (r1, r2, r3) := by rw [if_neg (show ¬ (false = true) by decide)] at H; exact H
                  clear H
                  have H := H1
                  clear H1
                  by_cases c11 : (x0_1.size : Int) < (wrap64 ((wrap64 ((wrap64 ((wrap64 (bt x0_1 0)) * 256)) + (wrap64 (bt x0_1 1)))) + 2))
                  · rw [if_pos c11] at H
                    have c11b0 : decide ((x0_1.size : Int) < (wrap64 ((wrap64 ((wrap64 ((wrap64 (bt x0_1 0)) * 256)) + (wrap64 (bt x0_1 1)))) + 2))) = true := decide_eq_true c11
                    clear c11
                    simp only [Option.some.injEq, Prod.mk.injEq] at H
                    obtain ⟨rfl, rfl, rfl⟩ := H
                    go_wp2
                    repeat (go_quiet (fail); try go_wp2)
                    go_ret3
                    exact ⟨_, by first | rfl | (simp [errW_none, errW_some] <;> rfl) | (simp [*, errW_none, errW_some] <;> rfl), by (with_reducible repeat (first | apply Kd.R_alloc | apply Kd.R_drewN | apply Kd.R_drew)); exact HO_7.out, by repeat (first | (with_reducible first | exact HB.out | apply below_alloc | apply pw_below_drewN | apply below_drew1) | exact HB.out)⟩
                  · rw [if_neg c11] at H
                    have c11b0 : decide ((x0_1.size : Int) < (wrap64 ((wrap64 ((wrap64 ((wrap64 (bt x0_1 0)) * 256)) + (wrap64 (bt x0_1 1)))) + 2))) = false := decide_eq_false c11
                    clear c11
                    by_cases c12 : 2 ≤ (wrap64 ((wrap64 ((wrap64 ((wrap64 (bt x0_1 0)) * 256)) + (wrap64 (bt x0_1 1)))) + 2))
                    · rw [if_pos c12] at H
                      have c12b0 := eq_true c12
                      have c12b1 : decide (2 ≤ (wrap64 ((wrap64 ((wrap64 ((wrap64 (bt x0_1 0)) * 256)) + (wrap64 (bt x0_1 1)))) + 2))) = true := decide_eq_true c12
                      by_cases c13 : (wrap64 ((wrap64 ((wrap64 ((wrap64 (bt x0_1 0)) * 256)) + (wrap64 (bt x0_1 1)))) + 2)) ≤ (x0_1.size : Int)
                      · rw [if_pos c13] at H
                        have c13b0 := eq_true c13
                        have c13b1 : decide ((wrap64 ((wrap64 ((wrap64 ((wrap64 (bt x0_1 0)) * 256)) + (wrap64 (bt x0_1 1)))) + 2)) ≤ (x0_1.size : Int)) = true := decide_eq_true c13
                        by_cases c14 : x7_1.length < 8796093022208
                        · rw [if_pos c14] at H
                          have LMc14 := Aside0.mk c14
                          clear c14
                          obtain ⟨y101, hy101⟩ : ∃ y_ : List ByteArray, y_ = (x7_1 ++ [x0_1.extract 2 ((wrap64 ((wrap64 ((wrap64 ((wrap64 (bt x0_1 0)) * 256)) + (wrap64 (bt x0_1 1)))) + 2)) : Int).toNat]) := ⟨_, rfl⟩
                          replace H : (if 0 ≤ (wrap64 ((wrap64 ((wrap64 ((wrap64 (bt x0_1 0)) * 256)) + (wrap64 (bt x0_1 1)))) + 2)) then (chancelref12_Split.l0 kj7 (x0_1.extract ((wrap64 ((wrap64 ((wrap64 ((wrap64 (bt x0_1 0)) * 256)) + (wrap64 (bt x0_1 1)))) + 2)) : Int).toNat x0_1.size) a1 y101) else (none)) = some (r1, r2, r3) := by first | (rw [hy101]; with_reducible exact H) | (have H2_ := (Option.bind_some _ _).symm.trans H; rw [hy101]; with_reducible exact H2_) | (have H2_ := (Option.bind_some _ _).symm.trans H; with_reducible exact H2_) | with_reducible exact H | (rw [hy101]; exact H) | exact H
                          have Ny101 := Aside0.mk hy101
                          clear hy101
                          obtain ⟨ji15, hji15⟩ : ∃ j_ : Int, (wrap64 ((wrap64 ((wrap64 ((wrap64 (bt x0_1 0)) * 256)) + (wrap64 (bt x0_1 1)))) + 2)) = j_ := ⟨_, rfl⟩
                          replace H : (if 0 ≤ (ji15) then (chancelref12_Split.l0 kj7 (x0_1.extract ((ji15) : Int).toNat x0_1.size) a1 y101) else (none)) = some (r1, r2, r3) := by first | (rw [hji15] at H; exact H) | (simp only [hji15] at H ⊢; exact H)
                          (try rw [hji15] at c11b0)
                          (try rw [hji15] at c12b0)
                          (try rw [hji15] at c12b1)
                          (try rw [hji15] at c12)
                          (try rw [hji15] at c13b0)
                          (try rw [hji15] at c13b1)
                          (try rw [hji15] at c13)
                          (try rw [hji15] at Ny101)
                          have hji15w : (IntKind.i64.wrap ((wrap64 ((wrap64 ((wrap64 (bt x0_1 0)) * 256)) + (wrap64 (bt x0_1 1)))) + 2)) = ji15 := (i64_w _).trans hji15
                          by_cases c16 : 0 ≤ (ji15)
                          · rw [if_pos c16] at H
                            have c16b0 := eq_true c16
                            have c16b1 : decide (0 ≤ (ji15)) = true := decide_eq_true c16
                            clear c16
                            have c17b0 := eq_true (of_decide_eq_true (by first | (with_reducible assumption) | assumption) : (ji15) ≤ (x0_1.size : Int))
                            have H' := Aside0.mk H
                            clear H
                            go_wp2_with (first | ((with_reducible refine gate_builtin (b := .append) (xs := #[.tmp 35, .tmp 40]) rfl ?_); at_builtin; refine Kd.R_append Kd.string (w0 := w) w.heap.size rfl (.tmp 35) (.tmp 40) 22 9 (.string ⟨#[]⟩) 16 rfl Try.underlying22 info9 rfl (by decide) (by omega) u7 x7_1 (x0_1.extract 2 ((ji15) : Int).toNat) [.string (x0_1.extract 2 ((ji15) : Int).toNat)] (fun _ => True) (fun _ => False) rfl rfl ?aP (fun _ hk => hk.elim) ?aF ?aO ?aB ?aS ?aL ?_; (case aP => exact rfl); (case aB => exact (by repeat (first | (with_reducible first | exact HB.out | apply below_alloc | apply pw_below_drewN | apply below_drew1) | exact HB.out))); (case aF => exact (fun _ _ => trivial)); (case aO => exact (by (with_reducible repeat (first | apply Kd.R_alloc | apply Kd.R_drewN | apply Kd.R_drew)); exact HO_7.out)); (case aS => exact (below_size (by repeat (first | (with_reducible first | exact HB.out | apply below_alloc | apply pw_below_drewN | apply below_drew1) | exact HB.out)))); (case aL => have := LMc14.out; omega); intro v102 w18 ho hb hg hat; rw [← Ny101.out] at ho; have n0_ := Aside0.mk (hb); have n1_ := Aside0.mk (ho); clear HB; clear HO_7; have HB := n0_; have HO103 := n1_; clear n0_ n1_; clear ho hb hg hat))
                            repeat (go_quiet (first | ((with_reducible refine gate_builtin (b := .append) (xs := #[.tmp 35, .tmp 40]) rfl ?_); at_builtin; refine Kd.R_append Kd.string (w0 := w) w.heap.size rfl (.tmp 35) (.tmp 40) 22 9 (.string ⟨#[]⟩) 16 rfl Try.underlying22 info9 rfl (by decide) (by omega) u7 x7_1 (x0_1.extract 2 ((ji15) : Int).toNat) [.string (x0_1.extract 2 ((ji15) : Int).toNat)] (fun _ => True) (fun _ => False) rfl rfl ?aP (fun _ hk => hk.elim) ?aF ?aO ?aB ?aS ?aL ?_; (case aP => exact rfl); (case aB => exact (by repeat (first | (with_reducible first | exact HB.out | apply below_alloc | apply pw_below_drewN | apply below_drew1) | exact HB.out))); (case aF => exact (fun _ _ => trivial)); (case aO => exact (by (with_reducible repeat (first | apply Kd.R_alloc | apply Kd.R_drewN | apply Kd.R_drew)); exact HO_7.out)); (case aS => exact (below_size (by repeat (first | (with_reducible first | exact HB.out | apply below_alloc | apply pw_below_drewN | apply below_drew1) | exact HB.out)))); (case aL => have := LMc14.out; omega); intro v102 w18 ho hb hg hat; rw [← Ny101.out] at ho; have n0_ := Aside0.mk (hb); have n1_ := Aside0.mk (ho); clear HB; clear HO_7; have HB := n0_; have HO103 := n1_; clear n0_ n1_; clear ho hb hg hat)); try go_wp2_with (first | ((with_reducible refine gate_builtin (b := .append) (xs := #[.tmp 35, .tmp 40]) rfl ?_); at_builtin; refine Kd.R_append Kd.string (w0 := w) w.heap.size rfl (.tmp 35) (.tmp 40) 22 9 (.string ⟨#[]⟩) 16 rfl Try.underlying22 info9 rfl (by decide) (by omega) u7 x7_1 (x0_1.extract 2 ((ji15) : Int).toNat) [.string (x0_1.extract 2 ((ji15) : Int).toNat)] (fun _ => True) (fun _ => False) rfl rfl ?aP (fun _ hk => hk.elim) ?aF ?aO ?aB ?aS ?aL ?_; (case aP => exact rfl); (case aB => exact (by repeat (first | (with_reducible first | exact HB.out | apply below_alloc | apply pw_below_drewN | apply below_drew1) | exact HB.out))); (case aF => exact (fun _ _ => trivial)); (case aO => exact (by (with_reducible repeat (first | apply Kd.R_alloc | apply Kd.R_drewN | apply Kd.R_drew)); exact HO_7.out)); (case aS => exact (below_size (by repeat (first | (with_reducible first | exact HB.out | apply below_alloc | apply pw_below_drewN | apply below_drew1) | exact HB.out)))); (case aL => have := LMc14.out; omega); intro v102 w18 ho hb hg hat; rw [← Ny101.out] at ho; have n0_ := Aside0.mk (hb); have n1_ := Aside0.mk (ho); clear HB; clear HO_7; have HB := n0_; have HO103 := n1_; clear n0_ n1_; clear ho hb hg hat)))
                            go_roundg kj7
                            case measure => have := HK1.out; have := HJ7.out; omega
                            case rel => exact ⟨(x0_1.extract ((ji15) : Int).toNat x0_1.size), (y101), (by first | rfl | (simp; done) | (simp only [← hji15] <;> (first | rfl | simp)) | (simp [*]; done)), H', ⟨by have := HK1.out; have := HJ7.out; omega⟩, ⟨by (with_reducible repeat (first | apply Kd.R_alloc | apply Kd.R_drewN | apply Kd.R_drew)); exact HO103.out⟩, ⟨by repeat (first | (with_reducible first | exact HB.out | apply below_alloc | apply pw_below_drewN | apply below_drew1) | exact HB.out)⟩⟩
                          · rw [if_neg c16] at H
                            exact absurd H (by simp)
                        · rw [if_neg c14] at H
                          exact absurd H (by simp)
                      · rw [if_neg c13] at H
                        exact absurd H (by simp)
                    · rw [if_neg c12] at H
                      exact absurd H (by simp)
          · rw [if_neg c6] at H
            exact absurd H (by simp)
        · rw [if_neg c4] at H
          exact absurd H (by simp)
      · rw [if_neg c3] at H
        have c3b0 : decide (2 ≤ (x0_1.size : Int)) = false := decide_eq_false c3
        have c3b1 : decide (2 ≤ x0_1.size) = false := decide_eq_false (by omega)
        clear c3
        simp only [Option.some.injEq, Prod.mk.injEq] at H
        obtain ⟨rfl, rfl, rfl⟩ := H
        go_wp2
        repeat (go_quiet (fail); try go_wp2)
        go_ret3
        exact ⟨_, by first | rfl | (simp [errW_none, errW_some] <;> rfl) | (simp [*, errW_none, errW_some] <;> rfl), by (with_reducible repeat (first | apply Kd.R_alloc | apply Kd.R_drewN | apply Kd.R_drew)); exact HO_7.out, by repeat (first | (with_reducible first | exact HB.out | apply below_alloc | apply pw_below_drewN | apply below_drew1) | exact HB.out)⟩

/-! ### chancelref12_Same: function 9 -/
def chancelref12_Same.l0 : Nat → List ByteArray → List ByteArray → Int → Option (Bool)
  | 0, _, _, _ => none
  | k + 1, x0, x1, x5 => if x5 < (x0.length : Int) then (if 0 ≤ x5 then (if x5 < (x1.length : Int) then (if (rdOf ByteArray.empty x0 x5).toList = (rdOf ByteArray.empty x1 x5).toList then (chancelref12_Same.l0 k x0 x1 (wrap64 (x5 + 1))) else (some false)) else (none)) else (none)) else (some true)
def chancelref12_Same.f (k : Nat) (l0 : List ByteArray) (l1 : List ByteArray) : Option (Bool) := if (l0.length : Int) = (l1.length : Int) then (chancelref12_Same.l0 k l0 l1 0) else (some false)
theorem chancelref12_Same.mono_l : ∀ k, (∀ y0 y1 y2, LeO (chancelref12_Same.l0 k y0 y1 y2) (chancelref12_Same.l0 (k + 1) y0 y1 y2))
  | 0 => fun _ _ _ r h => by simp [chancelref12_Same.l0] at h
  | k + 1 => by
    have ih0 := chancelref12_Same.mono_l k
    · intro y0 y1 y2
      unfold chancelref12_Same.l0
      repeat' first
      | (with_reducible exact ih0 _ _ _)
      | (with_reducible exact LeO.refl _)
      | (with_reducible exact LeO.none _)
      | (with_reducible refine LeO.ite ?_ ?_)
      | (with_reducible refine LeO.bind ?_ (fun _ => ?_))
      | exact ih0 _ _ _
      | exact LeO.none _
      | refine LeO.ite ?_ ?_
      | refine LeO.bind ?_ (fun _ => ?_)
theorem chancelref12_Same.mono : ∀ a0 a1 k, LeO (chancelref12_Same.f k a0 a1) (chancelref12_Same.f (k + 1) a0 a1) := by
  intro a0 a1 k
  have ih0 := chancelref12_Same.mono_l k
  unfold chancelref12_Same.f
  repeat' first
      | (with_reducible exact ih0 _ _ _)
      | (with_reducible exact LeO.refl _)
      | (with_reducible exact LeO.none _)
      | (with_reducible refine LeO.ite ?_ ?_)
      | (with_reducible refine LeO.bind ?_ (fun _ => ?_))
      | exact ih0 _ _ _
      | exact LeO.none _
      | refine LeO.ite ?_ ?_
      | refine LeO.bind ?_ (fun _ => ?_)
set_option maxHeartbeats 8000000 in
set_option maxRecDepth 100000 in
theorem chancelref12_Same.calls (k : Nat) (A0 : Option Addr) (c0 : Nat) (l0 : List ByteArray) (A1 : Option Addr) (c1 : Nat) (l1 : List ByteArray) (r : Bool) (w : World) (hr0 : Kd.C Kd.string w A0 l0.length l0) (hc0 : l0.length ≤ c0) (hr1 : Kd.C Kd.string w A1 l1.length l1) (hc1 : l1.length ≤ c1) (h : chancelref12_Same.f k l0 l1 = some r) :
    Calls Try.prog 9 #[.slice A0 l0.length c0, .slice A1 l1.length c1] w fun e w' => e = .returned (.bool r) ∧ Drawn0 w w' := by
  have HR0 := Aside0.mk hr0
  have HC0 := Aside0.mk hc0
  clear hr0 hc0
  have HR1 := Aside0.mk hr1
  have HC1 := Aside0.mk hc1
  clear hr1 hc1
  have H : (if (l0.length : Int) = (l1.length : Int) then (chancelref12_Same.l0 k l0 l1 0) else (some false)) = some r := h
  clear h
  by_cases c3 : (l0.length : Int) = (l1.length : Int)
  · rw [if_pos c3] at H
    have c3b0 : ((l0.length : Int) == (l1.length : Int)) = true := beq_iff_eq.mpr c3
    have c3b1 : ((l0.length : Int) != (l1.length : Int)) = false := bne_eq_false_iff_eq.mpr c3
    have c3b2 : (l0.length == l1.length) = true := by first | simpa using c3 | (simp at c3 ⊢; omega)
    clear c3
    have H' := Aside0.mk H
    clear H
    go_enter Try.func9, Try.ntmps9
    go_wp2
    repeat (go_quiet (fail); try go_wp2)
    go_loopg [5] k (fun kq v5 w' => ∃ (x5_1 : Int), v5 = .int .i64 x5_1 ∧ Aside0 (chancelref12_Same.l0 kq l0 l1 x5_1 = some r) ∧ Aside0 (kq ≤ k) ∧ Drawn0 w w')
    case atStart => exact ⟨(0), (by first | rfl | (simp; done) | (simp [*]; done)), H', ⟨Nat.le_refl _⟩, by repeat (first | exact Drawn0.refl _ | apply Drawn0.step)⟩
    case round =>
      clear H'
      try clear c1
      try clear p2
      try clear c3
      try clear c3b0
      try clear c3b1
      try clear c3b2
      obtain ⟨x5_1, rfl, HA, HK1, ⟨m1, rfl⟩⟩ := hrel
      cases gk with
      | zero => exact absurd HA.out (by simp [chancelref12_Same.l0])
      | succ k1 =>
        have H := HA.out
        clear HA
        simp only [chancelref12_Same.l0] at H
        by_cases c4 : x5_1 < (l0.length : Int)
        · rw [if_pos c4] at H
          have c4b0 : decide (x5_1 < (l0.length : Int)) = true := decide_eq_true c4
          clear c4
          by_cases c5 : 0 ≤ x5_1
          · rw [if_pos c5] at H
            have c5b0 : decide (0 ≤ x5_1) = true := decide_eq_true c5
            clear c5
            by_cases c6 : x5_1 < (l1.length : Int)
            · rw [if_pos c6] at H
              have c6b0 : decide (x5_1 < (l1.length : Int)) = true := decide_eq_true c6
              clear c6
              by_cases c7 : (rdOf ByteArray.empty l0 x5_1).toList = (rdOf ByteArray.empty l1 x5_1).toList
              · rw [if_pos c7] at H
                have c7b0 : ((rdOf ByteArray.empty l0 x5_1).toList == (rdOf ByteArray.empty l1 x5_1).toList) = true := beq_iff_eq.mpr c7
                have c7b1 : ((rdOf ByteArray.empty l0 x5_1).toList != (rdOf ByteArray.empty l1 x5_1).toList) = false := bne_eq_false_iff_eq.mpr c7
                clear c7
                have H' := Aside0.mk H
                clear H
                have p104 : 0 ≤ (x5_1 : Int) := of_decide_eq_true (by first | (with_reducible assumption) | assumption)
                have q104 : x5_1 < (l0.length : Int) := of_decide_eq_true (by first | (with_reducible assumption) | assumption)
                obtain ⟨ad104, e104, hx104_0⟩ := Kd.at_string HR0.out x5_1 p104 q104
                cases e104
                replace p104 := eq_true p104
                replace q104 := eq_true q104
                have p105 : 0 ≤ (x5_1 : Int) := of_decide_eq_true (by first | (with_reducible assumption) | assumption)
                have q105 : x5_1 < (l1.length : Int) := of_decide_eq_true (by first | (with_reducible assumption) | assumption)
                obtain ⟨ad105, e105, hx105_0⟩ := Kd.at_string HR1.out x5_1 p105 q105
                cases e105
                replace p105 := eq_true p105
                replace q105 := eq_true q105
                go_wp2
                repeat (go_quiet (fail); try go_wp2)
                go_roundg k1
                case measure => have := HK1.out; omega
                case rel => exact ⟨(wrap64 (x5_1 + 1)), (by first | rfl | (simp; done) | (simp [*]; done)), H', ⟨by have := HK1.out; omega⟩, by repeat (first | exact Drawn0.refl _ | apply Drawn0.step)⟩
              · rw [if_neg c7] at H
                have c7b0 : ((rdOf ByteArray.empty l0 x5_1).toList == (rdOf ByteArray.empty l1 x5_1).toList) = false := beq_eq_false_iff_ne.mpr c7
                have c7b1 : ((rdOf ByteArray.empty l0 x5_1).toList != (rdOf ByteArray.empty l1 x5_1).toList) = true := bne_iff_ne.mpr c7
                obtain rfl := Option.some.inj H
                have p104 : 0 ≤ (x5_1 : Int) := of_decide_eq_true (by first | (with_reducible assumption) | assumption)
                have q104 : x5_1 < (l0.length : Int) := of_decide_eq_true (by first | (with_reducible assumption) | assumption)
                obtain ⟨ad104, e104, hx104_0⟩ := Kd.at_string HR0.out x5_1 p104 q104
                cases e104
                replace p104 := eq_true p104
                replace q104 := eq_true q104
                have p105 : 0 ≤ (x5_1 : Int) := of_decide_eq_true (by first | (with_reducible assumption) | assumption)
                have q105 : x5_1 < (l1.length : Int) := of_decide_eq_true (by first | (with_reducible assumption) | assumption)
                obtain ⟨ad105, e105, hx105_0⟩ := Kd.at_string HR1.out x5_1 p105 q105
                cases e105
                replace p105 := eq_true p105
                replace q105 := eq_true q105
                go_wp2
                repeat (go_quiet (fail); try go_wp2)
                go_ret
                exact ⟨by first | rfl | (simp; done) | (simp [*]; done), by repeat (first | exact Drawn0.refl _ | apply Drawn0.step)⟩
            · rw [if_neg c6] at H
              exact absurd H (by simp)
          · rw [if_neg c5] at H
            exact absurd H (by simp)
        · rw [if_neg c4] at H
          have c4b0 : decide (x5_1 < (l0.length : Int)) = false := decide_eq_false c4
          clear c4
          obtain rfl := Option.some.inj H
          go_wp2
          repeat (go_quiet (fail); try go_wp2)
          go_ret
          exact ⟨by first | rfl | (simp; done) | (simp [*]; done), by repeat (first | exact Drawn0.refl _ | apply Drawn0.step)⟩
  · rw [if_neg c3] at H
    have c3b0 : ((l0.length : Int) == (l1.length : Int)) = false := beq_eq_false_iff_ne.mpr c3
    have c3b1 : ((l0.length : Int) != (l1.length : Int)) = true := bne_iff_ne.mpr c3
    have c3b2 : (l0.length == l1.length) = false := by first | simpa using c3 | (simp at c3 ⊢; omega)
    obtain rfl := Option.some.inj H
    go_enter Try.func9, Try.ntmps9
    go_wp2
    repeat (go_quiet (fail); try go_wp2)
    go_ret
    exact ⟨by first | rfl | (simp; done) | (simp [*]; done), by repeat (first | exact Drawn0.refl _ | apply Drawn0.step)⟩

/-! ### chancellaw12_FrameSplits: function 3 -/
def chancellaw12_FrameSplits.j0 : Nat → ByteArray → Int → Bool → Option (Bool)
  | 0, _, _, _ => none
  | k + 1, x0, x1, x29 => if x29 = true then (some false) else (if (x0.size : Int) > 20000 then (some true) else ((frame_Split.f x0 x1).bind fun bt111 => ((chancelref12_Split.f k x0 x1).bind fun bt116 => ((chancelref12_Same.f k bt111.1 bt116.1).bind fun t121 => (if t121 = true then (if bt111.2.1.toList = bt116.2.1.toList then (some (bt111.2.2 == bt116.2.2)) else (some false)) else (some false))))))
def chancellaw12_FrameSplits.f (k : Nat) (a0 : ByteArray) (a1 : Int) : Option (Bool) := (frame_Split.f (⟨#[0, 2, 97, 98, 0]⟩ : ByteArray) 9).bind fun bt106 => (if (bt106.1.length : Int) = 1 then (if bt106.2.1.toList = ([0] : List UInt8) then (chancellaw12_FrameSplits.j0 k a0 a1 (!bt106.2.2)) else (chancellaw12_FrameSplits.j0 k a0 a1 true)) else (chancellaw12_FrameSplits.j0 k a0 a1 true))
theorem chancellaw12_FrameSplits.mono_l : ∀ k, (∀ y0 y1 y2, LeO (chancellaw12_FrameSplits.j0 k y0 y1 y2) (chancellaw12_FrameSplits.j0 (k + 1) y0 y1 y2))
  | 0 => fun _ _ _ r h => by simp [chancellaw12_FrameSplits.j0] at h
  | k + 1 => by
    have ih0 := chancellaw12_FrameSplits.mono_l k
    · intro y0 y1 y2
      unfold chancellaw12_FrameSplits.j0
      repeat' first
      | (with_reducible exact ih0 _ _ _)
      | (with_reducible exact chancelref12_Same.mono _ _ _)
      | (with_reducible exact chancelref12_Split.mono _ _ _)
      | (with_reducible exact LeO.refl _)
      | (with_reducible exact LeO.none _)
      | (with_reducible refine LeO.ite ?_ ?_)
      | (with_reducible refine LeO.bind ?_ (fun _ => ?_))
      | exact ih0 _ _ _
      | exact chancelref12_Same.mono _ _ _
      | exact chancelref12_Split.mono _ _ _
      | exact LeO.none _
      | refine LeO.ite ?_ ?_
      | refine LeO.bind ?_ (fun _ => ?_)
theorem chancellaw12_FrameSplits.mono : ∀ a0 a1 k, LeO (chancellaw12_FrameSplits.f k a0 a1) (chancellaw12_FrameSplits.f (k + 1) a0 a1) := by
  intro a0 a1 k
  have ih0 := chancellaw12_FrameSplits.mono_l k
  unfold chancellaw12_FrameSplits.f
  repeat' first
      | (with_reducible exact ih0 _ _ _)
      | (with_reducible exact chancelref12_Same.mono _ _ _)
      | (with_reducible exact chancelref12_Split.mono _ _ _)
      | (with_reducible exact LeO.refl _)
      | (with_reducible exact LeO.none _)
      | (with_reducible refine LeO.ite ?_ ?_)
      | (with_reducible refine LeO.bind ?_ (fun _ => ?_))
      | exact ih0 _ _ _
      | exact chancelref12_Same.mono _ _ _
      | exact chancelref12_Split.mono _ _ _
      | exact LeO.none _
      | refine LeO.ite ?_ ?_
      | refine LeO.bind ?_ (fun _ => ?_)
set_option maxHeartbeats 8000000 in
set_option maxRecDepth 100000 in
theorem chancellaw12_FrameSplits.calls (k : Nat) (a0 : ByteArray) (a1 : Int) (r : Bool) (w : World) (h : chancellaw12_FrameSplits.f k a0 a1 = some r) :
    Calls Try.prog 3 #[.string a0, .int .i64 a1] w fun e w' => e = .returned (.bool r) ∧ Below w.heap.size w w' := by
  have HB := Aside0.mk (Below.refl w.heap.size w)
  have H : ((frame_Split.f (⟨#[0, 2, 97, 98, 0]⟩ : ByteArray) 9).bind fun bt106 => (if (bt106.1.length : Int) = 1 then (if bt106.2.1.toList = ([0] : List UInt8) then (chancellaw12_FrameSplits.j0 k a0 a1 (!bt106.2.2)) else (chancellaw12_FrameSplits.j0 k a0 a1 true)) else (chancellaw12_FrameSplits.j0 k a0 a1 true))) = some r := h
  clear h
  replace H := Option.bind_eq_some_iff.mp H
  obtain ⟨⟨t106, t107, t108⟩, A30, H⟩ := H
  replace H : (if (t106.length : Int) = 1 then (if t107.toList = ([0] : List UInt8) then (chancellaw12_FrameSplits.j0 k a0 a1 (!t108)) else (chancellaw12_FrameSplits.j0 k a0 a1 true)) else (chancellaw12_FrameSplits.j0 k a0 a1 true)) = some r := H
  have A3 := Aside0.mk A30
  clear A30
  have HC4 := Aside0.mk H
  clear H
  go_enter Try.func3, Try.ntmps3
  go_upto_region 2 with (first | ((with_reducible refine gate_callee (f := 7) rfl ?_); refine goesL_ (some 15) rfl rfl Try.func7 (by kernel_rfl) rfl #[.string (⟨#[0, 2, 97, 98, 0]⟩ : ByteArray), .int .i64 9] rfl (by (try simp only [List.map_toArray, List.map_cons, List.map_nil]); first | done | rfl | (simp only [List.length_drop, List.length_take]; rfl)) ?_; (with_reducible refine (frame_Split.calls (⟨#[0, 2, 97, 98, 0]⟩ : ByteArray) 9 t106 t107 t108 _ A3.out).mono ?_); rintro e w5 ⟨v109, rfl, ho0, hb⟩; refine ⟨_, rfl, ?_⟩; have n0_ := Aside0.mk (Kd.R_lower ho0 (below_size (by repeat (first | (with_reducible first | exact HB.out | apply below_alloc | apply pw_below_drewN | apply below_drew1) | exact HB.out)))); have n1_ := Aside0.mk (below_step (by repeat (first | (with_reducible first | exact HB.out | apply below_alloc | apply pw_below_drewN | apply below_drew1) | exact HB.out)) hb); clear HB; have HO110 := n0_; have HB := n1_; clear n0_ n1_; (try clear hb); (try clear hb2); (try clear hk); (try clear hi); (try clear ho0)))
  (try simp only [Act.put, List.setIfInBounds_toArray, List.set_cons_zero, List.set_cons_succ])
  go_cut [29] (fun v29 wc => ∃ (kq : Nat) (x29_3 : Bool), v29 = .bool x29_3 ∧ Aside0 (chancellaw12_FrameSplits.j0 kq a0 a1 x29_3 = some r) ∧ Aside0 (kq ≤ k) ∧ Aside0 (Below w.heap.size w wc))
  case first =>
    have H := HC4.out
    clear HC4
    by_cases c6 : (t106.length : Int) = 1
    · rw [if_pos c6] at H
      have c6b0 : ((t106.length : Int) == 1) = true := beq_iff_eq.mpr c6
      have c6b1 : ((t106.length : Int) != 1) = false := bne_eq_false_iff_eq.mpr c6
      clear c6
      (first | rw [c6b0] | (simp only [i64_w, i32_w]; rw [c6b0]) | skip)
      by_cases c7 : t107.toList = ([0] : List UInt8)
      · rw [if_pos c7] at H
        have c7b0 : (t107.toList == ([0] : List UInt8)) = true := beq_iff_eq.mpr c7
        have c7b1 : (t107.toList != ([0] : List UInt8)) = false := bne_eq_false_iff_eq.mpr c7
        clear c7
        have H' := Aside0.mk H
        clear H
        obtain ⟨Ao8, co8, eo8⟩ := Kd.R_slice HO110.out
        subst eo8
        go_wp2
        go_meet
        case rel => exact ⟨_, (!t108), (by first | rfl | (simp; done) | (simp [*]; done)), H', ⟨by first | omega | exact Nat.le_refl _⟩, ⟨by repeat (first | (with_reducible first | exact HB.out | apply below_alloc | apply pw_below_drewN | apply below_drew1) | exact HB.out)⟩⟩
      · rw [if_neg c7] at H
        have c7b0 : (t107.toList == ([0] : List UInt8)) = false := beq_eq_false_iff_ne.mpr c7
        have c7b1 : (t107.toList != ([0] : List UInt8)) = true := bne_iff_ne.mpr c7
        have H' := Aside0.mk H
        clear H
        obtain ⟨Ao9, co9, eo9⟩ := Kd.R_slice HO110.out
        subst eo9
        go_wp2
        go_meet
        case rel => exact ⟨_, (true), (by first | rfl | (simp; done) | (simp [*]; done)), H', ⟨by first | omega | exact Nat.le_refl _⟩, ⟨by repeat (first | (with_reducible first | exact HB.out | apply below_alloc | apply pw_below_drewN | apply below_drew1) | exact HB.out)⟩⟩
    · rw [if_neg c6] at H
      have c6b0 : ((t106.length : Int) == 1) = false := beq_eq_false_iff_ne.mpr c6
      have c6b1 : ((t106.length : Int) != 1) = true := bne_iff_ne.mpr c6
      (first | rw [c6b0] | (simp only [i64_w, i32_w]; rw [c6b0]) | skip)
      have H' := Aside0.mk H
      clear H
      obtain ⟨Ao10, co10, eo10⟩ := Kd.R_slice HO110.out
      subst eo10
      go_wp2
      go_meet
      case rel => exact ⟨_, (true), (by first | rfl | (simp; done) | (simp [*]; done)), H', ⟨by first | omega | exact Nat.le_refl _⟩, ⟨by repeat (first | (with_reducible first | exact HB.out | apply below_alloc | apply pw_below_drewN | apply below_drew1) | exact HB.out)⟩⟩
  case rest =>
    clear HC4
    try clear p2
    try clear c3
    try clear c6
    try clear c6b0
    try clear c6b1
    try clear c7
    try clear c7b0
    try clear c7b1
    obtain ⟨kq, x29_3, rfl, HA, HJ3, HB⟩ := hcut
    cases kq with
    | zero => exact absurd HA.out (by simp [chancellaw12_FrameSplits.j0])
    | succ kj3 =>
      have H := HA.out
      clear HA
      simp only [chancellaw12_FrameSplits.j0] at H
      by_cases c11 : x29_3 = true
      · subst c11
        have H1 : (some false) = some r := by rw [if_pos rfl] at H; exact H
        clear H
        have H := H1
        clear H1
        obtain rfl := Option.some.inj H
        go_wp2
        go_ret
        exact ⟨by first | rfl | (simp [errW_none, errW_some] <;> rfl) | (simp [*, errW_none, errW_some] <;> rfl), by repeat (first | (with_reducible first | exact HB.out | apply below_alloc | apply pw_below_drewN | apply below_drew1) | exact HB.out)⟩
      · replace c11 := Bool.eq_false_iff.mpr c11
        subst c11
        have H1 : (if (a0.size : Int) > 20000 then (some true) else ((frame_Split.f a0 a1).bind fun bt111 => ((chancelref12_Split.f kj3 a0 a1).bind fun bt116 => ((chancelref12_Same.f kj3 bt111.1 bt116.1).bind fun t121 => (if t121 = true then (if bt111.2.1.toList = bt116.2.1.toList then (some (bt111.2.2 == bt116.2.2)) else (some false)) else (some false)))))) = some r := by rw [if_neg (show ¬ (false = true) by decide)] at H; exact H
        clear H
        have H := H1
        clear H1
        by_cases c12 : (a0.size : Int) > 20000
        · rw [if_pos c12] at H
          have c12b0 : decide (20000 < (a0.size : Int)) = true := decide_eq_true c12
          have c12b1 : decide (20000 < a0.size) = true := decide_eq_true (by omega)
          clear c12
          obtain rfl := Option.some.inj H
          go_wp2
          go_ret
          exact ⟨by first | rfl | (simp [errW_none, errW_some] <;> rfl) | (simp [*, errW_none, errW_some] <;> rfl), by repeat (first | (with_reducible first | exact HB.out | apply below_alloc | apply pw_below_drewN | apply below_drew1) | exact HB.out)⟩
        · rw [if_neg c12] at H
          have c12b0 : decide (20000 < (a0.size : Int)) = false := decide_eq_false c12
          have c12b1 : decide (20000 < a0.size) = false := decide_eq_false (by omega)
          clear c12
          replace H := Option.bind_eq_some_iff.mp H
          obtain ⟨⟨t111, t112, t113⟩, A130, H⟩ := H
          replace H : ((chancelref12_Split.f kj3 a0 a1).bind fun bt116 => ((chancelref12_Same.f kj3 t111 bt116.1).bind fun t121 => (if t121 = true then (if t112.toList = bt116.2.1.toList then (some (t113 == bt116.2.2)) else (some false)) else (some false)))) = some r := H
          have A13 := Aside0.mk A130
          clear A130
          replace H := Option.bind_eq_some_iff.mp H
          obtain ⟨⟨t116, t117, t118⟩, A140, H⟩ := H
          replace H : ((chancelref12_Same.f kj3 t111 t116).bind fun t121 => (if t121 = true then (if t112.toList = t117.toList then (some (t113 == t118)) else (some false)) else (some false))) = some r := H
          have A14 := Aside0.mk A140
          clear A140
          replace H := Option.bind_eq_some_iff.mp H
          obtain ⟨t121, A150, H⟩ := H
          replace H : (if t121 = true then (if t112.toList = t117.toList then (some (t113 == t118)) else (some false)) else (some false)) = some r := H
          have A15 := Aside0.mk A150
          clear A150
          by_cases c16 : t121 = true
          · subst c16
            have H1 : (if t112.toList = t117.toList then (some (t113 == t118)) else (some false)) = some r := by rw [if_pos rfl] at H; exact H
            clear H
            have H := H1
            clear H1
            by_cases c17 : t112.toList = t117.toList
            · rw [if_pos c17] at H
              have c17b0 : (t112.toList == t117.toList) = true := beq_iff_eq.mpr c17
              have c17b1 : (t112.toList != t117.toList) = false := bne_eq_false_iff_eq.mpr c17
              clear c17
              obtain rfl := Option.some.inj H
              go_wp2_with (first | ((with_reducible refine gate_callee (f := 7) rfl ?_); refine goesL_ (some 36) rfl rfl Try.func7 (by kernel_rfl) rfl #[.string a0, .int .i64 a1] rfl (by (try simp only [List.map_toArray, List.map_cons, List.map_nil]); first | done | rfl | (simp only [List.length_drop, List.length_take]; rfl)) ?_; (with_reducible refine (frame_Split.calls a0 a1 t111 t112 t113 _ A13.out).mono ?_); rintro e w18 ⟨v114, rfl, ho0, hb⟩; refine ⟨_, rfl, ?_⟩; have n0_ := Aside0.mk (Kd.R_lower ho0 (below_size (by repeat (first | (with_reducible first | exact HB.out | apply below_alloc | apply pw_below_drewN | apply below_drew1) | exact HB.out)))); have n1_ := Aside0.mk (below_step (by repeat (first | (with_reducible first | exact HB.out | apply below_alloc | apply pw_below_drewN | apply below_drew1) | exact HB.out)) hb); clear HB; have HO115 := n0_; have HB := n1_; clear n0_ n1_; (try clear hb); (try clear hb2); (try clear hk); (try clear hi); (try clear ho0)) | ((with_reducible refine gate_callee (f := 8) rfl ?_); refine goesL_ (some 43) rfl rfl Try.func8 (by kernel_rfl) rfl #[.string a0, .int .i64 a1] rfl (by (try simp only [List.map_toArray, List.map_cons, List.map_nil]); first | done | rfl | (simp only [List.length_drop, List.length_take]; rfl)) ?_; (with_reducible refine (chancelref12_Split.calls kj3 a0 a1 t116 t117 t118 _ A14.out).mono ?_); rintro e w19 ⟨v119, rfl, ho0, hb⟩; refine ⟨_, rfl, ?_⟩; have n0_ := Aside0.mk (Kd.R_elder' (by (with_reducible repeat (first | apply Kd.R_alloc | apply Kd.R_drewN | apply Kd.R_drew)); exact HO115.out) (Kd.R_base ho0) hb); have n1_ := Aside0.mk (Kd.R_lower (Kd.R_new' ho0 (Kd.R_lt (by (with_reducible repeat (first | apply Kd.R_alloc | apply Kd.R_drewN | apply Kd.R_drew)); exact HO115.out))) (below_size (by repeat (first | (with_reducible first | exact HB.out | apply below_alloc | apply pw_below_drewN | apply below_drew1) | exact HB.out)))); have n2_ := Aside0.mk (below_step (by repeat (first | (with_reducible first | exact HB.out | apply below_alloc | apply pw_below_drewN | apply below_drew1) | exact HB.out)) hb); clear HO115; clear HB; have HO115 := n0_; have HO120 := n1_; have HB := n2_; clear n0_ n1_ n2_; (try clear hb); (try clear hb2); (try clear hk); (try clear hi); (try clear ho0); obtain ⟨Ao20, co20, eo20⟩ := Kd.R_slice HO115.out; subst eo20; obtain ⟨Ao21, co21, eo21⟩ := Kd.R_slice HO120.out; subst eo21) | ((with_reducible refine gate_callee (f := 9) rfl ?_); refine goesL_ (some 49) rfl rfl Try.func9 (by kernel_rfl) rfl #[.slice Ao20 t111.length co20, .slice Ao21 t116.length co21] rfl (by (try simp only [List.map_toArray, List.map_cons, List.map_nil]); first | done | rfl | (simp only [List.length_drop, List.length_take]; rfl)) ?_; (with_reducible refine (chancelref12_Same.calls kj3 _ _ t111 _ _ t116 true _ ?side1 ?side2 ?side3 ?side4 A15.out).mono ?_); (case side1 => repeat (first | exact (Kd.R_reads' HO115.out).2.2 | (with_reducible refine Kd.C_alloc ?_ _) | (with_reducible refine Kd.C_drewN ?_ _) | (with_reducible refine Kd.C_drew ?_))); (case side2 => exact (Kd.R_reads' HO115.out).2.1); (case side3 => repeat (first | exact (Kd.R_reads' HO120.out).2.2 | (with_reducible refine Kd.C_alloc ?_ _) | (with_reducible refine Kd.C_drewN ?_ _) | (with_reducible refine Kd.C_drew ?_))); (case side4 => exact (Kd.R_reads' HO120.out).2.1); rintro e w' ⟨rfl, ⟨nd, rfl⟩⟩; refine ⟨_, rfl, ?_⟩))
              go_ret
              exact ⟨by first | rfl | (simp [errW_none, errW_some] <;> rfl) | (simp [*, errW_none, errW_some] <;> rfl), by repeat (first | (with_reducible first | exact HB.out | apply below_alloc | apply pw_below_drewN | apply below_drew1) | exact HB.out)⟩
            · rw [if_neg c17] at H
              have c17b0 : (t112.toList == t117.toList) = false := beq_eq_false_iff_ne.mpr c17
              have c17b1 : (t112.toList != t117.toList) = true := bne_iff_ne.mpr c17
              obtain rfl := Option.some.inj H
              go_wp2_with (first | ((with_reducible refine gate_callee (f := 7) rfl ?_); refine goesL_ (some 36) rfl rfl Try.func7 (by kernel_rfl) rfl #[.string a0, .int .i64 a1] rfl (by (try simp only [List.map_toArray, List.map_cons, List.map_nil]); first | done | rfl | (simp only [List.length_drop, List.length_take]; rfl)) ?_; (with_reducible refine (frame_Split.calls a0 a1 t111 t112 t113 _ A13.out).mono ?_); rintro e w22 ⟨v114, rfl, ho0, hb⟩; refine ⟨_, rfl, ?_⟩; have n0_ := Aside0.mk (Kd.R_lower ho0 (below_size (by repeat (first | (with_reducible first | exact HB.out | apply below_alloc | apply pw_below_drewN | apply below_drew1) | exact HB.out)))); have n1_ := Aside0.mk (below_step (by repeat (first | (with_reducible first | exact HB.out | apply below_alloc | apply pw_below_drewN | apply below_drew1) | exact HB.out)) hb); clear HB; have HO115 := n0_; have HB := n1_; clear n0_ n1_; (try clear hb); (try clear hb2); (try clear hk); (try clear hi); (try clear ho0)) | ((with_reducible refine gate_callee (f := 8) rfl ?_); refine goesL_ (some 43) rfl rfl Try.func8 (by kernel_rfl) rfl #[.string a0, .int .i64 a1] rfl (by (try simp only [List.map_toArray, List.map_cons, List.map_nil]); first | done | rfl | (simp only [List.length_drop, List.length_take]; rfl)) ?_; (with_reducible refine (chancelref12_Split.calls kj3 a0 a1 t116 t117 t118 _ A14.out).mono ?_); rintro e w23 ⟨v119, rfl, ho0, hb⟩; refine ⟨_, rfl, ?_⟩; have n0_ := Aside0.mk (Kd.R_elder' (by (with_reducible repeat (first | apply Kd.R_alloc | apply Kd.R_drewN | apply Kd.R_drew)); exact HO115.out) (Kd.R_base ho0) hb); have n1_ := Aside0.mk (Kd.R_lower (Kd.R_new' ho0 (Kd.R_lt (by (with_reducible repeat (first | apply Kd.R_alloc | apply Kd.R_drewN | apply Kd.R_drew)); exact HO115.out))) (below_size (by repeat (first | (with_reducible first | exact HB.out | apply below_alloc | apply pw_below_drewN | apply below_drew1) | exact HB.out)))); have n2_ := Aside0.mk (below_step (by repeat (first | (with_reducible first | exact HB.out | apply below_alloc | apply pw_below_drewN | apply below_drew1) | exact HB.out)) hb); clear HO115; clear HB; have HO115 := n0_; have HO120 := n1_; have HB := n2_; clear n0_ n1_ n2_; (try clear hb); (try clear hb2); (try clear hk); (try clear hi); (try clear ho0); obtain ⟨Ao24, co24, eo24⟩ := Kd.R_slice HO115.out; subst eo24; obtain ⟨Ao25, co25, eo25⟩ := Kd.R_slice HO120.out; subst eo25) | ((with_reducible refine gate_callee (f := 9) rfl ?_); refine goesL_ (some 49) rfl rfl Try.func9 (by kernel_rfl) rfl #[.slice Ao24 t111.length co24, .slice Ao25 t116.length co25] rfl (by (try simp only [List.map_toArray, List.map_cons, List.map_nil]); first | done | rfl | (simp only [List.length_drop, List.length_take]; rfl)) ?_; (with_reducible refine (chancelref12_Same.calls kj3 _ _ t111 _ _ t116 true _ ?side1 ?side2 ?side3 ?side4 A15.out).mono ?_); (case side1 => repeat (first | exact (Kd.R_reads' HO115.out).2.2 | (with_reducible refine Kd.C_alloc ?_ _) | (with_reducible refine Kd.C_drewN ?_ _) | (with_reducible refine Kd.C_drew ?_))); (case side2 => exact (Kd.R_reads' HO115.out).2.1); (case side3 => repeat (first | exact (Kd.R_reads' HO120.out).2.2 | (with_reducible refine Kd.C_alloc ?_ _) | (with_reducible refine Kd.C_drewN ?_ _) | (with_reducible refine Kd.C_drew ?_))); (case side4 => exact (Kd.R_reads' HO120.out).2.1); rintro e w' ⟨rfl, ⟨nd, rfl⟩⟩; refine ⟨_, rfl, ?_⟩))
              go_ret
              exact ⟨by first | rfl | (simp [errW_none, errW_some] <;> rfl) | (simp [*, errW_none, errW_some] <;> rfl), by repeat (first | (with_reducible first | exact HB.out | apply below_alloc | apply pw_below_drewN | apply below_drew1) | exact HB.out)⟩
          · replace c16 := Bool.eq_false_iff.mpr c16
            subst c16
            have H1 : (some false) = some r := by rw [if_neg (show ¬ (false = true) by decide)] at H; exact H
            clear H
            have H := H1
            clear H1
            obtain rfl := Option.some.inj H
            go_wp2_with (first | ((with_reducible refine gate_callee (f := 7) rfl ?_); refine goesL_ (some 36) rfl rfl Try.func7 (by kernel_rfl) rfl #[.string a0, .int .i64 a1] rfl (by (try simp only [List.map_toArray, List.map_cons, List.map_nil]); first | done | rfl | (simp only [List.length_drop, List.length_take]; rfl)) ?_; (with_reducible refine (frame_Split.calls a0 a1 t111 t112 t113 _ A13.out).mono ?_); rintro e w26 ⟨v114, rfl, ho0, hb⟩; refine ⟨_, rfl, ?_⟩; have n0_ := Aside0.mk (Kd.R_lower ho0 (below_size (by repeat (first | (with_reducible first | exact HB.out | apply below_alloc | apply pw_below_drewN | apply below_drew1) | exact HB.out)))); have n1_ := Aside0.mk (below_step (by repeat (first | (with_reducible first | exact HB.out | apply below_alloc | apply pw_below_drewN | apply below_drew1) | exact HB.out)) hb); clear HB; have HO115 := n0_; have HB := n1_; clear n0_ n1_; (try clear hb); (try clear hb2); (try clear hk); (try clear hi); (try clear ho0)) | ((with_reducible refine gate_callee (f := 8) rfl ?_); refine goesL_ (some 43) rfl rfl Try.func8 (by kernel_rfl) rfl #[.string a0, .int .i64 a1] rfl (by (try simp only [List.map_toArray, List.map_cons, List.map_nil]); first | done | rfl | (simp only [List.length_drop, List.length_take]; rfl)) ?_; (with_reducible refine (chancelref12_Split.calls kj3 a0 a1 t116 t117 t118 _ A14.out).mono ?_); rintro e w27 ⟨v119, rfl, ho0, hb⟩; refine ⟨_, rfl, ?_⟩; have n0_ := Aside0.mk (Kd.R_elder' (by (with_reducible repeat (first | apply Kd.R_alloc | apply Kd.R_drewN | apply Kd.R_drew)); exact HO115.out) (Kd.R_base ho0) hb); have n1_ := Aside0.mk (Kd.R_lower (Kd.R_new' ho0 (Kd.R_lt (by (with_reducible repeat (first | apply Kd.R_alloc | apply Kd.R_drewN | apply Kd.R_drew)); exact HO115.out))) (below_size (by repeat (first | (with_reducible first | exact HB.out | apply below_alloc | apply pw_below_drewN | apply below_drew1) | exact HB.out)))); have n2_ := Aside0.mk (below_step (by repeat (first | (with_reducible first | exact HB.out | apply below_alloc | apply pw_below_drewN | apply below_drew1) | exact HB.out)) hb); clear HO115; clear HB; have HO115 := n0_; have HO120 := n1_; have HB := n2_; clear n0_ n1_ n2_; (try clear hb); (try clear hb2); (try clear hk); (try clear hi); (try clear ho0); obtain ⟨Ao28, co28, eo28⟩ := Kd.R_slice HO115.out; subst eo28; obtain ⟨Ao29, co29, eo29⟩ := Kd.R_slice HO120.out; subst eo29) | ((with_reducible refine gate_callee (f := 9) rfl ?_); refine goesL_ (some 49) rfl rfl Try.func9 (by kernel_rfl) rfl #[.slice Ao28 t111.length co28, .slice Ao29 t116.length co29] rfl (by (try simp only [List.map_toArray, List.map_cons, List.map_nil]); first | done | rfl | (simp only [List.length_drop, List.length_take]; rfl)) ?_; (with_reducible refine (chancelref12_Same.calls kj3 _ _ t111 _ _ t116 false _ ?side1 ?side2 ?side3 ?side4 A15.out).mono ?_); (case side1 => repeat (first | exact (Kd.R_reads' HO115.out).2.2 | (with_reducible refine Kd.C_alloc ?_ _) | (with_reducible refine Kd.C_drewN ?_ _) | (with_reducible refine Kd.C_drew ?_))); (case side2 => exact (Kd.R_reads' HO115.out).2.1); (case side3 => repeat (first | exact (Kd.R_reads' HO120.out).2.2 | (with_reducible refine Kd.C_alloc ?_ _) | (with_reducible refine Kd.C_drewN ?_ _) | (with_reducible refine Kd.C_drew ?_))); (case side4 => exact (Kd.R_reads' HO120.out).2.1); rintro e w' ⟨rfl, ⟨nd, rfl⟩⟩; refine ⟨_, rfl, ?_⟩))
            go_ret
            exact ⟨by first | rfl | (simp [errW_none, errW_some] <;> rfl) | (simp [*, errW_none, errW_some] <;> rfl), by repeat (first | (with_reducible first | exact HB.out | apply below_alloc | apply pw_below_drewN | apply below_drew1) | exact HB.out)⟩

/-- THE ONE PURE STATEMENT of chancellaw12_FrameSplits: yours. -/
def chancellaw12_FrameSplits.Pure : Prop := ∀ (a0 : ByteArray) (a1 : Int), a0.size ≤ 140737488351232 → (Lit.int .i64 a1).wf = true → ∃ k, chancellaw12_FrameSplits.f k a0 a1 = some true
theorem chancellaw12_FrameSplits.walk (P : chancellaw12_FrameSplits.Pure) (a0 : ByteArray) (a1 : Int) (w : World) (w0 : a0.size ≤ 140737488351232) (w1 : (Lit.int .i64 a1).wf = true) :
    Calls Try.prog 3 #[.string a0, .int .i64 a1] w fun e w' => e = .returned (.bool true) ∧ Below w.heap.size w w' := by
  obtain ⟨k, h⟩ := P a0 a1 w0 w1
  refine (chancellaw12_FrameSplits.calls k a0 a1 true w h).mono ?_
  rintro e w' ⟨rfl, hd⟩
  exact ⟨rfl, hd⟩

end Go.Proofs.Ytiipapndmjbciaa.AFrameSplits
