/- What the functions that the law FrameWraps reaches compute, and the row of the law (printed by a program of this session). -/
import Derived.Test.YtiipapndmjbciaaAFrameWrapsx0
namespace Go.Proofs.Ytiipapndmjbciaa.AFrameWraps
open Go.RowKit Go.Proofs.YtiipapndmjbciaaW.PrintWords Go.Proofs.YtiipapndmjbciaaW.PrintLast Go.Proofs.YtiipapndmjbciaaW.PrintMore
attribute [local go_sem] max2_int min2_int max_two min_two max_three min_three max_four min_four   -- for this text's walks alone
set_option linter.unusedVariables false
set_option linter.unusedSimpArgs false

/-! ### frame_Split: function 7 -/
open Go.Proofs.Ytiipapndmjbciaa.Split
def frame_Split.f (a0 : ByteArray) (a1 : Int) : Option (List ByteArray × ByteArray × Bool) :=
  if a0.size < 8796093022208 then some ((split a1 (L a0)).1.map BA, BA (split a1 (L a0)).2.1, (split a1 (L a0)).2.2) else none
/-- What a round of the loop knows. -/
def frame_Split.Inv (s : ByteArray) (most : Int) (r1 : List ByteArray) (r2 : ByteArray) (r3 : Bool) (d : Nat) (acc : List ByteArray) (p : Nat) : Prop :=
  s.size < 8796093022208 ∧ p ≤ s.size ∧ acc.length ≤ p ∧ s.size - p < d ∧ acc ++ (split most ((L s).drop p)).1.map BA = r1 ∧ BA (split most ((L s).drop p)).2.1 = r2 ∧ (split most ((L s).drop p)).2.2 = r3
theorem frame_Split.start {s : ByteArray} {most : Int} {r1 : List ByteArray} {r2 : ByteArray} {r3 : Bool} (h : frame_Split.f s most = some (r1, r2, r3)) : frame_Split.Inv s most r1 r2 r3 (s.size + 1) [] 0 := by
  unfold frame_Split.f at h
  split at h
  · rename_i hs
    simp only [Option.some.injEq, Prod.mk.injEq] at h
    obtain ⟨h1, h2, h3⟩ := h
    exact ⟨hs, by omega, by simp, by omega, by simpa using h1, by simpa using h2, by simpa using h3⟩
  · cases h
theorem frame_Split.left {s : ByteArray} {p : Nat} {r : ByteArray} (hr : r = s.extract p s.size) : L r = (L s).drop p := by
  rw [hr, L_extract, ← L_size s, List.take_length]
theorem frame_Split.short {s : ByteArray} {most : Int} {r1 : List ByteArray} {r2 : ByteArray} {r3 : Bool} {d : Nat} {acc : List ByteArray} {p : Nat} {r : ByteArray}
    (h : frame_Split.Inv s most r1 r2 r3 d acc p) (hr : r = s.extract p s.size) (h2 : r.size < 2) : acc = r1 ∧ r = r2 ∧ true = r3 := by
  obtain ⟨_, _, _, _, e1, e2, e3⟩ := h
  rw [← frame_Split.left hr, split_short _ _ (by rw [L_size]; exact h2)] at e1 e2 e3
  exact ⟨by simpa using e1, by simpa [BA_L] using e2, e3⟩
theorem or_bt (r : ByteArray) : bits .or .i64 (wrap64 (wrap64 (bt r 0) * 256)) (wrap64 (bt r 1)) = (((bt r 0).toNat * 256 + (bt r 1).toNat : Nat) : Int) := by
  have h0 := bt_range r 0
  have h1 := bt_range r 1
  have := or_bytes (bt r 0).toNat (bt r 1).toNat (by omega) (by omega)
  rw [Int.toNat_of_nonneg h0.1, Int.toNat_of_nonneg h1.1] at this
  rw [this]; omega
theorem frame_Split.word {r : ByteArray} {n : Nat} (hn : n = (bt r 0).toNat * 256 + (bt r 1).toNat) : n ≤ 65535 := by
  have h0 := bt_range r 0
  have h1 := bt_range r 1
  omega
theorem frame_Split.two {r : ByteArray} (h2 : 2 ≤ r.size) : ∃ a b t, L r = a :: b :: t ∧ bt r 0 = (a.toNat : Int) ∧ bt r 1 = (b.toNat : Int) ∧ t.length + 2 = r.size := by
  rcases bytes_cases (L r) with h | ⟨a, b, t, e⟩
  · rw [L_size] at h; omega
  · refine ⟨a, b, t, e, ?_, ?_, ?_⟩
    · rw [bt_L, e]; rfl
    · rw [bt_L, e]; rfl
    · have := L_size r; rw [e] at this; simpa using this
section
variable {s : ByteArray} {most : Int} {r1 : List ByteArray} {r2 : ByteArray} {r3 : Bool} {d : Nat} {acc : List ByteArray} {p : Nat} {r : ByteArray} {n : Nat}
theorem frame_Split.bad (h : frame_Split.Inv s most r1 r2 r3 d acc p) (hr : r = s.extract p s.size) (h2 : 2 ≤ r.size) (hn : n = (bt r 0).toNat * 256 + (bt r 1).toNat) (hb : n = 0 ∨ most < (n : Int)) :
    acc = r1 ∧ (⟨#[]⟩ : ByteArray) = r2 ∧ false = r3 := by
  obtain ⟨_, _, _, _, e1, e2, e3⟩ := h
  obtain ⟨a, b, t, e, ea, eb, _⟩ := frame_Split.two h2
  rw [ea, eb, Int.toNat_natCast, Int.toNat_natCast] at hn
  rw [← frame_Split.left hr, e, split_two, ← hn, if_pos hb] at e1 e2 e3
  exact ⟨by simpa using e1, by simpa [BA] using e2, e3⟩
theorem frame_Split.long (h : frame_Split.Inv s most r1 r2 r3 d acc p) (hr : r = s.extract p s.size) (h2 : 2 ≤ r.size) (hn : n = (bt r 0).toNat * 256 + (bt r 1).toNat) (hb : ¬ (n = 0 ∨ most < (n : Int))) (h3 : r.size - 2 < n) :
    acc = r1 ∧ r = r2 ∧ true = r3 := by
  obtain ⟨_, _, _, _, e1, e2, e3⟩ := h
  obtain ⟨a, b, t, e, ea, eb, ht⟩ := frame_Split.two h2
  rw [ea, eb, Int.toNat_natCast, Int.toNat_natCast] at hn
  rw [← frame_Split.left hr, e, split_two, ← hn, if_neg hb, if_pos (by omega)] at e1 e2 e3
  exact ⟨by simpa using e1, by rw [← e2]; simp only; rw [← e, BA_L], e3⟩
theorem frame_Split.next (h : frame_Split.Inv s most r1 r2 r3 d acc p) (hr : r = s.extract p s.size) (h2 : 2 ≤ r.size) (hn : n = (bt r 0).toNat * 256 + (bt r 1).toNat) (hb : ¬ (n = 0 ∨ most < (n : Int))) (h3 : n ≤ r.size - 2) :
    ∃ d', d = d' + 1 ∧ frame_Split.Inv s most r1 r2 r3 d' (acc ++ [r.extract 2 (2 + n)]) (p + (2 + n)) := by
  obtain ⟨f1, f2, f3, f4, e1, e2, e3⟩ := h
  have hL := frame_Split.left hr
  obtain ⟨a, b, t, e, ea, eb, ht⟩ := frame_Split.two h2
  have hlen : r.size = s.size - p := by rw [hr]; simp
  rw [ea, eb, Int.toNat_natCast, Int.toNat_natCast] at hn
  have e4 : L (r.extract 2 (2 + n)) = t.take n := by rw [L_extract, e, Nat.add_comm 2 n]; simp
  have e5 : (L s).drop (p + (2 + n)) = t.drop n := by rw [← List.drop_drop, ← hL, e, Nat.add_comm 2 n]; simp
  rw [← hL, e, split_two, ← hn, if_neg hb, if_neg (by omega)] at e1 e2 e3
  refine ⟨d - 1, by omega, f1, by omega, by simp; omega, by omega, ?_, ?_, ?_⟩
  · rw [e5, ← e1]
    simp only [List.map_cons, List.append_assoc, List.cons_append, List.nil_append]
    rw [← e4, BA_L]
  · rw [e5]; exact e2
  · rw [e5]; exact e3
end
set_option maxHeartbeats 4000000 in
set_option maxRecDepth 100000 in
theorem frame_Split.calls (a0 : ByteArray) (a1 : Int) (r1 : List ByteArray) (r2 : ByteArray) (r3 : Bool) (w : World) (h : frame_Split.f a0 a1 = some (r1, r2, r3)) :
    Calls Try.prog 7 #[.string a0, .int .i64 a1] w fun e w' => ∃ v0_ : Value, e = .returned (.tuple #[v0_, .string r2, .bool r3]) ∧ Kd.R Kd.string 9 w' w.heap.size (fun _ => True) v0_ r1 ∧ Below w.heap.size w w' := by
  have HB := Aside0.mk (Below.refl w.heap.size w)
  have HI := Aside0.mk (frame_Split.start h)
  clear h
  go_enter Try.func7, Try.ntmps7
  go_wp2
  go_loopg [7, 8] (a0.size + 1) (fun dq v7 v8 w' => ∃ (acc : List ByteArray) (p : Nat), v8 = .int .i64 p ∧ Aside0 (frame_Split.Inv a0 a1 r1 r2 r3 dq acc p) ∧ Aside0 (Kd.R Kd.string 9 w' w.heap.size (fun _ => True) v7 acc) ∧ Aside0 (Below w.heap.size w w'))
  case atStart => exact ⟨[], 0, rfl, HI, ⟨Kd.R_nil _ _ _ _ _⟩, HB⟩
  case round =>
    clear HI HB
    obtain ⟨acc, p, rfl, HI, HO, HB⟩ := hrel
    have hp : p ≤ a0.size := HI.out.2.1
    obtain ⟨r, hr⟩ : ∃ r : ByteArray, r = a0.extract p a0.size := ⟨_, rfl⟩
    have HR := Aside0.mk hr
    clear hr
    go_upto_region 3 with (fail)
    go_cut [9] (fun v9 wc => v9 = .string r ∧ Aside0 (Kd.R Kd.string 9 wc w.heap.size (fun _ => True) u7 acc) ∧ Aside0 (Below w.heap.size w wc))
    case first =>
      go_wp2
      go_meet
      case rel => exact ⟨by rw [HR.out], HO, HB⟩
    case rest =>
      clear HO HB
      obtain ⟨rfl, HO, HB⟩ := hcut
      rcases Nat.lt_or_ge r.size 2 with h2 | h2
      · have HI2 := Aside0.mk (frame_Split.short HI.out HR.out h2)
        clear HI HR
        go_wp2
        go_ret3
        obtain ⟨rfl, rfl, rfl⟩ := HI2.out
        exact ⟨_, rfl, HO.out, HB.out⟩
      · obtain ⟨n, hn⟩ : ∃ n : Nat, n = (bt r 0).toNat * 256 + (bt r 1).toNat := ⟨_, rfl⟩
        have HN := Aside0.mk hn
        clear hn
        have q7 : (0 < r.size) = True := eq_true (by omega)
        have hx7 : ∀ h : 0 < r.size, ((r[0]'h).toNat : Int) = bt r 0 := bt_at r 0
        have qi7 : (0 < (r.size : Int)) = True := eq_true (by omega)
        have q9 : (1 < r.size) = True := eq_true (by omega)
        have hx9 : ∀ h : 1 < r.size, ((r[1]'h).toNat : Int) = bt r 1 := bt_at r 1
        have qi9 : (1 < (r.size : Int)) = True := eq_true (by omega)
        go_upto_region 6 with (fail)
        go_cut [10] (fun v10 wc => v10 = .int .i64 n ∧ Aside0 (Kd.R Kd.string 9 wc w.heap.size (fun _ => True) u7 acc) ∧ Aside0 (Below w.heap.size w wc))
        case first =>
          go_wp2
          repeat (go_quiet (fail); try go_wp2)
          go_meet
          case rel => exact ⟨by rw [HN.out]; exact congrArg _ (or_bt r), ⟨by (with_reducible repeat (first | apply Kd.R_alloc | apply Kd.R_drewN | apply Kd.R_drew)); exact HO.out⟩, ⟨by repeat (first | (with_reducible first | exact HB.out | apply below_alloc | apply pw_below_drewN | apply below_drew1) | exact HB.out)⟩⟩
        case rest =>
          clear HO HB q7 hx7 qi7 q9 hx9 qi9
          obtain ⟨rfl, HO, HB⟩ := hcut
          by_cases hbad : n = 0 ∨ a1 < (n : Int)
          · have HI2 := Aside0.mk (frame_Split.bad HI.out HR.out h2 HN.out hbad)
            clear HI HR HN
            rcases Decidable.em ((n : Int) = 0) with h0 | h0
            · have h0b : ((n : Int) == 0) = true := beq_iff_eq.mpr h0
              clear h0 hbad
              go_wp2
              go_ret3
              obtain ⟨rfl, rfl, rfl⟩ := HI2.out
              exact ⟨_, rfl, HO.out, HB.out⟩
            · have h0b : ((n : Int) == 0) = false := beq_eq_false_iff_ne.mpr h0
              have h0c : decide ((n : Int) > a1) = true := decide_eq_true (by omega)
              clear h0 hbad
              go_wp2
              go_ret3
              obtain ⟨rfl, rfl, rfl⟩ := HI2.out
              exact ⟨_, rfl, HO.out, HB.out⟩
          · have h0b : ((n : Int) == 0) = false := beq_eq_false_iff_ne.mpr (by omega)
            have h0c : decide ((n : Int) > a1) = false := decide_eq_false (by omega)
            have hn1 : 1 ≤ n := by omega
            have hn2 : n ≤ 65535 := frame_Split.word HN.out
            have hrs : r.size ≤ 8796093022208 := by rw [HR.out]; have := HI.out.1; simp; omega
            rcases Nat.lt_or_ge (r.size - 2) n with h3 | h3
            · have HI2 := Aside0.mk (frame_Split.long HI.out HR.out h2 HN.out hbad h3)
              clear HI HR HN hbad
              go_wp2
              go_ret3
              obtain ⟨rfl, rfl, rfl⟩ := HI2.out
              exact ⟨_, rfl, HO.out, HB.out⟩
            · obtain ⟨d', hd', hI2⟩ := frame_Split.next HI.out HR.out h2 HN.out hbad h3
              have HI2 := Aside0.mk hI2
              have HD := Aside0.mk hd'
              have hal : acc.length < 8796093022208 := by have := HI.out.1; have := HI.out.2.2.1; omega
              have LM := Aside0.mk hal
              have hp2 : p + (2 + n) ≤ a0.size := hI2.2.1
              have ha0 : a0.size < 8796093022208 := hI2.1
              have c14b0 : (2 ≤ 2 + (n : Int)) = True := eq_true (by omega)
              have c15b0 : (2 + (n : Int) ≤ (r.size : Int)) = True := eq_true (by omega)
              have c14n : (2 + (n : Int)).toNat = 2 + n := by omega
              have h4 : 2 + n ≤ r.size := by omega
              clear hbad HI HR HN hal hd' hI2
              obtain ⟨y, hy⟩ : ∃ y : List ByteArray, y = acc ++ [r.extract 2 (2 + n)] := ⟨_, rfl⟩
              rw [← hy] at HI2
              have Ny := Aside0.mk hy
              clear hy
              go_wp2_with (first | ((with_reducible refine gate_builtin (b := .append) (xs := #[.tmp 42, .tmp 47]) rfl ?_); at_builtin; refine Kd.R_append Kd.string (w0 := w) w.heap.size rfl (.tmp 42) (.tmp 47) 22 9 (.string ⟨#[]⟩) 16 rfl Try.underlying22 info9 rfl (by decide) (by omega) u7 acc (r.extract 2 (2 + n)) [.string (r.extract 2 (2 + n))] (fun _ => True) (fun _ => False) rfl rfl ?aP (fun _ hk => hk.elim) ?aF ?aO ?aB ?aS ?aL ?_; (case aP => exact rfl); (case aB => exact (by repeat (first | (with_reducible first | exact HB.out | apply below_alloc | apply pw_below_drewN | apply below_drew1) | exact HB.out))); (case aF => exact (fun _ _ => trivial)); (case aO => exact (by (with_reducible repeat (first | apply Kd.R_alloc | apply Kd.R_drewN | apply Kd.R_drew)); exact HO.out)); (case aS => exact (below_size (by repeat (first | (with_reducible first | exact HB.out | apply below_alloc | apply pw_below_drewN | apply below_drew1) | exact HB.out)))); (case aL => have := LM.out; omega); intro v102 w17 ho hb hg hat; rw [← Ny.out] at ho; have n0_ := Aside0.mk (hb); have n1_ := Aside0.mk (ho); clear HB; clear HO; have HB := n0_; have HO103 := n1_; clear n0_ n1_; clear ho hb hg hat))
              go_roundg d'
              case measure => have := HD.out; omega
              case rel => exact ⟨y, p + (2 + n), by first | rfl | (simp; done) | (simp [*]; done) | go_num, HI2, HO103, HB⟩


/-! ### frame_Wrap: function 10 -/
def frame_Wrap.f (a0 : ByteArray) : Option (ByteArray × Bool) := if (a0.size : Int) < 1 then (some ((⟨#[]⟩ : ByteArray), false)) else (if (a0.size : Int) > 65535 then (some ((⟨#[]⟩ : ByteArray), false)) else ((some (([((a0.size : Int) / 256) % 256, ((a0.size : Int)) % 256] : List Int) : List Int)).bind fun y101 => (if (strOfNums y101).size + a0.size ≤ 9223372036854775807 then (some ((strOfNums y101) ++ a0, true)) else (none))))
set_option maxHeartbeats 8000000 in
set_option maxRecDepth 100000 in
theorem frame_Wrap.calls (a0 : ByteArray) (r1 : ByteArray) (r2 : Bool) (w : World) (h : frame_Wrap.f a0 = some (r1, r2)) :
    Calls Try.prog 10 #[.string a0] w fun e w' => e = .returned (.tuple #[.string r1, .bool r2]) ∧ Below w.heap.size w w' := by
  have HB := Aside0.mk (Below.refl w.heap.size w)
  have H : (if (a0.size : Int) < 1 then (some ((⟨#[]⟩ : ByteArray), false)) else (if (a0.size : Int) > 65535 then (some ((⟨#[]⟩ : ByteArray), false)) else ((some (([((a0.size : Int) / 256) % 256, ((a0.size : Int)) % 256] : List Int) : List Int)).bind fun y101 => (if (strOfNums y101).size + a0.size ≤ 9223372036854775807 then (some ((strOfNums y101) ++ a0, true)) else (none))))) = some (r1, r2) := h
  clear h
  by_cases c2 : (a0.size : Int) < 1
  · rw [if_pos c2] at H
    have c2b0 : decide ((a0.size : Int) < 1) = true := decide_eq_true c2
    have c2b1 : decide (a0.size < 1) = true := decide_eq_true (by omega)
    clear c2
    simp only [Option.some.injEq, Prod.mk.injEq] at H
    obtain ⟨rfl, rfl⟩ := H
    go_enter Try.func10, Try.ntmps10
    go_wp2
    go_ret2
    exact ⟨by first | rfl | (simp [errW_none, errW_some] <;> rfl) | (simp [*, errW_none, errW_some] <;> rfl), by repeat (first | (with_reducible first | exact HB.out | apply below_alloc | apply pw_below_drewN | apply below_drew1) | exact HB.out)⟩
  · rw [if_neg c2] at H
    have c2b0 : decide ((a0.size : Int) < 1) = false := decide_eq_false c2
    have c2b1 : decide (a0.size < 1) = false := decide_eq_false (by omega)
    clear c2
    by_cases c3 : (a0.size : Int) > 65535
    · rw [if_pos c3] at H
      have c3b0 : decide (65535 < (a0.size : Int)) = true := decide_eq_true c3
      have c3b1 : decide (65535 < a0.size) = true := decide_eq_true (by omega)
      clear c3
      simp only [Option.some.injEq, Prod.mk.injEq] at H
      obtain ⟨rfl, rfl⟩ := H
      go_enter Try.func10, Try.ntmps10
      go_wp2
      go_ret2
      exact ⟨by first | rfl | (simp [errW_none, errW_some] <;> rfl) | (simp [*, errW_none, errW_some] <;> rfl), by repeat (first | (with_reducible first | exact HB.out | apply below_alloc | apply pw_below_drewN | apply below_drew1) | exact HB.out)⟩
    · rw [if_neg c3] at H
      have c3b0 : decide (65535 < (a0.size : Int)) = false := decide_eq_false c3
      have c3b1 : decide (65535 < a0.size) = false := decide_eq_false (by omega)
      clear c3
      obtain ⟨y101, hy101⟩ : ∃ y_ : List Int, y_ = (([((a0.size : Int) / 256) % 256, ((a0.size : Int)) % 256] : List Int)) := ⟨_, rfl⟩
      replace H : (if (strOfNums y101).size + a0.size ≤ 9223372036854775807 then (some ((strOfNums y101) ++ a0, true)) else (none)) = some (r1, r2) := by first | (rw [hy101]; with_reducible exact H) | (have H2_ := (Option.bind_some _ _).symm.trans H; rw [hy101]; with_reducible exact H2_) | (have H2_ := (Option.bind_some _ _).symm.trans H; with_reducible exact H2_) | with_reducible exact H | (rw [hy101]; exact H) | exact H
      have Ny101 := Aside0.mk hy101
      clear hy101
      by_cases c4 : (strOfNums y101).size + a0.size ≤ 9223372036854775807
      · rw [if_pos c4] at H
        have c4b0 := eq_true c4
        have c4b1 : decide ((strOfNums y101).size + a0.size ≤ 9223372036854775807) = true := decide_eq_true c4
        try have c4b2 : (9223372036854775807 < (strOfNums y101).size + a0.size) = False := eq_false (Nat.not_lt.2 c4)
        simp only [Option.some.injEq, Prod.mk.injEq] at H
        obtain ⟨rfl, rfl⟩ := H
        go_enter Try.func10, Try.ntmps10
        go_wp2_with (first | ((with_reducible refine gate_dst (N := 18) rfl ?_); refine Kd.R_lit (Kd.int .u8) _ 5 ?hg (N := 18) ?hd (xs := ([((a0.size : Int) / 256) % 256, ((a0.size : Int)) % 256] : List Int)) (inner := [.int .u8 (((a0.size : Int) / 256) % 256), .int .u8 (((a0.size : Int)) % 256)]) (ok := fun _ => True) (okp := fun _ => True) ?hr ?hp (fun _ hk => hk) trivial (Below.refl _ _) (Nat.le_refl _) (by simp) ?_; (case hd => rfl); (case hg => rfl); (case hr => first | (go_simp; done) | (go_simp; rfl)); (case hp => exact (Reps.one (show Kd.M (Kd.int .u8) _ _ _ (((a0.size : Int) / 256) % 256) [.int .u8 (((a0.size : Int) / 256) % 256)] from rfl) (Reps.one (show Kd.M (Kd.int .u8) _ _ _ (((a0.size : Int)) % 256) [.int .u8 (((a0.size : Int)) % 256)] from rfl) (Reps.none _ _)))); intro v102 w5 ho6 hb hg_ hnew_; clear hg_ hnew_; (first | rw [← Ny101.out] at ho6 | (simp only [Int.reduceToNat] at ho6; rw [← Ny101.out] at ho6)); have n0_ := Aside0.mk (Kd.R_lower ho6 (below_size (by repeat (first | (with_reducible first | exact HB.out | apply below_alloc | apply pw_below_drewN | apply below_drew1) | exact HB.out)))); have n1_ := Aside0.mk (below_step (by repeat (first | (with_reducible first | exact HB.out | apply below_alloc | apply pw_below_drewN | apply below_drew1) | exact HB.out)) hb); clear HB; have HO103 := n0_; have HB := n1_; clear n0_ n1_; clear hb ho6; have hcv7 := own_string (P := Try.prog) Try.underlying34 Try.underlying5 Try.underlying9 (Kd.own_of_R HO103.out)))
        go_ret2
        exact ⟨by first | rfl | (simp [errW_none, errW_some] <;> rfl) | (simp [*, errW_none, errW_some] <;> rfl), by repeat (first | (with_reducible first | exact HB.out | apply below_alloc | apply pw_below_drewN | apply below_drew1) | exact HB.out)⟩
      · rw [if_neg c4] at H
        exact absurd H (by simp)

/-! ### chancelref12_Wrap: function 11 -/
def chancelref12_Wrap.f (a0 : ByteArray) : Option (ByteArray × Bool) := if a0.toList = ([] : List UInt8) then (some ((⟨#[]⟩ : ByteArray), false)) else (if (a0.size : Int) > 65535 then (some ((⟨#[]⟩ : ByteArray), false)) else ((some (([((a0.size : Int) / 256) % 256, (a0.size : Int) % 256] : List Int) : List Int)).bind fun y104 => (if (strOfNums y104).size + a0.size ≤ 9223372036854775807 then (some ((strOfNums y104) ++ a0, true)) else (none))))
set_option maxHeartbeats 8000000 in
set_option maxRecDepth 100000 in
theorem chancelref12_Wrap.calls (a0 : ByteArray) (r1 : ByteArray) (r2 : Bool) (w : World) (h : chancelref12_Wrap.f a0 = some (r1, r2)) :
    Calls Try.prog 11 #[.string a0] w fun e w' => e = .returned (.tuple #[.string r1, .bool r2]) ∧ Below w.heap.size w w' := by
  have HB := Aside0.mk (Below.refl w.heap.size w)
  have H : (if a0.toList = ([] : List UInt8) then (some ((⟨#[]⟩ : ByteArray), false)) else (if (a0.size : Int) > 65535 then (some ((⟨#[]⟩ : ByteArray), false)) else ((some (([((a0.size : Int) / 256) % 256, (a0.size : Int) % 256] : List Int) : List Int)).bind fun y104 => (if (strOfNums y104).size + a0.size ≤ 9223372036854775807 then (some ((strOfNums y104) ++ a0, true)) else (none))))) = some (r1, r2) := h
  clear h
  by_cases c2 : a0.toList = ([] : List UInt8)
  · rw [if_pos c2] at H
    have c2b0 : (a0.toList == ([] : List UInt8)) = true := beq_iff_eq.mpr c2
    have c2b1 : (a0.toList != ([] : List UInt8)) = false := bne_eq_false_iff_eq.mpr c2
    clear c2
    simp only [Option.some.injEq, Prod.mk.injEq] at H
    obtain ⟨rfl, rfl⟩ := H
    go_enter Try.func11, Try.ntmps11
    go_wp2
    go_ret2
    exact ⟨by first | rfl | (simp [errW_none, errW_some] <;> rfl) | (simp [*, errW_none, errW_some] <;> rfl), by repeat (first | (with_reducible first | exact HB.out | apply below_alloc | apply pw_below_drewN | apply below_drew1) | exact HB.out)⟩
  · rw [if_neg c2] at H
    have c2b0 : (a0.toList == ([] : List UInt8)) = false := beq_eq_false_iff_ne.mpr c2
    have c2b1 : (a0.toList != ([] : List UInt8)) = true := bne_iff_ne.mpr c2
    by_cases c3 : (a0.size : Int) > 65535
    · rw [if_pos c3] at H
      have c3b0 : decide (65535 < (a0.size : Int)) = true := decide_eq_true c3
      have c3b1 : decide (65535 < a0.size) = true := decide_eq_true (by omega)
      clear c3
      simp only [Option.some.injEq, Prod.mk.injEq] at H
      obtain ⟨rfl, rfl⟩ := H
      go_enter Try.func11, Try.ntmps11
      go_wp2
      go_ret2
      exact ⟨by first | rfl | (simp [errW_none, errW_some] <;> rfl) | (simp [*, errW_none, errW_some] <;> rfl), by repeat (first | (with_reducible first | exact HB.out | apply below_alloc | apply pw_below_drewN | apply below_drew1) | exact HB.out)⟩
    · rw [if_neg c3] at H
      have c3b0 : decide (65535 < (a0.size : Int)) = false := decide_eq_false c3
      have c3b1 : decide (65535 < a0.size) = false := decide_eq_false (by omega)
      clear c3
      obtain ⟨y104, hy104⟩ : ∃ y_ : List Int, y_ = (([((a0.size : Int) / 256) % 256, (a0.size : Int) % 256] : List Int)) := ⟨_, rfl⟩
      replace H : (if (strOfNums y104).size + a0.size ≤ 9223372036854775807 then (some ((strOfNums y104) ++ a0, true)) else (none)) = some (r1, r2) := by first | (rw [hy104]; with_reducible exact H) | (have H2_ := (Option.bind_some _ _).symm.trans H; rw [hy104]; with_reducible exact H2_) | (have H2_ := (Option.bind_some _ _).symm.trans H; with_reducible exact H2_) | with_reducible exact H | (rw [hy104]; exact H) | exact H
      have Ny104 := Aside0.mk hy104
      clear hy104
      by_cases c4 : (strOfNums y104).size + a0.size ≤ 9223372036854775807
      · rw [if_pos c4] at H
        have c4b0 := eq_true c4
        have c4b1 : decide ((strOfNums y104).size + a0.size ≤ 9223372036854775807) = true := decide_eq_true c4
        try have c4b2 : (9223372036854775807 < (strOfNums y104).size + a0.size) = False := eq_false (Nat.not_lt.2 c4)
        simp only [Option.some.injEq, Prod.mk.injEq] at H
        obtain ⟨rfl, rfl⟩ := H
        go_enter Try.func11, Try.ntmps11
        go_wp2_with (first | ((with_reducible refine gate_dst (N := 19) rfl ?_); (try (refine gate_guard (by rfl) ?_; dsimp only)); refine Kd.R_lit (Kd.int .u8) _ 5 ?hg (N := 19) ?hd (xs := ([((a0.size : Int) / 256) % 256, (a0.size : Int) % 256] : List Int)) (inner := [.int .u8 (((a0.size : Int) / 256) % 256), .int .u8 ((a0.size : Int) % 256)]) (ok := fun _ => True) (okp := fun _ => True) ?hr ?hp (fun _ hk => hk) trivial (Below.refl _ _) (Nat.le_refl _) (by simp) ?_; (case hd => rfl); (case hg => rfl); (case hr => first | (go_simp; done) | (go_simp; rfl)); (case hp => exact (Reps.one (show Kd.M (Kd.int .u8) _ _ _ (((a0.size : Int) / 256) % 256) [.int .u8 (((a0.size : Int) / 256) % 256)] from rfl) (Reps.one (show Kd.M (Kd.int .u8) _ _ _ ((a0.size : Int) % 256) [.int .u8 ((a0.size : Int) % 256)] from rfl) (Reps.none _ _)))); intro v105 w5 ho6 hb hg_ hnew_; clear hg_ hnew_; (first | rw [← Ny104.out] at ho6 | (simp only [Int.reduceToNat] at ho6; rw [← Ny104.out] at ho6)); have n0_ := Aside0.mk (Kd.R_lower ho6 (below_size (by repeat (first | (with_reducible first | exact HB.out | apply below_alloc | apply pw_below_drewN | apply below_drew1) | exact HB.out)))); have n1_ := Aside0.mk (below_step (by repeat (first | (with_reducible first | exact HB.out | apply below_alloc | apply pw_below_drewN | apply below_drew1) | exact HB.out)) hb); clear HB; have HO106 := n0_; have HB := n1_; clear n0_ n1_; clear hb ho6; have hcv7 := own_string (P := Try.prog) Try.underlying34 Try.underlying5 Try.underlying9 (Kd.own_of_R HO106.out)))
        go_ret2
        exact ⟨by first | rfl | (simp [errW_none, errW_some] <;> rfl) | (simp [*, errW_none, errW_some] <;> rfl), by repeat (first | (with_reducible first | exact HB.out | apply below_alloc | apply pw_below_drewN | apply below_drew1) | exact HB.out)⟩
      · rw [if_neg c4] at H
        exact absurd H (by simp)


/-! ### chancellaw12_FrameWraps: function 5 -/
mutual
def chancellaw12_FrameWraps.j0 : Nat → ByteArray → Bool → Option (Bool)
  | 0, _, _ => none
  | k + 1, x0, x21 => if x21 = true then (some false) else ((frame_Wrap.f x0).bind fun bt106 => ((chancelref12_Wrap.f x0).bind fun bt108 => (if bt106.1.toList = bt108.1.toList then (chancellaw12_FrameWraps.j1 k x0 bt106.1 bt106.2 (bt106.2 != bt108.2)) else (chancellaw12_FrameWraps.j1 k x0 bt106.1 bt106.2 true))))
def chancellaw12_FrameWraps.j1 : Nat → ByteArray → ByteArray → Bool → Bool → Option (Bool)
  | 0, _, _, _, _ => none
  | k + 1, x0, x5, x6, x39 => if x39 = true then (some false) else (if x6 = true then ((frame_Split.f x5 65535).bind fun bt110 => (if bt110.2.2 = true then (if bt110.2.1.toList = ([] : List UInt8) then (if (bt110.1.length : Int) = 1 then (if 0 < (bt110.1.length : Int) then (some ((rdOf ByteArray.empty bt110.1 0).toList == x0.toList)) else (none)) else (some false)) else (some false)) else (some false))) else (some true))
end
def chancellaw12_FrameWraps.f (k : Nat) (a0 : ByteArray) : Option (Bool) := (frame_Wrap.f (⟨#[97, 98]⟩ : ByteArray)).bind fun bt104 => (if bt104.1.toList = ([0, 2, 97, 98] : List UInt8) then (chancellaw12_FrameWraps.j0 k a0 (!bt104.2)) else (chancellaw12_FrameWraps.j0 k a0 true))
theorem chancellaw12_FrameWraps.mono_l : ∀ k, (∀ y0 y1, LeO (chancellaw12_FrameWraps.j0 k y0 y1) (chancellaw12_FrameWraps.j0 (k + 1) y0 y1)) ∧ (∀ y0 y1 y2 y3, LeO (chancellaw12_FrameWraps.j1 k y0 y1 y2 y3) (chancellaw12_FrameWraps.j1 (k + 1) y0 y1 y2 y3))
  | 0 => ⟨fun _ _ r h => by simp [chancellaw12_FrameWraps.j0] at h, fun _ _ _ _ r h => by simp [chancellaw12_FrameWraps.j1] at h⟩
  | k + 1 => by
    obtain ⟨ih0, ih1⟩ := chancellaw12_FrameWraps.mono_l k
    refine ⟨?_, ?_⟩
    · intro y0 y1
      unfold chancellaw12_FrameWraps.j0
      repeat' first
      | (with_reducible exact ih0 _ _)
      | (with_reducible exact ih1 _ _ _ _)
      | (with_reducible exact LeO.refl _)
      | (with_reducible exact LeO.none _)
      | (with_reducible refine LeO.ite ?_ ?_)
      | (with_reducible refine LeO.bind ?_ (fun _ => ?_))
      | exact ih0 _ _
      | exact ih1 _ _ _ _
      | exact LeO.none _
      | refine LeO.ite ?_ ?_
      | refine LeO.bind ?_ (fun _ => ?_)
    · intro y0 y1 y2 y3
      unfold chancellaw12_FrameWraps.j1
      repeat' first
      | (with_reducible exact ih0 _ _)
      | (with_reducible exact ih1 _ _ _ _)
      | (with_reducible exact LeO.refl _)
      | (with_reducible exact LeO.none _)
      | (with_reducible refine LeO.ite ?_ ?_)
      | (with_reducible refine LeO.bind ?_ (fun _ => ?_))
      | exact ih0 _ _
      | exact ih1 _ _ _ _
      | exact LeO.none _
      | refine LeO.ite ?_ ?_
      | refine LeO.bind ?_ (fun _ => ?_)
theorem chancellaw12_FrameWraps.mono : ∀ a0 k, LeO (chancellaw12_FrameWraps.f k a0) (chancellaw12_FrameWraps.f (k + 1) a0) := by
  intro a0 k
  obtain ⟨ih0, ih1⟩ := chancellaw12_FrameWraps.mono_l k
  unfold chancellaw12_FrameWraps.f
  repeat' first
      | (with_reducible exact ih0 _ _)
      | (with_reducible exact ih1 _ _ _ _)
      | (with_reducible exact LeO.refl _)
      | (with_reducible exact LeO.none _)
      | (with_reducible refine LeO.ite ?_ ?_)
      | (with_reducible refine LeO.bind ?_ (fun _ => ?_))
      | exact ih0 _ _
      | exact ih1 _ _ _ _
      | exact LeO.none _
      | refine LeO.ite ?_ ?_
      | refine LeO.bind ?_ (fun _ => ?_)
set_option maxHeartbeats 8000000 in
set_option maxRecDepth 100000 in
theorem chancellaw12_FrameWraps.calls (k : Nat) (a0 : ByteArray) (r : Bool) (w : World) (h : chancellaw12_FrameWraps.f k a0 = some r) :
    Calls Try.prog 5 #[.string a0] w fun e w' => e = .returned (.bool r) ∧ Below w.heap.size w w' := by
  have HB := Aside0.mk (Below.refl w.heap.size w)
  have H : ((frame_Wrap.f (⟨#[97, 98]⟩ : ByteArray)).bind fun bt104 => (if bt104.1.toList = ([0, 2, 97, 98] : List UInt8) then (chancellaw12_FrameWraps.j0 k a0 (!bt104.2)) else (chancellaw12_FrameWraps.j0 k a0 true))) = some r := h
  clear h
  replace H := Option.bind_eq_some_iff.mp H
  obtain ⟨⟨t104, t105⟩, A20, H⟩ := H
  replace H : (if t104.toList = ([0, 2, 97, 98] : List UInt8) then (chancellaw12_FrameWraps.j0 k a0 (!t105)) else (chancellaw12_FrameWraps.j0 k a0 true)) = some r := H
  have A2 := Aside0.mk A20
  clear A20
  have HC3 := Aside0.mk H
  clear H
  go_enter Try.func5, Try.ntmps5
  go_upto_region 2 with (first | ((with_reducible refine gate_callee (f := 10) rfl ?_); refine goesL_ (some 13) rfl rfl Try.func10 (by kernel_rfl) rfl #[.string (⟨#[97, 98]⟩ : ByteArray)] rfl (by (try simp only [List.map_toArray, List.map_cons, List.map_nil]); first | done | rfl | (simp only [List.length_drop, List.length_take]; rfl)) ?_; (with_reducible refine (frame_Wrap.calls (⟨#[97, 98]⟩ : ByteArray) t104 t105 _ A2.out).mono ?_); rintro e w4 ⟨rfl, hb⟩; refine ⟨_, rfl, ?_⟩; have n0_ := Aside0.mk (below_step (by repeat (first | (with_reducible first | exact HB.out | apply below_alloc | apply pw_below_drewN | apply below_drew1) | exact HB.out)) hb); clear HB; have HB := n0_; clear n0_; (try clear hb); (try clear hb2); (try clear hk); (try clear hi)))
  (try simp only [Act.put, List.setIfInBounds_toArray, List.set_cons_zero, List.set_cons_succ])
  go_cut [21] (fun v21 wc => ∃ (kq : Nat) (x21_2 : Bool), v21 = .bool x21_2 ∧ Aside0 (chancellaw12_FrameWraps.j0 kq a0 x21_2 = some r) ∧ Aside0 (kq ≤ k) ∧ Aside0 (Below w.heap.size w wc))
  case first =>
    have H := HC3.out
    clear HC3
    by_cases c5 : t104.toList = ([0, 2, 97, 98] : List UInt8)
    · rw [if_pos c5] at H
      have c5b0 : (t104.toList == ([0, 2, 97, 98] : List UInt8)) = true := beq_iff_eq.mpr c5
      have c5b1 : (t104.toList != ([0, 2, 97, 98] : List UInt8)) = false := bne_eq_false_iff_eq.mpr c5
      clear c5
      (first | rw [c5b0] | (simp only [i64_w, i32_w]; rw [c5b0]) | skip)
      have H' := Aside0.mk H
      clear H
      go_wp2
      go_meet
      case rel => exact ⟨_, (!t105), (by first | rfl | (simp; done) | (simp [*]; done)), H', ⟨by first | omega | exact Nat.le_refl _⟩, ⟨by repeat (first | (with_reducible first | exact HB.out | apply below_alloc | apply pw_below_drewN | apply below_drew1) | exact HB.out)⟩⟩
    · rw [if_neg c5] at H
      have c5b0 : (t104.toList == ([0, 2, 97, 98] : List UInt8)) = false := beq_eq_false_iff_ne.mpr c5
      have c5b1 : (t104.toList != ([0, 2, 97, 98] : List UInt8)) = true := bne_iff_ne.mpr c5
      (first | rw [c5b0] | (simp only [i64_w, i32_w]; rw [c5b0]) | skip)
      have H' := Aside0.mk H
      clear H
      go_wp2
      go_meet
      case rel => exact ⟨_, (true), (by first | rfl | (simp; done) | (simp [*]; done)), H', ⟨by first | omega | exact Nat.le_refl _⟩, ⟨by repeat (first | (with_reducible first | exact HB.out | apply below_alloc | apply pw_below_drewN | apply below_drew1) | exact HB.out)⟩⟩
  case rest =>
    clear HC3
    try clear c1
    try clear p2
    try clear c5
    try clear c5b0
    try clear c5b1
    obtain ⟨kq, x21_2, rfl, HA, HJ2, HB⟩ := hcut
    cases kq with
    | zero => exact absurd HA.out (by simp [chancellaw12_FrameWraps.j0])
    | succ kj2 =>
      have H := HA.out
      clear HA
      simp only [chancellaw12_FrameWraps.j0] at H
      by_cases c6 : x21_2 = true
      · subst c6
        have H1 : (some false) = some r := by rw [if_pos rfl] at H; exact H
        clear H
        have H := H1
        clear H1
        obtain rfl := Option.some.inj H
        go_wp2
        go_ret
        exact ⟨by first | rfl | (simp [errW_none, errW_some] <;> rfl) | (simp [*, errW_none, errW_some] <;> rfl), by repeat (first | (with_reducible first | exact HB.out | apply below_alloc | apply pw_below_drewN | apply below_drew1) | exact HB.out)⟩
      · replace c6 := Bool.eq_false_iff.mpr c6
        subst c6
        have H1 : ((frame_Wrap.f a0).bind fun bt106 => ((chancelref12_Wrap.f a0).bind fun bt108 => (if bt106.1.toList = bt108.1.toList then (chancellaw12_FrameWraps.j1 kj2 a0 bt106.1 bt106.2 (bt106.2 != bt108.2)) else (chancellaw12_FrameWraps.j1 kj2 a0 bt106.1 bt106.2 true)))) = some r := by rw [if_neg (show ¬ (false = true) by decide)] at H; exact H
        clear H
        have H := H1
        clear H1
        replace H := Option.bind_eq_some_iff.mp H
        obtain ⟨⟨t106, t107⟩, A70, H⟩ := H
        replace H : ((chancelref12_Wrap.f a0).bind fun bt108 => (if t106.toList = bt108.1.toList then (chancellaw12_FrameWraps.j1 kj2 a0 t106 t107 (t107 != bt108.2)) else (chancellaw12_FrameWraps.j1 kj2 a0 t106 t107 true))) = some r := H
        have A7 := Aside0.mk A70
        clear A70
        replace H := Option.bind_eq_some_iff.mp H
        obtain ⟨⟨t108, t109⟩, A80, H⟩ := H
        replace H : (if t106.toList = t108.toList then (chancellaw12_FrameWraps.j1 kj2 a0 t106 t107 (t107 != t109)) else (chancellaw12_FrameWraps.j1 kj2 a0 t106 t107 true)) = some r := H
        have A8 := Aside0.mk A80
        clear A80
        have HC9 := Aside0.mk H
        clear H
        go_upto_region 6 with (first | ((with_reducible refine gate_callee (f := 10) rfl ?_); refine goesL_ (some 24) rfl rfl Try.func10 (by kernel_rfl) rfl #[.string a0] rfl (by (try simp only [List.map_toArray, List.map_cons, List.map_nil]); first | done | rfl | (simp only [List.length_drop, List.length_take]; rfl)) ?_; (with_reducible refine (frame_Wrap.calls a0 t106 t107 _ A7.out).mono ?_); rintro e w10 ⟨rfl, hb⟩; refine ⟨_, rfl, ?_⟩; have n0_ := Aside0.mk (below_step (by repeat (first | (with_reducible first | exact HB.out | apply below_alloc | apply pw_below_drewN | apply below_drew1) | exact HB.out)) hb); clear HB; have HB := n0_; clear n0_; (try clear hb); (try clear hb2); (try clear hk); (try clear hi)) | ((with_reducible refine gate_callee (f := 11) rfl ?_); refine goesL_ (some 29) rfl rfl Try.func11 (by kernel_rfl) rfl #[.string a0] rfl (by (try simp only [List.map_toArray, List.map_cons, List.map_nil]); first | done | rfl | (simp only [List.length_drop, List.length_take]; rfl)) ?_; (with_reducible refine (chancelref12_Wrap.calls a0 t108 t109 _ A8.out).mono ?_); rintro e w11 ⟨rfl, hb⟩; refine ⟨_, rfl, ?_⟩; have n0_ := Aside0.mk (below_step (by repeat (first | (with_reducible first | exact HB.out | apply below_alloc | apply pw_below_drewN | apply below_drew1) | exact HB.out)) hb); clear HB; have HB := n0_; clear n0_; (try clear hb); (try clear hb2); (try clear hk); (try clear hi)))
        (try simp only [Act.put, List.setIfInBounds_toArray, List.set_cons_zero, List.set_cons_succ])
        go_cut [39] (fun v39 wc => ∃ (kq : Nat) (x39_8 : Bool), v39 = .bool x39_8 ∧ Aside0 (chancellaw12_FrameWraps.j1 kq a0 t106 t107 x39_8 = some r) ∧ Aside0 (kq ≤ kj2) ∧ Aside0 (Below w.heap.size w wc))
        case first =>
          have H := HC9.out
          clear HC9
          by_cases c12 : t106.toList = t108.toList
          · rw [if_pos c12] at H
            have c12b0 : (t106.toList == t108.toList) = true := beq_iff_eq.mpr c12
            have c12b1 : (t106.toList != t108.toList) = false := bne_eq_false_iff_eq.mpr c12
            clear c12
            (first | rw [c12b0] | (simp only [i64_w, i32_w]; rw [c12b0]) | skip)
            have H' := Aside0.mk H
            clear H
            go_wp2
            go_meet
            case rel => exact ⟨_, ((t107 != t109)), (by first | rfl | (simp; done) | (simp [*]; done)), H', ⟨by have := HJ2.out; first | omega | exact Nat.le_refl _⟩, ⟨by repeat (first | (with_reducible first | exact HB.out | apply below_alloc | apply pw_below_drewN | apply below_drew1) | exact HB.out)⟩⟩
          · rw [if_neg c12] at H
            have c12b0 : (t106.toList == t108.toList) = false := beq_eq_false_iff_ne.mpr c12
            have c12b1 : (t106.toList != t108.toList) = true := bne_iff_ne.mpr c12
            (first | rw [c12b0] | (simp only [i64_w, i32_w]; rw [c12b0]) | skip)
            have H' := Aside0.mk H
            clear H
            go_wp2
            go_meet
            case rel => exact ⟨_, (true), (by first | rfl | (simp; done) | (simp [*]; done)), H', ⟨by have := HJ2.out; first | omega | exact Nat.le_refl _⟩, ⟨by repeat (first | (with_reducible first | exact HB.out | apply below_alloc | apply pw_below_drewN | apply below_drew1) | exact HB.out)⟩⟩
        case rest =>
          clear HC9
          try clear c1
          try clear p2
          try clear c5
          try clear c5b0
          try clear c5b1
          try clear c6
          try clear c10
          try clear c11
          try clear c12
          try clear c12b0
          try clear c12b1
          try clear p2
          obtain ⟨kq, x39_8, rfl, HA, HJ8, HB⟩ := hcut
          cases kq with
          | zero => exact absurd HA.out (by simp [chancellaw12_FrameWraps.j1])
          | succ kj8 =>
            have H := HA.out
            clear HA
            simp only [chancellaw12_FrameWraps.j1] at H
            by_cases c13 : x39_8 = true
            · subst c13
              have H1 : (some false) = some r := by rw [if_pos rfl] at H; exact H
              clear H
              have H := H1
              clear H1
              obtain rfl := Option.some.inj H
              go_wp2
              go_ret
              exact ⟨by first | rfl | (simp [errW_none, errW_some] <;> rfl) | (simp [*, errW_none, errW_some] <;> rfl), by repeat (first | (with_reducible first | exact HB.out | apply below_alloc | apply pw_below_drewN | apply below_drew1) | exact HB.out)⟩
            · replace c13 := Bool.eq_false_iff.mpr c13
              subst c13
              have H1 : (if t107 = true then ((frame_Split.f t106 65535).bind fun bt110 => (if bt110.2.2 = true then (if bt110.2.1.toList = ([] : List UInt8) then (if (bt110.1.length : Int) = 1 then (if 0 < (bt110.1.length : Int) then (some ((rdOf ByteArray.empty bt110.1 0).toList == a0.toList)) else (none)) else (some false)) else (some false)) else (some false))) else (some true)) = some r := by rw [if_neg (show ¬ (false = true) by decide)] at H; exact H
              clear H
              have H := H1
              clear H1
              by_cases c14 : t107 = true
              · subst c14
                have H1 : ((frame_Split.f t106 65535).bind fun bt110 => (if bt110.2.2 = true then (if bt110.2.1.toList = ([] : List UInt8) then (if (bt110.1.length : Int) = 1 then (if 0 < (bt110.1.length : Int) then (some ((rdOf ByteArray.empty bt110.1 0).toList == a0.toList)) else (none)) else (some false)) else (some false)) else (some false))) = some r := by rw [if_pos rfl] at H; exact H
                clear H
                have H := H1
                clear H1
                replace H := Option.bind_eq_some_iff.mp H
                obtain ⟨⟨t110, t111, t112⟩, A150, H⟩ := H
                replace H : (if t112 = true then (if t111.toList = ([] : List UInt8) then (if (t110.length : Int) = 1 then (if 0 < (t110.length : Int) then (some ((rdOf ByteArray.empty t110 0).toList == a0.toList)) else (none)) else (some false)) else (some false)) else (some false)) = some r := H
                have A15 := Aside0.mk A150
                clear A150
                by_cases c16 : t112 = true
                · subst c16
                  have H1 : (if t111.toList = ([] : List UInt8) then (if (t110.length : Int) = 1 then (if 0 < (t110.length : Int) then (some ((rdOf ByteArray.empty t110 0).toList == a0.toList)) else (none)) else (some false)) else (some false)) = some r := by rw [if_pos rfl] at H; exact H
                  clear H
                  have H := H1
                  clear H1
                  by_cases c17 : t111.toList = ([] : List UInt8)
                  · rw [if_pos c17] at H
                    have c17b0 : (t111.toList == ([] : List UInt8)) = true := beq_iff_eq.mpr c17
                    have c17b1 : (t111.toList != ([] : List UInt8)) = false := bne_eq_false_iff_eq.mpr c17
                    clear c17
                    by_cases c18 : (t110.length : Int) = 1
                    · rw [if_pos c18] at H
                      have c18b0 : ((t110.length : Int) == 1) = true := beq_iff_eq.mpr c18
                      have c18b1 : ((t110.length : Int) != 1) = false := bne_eq_false_iff_eq.mpr c18
                      clear c18
                      by_cases c19 : 0 < (t110.length : Int)
                      · rw [if_pos c19] at H
                        have c19b0 : decide (0 < (t110.length : Int)) = true := decide_eq_true c19
                        have c19b1 : decide (0 < t110.length) = true := decide_eq_true (by omega)
                        clear c19
                        obtain rfl := Option.some.inj H
                        go_wp2_with (first | ((with_reducible refine gate_callee (f := 7) rfl ?_); refine goesL_ (some 44) rfl rfl Try.func7 (by kernel_rfl) rfl #[.string t106, .int .i64 65535] rfl (by (try simp only [List.map_toArray, List.map_cons, List.map_nil]); first | done | rfl | (simp only [List.length_drop, List.length_take]; rfl)) ?_; (with_reducible refine (frame_Split.calls t106 65535 t110 t111 true _ A15.out).mono ?_); rintro e w20 ⟨v113, rfl, ho0, hb⟩; refine ⟨_, rfl, ?_⟩; have n0_ := Aside0.mk (Kd.R_lower ho0 (below_size (by repeat (first | (with_reducible first | exact HB.out | apply below_alloc | apply pw_below_drewN | apply below_drew1) | exact HB.out)))); have n1_ := Aside0.mk (below_step (by repeat (first | (with_reducible first | exact HB.out | apply below_alloc | apply pw_below_drewN | apply below_drew1) | exact HB.out)) hb); clear HB; have HO114 := n0_; have HB := n1_; clear n0_ n1_; (try clear hb); (try clear hb2); (try clear hk); (try clear hi); (try clear ho0); obtain ⟨Ao21, co21, eo21⟩ := Kd.R_slice HO114.out; subst eo21; have p115 : 0 ≤ (0 : Int) := (by omega); have q115 : 0 < (t110.length : Int) := of_decide_eq_true (by first | (with_reducible assumption) | assumption); obtain ⟨ad115, e115, hx115_0⟩ := Kd.at_string (Kd.R_reads' HO114.out).2.2 0 p115 q115; cases e115; have qi115 : (0 < t110.length) = True := eq_true (by omega); (try rw [show ((0 : Int)).toNat = 0 from rfl] at hx115_0); (try rw [Addr.add_zero'] at hx115_0); replace p115 := eq_true p115; replace q115 := eq_true q115))
                        go_ret
                        exact ⟨by first | rfl | (simp [errW_none, errW_some] <;> rfl) | (simp [*, errW_none, errW_some] <;> rfl), by repeat (first | (with_reducible first | exact HB.out | apply below_alloc | apply pw_below_drewN | apply below_drew1) | exact HB.out)⟩
                      · rw [if_neg c19] at H
                        exact absurd H (by simp)
                    · rw [if_neg c18] at H
                      have c18b0 : ((t110.length : Int) == 1) = false := beq_eq_false_iff_ne.mpr c18
                      have c18b1 : ((t110.length : Int) != 1) = true := bne_iff_ne.mpr c18
                      obtain rfl := Option.some.inj H
                      go_wp2_with (first | ((with_reducible refine gate_callee (f := 7) rfl ?_); refine goesL_ (some 44) rfl rfl Try.func7 (by kernel_rfl) rfl #[.string t106, .int .i64 65535] rfl (by (try simp only [List.map_toArray, List.map_cons, List.map_nil]); first | done | rfl | (simp only [List.length_drop, List.length_take]; rfl)) ?_; (with_reducible refine (frame_Split.calls t106 65535 t110 t111 true _ A15.out).mono ?_); rintro e w22 ⟨v113, rfl, ho0, hb⟩; refine ⟨_, rfl, ?_⟩; have n0_ := Aside0.mk (Kd.R_lower ho0 (below_size (by repeat (first | (with_reducible first | exact HB.out | apply below_alloc | apply pw_below_drewN | apply below_drew1) | exact HB.out)))); have n1_ := Aside0.mk (below_step (by repeat (first | (with_reducible first | exact HB.out | apply below_alloc | apply pw_below_drewN | apply below_drew1) | exact HB.out)) hb); clear HB; have HO114 := n0_; have HB := n1_; clear n0_ n1_; (try clear hb); (try clear hb2); (try clear hk); (try clear hi); (try clear ho0); obtain ⟨Ao23, co23, eo23⟩ := Kd.R_slice HO114.out; subst eo23))
                      go_ret
                      exact ⟨by first | rfl | (simp [errW_none, errW_some] <;> rfl) | (simp [*, errW_none, errW_some] <;> rfl), by repeat (first | (with_reducible first | exact HB.out | apply below_alloc | apply pw_below_drewN | apply below_drew1) | exact HB.out)⟩
                  · rw [if_neg c17] at H
                    have c17b0 : (t111.toList == ([] : List UInt8)) = false := beq_eq_false_iff_ne.mpr c17
                    have c17b1 : (t111.toList != ([] : List UInt8)) = true := bne_iff_ne.mpr c17
                    obtain rfl := Option.some.inj H
                    go_wp2_with (first | ((with_reducible refine gate_callee (f := 7) rfl ?_); refine goesL_ (some 44) rfl rfl Try.func7 (by kernel_rfl) rfl #[.string t106, .int .i64 65535] rfl (by (try simp only [List.map_toArray, List.map_cons, List.map_nil]); first | done | rfl | (simp only [List.length_drop, List.length_take]; rfl)) ?_; (with_reducible refine (frame_Split.calls t106 65535 t110 t111 true _ A15.out).mono ?_); rintro e w24 ⟨v113, rfl, ho0, hb⟩; refine ⟨_, rfl, ?_⟩; have n0_ := Aside0.mk (Kd.R_lower ho0 (below_size (by repeat (first | (with_reducible first | exact HB.out | apply below_alloc | apply pw_below_drewN | apply below_drew1) | exact HB.out)))); have n1_ := Aside0.mk (below_step (by repeat (first | (with_reducible first | exact HB.out | apply below_alloc | apply pw_below_drewN | apply below_drew1) | exact HB.out)) hb); clear HB; have HO114 := n0_; have HB := n1_; clear n0_ n1_; (try clear hb); (try clear hb2); (try clear hk); (try clear hi); (try clear ho0)))
                    go_ret
                    exact ⟨by first | rfl | (simp [errW_none, errW_some] <;> rfl) | (simp [*, errW_none, errW_some] <;> rfl), by repeat (first | (with_reducible first | exact HB.out | apply below_alloc | apply pw_below_drewN | apply below_drew1) | exact HB.out)⟩
                · replace c16 := Bool.eq_false_iff.mpr c16
                  subst c16
                  have H1 : (some false) = some r := by rw [if_neg (show ¬ (false = true) by decide)] at H; exact H
                  clear H
                  have H := H1
                  clear H1
                  obtain rfl := Option.some.inj H
                  go_wp2_with (first | ((with_reducible refine gate_callee (f := 7) rfl ?_); refine goesL_ (some 44) rfl rfl Try.func7 (by kernel_rfl) rfl #[.string t106, .int .i64 65535] rfl (by (try simp only [List.map_toArray, List.map_cons, List.map_nil]); first | done | rfl | (simp only [List.length_drop, List.length_take]; rfl)) ?_; (with_reducible refine (frame_Split.calls t106 65535 t110 t111 false _ A15.out).mono ?_); rintro e w25 ⟨v113, rfl, ho0, hb⟩; refine ⟨_, rfl, ?_⟩; have n0_ := Aside0.mk (Kd.R_lower ho0 (below_size (by repeat (first | (with_reducible first | exact HB.out | apply below_alloc | apply pw_below_drewN | apply below_drew1) | exact HB.out)))); have n1_ := Aside0.mk (below_step (by repeat (first | (with_reducible first | exact HB.out | apply below_alloc | apply pw_below_drewN | apply below_drew1) | exact HB.out)) hb); clear HB; have HO114 := n0_; have HB := n1_; clear n0_ n1_; (try clear hb); (try clear hb2); (try clear hk); (try clear hi); (try clear ho0)))
                  go_ret
                  exact ⟨by first | rfl | (simp [errW_none, errW_some] <;> rfl) | (simp [*, errW_none, errW_some] <;> rfl), by repeat (first | (with_reducible first | exact HB.out | apply below_alloc | apply pw_below_drewN | apply below_drew1) | exact HB.out)⟩
              · replace c14 := Bool.eq_false_iff.mpr c14
                subst c14
                have H1 : (some true) = some r := by rw [if_neg (show ¬ (false = true) by decide)] at H; exact H
                clear H
                have H := H1
                clear H1
                obtain rfl := Option.some.inj H
                go_wp2
                go_ret
                exact ⟨by first | rfl | (simp [errW_none, errW_some] <;> rfl) | (simp [*, errW_none, errW_some] <;> rfl), by repeat (first | (with_reducible first | exact HB.out | apply below_alloc | apply pw_below_drewN | apply below_drew1) | exact HB.out)⟩

/-- THE ONE PURE STATEMENT of chancellaw12_FrameWraps: yours. -/
def chancellaw12_FrameWraps.Pure : Prop := ∀ (a0 : ByteArray), a0.size ≤ 140737488351232 → ∃ k, chancellaw12_FrameWraps.f k a0 = some true
theorem chancellaw12_FrameWraps.walk (P : chancellaw12_FrameWraps.Pure) (a0 : ByteArray) (w : World) (w0 : a0.size ≤ 140737488351232) :
    Calls Try.prog 5 #[.string a0] w fun e w' => e = .returned (.bool true) ∧ Below w.heap.size w w' := by
  obtain ⟨k, h⟩ := P a0 w0
  refine (chancellaw12_FrameWraps.calls k a0 true w h).mono ?_
  rintro e w' ⟨rfl, hd⟩
  exact ⟨rfl, hd⟩

end Go.Proofs.Ytiipapndmjbciaa.AFrameWraps
