/- ledger.Append on a disk that stays on: what it answers and leaves. Over the program alone. -/
import Derived.Test.YtfjbpjndjcinhaaDoorLo
import Derived.Test.YtfjbpjndjcinhaaDoorAp
import Derived.Deep.DeepCutAuto
import Derived.Deep.CutBlock
namespace Go.Proofs.YtfjbpjndjcinhaaDoor.Lg
open Go Go.RowKit Go.Proofs.YtfjbpjndjcinhaaDoor.Mp Go.Proofs.YtfjbpjndjcinhaaDoor.Rg Go.Proofs.YtfjbpjndjcinhaaDoor.Dk Go.Proofs.YtfjbpjndjcinhaaDoor.Pr Go.Proofs.YtfjbpjndjcinhaaDoorW.PrintWords Go.Proofs.YtfjbpjndjcinhaaDoorW.PrintMore Go.Proofs.YtfjbpjndjcinhaaDoorW.PrintLast
set_option linter.unusedVariables false
set_option linter.unusedSimpArgs false
attribute [local go_sem] max2_int min2_int
theorem chunk_eq {q : List UInt8} {rest : ByteArray} {j : Nat} (h : bl rest = q.drop (127 * j)) (n : Nat) (hn : n = min rest.size 127) : bl (full (⟨#[66]⟩ ++ rest.extract 0 n)) = plateB q (j + 1) ∧ (⟨#[66]⟩ ++ rest.extract 0 n : ByteArray).size ≤ 128 ∧ bl (rest.extract n rest.size) = q.drop (127 * (j + 1)) := by
  have h1 : bl (rest.extract 0 n) = (q.drop (127 * j)).take 127 := by
    rw [← h]
    unfold bl
    simp only [ByteArray.data_extract, Array.toList_extract, List.extract_eq_take_drop, List.drop_zero, Nat.sub_zero]
    have hl : rest.data.toList.length = rest.size := by simp
    rw [hn]
    rcases Nat.le_total rest.size 127 with hh | hh
    · rw [Nat.min_eq_left hh, List.take_of_length_le (by omega), List.take_of_length_le (by omega)]
    · rw [Nat.min_eq_right hh]
  have h2 : bl (⟨#[66]⟩ ++ rest.extract 0 n : ByteArray) = 66 :: (q.drop (127 * j)).take 127 := by
    rw [bl_append, h1]
    rfl
  refine ⟨by rw [bl_full, h2]; unfold plateB; rw [Nat.add_sub_cancel], by rw [← bl_size, h2, List.length_cons, List.length_take]; omega, ?_⟩
  have h3 : bl (rest.extract n rest.size) = (bl rest).drop n := by
    unfold bl
    simp only [ByteArray.data_extract, Array.toList_extract, List.extract_eq_take_drop]
    rw [List.take_of_length_le]
    rw [List.length_drop]
    simp
  rw [h3, h, List.drop_drop]
  have hl : rest.size = (q.drop (127 * j)).length := by rw [← h, bl_size]
  rw [List.length_drop] at hl
  rcases Nat.le_total rest.size 127 with hh | hh
  · rw [hn, Nat.min_eq_left hh, List.drop_of_length_le (by omega), List.drop_of_length_le (by omega)]
  · rw [hn, Nat.min_eq_right hh]
    congr 1
set_option maxRecDepth 100000 in
set_option maxHeartbeats 8000000 in
theorem append_any {ok : Nat → Prop} {w : World} {lb p first n a m r N : Nat} {s : St} (h : Led w lb p first n a m r) (ho : One ok w p s) (hlb : ¬ ok lb) (hg : Good s N) (hl : s.loose = []) (rec : ByteArray) (h1 : 1 ≤ rec.size) (h2 : rec.size ≤ 65535) (hn : 2 ≤ n) (hn2 : n ≤ 1000) (hf : first + n ≤ N) (hN : N ≤ 16384) (ha : a < n) (hk : kOf rec.size ≤ r) (hr : r ≤ n) (hm : m < great) :
    Calls Tryd.prog 13 #[.pointer (some ⟨lb, 0, none⟩), .string rec] w fun e w' => ∃ t, e = .returned (.int .i64 0) ∧ One ok w' p t ∧ Good t N ∧ t.loose = [] ∧ Laid (fun i => s.now ((first + i : Nat) : Int)) (fun i => t.now ((first + i : Nat) : Int)) n a m (bl rec) ∧ Led w' lb p first n ((a + kOf rec.size) % n) (m + 1) (r - kOf rec.size) ∧ Turn (fun k => ok k ∨ k = lb) w w' := by
  obtain ⟨c0, c1, c2, c3, c4, c5⟩ := h.cells
  have hOn : Calls Tryd.prog 20 #[.pointer (some ⟨p, 0, none⟩)] w fun e w' => e = .returned (.bool true) ∧ w' = w := by
    obtain ⟨own, hd, _⟩ := ho
    have := on_any hd
    rw [hg.off] at this
    exact this
  have HON := Aside0.mk hOn
  have HPL := Aside0.mk (fun W => plates_any rec W h1 h2)
  obtain ⟨kk, hkk⟩ : ∃ kk, kk = kOf rec.size := ⟨_, rfl⟩
  rw [← hkk] at HPL hk ⊢
  have hk1 : 2 ≤ kk := by rw [hkk]; exact kOf_two h1
  have hk2 : kk ≤ 600 := by rw [hkk]; unfold kOf; omega
  have HKK := Aside0.mk hkk
  have HL := Aside0.mk h
  have HO := Aside0.mk ho
  have HG := Aside0.mk hg
  have HLO := Aside0.mk hl
  have HLB := Aside0.mk hlb
  have HM := Aside0.mk hm
  unfold great at hm
  have b1 : ((kk : Int) == 0) = false := by simp; omega
  have b2 : decide ((r : Int) < (kk : Int)) = false := decide_eq_false (by omega)
  have b2n : decide (r < kk) = false := decide_eq_false (by omega)
  have b3 : decide (1099511627776 ≤ (m : Int)) = false := decide_eq_false (by omega)
  clear h ho hg hl hlb hOn hkk
  go_enter Tryd.func13, Tryd.ntmps13
  go_wp2_with (first
    | (go_at_call 20; (with_reducible refine HON.out.mono ?_); rintro e w' ⟨rfl, hw⟩; have HW := Aside0.mk hw; clear hw)
    | (go_at_call 24; (with_reducible refine (HPL.out _).mono ?_); rintro e w2 ⟨rfl, hd⟩; have HB := Aside0.mk (show Below w.heap.size w w2 by have := hd.below; rw [HW.out] at this; exact this); obtain ⟨c0, c1, c2, c3, c4, c5⟩ := (HL.out.below HB.out).cells; clear hd))
  have HB0 := Aside0.mk (Turn.of_below (own := fun k => ok k ∨ k = lb) HB.out)
  have HL2 := Aside0.mk (HL.out.below HB.out)
  have HO2 := Aside0.mk (HO.out.below HB.out)
  have HMID := Aside0.mk (mid_start (first := first) (n := n) (a := a) (q := bl rec) HG.out HLO.out)
  clear HON HPL HL HO HG HLO HB b1 b2 b2n b3 c0 c1 c2 c3 c4 c5 hm
  go_loopw [6, 7] (fun v6 v7 wr => ∃ (i : Nat) (rest : ByteArray) (t : St), v6 = .int .i64 (i : Int) ∧ v7 = .string rest ∧ 1 ≤ i ∧ i ≤ kk ∧ Aside0 (bl rest = (bl rec).drop (127 * (i - 1))) ∧ Aside0 (Mid s t N first n a (bl rec) (i - 1)) ∧ Aside0 (One ok wr p t) ∧ Aside0 (Led wr lb p first n a m r) ∧ Aside0 (Turn (fun k => ok k ∨ k = lb) w wr)) (fun v6 _ _ => kk - (intOf v6).toNat)
  case atStart => exact ⟨1, rec, s, rfl, rfl, Nat.le_refl _, by omega, ⟨rfl⟩, HMID, HO2, HL2, HB0⟩
  case round =>
    clear HMID HO2 HL2 HB0
    obtain ⟨i, rest, t, rfl, rfl, hi1, hik, HRS, HMID, HO2, HL2, HB0⟩ := hrel
    by_cases hlt : i < kk
    case pos =>
      have b1 : decide ((i : Int) < (kk : Int)) = true := decide_eq_true (by omega)
      have b1n : decide (i < kk) = true := decide_eq_true hlt
      obtain ⟨c0, c1, c2, c3, c4, c5⟩ := HL2.out.cells
      go_upto_region 12 with (fail)
      obtain ⟨nn, hnn⟩ : ∃ nn, nn = min rest.size 127 := ⟨_, rfl⟩
      have emin : min (rest.size : Int) 127 = (nn : Int) := by omega
      rw [emin]
      obtain ⟨k1, k2, k3⟩ := chunk_eq HRS.out nn hnn
      obtain ⟨X, hX⟩ : ∃ X : ByteArray, X = ⟨#[66]⟩ ++ rest.extract 0 nn := ⟨_, rfl⟩
      rw [← hX] at k1 k2
      obtain ⟨q, hq⟩ : ∃ q : Nat, q = (a + i) % n := ⟨_, rfl⟩
      have hqn : q < n := by rw [hq]; exact Nat.mod_lt _ (by omega)
      have hok1 : (t.lay ((first + (a + (i - 1 + 1)) % n : Nat) : Int) X).1.Ok := St.lay_ok HMID.out.good.ok _ _
      obtain ⟨g1, g2⟩ := mid_step HMID.out (by omega) hf (by omega) k2 k1 hok1
      rw [show i - 1 + 1 = i by omega, ← hq] at g1 g2
      obtain ⟨t', ht'⟩ : ∃ t', t' = (t.lay ((first + q : Nat) : Int) X).1 := ⟨_, rfl⟩
      rw [← ht'] at g2
      have HLAY := Aside0.mk (fun W (hW : One ok W p t) => (show Calls Tryd.prog 7 #[.pointer (some ⟨p, 0, none⟩), .int .i64 ((first : Int) + (q : Int)), .string (⟨#[66]⟩ ++ rest.extract 0 nn)] W fun e w' => e = .returned (.bool true) ∧ One ok w' p t' ∧ Turn ok W w' by
        have := hW.lay ((first + q : Nat) : Int) X (le_of_short HMID.out.short (by omega))
        rw [g1, ← ht', hX] at this
        exact this))
      have HM2 := Aside0.mk g2
      have HK3 := Aside0.mk k3
      have s1 : IntKind.i64.wrap ((a : Int) + (i : Int)) = (a : Int) + (i : Int) := IntWalk.i64_in _ (by omega)
      have s2 : Int.tmod ((a : Int) + (i : Int)) (n : Int) = (q : Int) := by rw [hq]; rfl
      have s3 : ¬ n = 0 := by omega
      have s4 : IntKind.i64.wrap ((first : Int) + (q : Int)) = (first : Int) + (q : Int) := IntWalk.i64_in _ (by omega)
      have z1 : (0 ≤ (nn : Int)) = True := eq_true (by omega)
      have z2 : ((nn : Int) ≤ (rest.size : Int)) = True := eq_true (by omega)
      have z3 : (nn ≤ rest.size) = True := eq_true (by omega)
      have z6 : (9223372036854775807 < 1 + nn) = False := eq_false (by omega)
      have z7 : (9223372036854775807 < 1 + min nn rest.size) = False := eq_false (by omega)
      have HI := Aside0.mk hlt
      clear emin hnn k1 k2 k3 hX hq hok1 g1 g2 ht' b1 b1n
      go_region_held3 (fun w' => w'.cell? ⟨lb, 0, none⟩ = some (.pointer (some ⟨p, 0, none⟩)) ∧ w'.cell? ⟨lb, 1, none⟩ = some (.int .i64 (first : Int)) ∧ w'.cell? ⟨lb, 2, none⟩ = some (.int .i64 (n : Int)) ∧ w'.cell? ⟨lb, 3, none⟩ = some (.int .i64 (a : Int))) (first | exact ⟨c0, c1, c2, c3⟩ | exact ⟨d0, d1, d2, d3⟩) (first
        | (go_at_call 7; (with_reducible refine (HLAY.out _ (HO2.out.below (below_drew (Below.refl _ _)))).mono ?_); rintro e w4 ⟨rfl, ho, hT⟩; have HO4 := Aside0.mk ho; have HL4 := Aside0.mk (HL2.out.drew.turn hT HLB.out); have HT4 := Aside0.mk (HB0.out.then ((Turn.refl (fun k => ok k ∨ k = lb) wr).drew.then (hT.mono (fun k hk => .inl hk)))); obtain ⟨d0, d1, d2, d3, _, _⟩ := HL4.out.cells; clear ho hT))
      clear s1 s2 s3 s4
      go_wp2
      go_roundw
      case measure => simp [intOf]; omega
      case rel => exact ⟨i + 1, rest.extract nn rest.size, t', by go_num, rfl, by omega, by omega, ⟨by
          rw [HK3.out]
          congr 1
          omega⟩, ⟨by rw [Nat.add_sub_cancel]; exact HM2.out⟩, HO4, HL4, HT4⟩
    case neg =>
      obtain rfl : kk = i := by omega
      have b1 : decide ((kk : Int) < (kk : Int)) = false := decide_eq_false (by omega)
      have hks : kk = kOf (bl rec).length := by rw [HKK.out, bl_size]
      have hmid := HMID.out
      rw [hks] at hmid
      obtain ⟨t1, ht1⟩ : ∃ t1, t1 = t.barrier.1 := ⟨_, rfl⟩
      obtain ⟨H, hH⟩ : ∃ H, H = toBA (headL m rec.size) := ⟨_, rfl⟩
      obtain ⟨t2, ht2⟩ : ∃ t2, t2 = (t1.lay ((first + a : Nat) : Int) H).1 := ⟨_, rfl⟩
      obtain ⟨t3, ht3⟩ : ∃ t3, t3 = t2.barrier.1 := ⟨_, rfl⟩
      have ok1 : t1.Ok := by rw [ht1]; exact St.barrier_ok hmid.good.ok
      have ok2 : t2.Ok := by rw [ht2]; exact St.lay_ok ok1 _ _
      have ok3 : t3.Ok := by rw [ht3]; exact St.barrier_ok ok2
      have hend := mid_end hmid (by rw [bl_size]; exact h1) (by omega) ha hf (by rw [← hks]; omega) (H := H) (m := m) (by rw [hH, bl_size]) (by rw [← ht1]; exact ok1) (by rw [← ht1, ← ht2]; exact ok2) (by rw [← ht1, ← ht2, ← ht3]; exact ok3)
      rw [← ht1, ← ht2, ← ht3] at hend
      obtain ⟨e1, e2, e3, e4, e5, e6⟩ := hend
      have hl1 : t1.loose = [] := by
        rw [ht1]
        exact (good_barrier hmid.good).2.2.2.2.1
      have HB1 := Aside0.mk (fun W (hW : One ok W p t) => (show Calls Tryd.prog 25 #[.pointer (some ⟨p, 0, none⟩)] W fun e w' => e = .returned (.bool true) ∧ One ok w' p t1 ∧ Turn ok W w' by
        have := hW.barrier
        rw [e1, ← ht1] at this
        exact this))
      have HLAY := Aside0.mk (fun W (hW : One ok W p t1) => (show Calls Tryd.prog 7 #[.pointer (some ⟨p, 0, none⟩), .int .i64 ((first : Int) + (a : Int)), .string H] W fun e w' => e = .returned (.bool true) ∧ One ok w' p t2 ∧ Turn ok W w' by
        have := hW.lay ((first + a : Nat) : Int) H (fun q hq => by rw [hl1] at hq; cases hq)
        rw [e2, ← ht2] at this
        exact this))
      have HB2 := Aside0.mk (fun W (hW : One ok W p t2) => (show Calls Tryd.prog 25 #[.pointer (some ⟨p, 0, none⟩)] W fun e w' => e = .returned (.bool true) ∧ One ok w' p t3 ∧ Turn ok W w' by
        have := hW.barrier
        rw [e3, ← ht3] at this
        exact this))
      have HH := Aside0.mk (fun W => head_any m rec W (Nat.le_of_lt HM.out) h2)
      rw [← hH] at HH
      have HP := Aside0.mk (fun W (hW : Led W lb p first n a m r) => pass_any hW rec h1 h2 (by omega) (by omega) (by omega) (Nat.le_of_lt HM.out) (by rw [← HKK.out]; exact hk) (by omega))
      have HE := Aside0.mk (And.intro e4 (And.intro e5 e6))
      have s4 : IntKind.i64.wrap ((first : Int) + (a : Int)) = (first : Int) + (a : Int) := IntWalk.i64_in _ (by omega)
      obtain ⟨c0, c1, c2, c3, c4, c5⟩ := HL2.out.cells
      clear ht1 hH ht2 ht3 ok1 ok2 ok3 e1 e2 e3 e4 e5 e6 hl1 hks hmid hik hlt
      go_upto_region 15 with (fail)
      go_region_held3 (fun w' => w'.cell? ⟨lb, 0, none⟩ = some (.pointer (some ⟨p, 0, none⟩)) ∧ w'.cell? ⟨lb, 1, none⟩ = some (.int .i64 (first : Int)) ∧ w'.cell? ⟨lb, 3, none⟩ = some (.int .i64 (a : Int)) ∧ w'.cell? ⟨lb, 4, none⟩ = some (.int .i64 (m : Int))) (first | exact ⟨c0, c1, c3, c4⟩ | exact ⟨d0, d1, d3, d4⟩ | exact ⟨f0, f1, f3, f4⟩ | exact ⟨g0, g1, g3, g4⟩ | exact ⟨h0, h1, h3, h4⟩) (first
        | (go_at_call 25; (with_reducible refine (HB1.out _ (HO2.out.below (below_drew (Below.refl _ _)))).mono ?_); rintro e w4 ⟨rfl, ho, hT⟩; have HO4 := Aside0.mk ho; have HL4 := Aside0.mk (HL2.out.drew.turn hT HLB.out); have HT4 := Aside0.mk (HB0.out.then ((Turn.refl (fun k => ok k ∨ k = lb) wr).drew.then (hT.mono (fun k hk => .inl hk)))); obtain ⟨d0, d1, d2, d3, d4, _⟩ := HL4.out.cells; clear ho hT)
        | (go_at_call 26; (with_reducible refine (HH.out _).mono ?_); rintro e w5 ⟨rfl, hb⟩; have HO5 := Aside0.mk (HO4.out.below hb); have HL5 := Aside0.mk (HL4.out.below hb); have HT5 := Aside0.mk (HT4.out.then (Turn.of_below hb)); obtain ⟨f0, f1, f2, f3, f4, _⟩ := HL5.out.cells; clear hb)
        | (go_at_call 7; (with_reducible refine (HLAY.out _ HO5.out).mono ?_); rintro e w6 ⟨rfl, ho, hT⟩; have HO6 := Aside0.mk ho; have HL6 := Aside0.mk (HL5.out.turn hT HLB.out); have HT6 := Aside0.mk (HT5.out.then (hT.mono (fun k hk => .inl hk))); obtain ⟨g0, g1, g2, g3, g4, _⟩ := HL6.out.cells; clear ho hT)
        | (go_at_call 25; (with_reducible refine (HB2.out _ HO6.out).mono ?_); rintro e w7 ⟨rfl, ho, hT⟩; have HO7 := Aside0.mk ho; have HL7 := Aside0.mk (HL6.out.turn hT HLB.out); have HT7 := Aside0.mk (HT6.out.then (hT.mono (fun k hk => .inl hk))); obtain ⟨h0, h1, h2, h3, h4, _⟩ := HL7.out.cells; clear ho hT))
      clear s4 h0 h1 h2 h3 h4
      go_wp2_with (go_at_call 23; (with_reducible refine (HP.out _ HL7.out).mono ?_); rintro e w8 ⟨rfl, hl, hT⟩; have HL8 := Aside0.mk hl; have HT8 := Aside0.mk hT; clear hl hT)
      go_ret
      rw [HKK.out]
      exact ⟨t3, rfl, HO7.out.turn HT8.out (fun k hk (e : k = lb) => HLB.out (e ▸ hk)), HE.out.1, HE.out.2.1, HE.out.2.2, HL8.out, HT7.out.then (HT8.out.mono (fun k hk => .inr hk))⟩
end Go.Proofs.YtfjbpjndjcinhaaDoor.Lg
