/- chancellaw16.PlateRuns. Over the program alone. -/
import Derived.Test.YtfjbpjndjcinhaaAc
import Derived.Deep.RegionHeld3
import Derived.Deep.DeepCutAuto
import Derived.Deep.CutBlock
namespace Go.Proofs.Ytfjbpjndjcinhaa.Dk
open Go Go.RowKit Go.Proofs.Ytfjbpjndjcinhaa.Mp Go.Proofs.Ytfjbpjndjcinhaa.Rg Go.Proofs.YtfjbpjndjcinhaaW.PrintWords Go.Proofs.YtfjbpjndjcinhaaW.PrintMore Go.Proofs.YtfjbpjndjcinhaaW.PrintLast
set_option linter.unusedVariables false
set_option linter.unusedSimpArgs false
set_option maxRecDepth 100000 in
set_option maxHeartbeats 8000000 in
theorem runs_mid (n : Int) (A : Option Addr) (l c : Nat) (w : World) (h1 : 300 < n) (h2 : n ≤ 16384) : Calls Try.prog 4 #[.int .i64 n, .slice A l c] w fun e w' => e = .returned (.bool true) ∧ Below w.heap.size w w' := by
  have HAW := Aside0.mk (awake_any w)
  have d1 : decide (300 < n) = true := decide_eq_true h1
  have d2 : decide (n ≤ 16384) = true := decide_eq_true h2
  clear h1 h2
  go_enter Try.func4, Try.ntmps4
  go_wp2_with (first
    | (go_at_call 8; (with_reducible refine HAW.out.mono ?_); rintro e w1 ⟨rfl, hb⟩; have HB := Aside0.mk hb; clear hb))
  go_ret
  exact ⟨rfl, HB.out⟩
set_option maxRecDepth 100000 in
set_option maxHeartbeats 8000000 in
theorem runs_no (n : Int) (A : Option Addr) (l c : Nat) (w : World) (h : n < 1 ∨ 16384 < n) : Calls Try.prog 4 #[.int .i64 n, .slice A l c] w fun e w' => e = .returned (.bool true) ∧ Below w.heap.size w w' := by
  have HAW := Aside0.mk (awake_any w)
  have HN := Aside0.mk (fun W => new_no n W h)
  have HRN := Aside0.mk (fun W => rnew_no n W h)
  have d1 : (decide (300 < n) && decide (n ≤ 16384)) = false := by
    rcases h with h | h
    · rw [decide_eq_false (show ¬ 300 < n by omega)]
      rfl
    · rw [decide_eq_false (show ¬ n ≤ 16384 by omega), Bool.and_false]
  obtain ⟨b1, hb1⟩ : ∃ b, b = decide (300 < n) := ⟨_, rfl⟩
  obtain ⟨b2, hb2⟩ : ∃ b, b = decide (n ≤ 16384) := ⟨_, rfl⟩
  rw [← hb1, ← hb2] at d1
  replace hb1 := hb1.symm
  replace hb2 := hb2.symm
  have cc : (b1 = false) ∨ (b1 = true ∧ b2 = false) := by revert d1; cases b1 <;> cases b2 <;> simp
  clear d1 h
  rcases cc with rfl | ⟨rfl, rfl⟩
  all_goals
    go_enter Try.func4, Try.ntmps4
    go_wp2_with (first
      | (go_at_call 8; (with_reducible refine HAW.out.mono ?_); rintro e w1 ⟨rfl, hb⟩; have HB := Aside0.mk hb; clear hb)
      | (go_at_call 9; (with_reducible refine (HN.out _).mono ?_); rintro e w2 ⟨rfl, rfl⟩)
      | (go_at_call 10; (with_reducible refine (HRN.out _).mono ?_); rintro e w2 ⟨rfl, rfl⟩)
      | (go_at_call 11; (with_reducible refine (get_nil _ _).mono ?_); rintro e w2 ⟨rfl, rfl⟩)
      | (go_at_call 12; (with_reducible refine (lay_nil _ _ _).mono ?_); rintro e w2 ⟨rfl, rfl⟩)
      | (go_at_call 13; (with_reducible refine (barrier_nil _).mono ?_); rintro e w2 ⟨rfl, rfl⟩)
      | (go_at_call 14; (with_reducible refine (on_nil _).mono ?_); rintro e w2 ⟨rfl, rfl⟩)
      | (go_at_call 15; (with_reducible refine (size_nil _).mono ?_); rintro e w2 ⟨rfl, rfl⟩)
      | (go_at_call 16; (with_reducible refine (loose_nil _).mono ?_); rintro e w2 ⟨rfl, rfl⟩))
    go_ret
    exact ⟨rfl, HB.out⟩
set_option maxRecDepth 100000 in
set_option maxHeartbeats 8000000 in
theorem runs_yes (n : Nat) (A : Option Addr) (c : Nat) (acts : List S39) (w : World) (hn1 : 1 ≤ n) (hn2 : n ≤ 300) (hc : acts.length ≤ c) (hr : k39.C w A acts.length acts) (hl : acts.length ≤ 9223372036854775807) (hi : ∀ x ∈ acts, I64 x.f0 ∧ I64 x.f1 ∧ ∀ y ∈ x.f3, I64 y) : Calls Try.prog 4 #[.int .i64 (n : Int), .slice A acts.length c] w fun e w' => e = .returned (.bool true) ∧ Below w.heap.size w w' := by
  obtain ⟨B, hB⟩ : ∃ B, B = w.heap.size := ⟨_, rfl⟩
  have HAW := Aside0.mk (awake_any w)
  have HRO := Aside0.mk hr
  have HI := Aside0.mk hi
  have HC := Aside0.mk hc
  have HHL := Aside0.mk hl
  have HN := Aside0.mk (fun W (hW : B ≤ (World.heap W).size) => One.new (ok := geB B) n W (fun _ hk => Nat.le_trans hW hk) hn1 (by omega))
  have HRN := Aside0.mk (fun W p s (h : One (geB B) W p s) => Two.new (ok := geB B) n W h hn1 (by omega))
  have d1 : decide (300 < (n : Int)) = false := decide_eq_false (by omega)
  have d1n : decide (300 < n) = false := decide_eq_false (by omega)
  clear hr hi hc hl
  rw [← hB] at HAW ⊢
  go_enter Try.func4, Try.ntmps4
  go_upto_block 0 with (first
    | (go_at_call 8; (with_reducible refine HAW.out.mono ?_); rintro e w1 ⟨rfl, hb⟩; have HB := Aside0.mk hb; have HSZ := Aside0.mk (Nat.le_trans (Nat.le_of_eq hB) hb.size); clear hb)
    | (go_at_call 9; (with_reducible refine (HN.out _ HSZ.out).mono ?_); rintro e w2 ⟨p, rfl, ho, hb⟩; have hb2 := HB.out.trans (hb.low HSZ.out); have hz2 := Nat.le_trans HSZ.out hb.size; clear HB HSZ; have HSZ := Aside0.mk hz2; clear hz2; have HB := Aside0.mk hb2; have HO := Aside0.mk ho; clear hb hb2 ho)
    | (go_at_call 10; (with_reducible refine (HRN.out _ _ _ HO.out).mono ?_); rintro e w2 ⟨rp, rfl, ho, hb⟩; have hb2 := HB.out.trans (hb.low HSZ.out); clear HB HO; have HB := Aside0.mk hb2; have HO := Aside0.mk ho; clear hb hb2 ho))
  go_cut [13] (fun v13 wc => ∃ s r, Aside0 (Two (geB B) wc p rp s r) ∧ Aside0 (Sim s r) ∧ Aside0 (Below B w wc))
  case first =>
    go_wp2_with (fail)
    go_loopw [98] (fun v wr => ∃ i : Nat, v = .int .i64 i ∧ i ≤ acts.length ∧ i ≤ 100 ∧ ∃ s r, Aside0 (Two (geB B) wr p rp s r) ∧ Aside0 (Sim s r) ∧ Aside0 (Short s i) ∧ Aside0 (Below B w wr)) (fun v _ => acts.length - (intOf v).toNat)
    case atStart => exact ⟨0, rfl, Nat.zero_le _, Nat.zero_le _, _, _, HO, ⟨sim_new n⟩, ⟨short_new n 0⟩, HB⟩
    case round =>
      clear HB HO
      obtain ⟨i, rfl, hi1, hi2, s, r, HO, HS, HH, HB⟩ := hrel
      by_cases hlt : i < acts.length
      case neg =>
        obtain rfl : i = acts.length := by omega
        have d2 : decide ((acts.length : Int) < (acts.length : Int)) = false := decide_eq_false (by omega)
        go_wp2
        go_meet
        case rel => exact ⟨s, r, HO, HS, HB⟩
      case pos =>
        have d2 : decide ((i : Int) < (acts.length : Int)) = true := decide_eq_true (by omega)
        have d2n : decide (i < acts.length) = true := decide_eq_true hlt
        obtain ⟨x, hx, b, o, A3, c3, rfl, q0, q1, q2, q3, l3, g3⟩ := at39 (Kd.C_below HRO.out (hB ▸ HB.out)) hlt
        have hfr : Free (geB B) wr A3 c3 x.f3 := by
          obtain ⟨x', hx', _, _, A3', c3', e', _, _, _, q3', l3', g3'⟩ := at39 HRO.out hlt
          obtain rfl : x = x' := Option.some.inj (hx.symm.trans hx')
          have hf := free_of g3' l3' (fun y hy => (HI.out x (List.mem_of_getElem? hx)).2.2 y hy)
          have e := q3'
          obtain ⟨rfl, rfl⟩ : _ = b ∧ _ = o := by simpa using e'.symm
          rw [← World.cell?_of_block (w := w) (w' := wr) (HB.out.block _ (by rw [hB]; exact (spot_of q3').2)), q3] at e
          simp only [Option.some.injEq, Value.slice.injEq] at e
          obtain ⟨rfl, _, rfl⟩ := e
          rw [← hB] at hf
          exact hf.turn ⟨HB.out.os, HB.out.tape, HB.out.output, HB.out.size, fun k hk hn => HB.out.block k (Nat.not_le.1 hn)⟩
        have hf1 := (HI.out x (List.mem_of_getElem? hx)).2.1
        have hix := index39 b acts.length c i o hlt
        obtain ⟨f0, f1, f2, f3⟩ := x
        simp only at q0 q1 q2 q3 hfr hf1
        have HF := Aside0.mk hfr
        have HF1 := Aside0.mk (show f1 ≤ 9223372036854775807 from And.right hf1)
        clear hx g3 l3 hfr hf1
        by_cases h100 : i = 100
        case pos =>
          have d3 : ((i : Int) == 100) = true := by rw [h100]; rfl
          clear h100
          go_wp2
          go_meet
          case rel => exact ⟨s, r, ⟨HO.out.below (below_alloc (Below.refl _ _) _)⟩, HS, ⟨HB.out.trans (below_alloc (Below.refl _ _) _ |>.lower' (by have := HB.out.size; rw [← hB] at this; exact this))⟩⟩
        case neg =>
          have d3 : ((i : Int) == 100) = false := by simp; omega
          have HI1 := Aside0.mk (show i + 1 ≤ 100 by omega)
          clear h100
          go_upto_block 2 with (fail)
          clear q0 q1 q2 q3 hix
          obtain ⟨q, hq⟩ : ∃ q, q = wr.heap.size := ⟨_, rfl⟩
          obtain ⟨W, hW⟩ : ∃ W, W = wr.alloc (.cells #[.int .i64 f0, .int .i64 f1, .string f2, .slice A3 f3.length c3] 39) := ⟨_, rfl⟩
          rw [← hW, ← hq]
          have hbW : Below wr.heap.size wr W := by rw [hW]; exact below_alloc (Below.refl _ _) _
          have hzW : W.heap.size = q + 1 := by rw [hW, hq]; simp
          have hzB : B ≤ wr.heap.size := by have := HB.out.size; rw [← hB] at this; exact this
          have HT := Aside0.mk (show Two (geN B q) W p rp s r by
            rw [hW]
            exact HO.out.beside _ (fun k hk ho => ⟨ho, by omega⟩) (fun k hk => ⟨by omega, by omega⟩))
          have HQ := Aside0.mk (show W.heap[q]? = some (.cells #[.int .i64 f0, .int .i64 f1, .string f2, .slice A3 f3.length c3] 39 (0, 0)) by
            rw [hW, hq]
            exact heap_alloc_new wr _)
          have HLT := Aside0.mk (show q < W.heap.size by omega)
          have HF2 := Aside0.mk (show Free (geN B q) W A3 c3 f3 from ((HF.out.turn (Turn.of_below hbW)).to (fun k hk => hk.1)))
          have HBW := Aside0.mk (show Below B w W from HB.out.trans (hbW.lower' hzB))
          have HZW := Aside0.mk (show B ≤ W.heap.size by omega)
          clear hbW hzW hzB hW HB HO HF hq
          go_cut [13, 14] (fun v13 v14 wc => ∃ (xb : Bool) (s' : St) (r' : RSt), v13 = .bool xb ∧ v14 = .bool xb ∧ Aside0 (Two (geN B q) wc p rp s' r') ∧ Aside0 (Sim s' r') ∧ Aside0 (Short s' (i + 1)) ∧ Aside0 (Turn (geN B q) W wc))
          case first =>
            by_cases e0 : f0 = 0
            case pos =>
              subst e0
              have k1 : W.cell? ⟨q, 1, none⟩ = some (.int .i64 f1) := (blk_cell HQ.out 1).trans rfl
              have k2 : W.cell? ⟨q, 2, none⟩ = some (.string f2) := (blk_cell HQ.out 2).trans rfl
              go_wp2_with (first
                | (go_at_call 12; (with_reducible refine (Two.lay HT.out f1 f2 (le_of_short HH.out (by omega))).mono ?_); rintro e W2 ⟨rfl, ht, hT⟩; have HT2 := Aside0.mk ht; have HU := Aside0.mk hT; have hq2 := (hT.block q HLT.out (geN_ne B q)).trans HQ.out; have m1 : W2.cell? ⟨q, 1, none⟩ = some (.int .i64 f1) := (blk_cell hq2 1).trans rfl; have m2 : W2.cell? ⟨q, 2, none⟩ = some (.string f2) := (blk_cell hq2 2).trans rfl; clear ht hT hq2)
                | (go_at_call 17; (with_reducible refine (Two.rlay HT2.out f1 f2 (rle HS.out (le_of_short HH.out (by omega)))).mono ?_); rintro e W3 ⟨rfl, ht, hT⟩; have HT3 := Aside0.mk ht; have HU3 := Aside0.mk (HU.out.then hT); clear ht hT))
              have hsl := HS.out.lay HT.out.fit.lo f1 f2
              go_meet
              case rel => exact ⟨(s.lay f1 f2).2, (s.lay f1 f2).1, (r.lay f1 f2).1, rfl, congrArg Value.bool hsl.1, HT3, ⟨hsl.2⟩, ⟨short_lay HH.out f1 f2⟩, HU3⟩
            case neg =>
            by_cases e1 : f0 = 1
            case pos =>
              subst e1
              clear e0
              go_wp2_with (first
                | (go_at_call 13; (with_reducible refine (Two.barrier HT.out).mono ?_); rintro e W2 ⟨rfl, ht, hT⟩; have HT2 := Aside0.mk ht; have HU := Aside0.mk hT; clear ht hT)
                | (go_at_call 18; (with_reducible refine (Two.rbarrier HT2.out).mono ?_); rintro e W3 ⟨rfl, ht, hT⟩; have HT3 := Aside0.mk ht; have HU3 := Aside0.mk (HU.out.then hT); clear ht hT))
              have hsl := HS.out.barrier HT.out.fit
              go_meet
              case rel => exact ⟨s.barrier.2, s.barrier.1, r.barrier.1, rfl, congrArg Value.bool hsl.1, HT3, ⟨hsl.2⟩, ⟨short_mono (short_barrier HH.out) (Nat.le_succ i)⟩, HU3⟩
            case neg =>
            by_cases e2 : f0 = 2
            case pos =>
              subst e2
              clear e0 e1
              have k1 : W.cell? ⟨q, 1, none⟩ = some (.int .i64 f1) := (blk_cell HQ.out 1).trans rfl
              go_wp2_with (first
                | (go_at_call 19; (with_reducible refine (Two.limit HT.out f1 HF1.out).mono ?_); rintro e W2 ⟨rfl, ht, hT⟩; have HT2 := Aside0.mk ht; have HU := Aside0.mk hT; have hq2 := (hT.block q HLT.out (geN_ne B q)).trans HQ.out; have m1 : W2.cell? ⟨q, 1, none⟩ = some (.int .i64 f1) := (blk_cell hq2 1).trans rfl; have m4 := HT2.out.frozen 1; obtain ⟨u1, m5⟩ := HT2.out.left1; clear ht hT hq2))
              have hrl := Two.rlimit HT2.out (max f1 (-1)) (by omega) (by have := HF1.out; omega)
              go_meet
              case rel => exact ⟨false, s.limit f1, { r with left := max f1 (-1) }, rfl, rfl, ⟨hrl.1⟩, ⟨HS.out.limit f1⟩, ⟨short_mono (short_limit HH.out f1) (Nat.le_succ i)⟩, ⟨HU.out.then hrl.2⟩⟩
            case neg =>
            by_cases e3 : f0 = 3
            case pos =>
              subst e3
              clear e0 e1 e2
              have k1 : W.cell? ⟨q, 3, none⟩ = some (.slice A3 f3.length c3) := (blk_cell HQ.out 3).trans rfl
              go_wp2_with (first
                | (go_at_call 20; (with_reducible refine (Two.fall HT.out A3 c3 f3 HF2.out (le_of_short HH.out (by omega))).mono ?_); rintro e W2 ⟨rfl, ht, hT⟩; have HT2 := Aside0.mk ht; have HU := Aside0.mk hT; have HF3 := Aside0.mk (HF2.out.turn hT); have hq2 := (hT.block q HLT.out (geN_ne B q)).trans HQ.out; have m1 : W2.cell? ⟨q, 3, none⟩ = some (.slice A3 f3.length c3) := (blk_cell hq2 3).trans rfl; clear ht hT hq2)
                | (go_at_call 21; (with_reducible refine (Two.rfall HT2.out A3 c3 f3 HF3.out (rle HS.out (le_of_short HH.out (by omega)))).mono ?_); rintro e W3 ⟨rfl, ht, hT⟩; have HT3 := Aside0.mk ht; have HU3 := Aside0.mk (HU.out.then hT); clear ht hT))
              go_meet
              case rel => exact ⟨false, s.fall f3, r.fall f3, rfl, rfl, HT3, ⟨HS.out.fall HT.out.fit f3⟩, ⟨short_fall _ _ _⟩, HU3⟩
            case neg =>
              have b0 : (f0 == 0) = false := by simpa using e0
              have b1 : (f0 == 1) = false := by simpa using e1
              have b2 : (f0 == 2) = false := by simpa using e2
              have b3 : (f0 == 3) = false := by simpa using e3
              clear e0 e1 e2 e3
              go_wp2
              go_meet
              case rel => exact ⟨false, s, r, rfl, rfl, HT, HS, ⟨short_mono HH.out (Nat.le_succ i)⟩, ⟨Turn.refl _ _⟩⟩
          case rest =>
            clear HT HS HH
            obtain ⟨xb, s, r, rfl, rfl, HT, HS, HH, HU⟩ := hcut
            go_upto_region 28 with (fail)
            have hx : (xb != xb) = false := by simp
            obtain ⟨O, hO⟩ : ∃ O, O = s.off := ⟨_, rfl⟩
            have hne : ((!O) == O) = false := by cases O <;> rfl
            have hK : s.keys.length ≤ 9223372036854775807 := by have := HT.out.fit.few; simp [St.keys]; omega
            have HTd := Aside0.mk (HT.out.below (below_drew (Below.refl _ wc)))
            have hON := Aside0.mk (hO ▸ HTd.out.on : Calls Try.prog 14 #[.pointer (some ⟨p, 0, none⟩)] wc.drew fun e w' => e = .returned (.bool (!O)) ∧ w' = wc.drew)
            have hRL := Aside0.mk (fun X (h : Two (geN B q) X p rp s r) => (HS.out.keys ▸ h.rloose : Calls Try.prog 23 #[.pointer (some ⟨rp, 0, none⟩)] X fun e w' => ∃ A c, e = .returned (.slice A s.keys.length c) ∧ (∀ w2, Below w'.heap.size w' w2 → Nums w2 A s.keys.length s.keys) ∧ Below X.heap.size X w'))
            have hOF := Aside0.mk (fun X (h : Two (geN B q) X p rp s r) => (show World.cell? X ⟨rp, 2, none⟩ = some (.bool O) by rw [hO, ← HS.out.off]; exact h.off))
            have m2 := hOF.out _ HTd.out
            obtain ⟨K, hKK⟩ : ∃ K, K = s.keys.length := ⟨_, rfl⟩
            have hLO := HTd.out.loose
            rw [← hKK] at hLO hRL hK
            have HLO := Aside0.mk hLO
            have HKK := Aside0.mk hKK
            clear hLO hKK hO
            go_region_held3 (fun w' => w'.cell? ⟨rp, 2, none⟩ = some (.bool O)) (first | exact m2 | exact m3 | exact m4 | exact m5) (first
              | (go_at_call 14; (with_reducible refine hON.out.mono ?_); rintro e Y0 ⟨rfl, rfl⟩)
              | (go_at_call 16; (with_reducible refine HLO.out.mono ?_); rintro e Y1 ⟨A0, d0, rfl, hn, hb⟩; have HN0 := Aside0.mk hn; have HB1 := Aside0.mk hb; have HT1 := Aside0.mk (HTd.out.below hb); have m3 := hOF.out _ HT1.out; clear hn hb)
              | (go_at_call 23; (with_reducible refine (hRL.out _ HT1.out).mono ?_); rintro e Y2 ⟨A1, d1, rfl, hn, hb⟩; have HN1 := Aside0.mk hn; have HB2 := Aside0.mk hb; have HT2 := Aside0.mk (HT1.out.below hb); have m4 := hOF.out _ HT2.out; clear hn hb)
              | (go_at_call 22; (with_reducible refine (ints_same _ A0 A1 K d0 d1 s.keys hK (HN0.out _ HB2.out) (HN1.out _ (Below.refl _ _))).mono ?_); rintro e Y3 ⟨rfl, hd⟩; have HB3 := Aside0.mk (below_drawn hd); have HT3 := Aside0.mk (HT2.out.below (below_drawn hd)); have m5 := hOF.out _ HT3.out; clear hd))
            have HU3 := Aside0.mk (((HU.out.drew.then (Turn.of_below HB1.out)).then (Turn.of_below HB2.out)).then (Turn.of_below HB3.out))
            have hq3 := (HU3.out.block q HLT.out (geN_ne B q)).trans HQ.out
            have k1 : Y3.cell? ⟨q, 1, none⟩ = some (.int .i64 f1) := (blk_cell hq3 1).trans rfl
            clear m2 m3 m4 m5 hq3 HB1 HB2 HB3 HT1 HT2 HTd hON hRL hOF HLO HN0 HN1 hx hne hK HT HU
            go_wp2
            obtain ⟨Y4, hY4⟩ : ∃ Y, Y = Y3.alloc (.cells #[.int .i64 (-1), .int .i64 f1, .int .i64 (n : Int)] 3) := ⟨_, rfl⟩
            obtain ⟨g, hg⟩ : ∃ g, g = Y3.heap.size := ⟨_, rfl⟩
            rw [← hY4, ← hg]
            have hb4 : Below Y3.heap.size Y3 Y4 := by rw [hY4]; exact below_alloc (Below.refl _ _) _
            have hgb : Y4.heap[g]? = some (.cells #[.int .i64 (-1), .int .i64 f1, .int .i64 (n : Int)] 3 (0, 0)) := by rw [hY4, hg]; exact heap_alloc_new Y3 _
            have HT4 := Aside0.mk (HT3.out.below hb4)
            have HU4 := Aside0.mk (HU3.out.then (Turn.of_below hb4))
            have HGB := Aside0.mk hgb
            have HGL := Aside0.mk (show g < Y4.heap.size from blk_lt hgb)
            clear hb4 hgb hY4 hg HT3 HU3 k1
            go_loopw [174] (fun v wr => ∃ k : Nat, v = .int .i64 k ∧ k ≤ 3 ∧ Aside0 (Below Y4.heap.size Y4 wr)) (fun v _ => 3 - (intOf v).toNat)
            case atStart => exact ⟨0, rfl, Nat.zero_le _, ⟨Below.refl _ _⟩⟩
            case round =>
              obtain ⟨k, rfl, hk3, HBR⟩ := hrel
              by_cases hlk : k < 3
              case neg =>
                obtain rfl : k = 3 := by omega
                go_wp2
                go_roundw
                case rel => exact ⟨i + 1, by go_num, by omega, HI1.out, s, r, ⟨(HT4.out.below HBR.out).to (fun k _ ho => ho.1) (fun k hk => Nat.le_trans (Nat.le_trans HZW.out (Nat.le_trans HU4.out.size HBR.out.size)) hk)⟩, HS, HH, ⟨(HBW.out.trans (HU4.out.lowN HZW.out)).trans (HBR.out.lower' (Nat.le_trans HZW.out HU4.out.size))⟩⟩
                case measure => simp [intOf]; omega
              case pos =>
                have l1 : decide ((k : Int) < 3) = true := decide_eq_true (by omega)
                have l1n : decide (k < 3) = true := decide_eq_true hlk
                obtain ⟨y, hy⟩ : ∃ y : Int, (#[Value.int .i64 (-1), Value.int .i64 f1, Value.int .i64 (n : Int)] : Array Value)[k]? = some (Value.int .i64 y) := by
                  rcases k with _ | _ | _ | k
                  · exact ⟨_, rfl⟩
                  · exact ⟨_, rfl⟩
                  · exact ⟨_, rfl⟩
                  · omega
                have kc : wr.cell? ⟨g, k, none⟩ = some (.int .i64 y) := by
                  rw [World.cell?_of_block (w := Y4) (HBR.out.block g HGL.out), blk_cell HGB.out k]
                  exact hy
                have hi3 := index_ints g 3 3 k 0 hlk
                rw [Nat.zero_add] at hi3
                obtain ⟨S, b', hg1, hg2⟩ := Two.both (ok := geN B q) (p := p) (rp := rp) HS.out y
                have HG1 := Aside0.mk hg1
                have HG2 := Aside0.mk hg2
                have HTR := Aside0.mk (HT4.out.below HBR.out)
                clear hy hg1 hg2
                go_wp2_with (first
                  | (go_at_call 11; (with_reducible refine (HG1.out _ HTR.out).mono ?_); rintro e Z1 ⟨rfl, hb⟩; have HZ1 := Aside0.mk (HBR.out.trans (hb.lower' HBR.out.size)); have HTZ := Aside0.mk (HTR.out.below hb); clear hb)
                  | (go_at_call 24; (with_reducible refine (HG2.out _ HTZ.out).mono ?_); rintro e Z2 ⟨rfl, hb⟩; have HZ2 := Aside0.mk (HZ1.out.trans (hb.lower' HZ1.out.size)); clear hb))
                go_roundw
                case rel => exact ⟨k + 1, by go_num, by omega, HZ2⟩
                case measure => simp [intOf]; omega
  case rest =>
    clear HB HO
    obtain ⟨s, r, HO, HS, HB⟩ := hcut
    go_wp2
    go_loopw [201] (fun v wr => ∃ k : Nat, v = .int .i64 k ∧ k ≤ n ∧ Aside0 (Below wc.heap.size wc wr)) (fun v _ => n - (intOf v).toNat)
    case atStart => exact ⟨0, rfl, Nat.zero_le _, ⟨Below.refl _ _⟩⟩
    case round =>
      obtain ⟨k, rfl, hkn, HBR⟩ := hrel
      by_cases hlk : k < n
      case neg =>
        obtain rfl : k = n := by omega
        have l1 : decide ((k : Int) < (k : Int)) = false := decide_eq_false (by omega)
        go_wp2
        go_ret
        exact ⟨rfl, HB.out.trans (HBR.out.lower' (by have := HB.out.size; rw [← hB] at this; exact this))⟩
      case pos =>
        have l1 : decide ((k : Int) < (n : Int)) = true := decide_eq_true (by omega)
        have l1n : decide (k < n) = true := decide_eq_true hlk
        obtain ⟨S, b', hg1, hg2⟩ := Two.both (ok := geB B) (p := p) (rp := rp) HS.out (k : Int)
        have HG1 := Aside0.mk hg1
        have HG2 := Aside0.mk hg2
        have HTR := Aside0.mk (HO.out.below HBR.out)
        clear hg1 hg2
        go_wp2_with (first
          | (go_at_call 11; (with_reducible refine (HG1.out _ HTR.out).mono ?_); rintro e Z1 ⟨rfl, hb⟩; have HZ1 := Aside0.mk (HBR.out.trans (hb.lower' HBR.out.size)); have HTZ := Aside0.mk (HTR.out.below hb); clear hb)
          | (go_at_call 24; (with_reducible refine (HG2.out _ HTZ.out).mono ?_); rintro e Z2 ⟨rfl, hb⟩; have HZ2 := Aside0.mk (HZ1.out.trans (hb.lower' HZ1.out.size)); clear hb))
        go_roundw
        case rel => exact ⟨k + 1, by go_num, by omega, HZ2⟩
        case measure => simp [intOf]; omega
theorem runs_walk (n : Int) (A : Option Addr) (c : Nat) (acts : List S39) (w : World) (hc : acts.length ≤ c) (hr : k39.C w A acts.length acts) (hl : acts.length ≤ 9223372036854775807) (hi : ∀ x ∈ acts, I64 x.f0 ∧ I64 x.f1 ∧ ∀ y ∈ x.f3, I64 y) : Calls Try.prog 4 #[.int .i64 n, .slice A acts.length c] w fun e w' => e = .returned (.bool true) ∧ Below w.heap.size w w' := by
  by_cases h1 : n < 1 ∨ 16384 < n
  · exact runs_no n A _ c w h1
  · by_cases h2 : 300 < n
    · exact runs_mid n A _ c w h2 (by omega)
    · obtain ⟨m, rfl⟩ := Int.eq_ofNat_of_zero_le (show 0 ≤ n by omega)
      exact runs_yes m A c acts w (by omega) (by omega) hc hr hl hi
end Go.Proofs.Ytfjbpjndjcinhaa.Dk
