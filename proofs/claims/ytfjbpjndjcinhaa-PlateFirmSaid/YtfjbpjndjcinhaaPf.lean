/- chancellaw16.PlateFirm. Over the program alone. -/
import Derived.Test.YtfjbpjndjcinhaaSy
import Derived.Deep.RegionHeld3
import Derived.Deep.DeepCutAuto
import Derived.Deep.CutBlock
namespace Go.Proofs.Ytfjbpjndjcinhaa.Dk
open Go Go.RowKit Go.Proofs.Ytfjbpjndjcinhaa.Mp Go.Proofs.Ytfjbpjndjcinhaa.Rg Go.Proofs.YtfjbpjndjcinhaaW.PrintWords Go.Proofs.YtfjbpjndjcinhaaW.PrintMore Go.Proofs.YtfjbpjndjcinhaaW.PrintLast
set_option linter.unusedVariables false
set_option linter.unusedSimpArgs false
theorem fi_size {s : St} (h : s.Ok) (k : Nat) : (fi s k).size = 128 := full_size (by
  rw [List.getD_eq_getElem?_getD]
  cases hg : s.firm[k]? with
  | none => exact (by decide : (⟨#[]⟩ : ByteArray).size ≤ 128)
  | some x => exact h.firm x (List.mem_of_getElem? hg))
set_option maxRecDepth 100000 in
set_option maxHeartbeats 8000000 in
theorem firm_walk (A : Option Addr) (c : Nat) (acts : List S39) (w : World) (hc : acts.length ≤ c) (hr : k39.C w A acts.length acts) (hl : acts.length ≤ 9223372036854775807) (hi : ∀ x ∈ acts, I64 x.f0 ∧ I64 x.f1 ∧ ∀ y ∈ x.f3, I64 y) : Calls Try.prog 5 #[.slice A acts.length c] w fun e w' => e = .returned (.bool true) ∧ Below w.heap.size w w' := by
  obtain ⟨B, hB⟩ : ∃ B, B = w.heap.size := ⟨_, rfl⟩
  have HAW := Aside0.mk (awake_any w)
  have HRO := Aside0.mk hr
  have HI := Aside0.mk hi
  have HC := Aside0.mk hc
  have HHL := Aside0.mk hl
  have HN := Aside0.mk (fun W (hW : B ≤ (World.heap W).size) => (show Calls Try.prog 9 #[.int .i64 9] W fun e w' => ∃ p, e = .returned (.tuple #[.pointer (some ⟨p, 0, none⟩), .bool true]) ∧ One (geB B) w' p (St.new 9) ∧ Turn (geB B) W w' from One.new (ok := geB B) 9 W (fun _ hk => Nat.le_trans hW hk) (by omega) (by omega)))
  clear hr hi hc hl
  rw [← hB] at HAW ⊢
  go_enter Try.func5, Try.ntmps5
  go_wp2_with (first
    | (go_at_call 8; (with_reducible refine HAW.out.mono ?_); rintro e w1 ⟨rfl, hb⟩; have HB := Aside0.mk hb; have HSZ := Aside0.mk (Nat.le_trans (Nat.le_of_eq hB) hb.size); clear hb)
    | (go_at_call 9; (with_reducible refine (HN.out _ HSZ.out).mono ?_); rintro e w2 ⟨p, rfl, ho, hb⟩; have hb2 := HB.out.trans (hb.low HSZ.out); have hz2 := Nat.le_trans HSZ.out hb.size; clear HB HSZ; have HSZ := Aside0.mk hz2; clear hz2; have HB := Aside0.mk hb2; have HO := Aside0.mk ho; clear hb hb2 ho))
  obtain ⟨own, hd, hoB, hoN⟩ := HO.out
  obtain ⟨fb, hfb⟩ : ∃ k, k = w2.heap.size := ⟨_, rfl⟩
  obtain ⟨W3, hW3⟩ : ∃ W, W = ((w2.alloc (.cells ((List.replicate 9 (⟨#[]⟩ : ByteArray)).map Value.string).toArray 48)).alloc (.cells ((List.replicate 9 (⟨#[]⟩ : ByteArray)).map Value.string).toArray 48)).alloc (.cells ((List.replicate 9 (none : Option Nat)).map Value.map).toArray 50) := ⟨_, rfl⟩
  have hbW : Below w2.heap.size w2 W3 := by rw [hW3]; exact below_alloc (below_alloc (below_alloc (Below.refl _ _) _) _) _
  have hT : Tabs fb (fb + 1) (fb + 1 + 1) W3 (List.replicate 9 ⟨#[]⟩) (List.replicate 9 ⟨#[]⟩) (List.replicate 9 none) := by
    have z1 := heap_alloc_new w2 (.cells ((List.replicate 9 (⟨#[]⟩ : ByteArray)).map Value.string).toArray 48)
    have z2 := heap_alloc_new (w2.alloc (.cells ((List.replicate 9 (⟨#[]⟩ : ByteArray)).map Value.string).toArray 48)) (.cells ((List.replicate 9 (⟨#[]⟩ : ByteArray)).map Value.string).toArray 48)
    have z3 := heap_alloc_new ((w2.alloc (.cells ((List.replicate 9 (⟨#[]⟩ : ByteArray)).map Value.string).toArray 48)).alloc (.cells ((List.replicate 9 (⟨#[]⟩ : ByteArray)).map Value.string).toArray 48)) (.cells ((List.replicate 9 (none : Option Nat)).map Value.map).toArray 50)
    rw [← hW3] at z3
    have s1 : ((w2.alloc (.cells ((List.replicate 9 (⟨#[]⟩ : ByteArray)).map Value.string).toArray 48))).heap.size = fb + 1 := by rw [hfb]; simp
    have s2 : ((w2.alloc (.cells ((List.replicate 9 (⟨#[]⟩ : ByteArray)).map Value.string).toArray 48)).alloc (.cells ((List.replicate 9 (⟨#[]⟩ : ByteArray)).map Value.string).toArray 48)).heap.size = fb + 1 + 1 := by rw [hfb]; simp
    rw [s1] at z2
    rw [s2] at z3
    rw [← hfb] at z1
    have b2 : Below (fb + 1) (w2.alloc (.cells ((List.replicate 9 (⟨#[]⟩ : ByteArray)).map Value.string).toArray 48)) W3 := by rw [hW3, ← s1]; exact below_alloc (below_alloc (Below.refl _ _) _) _
    have b3 : Below (fb + 1 + 1) ((w2.alloc (.cells ((List.replicate 9 (⟨#[]⟩ : ByteArray)).map Value.string).toArray 48)).alloc (.cells ((List.replicate 9 (⟨#[]⟩ : ByteArray)).map Value.string).toArray 48)) W3 := by rw [hW3, ← s2]; exact below_alloc (Below.refl _ _) _
    exact ⟨(b2.block fb (by omega)).trans z1, (b3.block (fb + 1) (by omega)).trans z2, z3, by simp, by simp, by simp, by omega, by omega⟩
  have hz3 : W3.heap.size = fb + 1 + 1 + 1 := by rw [hW3, hfb]; simp
  rw [← hfb]
  have HT := Aside0.mk hT
  have HBW := Aside0.mk hbW
  have HOD := Aside0.mk hd
  have HOB := Aside0.mk (show ∀ k, own k → B ≤ k ∧ k < fb from fun k hk => ⟨hoB k hk, by rw [hfb]; exact hd.here k hk⟩)
  have HFB := Aside0.mk hfb
  have HZ3 := Aside0.mk hz3
  have HW3 := Aside0.mk hW3
  clear hT hbW hd hoB hoN hfb hz3 hW3 HO
  go_loopw [27] (fun v wr => ∃ k : Nat, v = .int .i64 k ∧ k ≤ 9 ∧ ∃ F L H, Aside0 (Tabs fb (fb + 1) (fb + 1 + 1) wr F L H) ∧ Aside0 (Made wr (fb + 1 + 1) k F L H) ∧ Aside0 (Below fb w2 wr)) (fun v _ => 9 - (intOf v).toNat)
  case atStart =>
    obtain rfl := HW3.out
    exact ⟨0, rfl, Nat.zero_le _, _, _, _, HT, ⟨fun j hj => by omega⟩, ⟨HFB.out ▸ HBW.out⟩⟩
  case round =>
    obtain ⟨k, rfl, hk9, F, L, H, HTR, HMR, HBR⟩ := hrel
    by_cases hlk : k < 9
    case neg =>
      obtain rfl : k = 9 := by omega
      rw [show ((9 : Nat) : Int) = (9 : Int) from rfl]
      obtain ⟨Q, hQ⟩ : ∃ Q, Q = wr.heap.size := ⟨_, rfl⟩
      have hBf : B ≤ fb := by rw [HFB.out]; exact HSZ.out
      obtain ⟨ok2, hok2⟩ : ∃ ok2 : Nat → Prop, ok2 = fun j => (B ≤ j ∧ j < fb) ∨ Q ≤ j := ⟨_, rfl⟩
      have hap : ∀ j, fb ≤ j → j < Q → ¬ ok2 j := fun j h1 h2 h3 => by rw [hok2] at h3; rcases h3 with h3 | h3 <;> omega
      have hqq : ∀ j, Q ≤ j → ok2 j := fun j h => by rw [hok2]; exact .inr h
      have hge : ∀ j, ok2 j → geB B j := fun j h => by
        rw [hok2] at h
        have := HTR.out.lt
        unfold geB
        rcases h with h | h <;> omega
      have HS := Aside0.mk (Sync.start (Q := Q) (HOD.out.below (hb := HFB.out ▸ HBR.out)) (ok := ok2) (fun k hk => by rw [hok2]; exact .inl (HOB.out k hk)) hqq hap hQ HTR.out HMR.out)
      have HTW := Aside0.mk (show Turn (geB B) w wr from ⟨HBR.out.os.trans HB.out.os, HBR.out.tape.trans HB.out.tape, HBR.out.output.trans HB.out.output, by have h1 := HB.out.size; have h2 := HTR.out.lt; have h3 := HFB.out; rw [← hB]; omega, fun j hj hn => (HBR.out.block j (by have := hB; omega)).trans (HB.out.block j (by have := hB; omega))⟩)
      have HAP := Aside0.mk hap
      have HQQ := Aside0.mk hqq
      have HGE := Aside0.mk hge
      clear hap hqq hge hok2 hQ HMR HBR HTR HT HW3 HOD HOB HBW HZ3 HB
      go_upto_block 2 with (fail)
      go_cut [13] (fun v13 wc => ∃ (i : Nat) (s : St) (F L : List ByteArray) (H : List (Option Nat)), i ≤ 80 ∧ Aside0 (Sync ok2 fb Q wc p i s F L H) ∧ Aside0 (Turn (geB B) w wc))
      case first =>
        go_wp2_with (fail)
        go_loopw [50] (fun v wr => ∃ i : Nat, v = .int .i64 i ∧ i ≤ acts.length ∧ i ≤ 80 ∧ ∃ (s : St) (F L : List ByteArray) (H : List (Option Nat)), Aside0 (Sync ok2 fb Q wr p i s F L H) ∧ Aside0 (Turn (geB B) w wr)) (fun v _ => acts.length - (intOf v).toNat)
        case atStart => exact ⟨0, rfl, Nat.zero_le _, Nat.zero_le _, _, _, _, _, HS, HTW⟩
        case round =>
          clear HS HTW
          obtain ⟨i, rfl, hi1, hi2, s, F, L, H, HS, HTW⟩ := hrel
          by_cases hlt : i < acts.length
          case neg =>
            obtain rfl : i = acts.length := by omega
            have d2 : decide ((acts.length : Int) < (acts.length : Int)) = false := decide_eq_false (by omega)
            go_wp2
            go_meet
            case rel => exact ⟨_, s, F, L, H, hi2, HS, HTW⟩
          case pos =>
            have d2 : decide ((i : Int) < (acts.length : Int)) = true := decide_eq_true (by omega)
            have d2n : decide (i < acts.length) = true := decide_eq_true hlt
            have HBW := Aside0.mk (HTW.out.low (Nat.le_of_eq hB))
            obtain ⟨x, hx, b, o, A3, c3, rfl, q0, q1, q2, q3, l3, g3⟩ := at39 (Kd.C_below HRO.out (hB ▸ HBW.out)) hlt
            have hfr : Free (geB B) wr A3 c3 x.f3 := by
              obtain ⟨x', hx', _, _, A3', c3', e', _, _, _, q3', l3', g3'⟩ := at39 HRO.out hlt
              obtain rfl : x = x' := Option.some.inj (hx.symm.trans hx')
              have hf := free_of g3' l3' (fun y hy => (HI.out x (List.mem_of_getElem? hx)).2.2 y hy)
              have e := q3'
              obtain ⟨rfl, rfl⟩ : _ = b ∧ _ = o := by simpa using e'.symm
              rw [← World.cell?_of_block (w := w) (w' := wr) (HBW.out.block _ (by rw [hB]; exact (spot_of q3').2)), q3] at e
              simp only [Option.some.injEq, Value.slice.injEq] at e
              obtain ⟨rfl, _, rfl⟩ := e
              rw [← hB] at hf
              exact hf.turn HTW.out
            have hix := index39 b acts.length c i o hlt
            obtain ⟨f0, f1, f2, f3⟩ := x
            simp only at q0 q1 q2 q3 hfr
            have hf1 : f1 ≤ 9223372036854775807 := And.right (HI.out _ (List.mem_of_getElem? hx)).2.1
            have HF := Aside0.mk hfr
            have HF1 := Aside0.mk hf1
            clear hx g3 l3 hfr hf1
            by_cases h80 : i = 80
            case pos =>
              have d3 : ((i : Int) == 80) = true := by rw [h80]; rfl
              clear h80
              go_wp2
              go_meet
              case rel => exact ⟨i, s, F, L, H, hi2, ⟨HS.out.beside _ (fun _ _ h => h) (fun k hk => HQQ.out k (by have := HS.out.qs; omega)) (fun _ h => h)⟩, ⟨HTW.out.then (Turn.of_below (below_alloc (Below.refl _ _) _))⟩⟩
            case neg =>
              have d3 : ((i : Int) == 80) = false := by simp; omega
              have HI1 := Aside0.mk (show i + 1 ≤ 80 by omega)
              clear h80
              go_upto_block 4 with (fail)
              clear q0 q1 q2 q3 hix
              obtain ⟨q, hq⟩ : ∃ q, q = wr.heap.size := ⟨_, rfl⟩
              obtain ⟨W, hW⟩ : ∃ W, W = wr.alloc (.cells #[.int .i64 f0, .int .i64 f1, .string f2, .slice A3 f3.length c3] 39) := ⟨_, rfl⟩
              obtain ⟨ok3, hok3⟩ : ∃ ok3 : Nat → Prop, ok3 = fun j => ok2 j ∧ j ≠ q := ⟨_, rfl⟩
              rw [← hW, ← hq]
              have hbW : Below wr.heap.size wr W := by rw [hW]; exact below_alloc (Below.refl _ _) _
              have hzW : W.heap.size = q + 1 := by rw [hW, hq]; simp
              have H3 := Aside0.mk (show (∀ k, ok3 k → ok2 k) ∧ ¬ ok3 q from ⟨fun k hk => by rw [hok3] at hk; exact hk.1, fun hk => by rw [hok3] at hk; exact hk.2 rfl⟩)
              have HY := Aside0.mk (show Sync ok3 fb Q W p i s F L H by
                rw [hW, hok3]
                exact HS.out.beside _ (fun k hk ho => ⟨ho, by omega⟩) (fun k hk => ⟨HQQ.out k (by have := HS.out.qs; omega), by omega⟩) (fun k hk => hk.1))
              have HQ := Aside0.mk (show W.heap[q]? = some (.cells #[.int .i64 f0, .int .i64 f1, .string f2, .slice A3 f3.length c3] 39 (0, 0)) by
                rw [hW, hq]
                exact heap_alloc_new wr _)
              have HLT := Aside0.mk (show q < W.heap.size by omega)
              have HF2 := Aside0.mk (show Free ok3 W A3 c3 f3 from ((HF.out.turn (Turn.of_below hbW)).to (fun k hk => HGE.out k (H3.out.1 k hk))))
              have HQG := Aside0.mk (show Q ≤ q by have := HS.out.qs; omega)
              have HTV := Aside0.mk (show Turn (geB B) w W from HTW.out.then (Turn.of_below hbW))
              have HEND := Aside0.mk (fun (wX : World) (s' : St) (F' L' : List ByteArray) (h : Sync ok3 fb Q wX p (i + 1) s' F' L' H) => (h.back H3.out.1 (fun k hk => HQQ.out k (Nat.le_trans h.qs hk)) HAP.out : Sync ok2 fb Q wX p (i + 1) s' F' L' H))
              have HTE := Aside0.mk (fun (wX : World) (h : Turn ok3 W wX) => (HTV.out.then (h.mono (fun k hk => HGE.out k (H3.out.1 k hk))) : Turn (geB B) w wX))
              have HSH := Aside0.mk (le_of_short HS.out.short (show i ≤ 1000000000 by omega))
              clear hbW hzW hW HF hq hok3 HS HTW HBW
              by_cases e0 : f0 = 0
              case pos =>
                subst e0
                have k1 : W.cell? ⟨q, 1, none⟩ = some (.int .i64 f1) := (blk_cell HQ.out 1).trans rfl
                have k2 : W.cell? ⟨q, 2, none⟩ = some (.string f2) := (blk_cell HQ.out 2).trans rfl
                by_cases hlay : (s.lay f1 f2).2 = true
                case neg =>
                  have hlf : (s.lay f1 f2).2 = false := by simpa using hlay
                  have hsm := lay_false hlf
                  have hC := HY.out.one.lay f1 f2 HSH.out
                  rw [hlf] at hC
                  have HCC := Aside0.mk hC
                  have HSM := Aside0.mk hsm
                  clear hlay hlf hC hsm
                  go_wp2_with (first
                    | (go_at_call 12; (with_reducible refine HCC.out.mono ?_); rintro e W2 ⟨rfl, ht, hT⟩; have HT2 := Aside0.mk ht; have HU := Aside0.mk hT; clear ht hT))
                  go_roundw
                  case rel => exact ⟨i + 1, by go_num, by omega, HI1.out, _, F, L, H, ⟨HEND.out _ _ _ _ (HY.out.same HT2.out HU.out HSM.out.1 HSM.out.2)⟩, ⟨HTE.out _ HU.out⟩⟩
                  case measure => simp [intOf]; omega
                case pos =>
                  obtain ⟨kk, hk, hk9, hsz, hfirm, hlo, hnow, hget⟩ := lay_true HY.out.one.fit hlay
                  subst hk
                  rw [HY.out.n9] at hk9
                  obtain ⟨s', hs'⟩ : ∃ s', s' = (s.lay (kk : Int) f2).1 := ⟨_, rfl⟩
                  obtain ⟨X, hX⟩ : ∃ X, X = full f2 := ⟨_, rfl⟩
                  have hC := HY.out.one.lay (kk : Int) f2 HSH.out
                  rw [hlay, ← hs'] at hC
                  rw [← hs'] at hfirm hlo hnow hget
                  rw [← hX] at hlo hnow hget
                  have hG : ∀ V, One ok3 V p s' → Calls Try.prog 11 #[.pointer (some ⟨p, 0, none⟩), .int .i64 (kk : Int)] V fun e w' => e = .returned (.tuple #[.string X, .bool true]) ∧ Below V.heap.size V w' := fun V h => by
                    have := h.get (kk : Int)
                    rw [hget] at this
                    exact this
                  have hsh : Short s' (i + 1) := by rw [hs']; exact short_lay HY.out.short _ _
                  have hXs : X.size = 128 := by rw [hX]; exact full_size hsz
                  have HCC := Aside0.mk hC
                  have HG := Aside0.mk hG
                  have HSS := Aside0.mk hsh
                  have HFI := Aside0.mk hfirm
                  have HLO := Aside0.mk hlo
                  have HNO := Aside0.mk hnow
                  have HXS := Aside0.mk hXs
                  have HX := Aside0.mk hX
                  have HS2 := Aside0.mk hsz
                  have HK9 := Aside0.mk hk9
                  clear hlay hC hG hsh hfirm hlo hnow hget hXs hX hs' hsz hk9
                  go_upto_region 20 with (first
                    | (go_at_call 12; (with_reducible refine HCC.out.mono ?_); rintro e W2 ⟨rfl, ht, hT⟩; have HT2 := Aside0.mk ht; have HU := Aside0.mk hT; have hq2 := (hT.block q HLT.out H3.out.2).trans HQ.out; have k3 : W2.cell? ⟨q, 1, none⟩ = some (.int .i64 (kk : Int)) := (blk_cell hq2 1).trans rfl; clear ht hT hq2)
                    | (go_at_call 11; (with_reducible refine (HG.out _ HT2.out).mono ?_); rintro e Z1 ⟨rfl, hb⟩; have HZ1 := Aside0.mk hb; clear hb))
                  have hT1 : Tabs fb (fb + 1) (fb + 1 + 1) Z1 F L H := (HY.out.tabs.turn HU.out HY.out.apart HY.out.q).turn (Turn.of_below HZ1.out : Turn ok3 _ _) HY.out.apart HY.out.q
                  have hq1 : Z1.heap[q]? = some _ := (HZ1.out.block q (Nat.lt_of_lt_of_le HLT.out HU.out.size)).trans ((HU.out.block q HLT.out H3.out.2).trans HQ.out)
                  have g1 := hT1.cell_l (HY.out.ll kk HK9.out)
                  have g2 := blk_frozen hT1.l kk
                  have g3 : Z1.cell? ⟨q, 1, none⟩ = some (.int .i64 (kk : Int)) := (blk_cell hq1 1).trans rfl
                  have HT1 := Aside0.mk hT1
                  have HQ1 := Aside0.mk hq1
                  have p1 : decide ((kk : Int) < 9) = true := decide_eq_true (by have := HK9.out; omega)
                  have p2 : decide (kk < 9) = true := decide_eq_true HK9.out
                  have p3 : kk < 9 := HK9.out
                  clear hT1 hq1 k1 k2 k3
                  go_upto_region 21 with (fail)
                  obtain ⟨Z2, hZ2⟩ : ∃ Z, Z = Z1.setCell ⟨fb + 1, kk, none⟩ (.string X) := ⟨_, rfl⟩
                  rw [← hZ2]
                  have hT2 : Tabs fb (fb + 1) (fb + 1 + 1) Z2 F (L.set kk X) H := by rw [hZ2]; exact HT1.out.set_l kk X
                  have hqg := HQG.out
                  have hq3 := HY.out.q
                  have hq2 : Z2.heap[q]? = some (.cells #[.int .i64 0, .int .i64 (kk : Int), .string f2, .slice A3 f3.length c3] 39 (0, 0)) := by
                    rw [hZ2, Below.heap_setCell _ _ _ q (by simp; omega)]
                    exact HQ1.out
                  have hH2 : Held fb Q Z2 H (i + 1) (needs s) := ((HY.out.held.turn HU.out HY.out.apart).turn (Turn.of_below HZ1.out : Turn ok3 _ _) HY.out.apart).move (fun m h1 h2 _ => by rw [hZ2]; exact Below.heap_setCell _ _ _ m (by simp; omega))
                  obtain ⟨m, w4, hm1, hm2, hm3, hrun, hg, hs4, hh4⟩ := hH2.store (by omega) HK9.out X (by rw [HXS.out]; decide)
                  have g4 : Z2.cell? ⟨q, 1, none⟩ = some (.int .i64 (kk : Int)) := (blk_cell hq2 1).trans rfl
                  have g5 := hT2.cell_h hm1
                  have hq4 : w4.heap[q]? = some (.cells #[.int .i64 0, .int .i64 (kk : Int), .string f2, .slice A3 f3.length c3] 39 (0, 0)) := (hg.block q (blk_lt hq2) (by simp; omega)).trans hq2
                  have g6 : w4.cell? ⟨q, 2, none⟩ = some (.string f2) := (blk_cell hq4 2).trans rfl
                  have HZ2 := Aside0.mk hZ2
                  have HT3 := Aside0.mk hT2
                  have HG4 := Aside0.mk hg
                  have HH4 := Aside0.mk hh4
                  have HM := Aside0.mk (show fb + 1 + 1 < m ∧ m < Q from ⟨hm2, hm3⟩)
                  clear hZ2 hT2 hqg hq3 hq2 hH2 hg hs4 hh4 hm1 hm2 hm3 hq4 g1 g2 g3
                  go_upto_region 22 with (fail)
                  have u1 : ((X.size : Int) != 128) = false := by rw [HXS.out]; rfl
                  have u1n : (X.size == 128) = true := by rw [HXS.out]; rfl
                  have u2' : (0 : Int) ≤ (f2.size : Int) := by omega
                  have u3 : (f2.size : Int) ≤ (X.size : Int) := by have := HXS.out; have := HS2.out; omega
                  have u3n : f2.size ≤ X.size := by have := HXS.out; have := HS2.out; omega
                  have u4 : X.extract 0 f2.size = f2 := by rw [HX.out]; unfold full; exact ByteArray.extract_append_eq_left rfl
                  have u5 : decide ((f2.size : Int) ≤ (X.size : Int)) = true := decide_eq_true u3
                  have u6 : decide (f2.size ≤ X.size) = true := decide_eq_true u3n
                  go_quiet (fail)
                  go_wp2
                  go_roundw
                  case rel =>
                    refine ⟨i + 1, by go_num, by omega, HI1.out, s', F, L.set kk X, H, ?_⟩
                    have a1 : ∀ k, ok3 k → k ≠ fb + 1 := fun k hk e => HY.out.apart k (by omega) (by have := HY.out.q; omega) hk
                    have a2 : ∀ k, ok3 k → k ≠ m := fun k hk e => HY.out.apart k (by have := HM.out; omega) (by have := HM.out; omega) hk
                    have t1 : Turn (fun k => k = fb + 1) Z1 Z2 := by rw [HZ2.out]; exact Turn.set (own := fun k => k = fb + 1) (Turn.refl _ _) (a := ⟨fb + 1, kk, none⟩) rfl _
                    have t2 : Turn (fun k => k = m) Z2 w4 := Turn.of_grown HG4.out (fun k hk => (Option.some.inj hk).symm)
                    have b3 : Below w4.heap.size w4 (w4.drewN nq) := pw_below_drewN (Below.refl _ _) _
                    have o1 := (((HT2.out.below HZ1.out).turn t1 a1).turn t2 a2).below b3
                    have hm4 := HM.out
                    have t3 : Tabs fb (fb + 1) (fb + 1 + 1) (w4.drewN nq) F (L.set kk X) H := (HT3.out.move (fun j h1 h2 => t2.block j (Nat.lt_of_le_of_lt h2 HT3.out.lt) (by omega))).move (fun j _ hj => rfl)
                    have sz : Q ≤ (w4.drewN nq).heap.size := Nat.le_trans (Nat.le_trans (Nat.le_trans (Nat.le_trans (Nat.le_trans HY.out.qs HU.out.size) HZ1.out.size) t1.size) t2.size) b3.size
                    refine ⟨⟨HEND.out _ _ _ _ ?_⟩, ⟨?_⟩⟩
                    · exact Sync.laid HY.out o1 t3 (HH4.out.move (fun _ _ _ _ => rfl)) sz HFI.out HLO.out HNO.out HSS.out HK9.out
                    · exact ((((HTV.out.then (HU.out.mono (fun k hk => HGE.out k (H3.out.1 k hk)))).then (Turn.of_below HZ1.out)).then (t1.mono (fun k hk => (show B ≤ k by omega)))).then (t2.mono (fun k hk => (show B ≤ k by omega)))).then (Turn.of_below b3)
                  case measure => simp [intOf]; omega
              case neg =>
              by_cases e1 : f0 = 1
              case pos =>
                subst e1
                clear e0
                by_cases hbar : s.barrier.2 = true
                case neg =>
                  have hlf : s.barrier.2 = false := by simpa using hbar
                  have hsm := barrier_false hlf
                  have hC := HY.out.one.barrier
                  rw [hlf] at hC
                  have HCC := Aside0.mk hC
                  have HSM := Aside0.mk hsm
                  clear hbar hlf hC hsm
                  go_wp2_with (first
                    | (go_at_call 13; (with_reducible refine HCC.out.mono ?_); rintro e W2 ⟨rfl, ht, hT⟩; have HT2 := Aside0.mk ht; have HU := Aside0.mk hT; clear ht hT))
                  go_roundw
                  case rel => exact ⟨i + 1, by go_num, by omega, HI1.out, _, F, L, H, ⟨HEND.out _ _ _ _ (HY.out.same HT2.out HU.out HSM.out.1 HSM.out.2)⟩, ⟨HTE.out _ HU.out⟩⟩
                  case measure => simp [intOf]; omega
                case pos =>
                  have hbt := barrier_true HY.out.one.fit hbar
                  obtain ⟨s', hs'⟩ : ∃ s', s' = s.barrier.1 := ⟨_, rfl⟩
                  have hC := HY.out.one.barrier
                  rw [hbar, ← hs'] at hC
                  rw [← hs'] at hbt
                  have HCC := Aside0.mk hC
                  have HBT := Aside0.mk hbt
                  clear hbar hC hbt hs'
                  go_upto_region 26 with (first
                    | (go_at_call 13; (with_reducible refine HCC.out.mono ?_); rintro e W2 ⟨rfl, ht, hT⟩; have HT2 := Aside0.mk ht; have HU := Aside0.mk hT; clear ht hT))
                  have hT1 : Tabs fb (fb + 1) (fb + 1 + 1) W2 F L H := HY.out.tabs.turn HU.out HY.out.apart HY.out.q
                  obtain ⟨l0, l1, l2, l3, l4, l5, l6, l7, l8, hL9⟩ : ∃ l0 l1 l2 l3 l4 l5 l6 l7 l8 : ByteArray, L = [l0, l1, l2, l3, l4, l5, l6, l7, l8] := by
                    have h9 := hT1.ll
                    exact list_nine h9
                  obtain ⟨v0, v1, v2, v3, v4, v5, v6, v7, v8, hF9⟩ : ∃ v0 v1 v2 v3 v4 v5 v6 v7 v8 : ByteArray, F = [v0, v1, v2, v3, v4, v5, v6, v7, v8] := by
                    have h9 := hT1.fl
                    exact list_nine h9
                  have e0' := hT1.cell_l (k := 0) (x := l0) (by rw [hL9]; rfl)
                  have d0' := hT1.cell_f (k := 0) (x := v0) (by rw [hF9]; rfl)
                  have z0' := blk_frozen hT1.f 0
                  have e1' := hT1.cell_l (k := 1) (x := l1) (by rw [hL9]; rfl)
                  have d1' := hT1.cell_f (k := 1) (x := v1) (by rw [hF9]; rfl)
                  have z1' := blk_frozen hT1.f 1
                  have e2' := hT1.cell_l (k := 2) (x := l2) (by rw [hL9]; rfl)
                  have d2' := hT1.cell_f (k := 2) (x := v2) (by rw [hF9]; rfl)
                  have z2' := blk_frozen hT1.f 2
                  have e3' := hT1.cell_l (k := 3) (x := l3) (by rw [hL9]; rfl)
                  have d3' := hT1.cell_f (k := 3) (x := v3) (by rw [hF9]; rfl)
                  have z3' := blk_frozen hT1.f 3
                  have e4' := hT1.cell_l (k := 4) (x := l4) (by rw [hL9]; rfl)
                  have d4' := hT1.cell_f (k := 4) (x := v4) (by rw [hF9]; rfl)
                  have z4' := blk_frozen hT1.f 4
                  have e5' := hT1.cell_l (k := 5) (x := l5) (by rw [hL9]; rfl)
                  have d5' := hT1.cell_f (k := 5) (x := v5) (by rw [hF9]; rfl)
                  have z5' := blk_frozen hT1.f 5
                  have e6' := hT1.cell_l (k := 6) (x := l6) (by rw [hL9]; rfl)
                  have d6' := hT1.cell_f (k := 6) (x := v6) (by rw [hF9]; rfl)
                  have z6' := blk_frozen hT1.f 6
                  have e7' := hT1.cell_l (k := 7) (x := l7) (by rw [hL9]; rfl)
                  have d7' := hT1.cell_f (k := 7) (x := v7) (by rw [hF9]; rfl)
                  have z7' := blk_frozen hT1.f 7
                  have e8' := hT1.cell_l (k := 8) (x := l8) (by rw [hL9]; rfl)
                  have d8' := hT1.cell_f (k := 8) (x := v8) (by rw [hF9]; rfl)
                  have z8' := blk_frozen hT1.f 8
                  have HT1 := Aside0.mk hT1
                  have HL9 := Aside0.mk hL9
                  have HF9 := Aside0.mk hF9
                  clear hT1 hL9 hF9
                  go_wp2
                  go_roundw
                  case rel =>
                    refine ⟨i + 1, by go_num, by omega, HI1.out, s', L, L, H, ?_⟩
                    have t9 := (((((((((HT1.out.set_f 0 l0).set_f 1 l1).set_f 2 l2).set_f 3 l3).set_f 4 l4).set_f 5 l5).set_f 6 l6).set_f 7 l7).set_f 8 l8)
                    have e9 : (((((((((F.set 0 l0).set 1 l1).set 2 l2).set 3 l3).set 4 l4).set 5 l5).set 6 l6).set 7 l7).set 8 l8) = L := by rw [HF9.out, HL9.out]; rfl
                    rw [e9] at t9
                    have tf := (Turn.set (own := fun k => k = fb) (Turn.set (own := fun k => k = fb) (Turn.set (own := fun k => k = fb) (Turn.set (own := fun k => k = fb) (Turn.set (own := fun k => k = fb) (Turn.set (own := fun k => k = fb) (Turn.set (own := fun k => k = fb) (Turn.set (own := fun k => k = fb) (Turn.set (own := fun k => k = fb) (Turn.refl (fun k => k = fb) W2) (a := ⟨fb, 0, none⟩) rfl (.string l0)) (a := ⟨fb, 1, none⟩) rfl (.string l1)) (a := ⟨fb, 2, none⟩) rfl (.string l2)) (a := ⟨fb, 3, none⟩) rfl (.string l3)) (a := ⟨fb, 4, none⟩) rfl (.string l4)) (a := ⟨fb, 5, none⟩) rfl (.string l5)) (a := ⟨fb, 6, none⟩) rfl (.string l6)) (a := ⟨fb, 7, none⟩) rfl (.string l7)) (a := ⟨fb, 8, none⟩) rfl (.string l8))
                    have o1 := HT2.out.turn tf (fun k hk e => HY.out.apart k (by omega) (by have := HY.out.q; omega) hk)
                    have hh := (HY.out.held.turn HU.out HY.out.apart).move (w' := _) (fun m h1 h2 h3 => tf.block m h3 (by omega))
                    refine ⟨⟨HEND.out _ _ _ _ ?_⟩, ⟨?_⟩⟩
                    · exact Sync.firmed HY.out o1 t9 hh (Nat.le_trans (Nat.le_trans HY.out.qs HU.out.size) tf.size) HY.out.one.fit HBT.out.1 HBT.out.2.1 HBT.out.2.2
                    · exact (HTV.out.then (HU.out.mono (fun k hk => HGE.out k (H3.out.1 k hk)))).then (tf.mono (fun k hk => (show B ≤ k by omega)))
                  case measure => simp [intOf]; omega
              case neg =>
              by_cases e2 : f0 = 2
              case pos =>
                subst e2
                clear e0 e1
                have k1 : W.cell? ⟨q, 1, none⟩ = some (.int .i64 f1) := (blk_cell HQ.out 1).trans rfl
                go_wp2_with (first
                  | (go_at_call 19; (with_reducible refine (HY.out.one.limit f1 HF1.out).mono ?_); rintro e W2 ⟨rfl, ht, hT⟩; have HT2 := Aside0.mk ht; have HU := Aside0.mk hT; clear ht hT))
                go_roundw
                case rel => exact ⟨i + 1, by go_num, by omega, HI1.out, _, F, L, H, ⟨HEND.out _ _ _ _ (HY.out.same HT2.out HU.out rfl rfl)⟩, ⟨HTE.out _ HU.out⟩⟩
                case measure => simp [intOf]; omega
              case neg =>
              by_cases e3 : f0 = 3
              case pos =>
                subst e3
                clear e0 e1 e2
                have k1 : W.cell? ⟨q, 3, none⟩ = some (.slice A3 f3.length c3) := (blk_cell HQ.out 3).trans rfl
                go_wp2_with (first
                  | (go_at_call 20; (with_reducible refine (HY.out.one.fall A3 c3 f3 HF2.out HSH.out).mono ?_); rintro e W2 ⟨rfl, ht, hT⟩; have HT2 := Aside0.mk ht; have HU := Aside0.mk hT; clear ht hT))
                have HT1 := Aside0.mk (HY.out.tabs.turn HU.out HY.out.apart HY.out.q)
                have HH1 := Aside0.mk (HY.out.held.turn HU.out HY.out.apart)
                have HTU := Aside0.mk (HTV.out.then (HU.out.mono (fun k hk => HGE.out k (H3.out.1 k hk))))
                go_loopw [113] (fun v wr => ∃ k : Nat, v = .int .i64 k ∧ k ≤ 9 ∧ ∃ F' L', Aside0 (One ok3 wr p (s.fall f3)) ∧ Aside0 (Tabs fb (fb + 1) (fb + 1 + 1) wr F' L' H) ∧ Aside0 (∀ j, j < k → F'[j]? = some (fi (s.fall f3) j) ∧ L'[j]? = some (fi (s.fall f3) j)) ∧ Aside0 (Held fb Q wr H (i + 1) (needs s)) ∧ Aside0 (Turn (geB B) w wr) ∧ Aside0 (Q ≤ wr.heap.size)) (fun v _ => 9 - (intOf v).toNat)
                case atStart => exact ⟨0, rfl, Nat.zero_le _, F, L, HT2, HT1, ⟨fun j hj => by omega⟩, HH1, HTU, ⟨Nat.le_trans HY.out.qs HU.out.size⟩⟩
                case round =>
                  obtain ⟨k, rfl, hk9, F', L', RO, RT, RF, RH, RW, RS⟩ := hrel
                  by_cases hlk : k < 9
                  case neg =>
                    obtain rfl : k = 9 := by omega
                    go_wp2
                    go_roundw
                    case rel => exact ⟨i + 1, by go_num, by omega, HI1.out, _, F', L', H, ⟨HEND.out _ _ _ _ (Sync.fell HY.out f3 RO.out RT.out RF.out RH.out RS.out HY.out.one.fit)⟩, RW⟩
                    case measure => simp [intOf]; omega
                  case pos =>
                    have l1 : decide ((k : Int) < 9) = true := decide_eq_true (by omega)
                    have l1n : decide (k < 9) = true := decide_eq_true hlk
                    obtain ⟨X, hX⟩ : ∃ X, X = fi (s.fall f3) k := ⟨_, rfl⟩
                    have hG := RO.out.get (k : Int)
                    rw [fall_get f3 (by rw [HY.out.n9]; exact hlk), ← hX] at hG
                    have hneed : needs s k X := by rw [hX]; exact fall_fi HY.out.one.fit f3 (by rw [HY.out.n9]; exact hlk)
                    have hXl : X.size ≤ maxLen := by rw [hX, fi_size RO.out.fit]; decide
                    have HG := Aside0.mk hG
                    have HX := Aside0.mk hX
                    have HNE := Aside0.mk hneed
                    have HXL := Aside0.mk hXl
                    clear hG hX hneed hXl
                    go_upto_region 35 with (first
                      | (go_at_call 11; (with_reducible refine HG.out.mono ?_); rintro e Z1 ⟨rfl, hb⟩; have HZ1 := Aside0.mk hb; clear hb))
                    have hT1 : Tabs fb (fb + 1) (fb + 1 + 1) Z1 F' L' H := RT.out.move (fun j _ hj => HZ1.out.block j (Nat.lt_of_le_of_lt hj RT.out.lt))
                    have hH1 : Held fb Q Z1 H (i + 1) (needs s) := RH.out.move (fun m _ _ hm => HZ1.out.block m hm)
                    obtain ⟨m, hm1, hrun⟩ := hH1.look hlk HNE.out HXL.out
                    have g1 := hT1.cell_h hm1
                    obtain ⟨y1, hy1⟩ : ∃ y, F'[k]? = some y := ⟨_, List.getElem?_eq_getElem (by rw [hT1.fl]; exact hlk)⟩
                    obtain ⟨y2, hy2⟩ : ∃ y, L'[k]? = some y := ⟨_, List.getElem?_eq_getElem (by rw [hT1.ll]; exact hlk)⟩
                    have hT2 := hT1.set_f k X
                    have g2 := hT1.cell_f hy1
                    have g3 := hT2.cell_l hy2
                    have g4 := blk_frozen hT1.f k
                    have g5 := blk_frozen hT2.l k
                    have g6 := hT1.cell_l hy2
                    have g7 := blk_frozen hT1.l k
                    have HT3 := Aside0.mk (hT2.set_l k X)
                    have HT4 := Aside0.mk hT1
                    have HH4 := Aside0.mk hH1
                    clear hT1 hT2 hH1 hm1 hy1 hy2
                    go_wp2
                    go_roundw
                    case rel =>
                      have tf : Turn (fun j => j = fb ∨ j = fb + 1) Z1 ((Z1.setCell ⟨fb, k, none⟩ (.string X)).setCell ⟨fb + 1, k, none⟩ (.string X)) := Turn.set (own := fun j => j = fb ∨ j = fb + 1) (Turn.set (own := fun j => j = fb ∨ j = fb + 1) (Turn.refl _ _) (a := ⟨fb, k, none⟩) (.inl rfl) _) (a := ⟨fb + 1, k, none⟩) (.inr rfl) _
                      have hq3 := HY.out.q
                      refine ⟨k + 1, by go_num, by omega, F'.set k X, L'.set k X, ⟨(RO.out.below HZ1.out).turn tf (fun j hj e => HY.out.apart j (by omega) (by omega) hj)⟩, HT3, ⟨fun j hj => ?_⟩, ⟨HH4.out.move (fun m h1 _ h3 => tf.block m h3 (by omega))⟩, ⟨(RW.out.then (Turn.of_below HZ1.out)).then (tf.mono (fun j hj => (show B ≤ j by omega)))⟩, ⟨Nat.le_trans (Nat.le_trans RS.out HZ1.out.size) tf.size⟩⟩
                      have f9 := HT4.out.fl
                      have l9 := HT4.out.ll
                      by_cases e : j = k
                      · subst e
                        rw [List.getElem?_set_self (by omega), List.getElem?_set_self (by omega), HX.out]
                        exact ⟨rfl, rfl⟩
                      · rw [List.getElem?_set_ne (by omega), List.getElem?_set_ne (by omega)]
                        exact RF.out j (by omega)
                    case measure => simp [intOf]; omega
              case neg =>
                have b0 : (f0 == 0) = false := by simpa using e0
                have b1 : (f0 == 1) = false := by simpa using e1
                have b2 : (f0 == 2) = false := by simpa using e2
                have b3 : (f0 == 3) = false := by simpa using e3
                clear e0 e1 e2 e3
                go_wp2
                go_roundw
                case rel => exact ⟨i + 1, by go_num, by omega, HI1.out, _, F, L, H, ⟨HEND.out _ _ _ _ (HY.out.same HY.out.one (Turn.refl _ _) rfl rfl)⟩, ⟨HTE.out _ (Turn.refl _ _)⟩⟩
                case measure => simp [intOf]; omega
      case rest =>
        clear HS HTW
        obtain ⟨i, s, F, L, H, hi80, HS, HTW⟩ := hcut
        have hC := HS.out.one.fall none 0 [] (free_nil _ _) (le_of_short HS.out.short (by omega))
        have HCC := Aside0.mk (show Calls Try.prog 20 #[.pointer (some ⟨p, 0, none⟩), .slice none 0 0] wc fun e w' => e = .returned (.tuple #[]) ∧ One ok2 w' p (s.fall []) ∧ Turn ok2 wc w' from hC)
        clear hC
        go_wp2_with (first
          | (go_at_call 20; (with_reducible refine HCC.out.mono ?_); rintro e V ⟨rfl, ht, hT⟩; have HT2 := Aside0.mk ht; have HU := Aside0.mk hT; clear ht hT))
        have HV := Aside0.mk (HS.out.tabs.turn HU.out HS.out.apart HS.out.q)
        go_loopw [142] (fun v wr => ∃ k : Nat, v = .int .i64 k ∧ k ≤ 9 ∧ Aside0 (Below V.heap.size V wr)) (fun v _ => 9 - (intOf v).toNat)
        case atStart => exact ⟨0, rfl, Nat.zero_le _, ⟨Below.refl _ _⟩⟩
        case round =>
          obtain ⟨k, rfl, hk9, HBR⟩ := hrel
          by_cases hlk : k < 9
          case neg =>
            obtain rfl : k = 9 := by omega
            go_wp2
            go_ret
            exact ⟨rfl, ((HTW.out.then (HU.out.mono HGE.out)).then (Turn.of_below HBR.out)).low (Nat.le_of_eq hB)⟩
          case pos =>
            have l1 : decide ((k : Int) < 9) = true := decide_eq_true (by omega)
            have l1n : decide (k < 9) = true := decide_eq_true hlk
            obtain ⟨X, hX⟩ : ∃ X, X = fi s k := ⟨_, rfl⟩
            have hG : Calls Try.prog 11 #[.pointer (some ⟨p, 0, none⟩), .int .i64 (k : Int)] wr fun e w' => e = .returned (.tuple #[.string X, .bool true]) ∧ Below wr.heap.size wr w' := by
              have hg := (HT2.out.below HBR.out).get (k : Int)
              rw [fall_get [] (by rw [HS.out.n9]; exact hlk), fall_none, ← hX] at hg
              exact hg
            have HG := Aside0.mk hG
            have hff := HS.out.ff k hlk
            rw [← hX] at hff
            have HFF := Aside0.mk hff
            clear hG hX hff
            go_upto_region 45 with (first
              | (go_at_call 11; (with_reducible refine HG.out.mono ?_); rintro e Z1 ⟨rfl, hb⟩; have HZ1 := Aside0.mk hb; clear hb))
            have hT1 : Tabs fb (fb + 1) (fb + 1 + 1) Z1 F L H := (HV.out.move (fun j _ hj => HBR.out.block j (Nat.lt_of_le_of_lt hj HV.out.lt))).move (fun j _ hj => HZ1.out.block j (Nat.lt_of_le_of_lt hj (Nat.lt_of_lt_of_le HV.out.lt HBR.out.size)))
            have c1 := hT1.cell_f HFF.out
            have HZ2 := Aside0.mk (HBR.out.trans (HZ1.out.lower' HBR.out.size))
            clear hT1
            go_wp2
            go_roundw
            case rel => exact ⟨k + 1, by go_num, by omega, HZ2⟩
            case measure => simp [intOf]; omega
    case pos =>
      have l1 : decide ((k : Int) < 9) = true := decide_eq_true (by omega)
      have l1n : decide (k < 9) = true := decide_eq_true hlk
      obtain ⟨X, hX⟩ : ∃ X, X = fi (St.new 9) k := ⟨_, rfl⟩
      have hxs : X.size = 128 := by rw [hX]; exact fi_new k
      have hG : Calls Try.prog 11 #[.pointer (some ⟨p, 0, none⟩), .int .i64 (k : Int)] wr fun e w' => e = .returned (.tuple #[.string X, .bool true]) ∧ Below wr.heap.size wr w' := by
        have hg := get_any (HOD.out.below (hb := HFB.out ▸ HBR.out)) (k : Int)
        rw [new_get9 hlk, ← hX] at hg
        exact hg
      have HG := Aside0.mk hG
      have HX := Aside0.mk hX
      have HXS := Aside0.mk hxs
      clear hG hX hxs
      go_upto_region 10 with (first
        | (go_at_call 11; (with_reducible refine HG.out.mono ?_); rintro e Z1 ⟨rfl, hb⟩; have HZ1 := Aside0.mk hb; clear hb))
      obtain ⟨w4, hrun, hm, hg, hsz⟩ := (MapS.made Z1 Try.prog 9).store Try.underlying9 Try.underlying49 (by omega) (x := X) (by rw [HXS.out]; decide)
      have hT0 : Tabs fb (fb + 1) (fb + 1 + 1) Z1 F L H := HTR.out.move (fun j _ hj => HZ1.out.block j (Nat.lt_of_le_of_lt hj HTR.out.lt))
      have hT4 : Tabs fb (fb + 1) (fb + 1 + 1) w4 F L H := hT0.move (fun j _ hj => by
        have hjl := Nat.lt_of_le_of_lt hj hT0.lt
        rw [hg.block j (by simp; omega) (by simp; omega)]
        exact (below_alloc (Below.refl _ Z1) (.map #[] 0)).block j hjl)
      have hT5 := hT4.set_f k X
      have hT6 := hT5.set_l k X
      have hT7 := hT6.set_h k (some Z1.heap.size)
      obtain ⟨y1, hy1⟩ : ∃ y, F[k]? = some y := ⟨_, List.getElem?_eq_getElem (by rw [hT4.fl]; exact hlk)⟩
      obtain ⟨y2, hy2⟩ : ∃ y, L[k]? = some y := ⟨_, List.getElem?_eq_getElem (by rw [hT4.ll]; exact hlk)⟩
      obtain ⟨y3, hy3⟩ : ∃ y, H[k]? = some y := ⟨_, List.getElem?_eq_getElem (by rw [hT4.hl]; exact hlk)⟩
      have c1 := hT4.cell_f hy1
      have c2 := hT5.cell_l hy2
      have c3 := hT6.cell_h hy3
      have z1 := blk_frozen hT4.f k
      have z2 := blk_frozen hT5.l k
      have z3 := blk_frozen hT6.h k
      have HT7 := Aside0.mk hT7
      have HM := Aside0.mk hm
      have HGR := Aside0.mk hg
      have HSZ4 := Aside0.mk hsz
      have HT0 := Aside0.mk hT0
      have hmm := @run_makeMap Try.prog
      clear hT0 hT4 hT5 hT6 hT7 hm hg hsz hy1 hy2 hy3
      go_wp2
      go_roundw
      case rel =>
        refine ⟨k + 1, by go_num, by omega, _, _, _, HT7, ⟨?_⟩, ⟨round_below HBR.out HTR.out.lt HZ1.out HGR.out HSZ4.out k _ _ _⟩⟩
        have hlt := HTR.out.lt
        have hz := HZ1.out.size
        have hm := HM.out
        rw [HX.out] at hm ⊢
        refine HMR.out.next HTR.out hlk hz (hm.move (three_far _ _ _ _ _ _ _ (by omega) (by omega) (by omega))) (fun j hj hjl => ?_)
        rw [three_far _ _ _ _ _ _ _ (by omega) (by omega) (by omega)]
        exact round_old HZ1.out HGR.out hjl
      case measure => simp [intOf]; omega
end Go.Proofs.Ytfjbpjndjcinhaa.Dk
