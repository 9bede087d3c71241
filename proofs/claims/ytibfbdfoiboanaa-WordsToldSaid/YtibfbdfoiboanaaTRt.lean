/- the reference's Told: the walk. Over the program alone. -/
import Derived.Test.YtibfbdfoiboanaaTRp
namespace Go.Proofs.Ytibfbdfoiboanaa.Rd
open Go.RowKit Go.Proofs.YtibfbdfoiboanaaW.PrintWords Go.Proofs.YtibfbdfoiboanaaW.PrintMore Go.Proofs.YtibfbdfoiboanaaW.PrintLast Go.Proofs.Ytibfbdfoiboanaa.PWordsAsks
set_option linter.unusedVariables false
set_option linter.unusedSimpArgs false
theorem info25 : (Try.prog.info? 25).map (·.size) = some 6 := by kernel_rfl
theorem built25 : Try.prog.built 25 [] = some #[.int .i64 0, .string ⟨#[]⟩, .int .i64 0, .int .i64 0, .slice none 0 0, .slice none 0 0] := by kernel_rfl
theorem r_one25 {α : Type} {d : Kd α} {e base g : Nat} {W W' : World} {v : Value} {xs : List α} {C : Array Value} (hE : d.E = []) (he : e ≠ 25) (h : d.R e W base (fun _ => True) v xs) (hb : W.heap[g]? = some (.cells C 25 (0, 0))) (hK : ∀ k, k ≠ g → W'.heap[k]? = W.heap[k]?) : d.R e W' base (fun _ => True) v xs := by
  refine Kd.R_mono (Kd.R_move (Kd.R_bound h) (fun k hq => ?_)) (fun _ _ => trivial)
  obtain ⟨_, _, _, q, hq, cs, hc⟩ := hq
  rw [hE] at hq
  have hqe : q = e := by simpa using hq
  refine hK k (fun e' => ?_)
  subst e'; rw [hc] at hb; injection hb with hb; injection hb with _ hb _; exact he (hqe.symm.trans hb)
theorem all_one25 {base g : Nat} {W W' : World} {xs : List (Raw 5)} {es : List EntD} {C : Array Value} (h : All2 (EntOk W base) xs es) (hb : W.heap[g]? = some (.cells C 25 (0, 0))) (hK : ∀ k, k ≠ g → W'.heap[k]? = W.heap[k]?) : All2 (EntOk W' base) xs es := by
  induction h with
  | nil => exact .nil
  | cons hx _ ih =>
    obtain ⟨A1, k1, c1, A2, k2, c2, e, r1, r2⟩ := hx
    exact .cons ⟨A1, k1, c1, A2, k2, c2, e, r_one25 rfl (by decide) r1 hb hK, r_one25 rfl (by decide) r2 hb hK⟩ ih
set_option maxRecDepth 100000 in
set_option maxHeartbeats 64000000 in
theorem reftold (s : ByteArray) (w : World) : Calls Try.prog 13 #[.string s] w fun e w' => ToldSays w (pToldV s) e w' ∧ w.grownBy w' none := by
  obtain ⟨P, hP⟩ : ∃ P, P = pToldV s := ⟨_, rfl⟩
  rw [← hP]
  have T0 : St P false ((pLen s).bind fun o => (pText o.2).bind fun t => (pNum t.2).bind fun n => (pNum n.2).bind fun a => (pLen a.2).bind fun k => F1 o.1 t.1 n.1 a.1 k.1.toNat k.2 []) := by
    rw [hP, told_F]
    rfl
  clear hP
  obtain ⟨t1, s1, b1, e1⟩ : ∃ t1 s1 b1, rTake 1 (s, false) = (t1, s1, b1) := ⟨_, _, _, rfl⟩
  have ht1 : t1.size = 1 := by have h := rTake_size 1 (s, false); rw [e1] at h; exact h
  have f1 := Aside0.mk (show chancelref13_Reader_take.f s false 1 = some (t1, s1, b1) from (take_f 1 s false (by omega)).trans (congrArg some e1))
  have T1 := st_len T0 (show rLen (s, false) = (bt t1 0, s1, b1) by unfold rLen; rw [e1])
  have hr := bt_range t1 0
  obtain ⟨o, ho⟩ : ∃ o, o = bt t1 0 := ⟨_, rfl⟩
  have hz1 : (0 : Int) < (t1.size : Int) := by omega
  have hidx : ((t1[0]'(by omega)).toNat : Int) = o := by
    rw [ho]
    unfold bt
    rw [dif_pos (show (0 : Int).toNat < t1.size by rw [ht1]; decide)]
    rfl
  rw [← ho] at hr T1
  have how : wrap64 o = o := by unfold wrap64; omega
  clear ho T0 e1
  obtain ⟨tok, s2, b2, e2⟩ : ∃ t s' b', rText (s1, b1) = (t, s', b') := ⟨_, _, _, rfl⟩
  have f2 := Aside0.mk ((text_rf s1 b1).trans (congrArg some e2))
  have T2 := st_text T1 e2
  obtain ⟨num, s3, b3, e3⟩ : ∃ t s' b', rNum (s2, b2) = (t, s', b') := ⟨_, _, _, rfl⟩
  have f3 := Aside0.mk ((num_rf s2 b2).trans (congrArg some e3))
  have T3 := st_num T2 e3
  obtain ⟨at_, s4, b4, e4⟩ : ∃ t s' b', rNum (s3, b3) = (t, s', b') := ⟨_, _, _, rfl⟩
  have f4 := Aside0.mk ((num_rf s3 b3).trans (congrArg some e4))
  have T4 := st_num T3 e4
  obtain ⟨nI, s5, b5, e5⟩ : ∃ t s' b', rLen (s4, b4) = (t, s', b') := ⟨_, _, _, rfl⟩
  have f5 := Aside0.mk ((len_rf s4 b4).trans (congrArg some e5))
  have T5 := st_len T4 e5
  have hn0 := rLen_range e5
  obtain ⟨n, hn⟩ := Int.eq_ofNat_of_zero_le hn0.1
  subst hn
  have hn5 : n ≤ 255 := by omega
  simp only [Int.toNat_natCast] at T5
  have T5 := Aside0.mk T5
  clear T1 T2 T3 T4 e2 e3 e4 e5 hn0 hr
  go_enter Try.func13, Try.ntmps13
  go_upto_region 4 with (go_at_call 43; refine (chancelref13_Reader_take.calls (w.heap.size + 1) s false 1 t1 s1 b1 w _ (rb_new w s).rd (rb_new w s).below f1.out).mono ?_; rintro e Y ⟨rfl, k1, k2, k3⟩; have HBY := Aside0.mk (rb_call (rb_new w s) k1 k2 k3); have hcy : Y.cell? ⟨w.heap.size + 1 + 1, 0, none⟩ = some (.int .i64 0) := (blk_cell HBY.out.p 0).trans rfl; have hfy := blk_frozen HBY.out.p 0; clear k1 k2 k3)
  obtain ⟨W1, hw⟩ : ∃ W, W = Y.setCell ⟨w.heap.size + 1 + 1, 0, none⟩ (.int .i64 o) := ⟨_, rfl⟩
  rw [← hw]
  have HB1 := Aside0.mk (show RB w W1 s1 b1 #[.int .i64 o, .string ⟨#[]⟩, .int .i64 0, .int .i64 0, .slice none 0 0, .slice none 0 0] by rw [hw]; exact rb_set HBY.out 0 _ (set6 _ _ _ _ _ _ _).1)
  clear hw hcy hfy HBY f1 how hidx hz1
  go_upto_region 5 with (go_at_call 44; (with_reducible refine (chancelref13_Reader_Text.calls (w.heap.size + 1) s1 b1 tok s2 b2 w _ HB1.out.rd HB1.out.below f2.out).mono ?_); rintro e Y ⟨rfl, k1, k2, k3⟩; have HBY := Aside0.mk (rb_call HB1.out k1 k2 k3); have hcy : Y.cell? ⟨w.heap.size + 1 + 1, 1, none⟩ = some (.string ⟨#[]⟩) := (blk_cell HBY.out.p 1).trans rfl; have hfy := blk_frozen HBY.out.p 1; clear k1 k2 k3)
  obtain ⟨W2, hw⟩ : ∃ W, W = Y.setCell ⟨w.heap.size + 1 + 1, 1, none⟩ (.string tok) := ⟨_, rfl⟩
  rw [← hw]
  have HB2 := Aside0.mk (show RB w W2 s2 b2 #[.int .i64 o, .string tok, .int .i64 0, .int .i64 0, .slice none 0 0, .slice none 0 0] by rw [hw]; exact rb_set HBY.out 1 _ (set6 _ _ _ _ _ _ _).2.1)
  clear hw hcy hfy HBY f2 HB1
  go_upto_region 6 with (go_at_call 45; (with_reducible refine (chancelref13_Reader_Number.calls 9 (w.heap.size + 1) s2 b2 num s3 b3 w _ HB2.out.rd HB2.out.below f3.out).mono ?_); rintro e Y ⟨rfl, k1, k2, k3⟩; have HBY := Aside0.mk (rb_call HB2.out k1 k2 k3); have hcy : Y.cell? ⟨w.heap.size + 1 + 1, 2, none⟩ = some (.int .i64 0) := (blk_cell HBY.out.p 2).trans rfl; have hfy := blk_frozen HBY.out.p 2; clear k1 k2 k3)
  obtain ⟨W3, hw⟩ : ∃ W, W = Y.setCell ⟨w.heap.size + 1 + 1, 2, none⟩ (.int .i64 num) := ⟨_, rfl⟩
  rw [← hw]
  have HB3 := Aside0.mk (show RB w W3 s3 b3 #[.int .i64 o, .string tok, .int .i64 num, .int .i64 0, .slice none 0 0, .slice none 0 0] by rw [hw]; exact rb_set HBY.out 2 _ (set6 _ _ _ _ _ _ _).2.2.1)
  clear hw hcy hfy HBY f3 HB2
  go_upto_region 7 with (go_at_call 45; (with_reducible refine (chancelref13_Reader_Number.calls 9 (w.heap.size + 1) s3 b3 at_ s4 b4 w _ HB3.out.rd HB3.out.below f4.out).mono ?_); rintro e Y ⟨rfl, k1, k2, k3⟩; have HBY := Aside0.mk (rb_call HB3.out k1 k2 k3); have hcy : Y.cell? ⟨w.heap.size + 1 + 1, 3, none⟩ = some (.int .i64 0) := (blk_cell HBY.out.p 3).trans rfl; have hfy := blk_frozen HBY.out.p 3; clear k1 k2 k3)
  obtain ⟨W4, hw⟩ : ∃ W, W = Y.setCell ⟨w.heap.size + 1 + 1, 3, none⟩ (.int .i64 at_) := ⟨_, rfl⟩
  rw [← hw]
  have HB4 := Aside0.mk (show RB w W4 s4 b4 #[.int .i64 o, .string tok, .int .i64 num, .int .i64 at_, .slice none 0 0, .slice none 0 0] by rw [hw]; exact rb_set HBY.out 3 _ (set6 _ _ _ _ _ _ _).2.2.2.1)
  clear hw hcy hfy HBY f4 HB3
  go_wp2_with (go_at_call 46; (with_reducible refine (chancelref13_Reader_Len.calls (w.heap.size + 1) s4 b4 n s5 b5 w _ HB4.out.rd HB4.out.below f5.out).mono ?_); rintro e W5 ⟨rfl, k1, k2, k3⟩; have HB5 := Aside0.mk (rb_call HB4.out k1 k2 k3); clear k1 k2 k3)
  clear HB4 f5
  have hu84 := Try.underlying84
  go_loopg [7] n (fun gg vi wr => ∃ (k : Nat) (u : ByteArray) (bk : Bool) (vr : Value) (xs : List (Raw 4)) (rs : List RunD), k ≤ n ∧ n - k ≤ gg ∧ vi = .int .i64 k ∧ xs.length = k ∧ Aside0 (St P bk (F1 o tok num at_ (n - k) u rs)) ∧ Aside0 (RB w wr u bk #[.int .i64 o, .string tok, .int .i64 num, .int .i64 at_, vr, .slice none 0 0]) ∧ Aside0 ((rawK 4).R 63 wr w.heap.size (fun _ => True) vr xs) ∧ Aside0 (xs.map (fun x => x.1) = rs.map runC))
  case atStart => exact ⟨0, s5, b5, _, [], [], Nat.zero_le _, by omega, rfl, rfl, T5, HB5, ⟨Kd.R_nil _ _ _ _ _⟩, ⟨rfl⟩⟩
  case round =>
    clear HB5 T5
    obtain ⟨k, u, bk, vr, xs, rs, hk, hkg, rfl, hlen, TR, HBr, HRr, HXR⟩ := hrel
    have hrb : wr.cell? ⟨w.heap.size + 1, 1, none⟩ = some (.bool bk) := (blk_cell HBr.out.rd.1 1).trans rfl
    have hrs : wr.cell? ⟨w.heap.size + 1, 0, none⟩ = some (.string u) := (blk_cell HBr.out.rd.1 0).trans rfl
    by_cases hlt : k < n
    case pos =>
      have hkz : decide ((k : Int) < (n : Int)) = true := decide_eq_true (by omega)
      cases bk with
      | true =>
        have TX := Aside0.mk (st_true (Y := (pLen u).bind fun m => F2 o tok num at_ rs m.1.toNat m.2 []) TR.out)
        clear TR hk hkg
        obtain ⟨B4, kb, cb, rfl⟩ := raw_shape HRr.out
        have HXRa := HXR
        have HRRz := HRr
        obtain ⟨xsR, hxsR⟩ : ∃ x, x = xs := ⟨_, rfl⟩
        obtain ⟨rsR, hrsR⟩ : ∃ x, x = rs := ⟨_, rfl⟩
        subst hxsR
        subst hrsR
        go_upto_region 17 with (fail)
        obtain ⟨mI, s7, b7, e7⟩ : ∃ t s' b', rLen (u, true) = (t, s', b') := ⟨_, _, _, rfl⟩
        have f7 := Aside0.mk ((len_rf u true).trans (congrArg some e7))
        have TZ := st_len TX.out e7
        have hm0 := rLen_range e7
        obtain ⟨m, hm⟩ := Int.eq_ofNat_of_zero_le hm0.1
        subst hm
        have hm5 : m ≤ 255 := by omega
        simp only [Int.toNat_natCast] at TZ
        have T7 := Aside0.mk TZ
        clear TX TZ e7 hm0 HXR HRr
        go_wp2_with (go_at_call 46; (with_reducible refine (chancelref13_Reader_Len.calls (w.heap.size + 1) u true m s7 b7 w _ HBr.out.rd HBr.out.below f7.out).mono ?_); rintro e W7 ⟨rfl, k1, k2, k3⟩; have HB7 := Aside0.mk (rb_call HBr.out k1 k2 k3); have HRRa := Aside0.mk (r_keepB rfl (by decide) HRRz.out HBr.out.rd k3); clear k1 k2 k3)
        clear HBr HRRz f7 hrb hrs hkz hlen hlt
        go_loopg [9] m (fun gg vi wr => ∃ (k : Nat) (u : ByteArray) (bk : Bool) (vr : Value) (xs : List (Raw 5)) (rs : List EntD), k ≤ m ∧ m - k ≤ gg ∧ vi = .int .i64 k ∧ xs.length = k ∧ Aside0 (St P bk (F2 o tok num at_ rsR (m - k) u rs)) ∧ Aside0 (RB w wr u bk #[.int .i64 o, .string tok, .int .i64 num, .int .i64 at_, .slice B4 kb cb, vr]) ∧ Aside0 ((rawK 5).R 67 wr w.heap.size (fun _ => True) vr xs) ∧ Aside0 (All2 (EntOk wr w.heap.size) xs rs) ∧ Aside0 ((rawK 4).R 63 wr w.heap.size (fun _ => True) (.slice B4 kb cb) xsR))
        case atStart => exact ⟨0, s7, b7, _, [], [], Nat.zero_le _, by omega, rfl, rfl, T7, HB7, ⟨Kd.R_nil _ _ _ _ _⟩, ⟨.nil⟩, HRRa⟩
        case round =>
          clear HB7 T7 HRRa
          obtain ⟨k, u, bk, vr, xs, rs, hk, hkg, rfl, hlen, TR, HBr, HRr, HFAr, HRRr⟩ := hrel
          have hrb : wr.cell? ⟨w.heap.size + 1, 1, none⟩ = some (.bool bk) := (blk_cell HBr.out.rd.1 1).trans rfl
          have hrs : wr.cell? ⟨w.heap.size + 1, 0, none⟩ = some (.string u) := (blk_cell HBr.out.rd.1 0).trans rfl
          by_cases hlt : k < m
          case pos =>
            have hkz : decide ((k : Int) < (m : Int)) = true := decide_eq_true (by omega)
            cases bk with
            | true =>
              have TX := Aside0.mk (st_true (Y := if u.size = 0 then some ⟨o, tok, num, at_, rsR, rs⟩ else none) TR.out)
              clear TR hk hkg
              obtain ⟨B5, kc, cd, rfl⟩ := raw_shape HRr.out
              have hP : P = none := TX.out
              subst hP
              go_upto_region 29 with (fail)
              refine wp_region_lit ?_
              refine wpList_build0 rfl 25 rfl _ built25 ?_
              refine wpList_store_row rfl 25 (.tmp 2) (.tmp 109) rfl w.heap.size #[.int .i64 0, .string ⟨#[]⟩, .int .i64 0, .int .i64 0, .slice none 0 0, .slice none 0 0] rfl rfl 25 #[.int .i64 0, .string ⟨#[]⟩, .int .i64 0, .int .i64 0, .slice none 0 0, .slice none 0 0] HBr.out.r info25 rfl (by simp [Value.oneCell']) ?_
              go_wp2
              refine bodyPost_ret (results_cell_tmp Try.results13 _ _ w.heap.size #[.int .i64 0, .string ⟨#[]⟩, .int .i64 0, .int .i64 0, .slice none 0 0, .slice none 0 0] rfl (run_loadVar_row _ w.heap.size 25 25 _ (0, 0) _ (setRow_heap _ _ _ _ _ _ HBr.out.r) Try.underlying25 rfl info25)) rfl ?_
              exact ⟨rfl, grown_setRow (grown_of_below HBr.out.below none) (by omega) _⟩
            | false =>
              obtain ⟨j, hj⟩ : ∃ j, m - k = j + 1 := ⟨m - k - 1, by omega⟩
              have TQ := TR.out
              rw [hj, F2_succ] at TQ
              clear TR
              have HJ := Aside0.mk hj
              clear hj
              obtain ⟨A, kk, cc, rfl⟩ := raw_shape HRr.out
              go_upto_region 22 with (fail)
              obtain ⟨xb, hxb⟩ : ∃ xb, xb = wr.heap.size := ⟨_, rfl⟩
              obtain ⟨X0, hw⟩ : ∃ W, W = wr.alloc (.cells #[.int .i64 0, .int .i64 0, .int .i64 0, .slice none 0 0, .slice none 0 0] 67) := ⟨_, rfl⟩
              rw [← hw, ← hxb]
              have HBx0 := Aside0.mk (show RB w X0 u false #[.int .i64 o, .string tok, .int .i64 num, .int .i64 at_, .slice B4 kb cb, .slice A kk cc] by rw [hw]; exact rb_below HBr.out (below_alloc (Below.refl _ _) _))
              have HRx0 := Aside0.mk (show (rawK 5).R 67 X0 w.heap.size (fun _ => True) (.slice A kk cc) xs by rw [hw]; exact Kd.R_alloc HRr.out _)
              have HXx0 := Aside0.mk (show X0.heap[xb]? = some (.cells #[.int .i64 0, .int .i64 0, .int .i64 0, .slice none 0 0, .slice none 0 0] 67 (0, 0)) by rw [hw, hxb]; exact heap_alloc_new _ _)
              have hk3 := (show Keep3 wr X0 by rw [hw]; exact keep3_below (below_alloc (Below.refl _ _) _)); have HFAx0 := Aside0.mk (forall_keep HFAr.out hk3); have HRRx0 := Aside0.mk (r_keep rfl (Or.inr rfl) HRRr.out hk3); clear hk3
              have HNO := Aside0.mk (show ∀ k, (Value.slice A kk cc).ownBlock = some k → k ≠ xb from fun k hk => by have := Kd.R_lt HRr.out k hk; omega)
              have hxs : w.heap.size + 3 ≤ xb := by rw [hxb]; exact HBr.out.size
              clear hw hxb hrb hrs HBr HRr HFAr HRRr
              obtain ⟨a, u0, d0, e0⟩ : ∃ t s' b', rNum (u, false) = (t, s', b') := ⟨_, _, _, rfl⟩
              have ff := Aside0.mk ((num_rf u false).trans (congrArg some e0))
              have TQ0 := st_num TQ e0
              clear TQ e0
              have TQ := TQ0
              clear TQ0
              go_upto_region 23 with (go_at_call 45; (with_reducible refine (chancelref13_Reader_Number.calls 9 (w.heap.size + 1) u false a u0 d0 w _ HBx0.out.rd HBx0.out.below ff.out).mono ?_); rintro e Y0 ⟨rfl, k1, k2, k3⟩; have HBy0 := Aside0.mk (rb_call HBx0.out k1 k2 k3); have HRy0 := Aside0.mk (r_keepB rfl (by decide) HRx0.out HBx0.out.rd k3); have HXy0 := Aside0.mk (k3.blk HXx0.out (by omega) (by simp)); have hc : Y0.cell? ⟨xb, 0, none⟩ = some (.int .i64 0) := (blk_cell HXy0.out 0).trans rfl; have hf := blk_frozen HXy0.out 0; have hk3 := (keep3_reader HBx0.out.rd k3); have HFAy0 := Aside0.mk (forall_keep HFAx0.out hk3); have HRRy0 := Aside0.mk (r_keep rfl (Or.inr rfl) HRRx0.out hk3); clear hk3; clear k1 k2 k3)
              obtain ⟨X1, hw⟩ : ∃ W, W = Y0.setCell ⟨xb, 0, none⟩ (.int .i64 a) := ⟨_, rfl⟩
              rw [← hw]
              have HBx1 := Aside0.mk (show RB w X1 u0 d0 #[.int .i64 o, .string tok, .int .i64 num, .int .i64 at_, .slice B4 kb cb, .slice A kk cc] by rw [hw]; exact rb_far HBy0.out hxs _ _)
              have HRx1 := Aside0.mk (show (rawK 5).R 67 X1 w.heap.size (fun _ => True) (.slice A kk cc) xs by rw [hw]; exact raw_set HRy0.out HNO.out)
              have hk3 := (show Keep3 Y0 X1 by rw [hw]; exact keep3_set HXy0.out (by decide) (by decide) _ _); have HFAx1 := Aside0.mk (forall_keep HFAy0.out hk3); have HRRx1 := Aside0.mk (r_keep rfl (Or.inr rfl) HRRy0.out hk3); clear hk3
              have HXx1 := Aside0.mk (show X1.heap[xb]? = some (.cells #[.int .i64 a, .int .i64 0, .int .i64 0, .slice none 0 0, .slice none 0 0] 67 (0, 0)) by rw [hw]; exact (blk_set HXy0.out 0 _).trans (by simp only [List.setIfInBounds_toArray, List.set_cons_zero, List.set_cons_succ]))
              clear hw hc hf ff HBx0 HRx0 HXx0 HBy0 HRy0 HXy0 HFAx0 HRRx0 HFAy0 HRRy0
              obtain ⟨b, u1, d1, e1⟩ : ∃ t s' b', rNum (u0, d0) = (t, s', b') := ⟨_, _, _, rfl⟩
              have ff := Aside0.mk ((num_rf u0 d0).trans (congrArg some e1))
              have TQ1 := st_num TQ e1
              clear TQ e1
              have TQ := TQ1
              clear TQ1
              go_upto_region 24 with (go_at_call 45; (with_reducible refine (chancelref13_Reader_Number.calls 9 (w.heap.size + 1) u0 d0 b u1 d1 w _ HBx1.out.rd HBx1.out.below ff.out).mono ?_); rintro e Y1 ⟨rfl, k1, k2, k3⟩; have HBy1 := Aside0.mk (rb_call HBx1.out k1 k2 k3); have HRy1 := Aside0.mk (r_keepB rfl (by decide) HRx1.out HBx1.out.rd k3); have HXy1 := Aside0.mk (k3.blk HXx1.out (by omega) (by simp)); have hc : Y1.cell? ⟨xb, 1, none⟩ = some (.int .i64 0) := (blk_cell HXy1.out 1).trans rfl; have hf := blk_frozen HXy1.out 1; have hk3 := (keep3_reader HBx1.out.rd k3); have HFAy1 := Aside0.mk (forall_keep HFAx1.out hk3); have HRRy1 := Aside0.mk (r_keep rfl (Or.inr rfl) HRRx1.out hk3); clear hk3; clear k1 k2 k3)
              obtain ⟨X2, hw⟩ : ∃ W, W = Y1.setCell ⟨xb, 1, none⟩ (.int .i64 b) := ⟨_, rfl⟩
              rw [← hw]
              have HBx2 := Aside0.mk (show RB w X2 u1 d1 #[.int .i64 o, .string tok, .int .i64 num, .int .i64 at_, .slice B4 kb cb, .slice A kk cc] by rw [hw]; exact rb_far HBy1.out hxs _ _)
              have HRx2 := Aside0.mk (show (rawK 5).R 67 X2 w.heap.size (fun _ => True) (.slice A kk cc) xs by rw [hw]; exact raw_set HRy1.out HNO.out)
              have hk3 := (show Keep3 Y1 X2 by rw [hw]; exact keep3_set HXy1.out (by decide) (by decide) _ _); have HFAx2 := Aside0.mk (forall_keep HFAy1.out hk3); have HRRx2 := Aside0.mk (r_keep rfl (Or.inr rfl) HRRy1.out hk3); clear hk3
              have HXx2 := Aside0.mk (show X2.heap[xb]? = some (.cells #[.int .i64 a, .int .i64 b, .int .i64 0, .slice none 0 0, .slice none 0 0] 67 (0, 0)) by rw [hw]; exact (blk_set HXy1.out 1 _).trans (by simp only [List.setIfInBounds_toArray, List.set_cons_zero, List.set_cons_succ]))
              clear hw hc hf ff HBx1 HRx1 HXx1 HBy1 HRy1 HXy1 HFAx1 HRRx1 HFAy1 HRRy1
              obtain ⟨d, u2, d2, e2⟩ : ∃ t s' b', rNum (u1, d1) = (t, s', b') := ⟨_, _, _, rfl⟩
              have ff := Aside0.mk ((num_rf u1 d1).trans (congrArg some e2))
              have TQ2 := st_num TQ e2
              clear TQ e2
              have TQ := TQ2
              clear TQ2
              go_upto_region 25 with (go_at_call 45; (with_reducible refine (chancelref13_Reader_Number.calls 9 (w.heap.size + 1) u1 d1 d u2 d2 w _ HBx2.out.rd HBx2.out.below ff.out).mono ?_); rintro e Y2 ⟨rfl, k1, k2, k3⟩; have HBy2 := Aside0.mk (rb_call HBx2.out k1 k2 k3); have HRy2 := Aside0.mk (r_keepB rfl (by decide) HRx2.out HBx2.out.rd k3); have HXy2 := Aside0.mk (k3.blk HXx2.out (by omega) (by simp)); have hc : Y2.cell? ⟨xb, 2, none⟩ = some (.int .i64 0) := (blk_cell HXy2.out 2).trans rfl; have hf := blk_frozen HXy2.out 2; have hk3 := (keep3_reader HBx2.out.rd k3); have HFAy2 := Aside0.mk (forall_keep HFAx2.out hk3); have HRRy2 := Aside0.mk (r_keep rfl (Or.inr rfl) HRRx2.out hk3); clear hk3; clear k1 k2 k3)
              obtain ⟨X3, hw⟩ : ∃ W, W = Y2.setCell ⟨xb, 2, none⟩ (.int .i64 d) := ⟨_, rfl⟩
              rw [← hw]
              have HBx3 := Aside0.mk (show RB w X3 u2 d2 #[.int .i64 o, .string tok, .int .i64 num, .int .i64 at_, .slice B4 kb cb, .slice A kk cc] by rw [hw]; exact rb_far HBy2.out hxs _ _)
              have HRx3 := Aside0.mk (show (rawK 5).R 67 X3 w.heap.size (fun _ => True) (.slice A kk cc) xs by rw [hw]; exact raw_set HRy2.out HNO.out)
              have hk3 := (show Keep3 Y2 X3 by rw [hw]; exact keep3_set HXy2.out (by decide) (by decide) _ _); have HFAx3 := Aside0.mk (forall_keep HFAy2.out hk3); have HRRx3 := Aside0.mk (r_keep rfl (Or.inr rfl) HRRy2.out hk3); clear hk3
              have HXx3 := Aside0.mk (show X3.heap[xb]? = some (.cells #[.int .i64 a, .int .i64 b, .int .i64 d, .slice none 0 0, .slice none 0 0] 67 (0, 0)) by rw [hw]; exact (blk_set HXy2.out 2 _).trans (by simp only [List.setIfInBounds_toArray, List.set_cons_zero, List.set_cons_succ]))
              clear hw hc hf ff HBx2 HRx2 HXx2 HBy2 HRy2 HXy2 HFAx2 HRRx2 HFAy2 HRRy2
              obtain ⟨l1, u3, d3, e3, hST⟩ := list_ex u2 d2
              have ff := Aside0.mk e3
              have TQ3 := hST _ _ TQ
              clear hST
              clear TQ e3
              have TQ := TQ3
              clear TQ3
              go_upto_region 26 with (go_at_call 48; (with_reducible refine (chancelref13_Reader_list.calls 300 (w.heap.size + 1) u2 d2 l1 u3 d3 w _ HBx3.out.rd HBx3.out.below ff.out).mono ?_); rintro e Y3 ⟨vv, rfl, hvv, k1, k2, k3⟩; obtain ⟨A1, kA1, c1, rfl⟩ := list_shape hvv; have HBy3 := Aside0.mk (rb_call HBx3.out k1 k2 k3); have HRy3 := Aside0.mk (r_keepB rfl (by decide) HRx3.out HBx3.out.rd k3); have HXy3 := Aside0.mk (k3.blk HXx3.out (by omega) (by simp)); have hc : Y3.cell? ⟨xb, 3, none⟩ = some (.slice none 0 0) := (blk_cell HXy3.out 3).trans rfl; have hf := blk_frozen HXy3.out 3; have hk3 := (keep3_reader HBx3.out.rd k3); have HFAy3 := Aside0.mk (forall_keep HFAx3.out hk3); have HRRy3 := Aside0.mk (r_keep rfl (Or.inr rfl) HRRx3.out hk3); clear hk3; have HV1y3 := Aside0.mk (Kd.R_lower hvv HBx3.out.below.size); clear k1 k2 k3 hvv)
              obtain ⟨X4, hw⟩ : ∃ W, W = Y3.setCell ⟨xb, 3, none⟩ (.slice A1 kA1 c1) := ⟨_, rfl⟩
              rw [← hw]
              have HBx4 := Aside0.mk (show RB w X4 u3 d3 #[.int .i64 o, .string tok, .int .i64 num, .int .i64 at_, .slice B4 kb cb, .slice A kk cc] by rw [hw]; exact rb_far HBy3.out hxs _ _)
              have HRx4 := Aside0.mk (show (rawK 5).R 67 X4 w.heap.size (fun _ => True) (.slice A kk cc) xs by rw [hw]; exact raw_set HRy3.out HNO.out)
              have hk3 := (show Keep3 Y3 X4 by rw [hw]; exact keep3_set HXy3.out (by decide) (by decide) _ _); have HFAx4 := Aside0.mk (forall_keep HFAy3.out hk3); have HRRx4 := Aside0.mk (r_keep rfl (Or.inr rfl) HRRy3.out hk3); have HV1x4 := Aside0.mk (r_keep rfl (Or.inl rfl) HV1y3.out hk3); clear hk3
              have HXx4 := Aside0.mk (show X4.heap[xb]? = some (.cells #[.int .i64 a, .int .i64 b, .int .i64 d, .slice A1 kA1 c1, .slice none 0 0] 67 (0, 0)) by rw [hw]; exact (blk_set HXy3.out 3 _).trans (by simp only [List.setIfInBounds_toArray, List.set_cons_zero, List.set_cons_succ]))
              clear hw hc hf ff HBx3 HRx3 HXx3 HBy3 HRy3 HXy3 HFAx3 HRRx3 HFAy3 HRRy3 HV1y3
              obtain ⟨l2, u4, d4, e4, hST⟩ := list_ex u3 d3
              have ff := Aside0.mk e4
              have TQ4 := hST _ _ TQ
              clear hST
              clear TQ e4
              have TQ := TQ4
              clear TQ4
              go_upto_region 27 with (go_at_call 48; (with_reducible refine (chancelref13_Reader_list.calls 300 (w.heap.size + 1) u3 d3 l2 u4 d4 w _ HBx4.out.rd HBx4.out.below ff.out).mono ?_); rintro e Y4 ⟨vv, rfl, hvv, k1, k2, k3⟩; obtain ⟨A2, kA2, c2, rfl⟩ := list_shape hvv; have HBy4 := Aside0.mk (rb_call HBx4.out k1 k2 k3); have HRy4 := Aside0.mk (r_keepB rfl (by decide) HRx4.out HBx4.out.rd k3); have HXy4 := Aside0.mk (k3.blk HXx4.out (by omega) (by simp)); have hc : Y4.cell? ⟨xb, 4, none⟩ = some (.slice none 0 0) := (blk_cell HXy4.out 4).trans rfl; have hf := blk_frozen HXy4.out 4; have hk3 := (keep3_reader HBx4.out.rd k3); have HFAy4 := Aside0.mk (forall_keep HFAx4.out hk3); have HRRy4 := Aside0.mk (r_keep rfl (Or.inr rfl) HRRx4.out hk3); have HV1y4 := Aside0.mk (r_keep rfl (Or.inl rfl) HV1x4.out hk3); clear hk3; have HV2y4 := Aside0.mk (Kd.R_lower hvv HBx4.out.below.size); clear k1 k2 k3 hvv)
              obtain ⟨X5, hw⟩ : ∃ W, W = Y4.setCell ⟨xb, 4, none⟩ (.slice A2 kA2 c2) := ⟨_, rfl⟩
              rw [← hw]
              have HBx5 := Aside0.mk (show RB w X5 u4 d4 #[.int .i64 o, .string tok, .int .i64 num, .int .i64 at_, .slice B4 kb cb, .slice A kk cc] by rw [hw]; exact rb_far HBy4.out hxs _ _)
              have HRx5 := Aside0.mk (show (rawK 5).R 67 X5 w.heap.size (fun _ => True) (.slice A kk cc) xs by rw [hw]; exact raw_set HRy4.out HNO.out)
              have hk3 := (show Keep3 Y4 X5 by rw [hw]; exact keep3_set HXy4.out (by decide) (by decide) _ _); have HFAx5 := Aside0.mk (forall_keep HFAy4.out hk3); have HRRx5 := Aside0.mk (r_keep rfl (Or.inr rfl) HRRy4.out hk3); have HV1x5 := Aside0.mk (r_keep rfl (Or.inl rfl) HV1y4.out hk3); have HV2x5 := Aside0.mk (r_keep rfl (Or.inl rfl) HV2y4.out hk3); clear hk3
              have HXx5 := Aside0.mk (show X5.heap[xb]? = some (.cells #[.int .i64 a, .int .i64 b, .int .i64 d, .slice A1 kA1 c1, .slice A2 kA2 c2] 67 (0, 0)) by rw [hw]; exact (blk_set HXy4.out 4 _).trans (by simp only [List.setIfInBounds_toArray, List.set_cons_zero, List.set_cons_succ]))
              clear hw hc hf ff HBx4 HRx4 HXx4 HBy4 HRy4 HXy4 HFAx4 HRRx4 HFAy4 HRRy4 HV1y4 HV2y4 HV1x4
              have he4 : X5.cell? ⟨w.heap.size + 1 + 1, 5, none⟩ = some (.slice A kk cc) := (blk_cell HBx5.out.p 5).trans rfl
              have hx0 : X5.cell? ⟨xb, 0, none⟩ = some (.int .i64 a) := (blk_cell HXx5.out 0).trans rfl
              have hx1 : X5.cell? ⟨xb, 1, none⟩ = some (.int .i64 b) := (blk_cell HXx5.out 1).trans rfl
              have hx2 : X5.cell? ⟨xb, 2, none⟩ = some (.int .i64 d) := (blk_cell HXx5.out 2).trans rfl
              have hx3 : X5.cell? ⟨xb, 3, none⟩ = some (.slice A1 kA1 c1) := (blk_cell HXx5.out 3).trans rfl
              have hx4 : X5.cell? ⟨xb, 4, none⟩ = some (.slice A2 kA2 c2) := (blk_cell HXx5.out 4).trans rfl
              have hb3 : w.heap.size ≤ X5.heap.size := HBx5.out.below.size
              go_wp2_with ((with_reducible refine gate_builtin (b := .append) (xs := #[.tmp 93, .tmp 95]) rfl ?_); (try (refine gate_guard (by rfl) ?_; dsimp only)); at_builtin; refine Kd.R_append (rawK 5) (w0 := X5) w.heap.size rfl (.tmp 93) (.tmp 95) 23 67 (.agg #[.int .i64 0, .int .i64 0, .int .i64 0, .slice none 0 0, .slice none 0 0]) 72 rfl Try.underlying23 info67 rfl (by decide) (by omega) (.slice A kk cc) xs ⟨[.int .i64 a, .int .i64 b, .int .i64 d, .slice A1 kA1 c1, .slice A2 kA2 c2], rfl, by simp [Value.oneCell']⟩ [.int .i64 a, .int .i64 b, .int .i64 d, .slice A1 kA1 c1, .slice A2 kA2 c2] (fun _ => True) (fun _ => False) rfl rfl ?aP (fun _ hk => hk.elim) ?aF ?aO ?aB ?aS ?aL ?_; (case aP => exact rfl); (case aB => exact Below.refl _ _); (case aF => exact (fun _ _ => trivial)); (case aO => exact HRx5.out); (case aS => exact hb3); (case aL => omega); intro v1 w6 ho hbb hg hat; have HO6 := Aside0.mk ho; have HB6 := Aside0.mk (rb_row HBx5.out HRx5.out (by decide) (by decide) hg); have hc6 : w6.cell? ⟨w.heap.size + 1 + 1, 5, none⟩ = some (.slice A kk cc) := (blk_cell HB6.out.p 5).trans rfl; have hf6 := blk_frozen HB6.out.p 5; have hk3 := (keep3_row HRx5.out (by decide) (by decide) hg); have HFAw6 := Aside0.mk (forall_keep HFAx5.out hk3); have HRRw6 := Aside0.mk (r_keep rfl (Or.inr rfl) HRRx5.out hk3); have HV1w6 := Aside0.mk (r_keep rfl (Or.inl rfl) HV1x5.out hk3); have HV2w6 := Aside0.mk (r_keep rfl (Or.inl rfl) HV2x5.out hk3); clear hk3; obtain ⟨A6, k6, c6, rfl⟩ := raw_shape ho; clear ho hbb hg hat)
              go_roundg (m - (k + 1))
              case measure => omega
              case rel => exact ⟨k + 1, u4, d4, _, _, rs ++ [(a, b, d, l1, l2)], by omega, by omega, by
                  have hwr : wrap64 ((k : Int) + 1) = (k : Int) + 1 := by unfold wrap64; omega
                  first | (simp [hwr]; done) | go_num, by rw [List.length_append, hlen]; rfl, ⟨by rw [show m - (k + 1) = j by have := HJ.out; omega]; exact TQ⟩, ⟨rb_set HB6.out 5 _ (set6 _ _ _ _ _ _ _).2.2.2.2.2⟩, ⟨Kd.R_set HO6.out HB6.out.p (by decide) 5 _⟩, ⟨ent_more (forall_keep HFAw6.out (keep3_set HB6.out.p (by decide) (by decide) _ _)) rfl (r_keep rfl (Or.inl rfl) HV1w6.out (keep3_set HB6.out.p (by decide) (by decide) _ _)) (r_keep rfl (Or.inl rfl) HV2w6.out (keep3_set HB6.out.p (by decide) (by decide) _ _))⟩, ⟨r_keep rfl (Or.inr rfl) HRRw6.out (keep3_set HB6.out.p (by decide) (by decide) _ _)⟩⟩
          case neg =>
            have hkz : decide ((k : Int) < (m : Int)) = false := decide_eq_false (by omega)
            have TQ := TR.out
            rw [show m - k = 0 by omega, F2_zero] at TQ
            have TX := Aside0.mk TQ
            clear TR TQ hk hkg
            obtain ⟨B5, kc, cd, rfl⟩ := raw_shape HRr.out
            cases bk with
            | true =>
              have hP : P = none := TX.out
              subst hP
              go_upto_region 29 with (fail)
              refine wp_region_lit ?_
              refine wpList_build0 rfl 25 rfl _ built25 ?_
              refine wpList_store_row rfl 25 (.tmp 2) (.tmp 109) rfl w.heap.size #[.int .i64 0, .string ⟨#[]⟩, .int .i64 0, .int .i64 0, .slice none 0 0, .slice none 0 0] rfl rfl 25 #[.int .i64 0, .string ⟨#[]⟩, .int .i64 0, .int .i64 0, .slice none 0 0, .slice none 0 0] HBr.out.r info25 rfl (by simp [Value.oneCell']) ?_
              go_wp2
              refine bodyPost_ret (results_cell_tmp Try.results13 _ _ w.heap.size #[.int .i64 0, .string ⟨#[]⟩, .int .i64 0, .int .i64 0, .slice none 0 0, .slice none 0 0] rfl (run_loadVar_row _ w.heap.size 25 25 _ (0, 0) _ (setRow_heap _ _ _ _ _ _ HBr.out.r) Try.underlying25 rfl info25)) rfl ?_
              exact ⟨rfl, grown_setRow (grown_of_below HBr.out.below none) (by omega) _⟩
            | false =>
              by_cases hz : u.size = 0
              case neg =>
                have hl : u.toList.length = u.size := by rw [ByteArray.toList_eq, data_length]
                have hbe : u.toList.isEmpty = false := by
                  cases hs : u.toList with
                  | nil => rw [hs] at hl; simp at hl; omega
                  | cons a l => rfl
                clear hl
                have hP : P = none := (show P = _ from TX.out).trans (by rw [if_neg hz]; rfl)
                subst hP
                go_upto_region 29 with (fail)
                refine wp_region_lit ?_
                refine wpList_build0 rfl 25 rfl _ built25 ?_
                refine wpList_store_row rfl 25 (.tmp 2) (.tmp 109) rfl w.heap.size #[.int .i64 0, .string ⟨#[]⟩, .int .i64 0, .int .i64 0, .slice none 0 0, .slice none 0 0] rfl rfl 25 #[.int .i64 0, .string ⟨#[]⟩, .int .i64 0, .int .i64 0, .slice none 0 0, .slice none 0 0] HBr.out.r info25 rfl (by simp [Value.oneCell']) ?_
                go_wp2
                refine bodyPost_ret (results_cell_tmp Try.results13 _ _ w.heap.size #[.int .i64 0, .string ⟨#[]⟩, .int .i64 0, .int .i64 0, .slice none 0 0, .slice none 0 0] rfl (run_loadVar_row _ w.heap.size 25 25 _ (0, 0) _ (setRow_heap _ _ _ _ _ _ HBr.out.r) Try.underlying25 rfl info25)) rfl ?_
                exact ⟨rfl, grown_setRow (grown_of_below HBr.out.below none) (by omega) _⟩
              case pos =>
                have hl : u.toList.length = u.size := by rw [ByteArray.toList_eq, data_length]
                have hbe : u.toList.isEmpty = true := by
                  cases hs : u.toList with
                  | nil => rfl
                  | cons a l => rw [hs] at hl; simp at hl; omega
                clear hl
                have hP : P = some ⟨o, tok, num, at_, rsR, rs⟩ := (show P = _ from TX.out).trans (by rw [if_pos hz]; rfl)
                subst hP
                go_upto_region 30 with (fail)
                refine wp_region_lit ?_
                refine wpList_load_row rfl 25 (.tmp 5) rfl (w.heap.size + 1 + 1) rfl 25 #[.int .i64 o, .string tok, .int .i64 num, .int .i64 at_, .slice B4 kb cb, .slice B5 kc cd] (0, 0) _ HBr.out.p Try.underlying25 rfl info25 ?_
                refine wpList_store_row rfl 25 (.tmp 2) (.tmp 110) rfl w.heap.size #[.int .i64 o, .string tok, .int .i64 num, .int .i64 at_, .slice B4 kb cb, .slice B5 kc cd] rfl rfl 25 #[.int .i64 0, .string ⟨#[]⟩, .int .i64 0, .int .i64 0, .slice none 0 0, .slice none 0 0] HBr.out.r info25 rfl (by simp [Value.oneCell']) ?_
                go_wp2
                refine bodyPost_ret (results_cell_tmp Try.results13 _ _ w.heap.size #[.int .i64 o, .string tok, .int .i64 num, .int .i64 at_, .slice B4 kb cb, .slice B5 kc cd] rfl (run_loadVar_row _ w.heap.size 25 25 _ (0, 0) _ (setRow_heap _ _ _ _ _ _ HBr.out.r) Try.underlying25 rfl info25)) rfl ?_
                have hK : ∀ k, k ≠ w.heap.size → (wr.setRow w.heap.size #[.int .i64 o, .string tok, .int .i64 num, .int .i64 at_, .slice B4 kb cb, .slice B5 kc cd]).heap[k]? = wr.heap[k]? := fun k h => setRow_other wr w.heap.size k _ h
                exact ⟨⟨_, _, _, _, _, _, xsR, xs, rfl, r_one25 rfl (by decide) HRRr.out HBr.out.r hK, HXRa.out, r_one25 rfl (by decide) HRr.out HBr.out.r hK, all_one25 HFAr.out HBr.out.r hK⟩, grown_setRow (grown_of_below HBr.out.below none) (by omega) _⟩
      | false =>
        obtain ⟨j, hj⟩ : ∃ j, n - k = j + 1 := ⟨n - k - 1, by omega⟩
        have TQ := TR.out
        rw [hj, F1_succ] at TQ
        clear TR
        have HJ := Aside0.mk hj
        clear hj
        obtain ⟨A, kk, cc, rfl⟩ := raw_shape HRr.out
        go_upto_region 12 with (fail)
        obtain ⟨xb, hxb⟩ : ∃ xb, xb = wr.heap.size := ⟨_, rfl⟩
        obtain ⟨X0, hw⟩ : ∃ W, W = wr.alloc (.cells #[.int .i64 0, .int .i64 0, .bool false, .string ⟨#[]⟩] 63) := ⟨_, rfl⟩
        rw [← hw, ← hxb]
        have HBx0 := Aside0.mk (show RB w X0 u false #[.int .i64 o, .string tok, .int .i64 num, .int .i64 at_, .slice A kk cc, .slice none 0 0] by rw [hw]; exact rb_below HBr.out (below_alloc (Below.refl _ _) _))
        have HRx0 := Aside0.mk (show (rawK 4).R 63 X0 w.heap.size (fun _ => True) (.slice A kk cc) xs by rw [hw]; exact Kd.R_alloc HRr.out _)
        have HXx0 := Aside0.mk (show X0.heap[xb]? = some (.cells #[.int .i64 0, .int .i64 0, .bool false, .string ⟨#[]⟩] 63 (0, 0)) by rw [hw, hxb]; exact heap_alloc_new _ _)
        have HNO := Aside0.mk (show ∀ k, (Value.slice A kk cc).ownBlock = some k → k ≠ xb from fun k hk => by have := Kd.R_lt HRr.out k hk; omega)
        have hxs : w.heap.size + 3 ≤ xb := by rw [hxb]; exact HBr.out.size
        clear hw hxb hrb hrs HBr HRr
        obtain ⟨a, u0, d0, e0⟩ : ∃ t s' b', rNum (u, false) = (t, s', b') := ⟨_, _, _, rfl⟩
        have ff := Aside0.mk ((num_rf u false).trans (congrArg some e0))
        have TQ0 := st_num TQ e0
        clear TQ e0
        have TQ := TQ0
        clear TQ0
        go_upto_region 13 with (go_at_call 45; (with_reducible refine (chancelref13_Reader_Number.calls 9 (w.heap.size + 1) u false a u0 d0 w _ HBx0.out.rd HBx0.out.below ff.out).mono ?_); rintro e Y0 ⟨rfl, k1, k2, k3⟩; have HBy0 := Aside0.mk (rb_call HBx0.out k1 k2 k3); have HRy0 := Aside0.mk (r_keepB rfl (by decide) HRx0.out HBx0.out.rd k3); have HXy0 := Aside0.mk (k3.blk HXx0.out (by omega) (by simp)); have hc : Y0.cell? ⟨xb, 0, none⟩ = some (.int .i64 0) := (blk_cell HXy0.out 0).trans rfl; have hf := blk_frozen HXy0.out 0; clear k1 k2 k3)
        obtain ⟨X1, hw⟩ : ∃ W, W = Y0.setCell ⟨xb, 0, none⟩ (.int .i64 a) := ⟨_, rfl⟩
        rw [← hw]
        have HBx1 := Aside0.mk (show RB w X1 u0 d0 #[.int .i64 o, .string tok, .int .i64 num, .int .i64 at_, .slice A kk cc, .slice none 0 0] by rw [hw]; exact rb_far HBy0.out hxs _ _)
        have HRx1 := Aside0.mk (show (rawK 4).R 63 X1 w.heap.size (fun _ => True) (.slice A kk cc) xs by rw [hw]; exact raw_set HRy0.out HNO.out)
        have HXx1 := Aside0.mk (show X1.heap[xb]? = some (.cells #[.int .i64 a, .int .i64 0, .bool false, .string ⟨#[]⟩] 63 (0, 0)) by rw [hw]; exact (blk_set HXy0.out 0 _).trans (by simp only [List.setIfInBounds_toArray, List.set_cons_zero, List.set_cons_succ]))
        clear hw hc hf ff HBx0 HRx0 HXx0 HBy0 HRy0 HXy0
        obtain ⟨b, u1, d1, e1⟩ : ∃ t s' b', rNum (u0, d0) = (t, s', b') := ⟨_, _, _, rfl⟩
        have ff := Aside0.mk ((num_rf u0 d0).trans (congrArg some e1))
        have TQ1 := st_num TQ e1
        clear TQ e1
        have TQ := TQ1
        clear TQ1
        go_upto_region 14 with (go_at_call 45; (with_reducible refine (chancelref13_Reader_Number.calls 9 (w.heap.size + 1) u0 d0 b u1 d1 w _ HBx1.out.rd HBx1.out.below ff.out).mono ?_); rintro e Y1 ⟨rfl, k1, k2, k3⟩; have HBy1 := Aside0.mk (rb_call HBx1.out k1 k2 k3); have HRy1 := Aside0.mk (r_keepB rfl (by decide) HRx1.out HBx1.out.rd k3); have HXy1 := Aside0.mk (k3.blk HXx1.out (by omega) (by simp)); have hc : Y1.cell? ⟨xb, 1, none⟩ = some (.int .i64 0) := (blk_cell HXy1.out 1).trans rfl; have hf := blk_frozen HXy1.out 1; clear k1 k2 k3)
        obtain ⟨X2, hw⟩ : ∃ W, W = Y1.setCell ⟨xb, 1, none⟩ (.int .i64 b) := ⟨_, rfl⟩
        rw [← hw]
        have HBx2 := Aside0.mk (show RB w X2 u1 d1 #[.int .i64 o, .string tok, .int .i64 num, .int .i64 at_, .slice A kk cc, .slice none 0 0] by rw [hw]; exact rb_far HBy1.out hxs _ _)
        have HRx2 := Aside0.mk (show (rawK 4).R 63 X2 w.heap.size (fun _ => True) (.slice A kk cc) xs by rw [hw]; exact raw_set HRy1.out HNO.out)
        have HXx2 := Aside0.mk (show X2.heap[xb]? = some (.cells #[.int .i64 a, .int .i64 b, .bool false, .string ⟨#[]⟩] 63 (0, 0)) by rw [hw]; exact (blk_set HXy1.out 1 _).trans (by simp only [List.setIfInBounds_toArray, List.set_cons_zero, List.set_cons_succ]))
        clear hw hc hf ff HBx1 HRx1 HXx1 HBy1 HRy1 HXy1
        obtain ⟨cf, u2, d2, e2⟩ : ∃ t s' b', rFlag (u1, d1) = (t, s', b') := ⟨_, _, _, rfl⟩
        have ff := Aside0.mk ((flag_rf u1 d1).trans (congrArg some e2))
        have TQ2 := st_flag TQ e2
        clear TQ e2
        have TQ := TQ2
        clear TQ2
        go_upto_region 15 with (go_at_call 47; (with_reducible refine (chancelref13_Reader_Flag.calls (w.heap.size + 1) u1 d1 cf u2 d2 w _ HBx2.out.rd HBx2.out.below ff.out).mono ?_); rintro e Y2 ⟨rfl, k1, k2, k3⟩; have HBy2 := Aside0.mk (rb_call HBx2.out k1 k2 k3); have HRy2 := Aside0.mk (r_keepB rfl (by decide) HRx2.out HBx2.out.rd k3); have HXy2 := Aside0.mk (k3.blk HXx2.out (by omega) (by simp)); have hc : Y2.cell? ⟨xb, 2, none⟩ = some (.bool false) := (blk_cell HXy2.out 2).trans rfl; have hf := blk_frozen HXy2.out 2; clear k1 k2 k3)
        obtain ⟨X3, hw⟩ : ∃ W, W = Y2.setCell ⟨xb, 2, none⟩ (.bool cf) := ⟨_, rfl⟩
        rw [← hw]
        have HBx3 := Aside0.mk (show RB w X3 u2 d2 #[.int .i64 o, .string tok, .int .i64 num, .int .i64 at_, .slice A kk cc, .slice none 0 0] by rw [hw]; exact rb_far HBy2.out hxs _ _)
        have HRx3 := Aside0.mk (show (rawK 4).R 63 X3 w.heap.size (fun _ => True) (.slice A kk cc) xs by rw [hw]; exact raw_set HRy2.out HNO.out)
        have HXx3 := Aside0.mk (show X3.heap[xb]? = some (.cells #[.int .i64 a, .int .i64 b, .bool cf, .string ⟨#[]⟩] 63 (0, 0)) by rw [hw]; exact (blk_set HXy2.out 2 _).trans (by simp only [List.setIfInBounds_toArray, List.set_cons_zero, List.set_cons_succ]))
        clear hw hc hf ff HBx2 HRx2 HXx2 HBy2 HRy2 HXy2
        obtain ⟨tx, u3, d3, e3⟩ : ∃ t s' b', rText (u2, d2) = (t, s', b') := ⟨_, _, _, rfl⟩
        have ff := Aside0.mk ((text_rf u2 d2).trans (congrArg some e3))
        have TQ3 := st_text TQ e3
        clear TQ e3
        have TQ := TQ3
        clear TQ3
        go_upto_region 16 with (go_at_call 44; (with_reducible refine (chancelref13_Reader_Text.calls (w.heap.size + 1) u2 d2 tx u3 d3 w _ HBx3.out.rd HBx3.out.below ff.out).mono ?_); rintro e Y3 ⟨rfl, k1, k2, k3⟩; have HBy3 := Aside0.mk (rb_call HBx3.out k1 k2 k3); have HRy3 := Aside0.mk (r_keepB rfl (by decide) HRx3.out HBx3.out.rd k3); have HXy3 := Aside0.mk (k3.blk HXx3.out (by omega) (by simp)); have hc : Y3.cell? ⟨xb, 3, none⟩ = some (.string ⟨#[]⟩) := (blk_cell HXy3.out 3).trans rfl; have hf := blk_frozen HXy3.out 3; clear k1 k2 k3)
        obtain ⟨X4, hw⟩ : ∃ W, W = Y3.setCell ⟨xb, 3, none⟩ (.string tx) := ⟨_, rfl⟩
        rw [← hw]
        have HBx4 := Aside0.mk (show RB w X4 u3 d3 #[.int .i64 o, .string tok, .int .i64 num, .int .i64 at_, .slice A kk cc, .slice none 0 0] by rw [hw]; exact rb_far HBy3.out hxs _ _)
        have HRx4 := Aside0.mk (show (rawK 4).R 63 X4 w.heap.size (fun _ => True) (.slice A kk cc) xs by rw [hw]; exact raw_set HRy3.out HNO.out)
        have HXx4 := Aside0.mk (show X4.heap[xb]? = some (.cells #[.int .i64 a, .int .i64 b, .bool cf, .string tx] 63 (0, 0)) by rw [hw]; exact (blk_set HXy3.out 3 _).trans (by simp only [List.setIfInBounds_toArray, List.set_cons_zero, List.set_cons_succ]))
        clear hw hc hf ff HBx3 HRx3 HXx3 HBy3 HRy3 HXy3
        have he4 : X4.cell? ⟨w.heap.size + 1 + 1, 4, none⟩ = some (.slice A kk cc) := (blk_cell HBx4.out.p 4).trans rfl
        have hx0 : X4.cell? ⟨xb, 0, none⟩ = some (.int .i64 a) := (blk_cell HXx4.out 0).trans rfl
        have hx1 : X4.cell? ⟨xb, 1, none⟩ = some (.int .i64 b) := (blk_cell HXx4.out 1).trans rfl
        have hx2 : X4.cell? ⟨xb, 2, none⟩ = some (.bool cf) := (blk_cell HXx4.out 2).trans rfl
        have hx3 : X4.cell? ⟨xb, 3, none⟩ = some (.string tx) := (blk_cell HXx4.out 3).trans rfl
        have hb3 : w.heap.size ≤ X4.heap.size := HBx4.out.below.size
        go_wp2_with ((with_reducible refine gate_builtin (b := .append) (xs := #[.tmp 57, .tmp 59]) rfl ?_); (try (refine gate_guard (by rfl) ?_; dsimp only)); at_builtin; refine Kd.R_append (rawK 4) (w0 := X4) w.heap.size rfl (.tmp 57) (.tmp 59) 22 63 (.agg #[.int .i64 0, .int .i64 0, .bool false, .string ⟨#[]⟩]) 40 rfl Try.underlying22 info63 rfl (by decide) (by omega) (.slice A kk cc) xs ⟨[.int .i64 a, .int .i64 b, .bool cf, .string tx], rfl, by simp [Value.oneCell']⟩ [.int .i64 a, .int .i64 b, .bool cf, .string tx] (fun _ => True) (fun _ => False) rfl rfl ?aP (fun _ hk => hk.elim) ?aF ?aO ?aB ?aS ?aL ?_; (case aP => exact rfl); (case aB => exact Below.refl _ _); (case aF => exact (fun _ _ => trivial)); (case aO => exact HRx4.out); (case aS => exact hb3); (case aL => omega); intro v1 w6 ho hbb hg hat; have HO6 := Aside0.mk ho; have HB6 := Aside0.mk (rb_row HBx4.out HRx4.out (by decide) (by decide) hg); have hc6 : w6.cell? ⟨w.heap.size + 1 + 1, 4, none⟩ = some (.slice A kk cc) := (blk_cell HB6.out.p 4).trans rfl; have hf6 := blk_frozen HB6.out.p 4; obtain ⟨A6, k6, c6, rfl⟩ := raw_shape ho; clear ho hbb hg hat)
        go_roundg (n - (k + 1))
        case measure => omega
        case rel => exact ⟨k + 1, u3, d3, _, _, rs ++ [(a, b, cf, tx)], by omega, by omega, by
            have hwr : wrap64 ((k : Int) + 1) = (k : Int) + 1 := by unfold wrap64; omega
            first | (simp [hwr]; done) | go_num, by rw [List.length_append, hlen]; rfl, ⟨by rw [show n - (k + 1) = j by have := HJ.out; omega]; exact TQ⟩, ⟨rb_set HB6.out 4 _ (set6 _ _ _ _ _ _ _).2.2.2.2.1⟩, ⟨Kd.R_set HO6.out HB6.out.p (by decide) 4 _⟩, ⟨by rw [List.map_append, List.map_append, HXR.out]; rfl⟩⟩
    case neg =>
      have hkz : decide ((k : Int) < (n : Int)) = false := decide_eq_false (by omega)
      have TQ := TR.out
      rw [show n - k = 0 by omega, F1_zero] at TQ
      have TX := Aside0.mk TQ
      clear TR TQ hk hkg
      obtain ⟨B4, kb, cb, rfl⟩ := raw_shape HRr.out
      have HXRa := HXR
      have HRRz := HRr
      obtain ⟨xsR, hxsR⟩ : ∃ x, x = xs := ⟨_, rfl⟩
      obtain ⟨rsR, hrsR⟩ : ∃ x, x = rs := ⟨_, rfl⟩
      subst hxsR
      subst hrsR
      go_upto_region 17 with (fail)
      obtain ⟨mI, s7, b7, e7⟩ : ∃ t s' b', rLen (u, bk) = (t, s', b') := ⟨_, _, _, rfl⟩
      have f7 := Aside0.mk ((len_rf u bk).trans (congrArg some e7))
      have TZ := st_len TX.out e7
      have hm0 := rLen_range e7
      obtain ⟨m, hm⟩ := Int.eq_ofNat_of_zero_le hm0.1
      subst hm
      have hm5 : m ≤ 255 := by omega
      simp only [Int.toNat_natCast] at TZ
      have T7 := Aside0.mk TZ
      clear TX TZ e7 hm0 HXR HRr
      go_wp2_with (go_at_call 46; (with_reducible refine (chancelref13_Reader_Len.calls (w.heap.size + 1) u bk m s7 b7 w _ HBr.out.rd HBr.out.below f7.out).mono ?_); rintro e W7 ⟨rfl, k1, k2, k3⟩; have HB7 := Aside0.mk (rb_call HBr.out k1 k2 k3); have HRRa := Aside0.mk (r_keepB rfl (by decide) HRRz.out HBr.out.rd k3); clear k1 k2 k3)
      clear HBr HRRz f7 hrb hrs hkz hlen hlt
      go_loopg [9] m (fun gg vi wr => ∃ (k : Nat) (u : ByteArray) (bk : Bool) (vr : Value) (xs : List (Raw 5)) (rs : List EntD), k ≤ m ∧ m - k ≤ gg ∧ vi = .int .i64 k ∧ xs.length = k ∧ Aside0 (St P bk (F2 o tok num at_ rsR (m - k) u rs)) ∧ Aside0 (RB w wr u bk #[.int .i64 o, .string tok, .int .i64 num, .int .i64 at_, .slice B4 kb cb, vr]) ∧ Aside0 ((rawK 5).R 67 wr w.heap.size (fun _ => True) vr xs) ∧ Aside0 (All2 (EntOk wr w.heap.size) xs rs) ∧ Aside0 ((rawK 4).R 63 wr w.heap.size (fun _ => True) (.slice B4 kb cb) xsR))
      case atStart => exact ⟨0, s7, b7, _, [], [], Nat.zero_le _, by omega, rfl, rfl, T7, HB7, ⟨Kd.R_nil _ _ _ _ _⟩, ⟨.nil⟩, HRRa⟩
      case round =>
        clear HB7 T7 HRRa
        obtain ⟨k, u, bk, vr, xs, rs, hk, hkg, rfl, hlen, TR, HBr, HRr, HFAr, HRRr⟩ := hrel
        have hrb : wr.cell? ⟨w.heap.size + 1, 1, none⟩ = some (.bool bk) := (blk_cell HBr.out.rd.1 1).trans rfl
        have hrs : wr.cell? ⟨w.heap.size + 1, 0, none⟩ = some (.string u) := (blk_cell HBr.out.rd.1 0).trans rfl
        by_cases hlt : k < m
        case pos =>
          have hkz : decide ((k : Int) < (m : Int)) = true := decide_eq_true (by omega)
          cases bk with
          | true =>
            have TX := Aside0.mk (st_true (Y := if u.size = 0 then some ⟨o, tok, num, at_, rsR, rs⟩ else none) TR.out)
            clear TR hk hkg
            obtain ⟨B5, kc, cd, rfl⟩ := raw_shape HRr.out
            have hP : P = none := TX.out
            subst hP
            go_upto_region 29 with (fail)
            refine wp_region_lit ?_
            refine wpList_build0 rfl 25 rfl _ built25 ?_
            refine wpList_store_row rfl 25 (.tmp 2) (.tmp 109) rfl w.heap.size #[.int .i64 0, .string ⟨#[]⟩, .int .i64 0, .int .i64 0, .slice none 0 0, .slice none 0 0] rfl rfl 25 #[.int .i64 0, .string ⟨#[]⟩, .int .i64 0, .int .i64 0, .slice none 0 0, .slice none 0 0] HBr.out.r info25 rfl (by simp [Value.oneCell']) ?_
            go_wp2
            refine bodyPost_ret (results_cell_tmp Try.results13 _ _ w.heap.size #[.int .i64 0, .string ⟨#[]⟩, .int .i64 0, .int .i64 0, .slice none 0 0, .slice none 0 0] rfl (run_loadVar_row _ w.heap.size 25 25 _ (0, 0) _ (setRow_heap _ _ _ _ _ _ HBr.out.r) Try.underlying25 rfl info25)) rfl ?_
            exact ⟨rfl, grown_setRow (grown_of_below HBr.out.below none) (by omega) _⟩
          | false =>
            obtain ⟨j, hj⟩ : ∃ j, m - k = j + 1 := ⟨m - k - 1, by omega⟩
            have TQ := TR.out
            rw [hj, F2_succ] at TQ
            clear TR
            have HJ := Aside0.mk hj
            clear hj
            obtain ⟨A, kk, cc, rfl⟩ := raw_shape HRr.out
            go_upto_region 22 with (fail)
            obtain ⟨xb, hxb⟩ : ∃ xb, xb = wr.heap.size := ⟨_, rfl⟩
            obtain ⟨X0, hw⟩ : ∃ W, W = wr.alloc (.cells #[.int .i64 0, .int .i64 0, .int .i64 0, .slice none 0 0, .slice none 0 0] 67) := ⟨_, rfl⟩
            rw [← hw, ← hxb]
            have HBx0 := Aside0.mk (show RB w X0 u false #[.int .i64 o, .string tok, .int .i64 num, .int .i64 at_, .slice B4 kb cb, .slice A kk cc] by rw [hw]; exact rb_below HBr.out (below_alloc (Below.refl _ _) _))
            have HRx0 := Aside0.mk (show (rawK 5).R 67 X0 w.heap.size (fun _ => True) (.slice A kk cc) xs by rw [hw]; exact Kd.R_alloc HRr.out _)
            have HXx0 := Aside0.mk (show X0.heap[xb]? = some (.cells #[.int .i64 0, .int .i64 0, .int .i64 0, .slice none 0 0, .slice none 0 0] 67 (0, 0)) by rw [hw, hxb]; exact heap_alloc_new _ _)
            have hk3 := (show Keep3 wr X0 by rw [hw]; exact keep3_below (below_alloc (Below.refl _ _) _)); have HFAx0 := Aside0.mk (forall_keep HFAr.out hk3); have HRRx0 := Aside0.mk (r_keep rfl (Or.inr rfl) HRRr.out hk3); clear hk3
            have HNO := Aside0.mk (show ∀ k, (Value.slice A kk cc).ownBlock = some k → k ≠ xb from fun k hk => by have := Kd.R_lt HRr.out k hk; omega)
            have hxs : w.heap.size + 3 ≤ xb := by rw [hxb]; exact HBr.out.size
            clear hw hxb hrb hrs HBr HRr HFAr HRRr
            obtain ⟨a, u0, d0, e0⟩ : ∃ t s' b', rNum (u, false) = (t, s', b') := ⟨_, _, _, rfl⟩
            have ff := Aside0.mk ((num_rf u false).trans (congrArg some e0))
            have TQ0 := st_num TQ e0
            clear TQ e0
            have TQ := TQ0
            clear TQ0
            go_upto_region 23 with (go_at_call 45; (with_reducible refine (chancelref13_Reader_Number.calls 9 (w.heap.size + 1) u false a u0 d0 w _ HBx0.out.rd HBx0.out.below ff.out).mono ?_); rintro e Y0 ⟨rfl, k1, k2, k3⟩; have HBy0 := Aside0.mk (rb_call HBx0.out k1 k2 k3); have HRy0 := Aside0.mk (r_keepB rfl (by decide) HRx0.out HBx0.out.rd k3); have HXy0 := Aside0.mk (k3.blk HXx0.out (by omega) (by simp)); have hc : Y0.cell? ⟨xb, 0, none⟩ = some (.int .i64 0) := (blk_cell HXy0.out 0).trans rfl; have hf := blk_frozen HXy0.out 0; have hk3 := (keep3_reader HBx0.out.rd k3); have HFAy0 := Aside0.mk (forall_keep HFAx0.out hk3); have HRRy0 := Aside0.mk (r_keep rfl (Or.inr rfl) HRRx0.out hk3); clear hk3; clear k1 k2 k3)
            obtain ⟨X1, hw⟩ : ∃ W, W = Y0.setCell ⟨xb, 0, none⟩ (.int .i64 a) := ⟨_, rfl⟩
            rw [← hw]
            have HBx1 := Aside0.mk (show RB w X1 u0 d0 #[.int .i64 o, .string tok, .int .i64 num, .int .i64 at_, .slice B4 kb cb, .slice A kk cc] by rw [hw]; exact rb_far HBy0.out hxs _ _)
            have HRx1 := Aside0.mk (show (rawK 5).R 67 X1 w.heap.size (fun _ => True) (.slice A kk cc) xs by rw [hw]; exact raw_set HRy0.out HNO.out)
            have hk3 := (show Keep3 Y0 X1 by rw [hw]; exact keep3_set HXy0.out (by decide) (by decide) _ _); have HFAx1 := Aside0.mk (forall_keep HFAy0.out hk3); have HRRx1 := Aside0.mk (r_keep rfl (Or.inr rfl) HRRy0.out hk3); clear hk3
            have HXx1 := Aside0.mk (show X1.heap[xb]? = some (.cells #[.int .i64 a, .int .i64 0, .int .i64 0, .slice none 0 0, .slice none 0 0] 67 (0, 0)) by rw [hw]; exact (blk_set HXy0.out 0 _).trans (by simp only [List.setIfInBounds_toArray, List.set_cons_zero, List.set_cons_succ]))
            clear hw hc hf ff HBx0 HRx0 HXx0 HBy0 HRy0 HXy0 HFAx0 HRRx0 HFAy0 HRRy0
            obtain ⟨b, u1, d1, e1⟩ : ∃ t s' b', rNum (u0, d0) = (t, s', b') := ⟨_, _, _, rfl⟩
            have ff := Aside0.mk ((num_rf u0 d0).trans (congrArg some e1))
            have TQ1 := st_num TQ e1
            clear TQ e1
            have TQ := TQ1
            clear TQ1
            go_upto_region 24 with (go_at_call 45; (with_reducible refine (chancelref13_Reader_Number.calls 9 (w.heap.size + 1) u0 d0 b u1 d1 w _ HBx1.out.rd HBx1.out.below ff.out).mono ?_); rintro e Y1 ⟨rfl, k1, k2, k3⟩; have HBy1 := Aside0.mk (rb_call HBx1.out k1 k2 k3); have HRy1 := Aside0.mk (r_keepB rfl (by decide) HRx1.out HBx1.out.rd k3); have HXy1 := Aside0.mk (k3.blk HXx1.out (by omega) (by simp)); have hc : Y1.cell? ⟨xb, 1, none⟩ = some (.int .i64 0) := (blk_cell HXy1.out 1).trans rfl; have hf := blk_frozen HXy1.out 1; have hk3 := (keep3_reader HBx1.out.rd k3); have HFAy1 := Aside0.mk (forall_keep HFAx1.out hk3); have HRRy1 := Aside0.mk (r_keep rfl (Or.inr rfl) HRRx1.out hk3); clear hk3; clear k1 k2 k3)
            obtain ⟨X2, hw⟩ : ∃ W, W = Y1.setCell ⟨xb, 1, none⟩ (.int .i64 b) := ⟨_, rfl⟩
            rw [← hw]
            have HBx2 := Aside0.mk (show RB w X2 u1 d1 #[.int .i64 o, .string tok, .int .i64 num, .int .i64 at_, .slice B4 kb cb, .slice A kk cc] by rw [hw]; exact rb_far HBy1.out hxs _ _)
            have HRx2 := Aside0.mk (show (rawK 5).R 67 X2 w.heap.size (fun _ => True) (.slice A kk cc) xs by rw [hw]; exact raw_set HRy1.out HNO.out)
            have hk3 := (show Keep3 Y1 X2 by rw [hw]; exact keep3_set HXy1.out (by decide) (by decide) _ _); have HFAx2 := Aside0.mk (forall_keep HFAy1.out hk3); have HRRx2 := Aside0.mk (r_keep rfl (Or.inr rfl) HRRy1.out hk3); clear hk3
            have HXx2 := Aside0.mk (show X2.heap[xb]? = some (.cells #[.int .i64 a, .int .i64 b, .int .i64 0, .slice none 0 0, .slice none 0 0] 67 (0, 0)) by rw [hw]; exact (blk_set HXy1.out 1 _).trans (by simp only [List.setIfInBounds_toArray, List.set_cons_zero, List.set_cons_succ]))
            clear hw hc hf ff HBx1 HRx1 HXx1 HBy1 HRy1 HXy1 HFAx1 HRRx1 HFAy1 HRRy1
            obtain ⟨d, u2, d2, e2⟩ : ∃ t s' b', rNum (u1, d1) = (t, s', b') := ⟨_, _, _, rfl⟩
            have ff := Aside0.mk ((num_rf u1 d1).trans (congrArg some e2))
            have TQ2 := st_num TQ e2
            clear TQ e2
            have TQ := TQ2
            clear TQ2
            go_upto_region 25 with (go_at_call 45; (with_reducible refine (chancelref13_Reader_Number.calls 9 (w.heap.size + 1) u1 d1 d u2 d2 w _ HBx2.out.rd HBx2.out.below ff.out).mono ?_); rintro e Y2 ⟨rfl, k1, k2, k3⟩; have HBy2 := Aside0.mk (rb_call HBx2.out k1 k2 k3); have HRy2 := Aside0.mk (r_keepB rfl (by decide) HRx2.out HBx2.out.rd k3); have HXy2 := Aside0.mk (k3.blk HXx2.out (by omega) (by simp)); have hc : Y2.cell? ⟨xb, 2, none⟩ = some (.int .i64 0) := (blk_cell HXy2.out 2).trans rfl; have hf := blk_frozen HXy2.out 2; have hk3 := (keep3_reader HBx2.out.rd k3); have HFAy2 := Aside0.mk (forall_keep HFAx2.out hk3); have HRRy2 := Aside0.mk (r_keep rfl (Or.inr rfl) HRRx2.out hk3); clear hk3; clear k1 k2 k3)
            obtain ⟨X3, hw⟩ : ∃ W, W = Y2.setCell ⟨xb, 2, none⟩ (.int .i64 d) := ⟨_, rfl⟩
            rw [← hw]
            have HBx3 := Aside0.mk (show RB w X3 u2 d2 #[.int .i64 o, .string tok, .int .i64 num, .int .i64 at_, .slice B4 kb cb, .slice A kk cc] by rw [hw]; exact rb_far HBy2.out hxs _ _)
            have HRx3 := Aside0.mk (show (rawK 5).R 67 X3 w.heap.size (fun _ => True) (.slice A kk cc) xs by rw [hw]; exact raw_set HRy2.out HNO.out)
            have hk3 := (show Keep3 Y2 X3 by rw [hw]; exact keep3_set HXy2.out (by decide) (by decide) _ _); have HFAx3 := Aside0.mk (forall_keep HFAy2.out hk3); have HRRx3 := Aside0.mk (r_keep rfl (Or.inr rfl) HRRy2.out hk3); clear hk3
            have HXx3 := Aside0.mk (show X3.heap[xb]? = some (.cells #[.int .i64 a, .int .i64 b, .int .i64 d, .slice none 0 0, .slice none 0 0] 67 (0, 0)) by rw [hw]; exact (blk_set HXy2.out 2 _).trans (by simp only [List.setIfInBounds_toArray, List.set_cons_zero, List.set_cons_succ]))
            clear hw hc hf ff HBx2 HRx2 HXx2 HBy2 HRy2 HXy2 HFAx2 HRRx2 HFAy2 HRRy2
            obtain ⟨l1, u3, d3, e3, hST⟩ := list_ex u2 d2
            have ff := Aside0.mk e3
            have TQ3 := hST _ _ TQ
            clear hST
            clear TQ e3
            have TQ := TQ3
            clear TQ3
            go_upto_region 26 with (go_at_call 48; (with_reducible refine (chancelref13_Reader_list.calls 300 (w.heap.size + 1) u2 d2 l1 u3 d3 w _ HBx3.out.rd HBx3.out.below ff.out).mono ?_); rintro e Y3 ⟨vv, rfl, hvv, k1, k2, k3⟩; obtain ⟨A1, kA1, c1, rfl⟩ := list_shape hvv; have HBy3 := Aside0.mk (rb_call HBx3.out k1 k2 k3); have HRy3 := Aside0.mk (r_keepB rfl (by decide) HRx3.out HBx3.out.rd k3); have HXy3 := Aside0.mk (k3.blk HXx3.out (by omega) (by simp)); have hc : Y3.cell? ⟨xb, 3, none⟩ = some (.slice none 0 0) := (blk_cell HXy3.out 3).trans rfl; have hf := blk_frozen HXy3.out 3; have hk3 := (keep3_reader HBx3.out.rd k3); have HFAy3 := Aside0.mk (forall_keep HFAx3.out hk3); have HRRy3 := Aside0.mk (r_keep rfl (Or.inr rfl) HRRx3.out hk3); clear hk3; have HV1y3 := Aside0.mk (Kd.R_lower hvv HBx3.out.below.size); clear k1 k2 k3 hvv)
            obtain ⟨X4, hw⟩ : ∃ W, W = Y3.setCell ⟨xb, 3, none⟩ (.slice A1 kA1 c1) := ⟨_, rfl⟩
            rw [← hw]
            have HBx4 := Aside0.mk (show RB w X4 u3 d3 #[.int .i64 o, .string tok, .int .i64 num, .int .i64 at_, .slice B4 kb cb, .slice A kk cc] by rw [hw]; exact rb_far HBy3.out hxs _ _)
            have HRx4 := Aside0.mk (show (rawK 5).R 67 X4 w.heap.size (fun _ => True) (.slice A kk cc) xs by rw [hw]; exact raw_set HRy3.out HNO.out)
            have hk3 := (show Keep3 Y3 X4 by rw [hw]; exact keep3_set HXy3.out (by decide) (by decide) _ _); have HFAx4 := Aside0.mk (forall_keep HFAy3.out hk3); have HRRx4 := Aside0.mk (r_keep rfl (Or.inr rfl) HRRy3.out hk3); have HV1x4 := Aside0.mk (r_keep rfl (Or.inl rfl) HV1y3.out hk3); clear hk3
            have HXx4 := Aside0.mk (show X4.heap[xb]? = some (.cells #[.int .i64 a, .int .i64 b, .int .i64 d, .slice A1 kA1 c1, .slice none 0 0] 67 (0, 0)) by rw [hw]; exact (blk_set HXy3.out 3 _).trans (by simp only [List.setIfInBounds_toArray, List.set_cons_zero, List.set_cons_succ]))
            clear hw hc hf ff HBx3 HRx3 HXx3 HBy3 HRy3 HXy3 HFAx3 HRRx3 HFAy3 HRRy3 HV1y3
            obtain ⟨l2, u4, d4, e4, hST⟩ := list_ex u3 d3
            have ff := Aside0.mk e4
            have TQ4 := hST _ _ TQ
            clear hST
            clear TQ e4
            have TQ := TQ4
            clear TQ4
            go_upto_region 27 with (go_at_call 48; (with_reducible refine (chancelref13_Reader_list.calls 300 (w.heap.size + 1) u3 d3 l2 u4 d4 w _ HBx4.out.rd HBx4.out.below ff.out).mono ?_); rintro e Y4 ⟨vv, rfl, hvv, k1, k2, k3⟩; obtain ⟨A2, kA2, c2, rfl⟩ := list_shape hvv; have HBy4 := Aside0.mk (rb_call HBx4.out k1 k2 k3); have HRy4 := Aside0.mk (r_keepB rfl (by decide) HRx4.out HBx4.out.rd k3); have HXy4 := Aside0.mk (k3.blk HXx4.out (by omega) (by simp)); have hc : Y4.cell? ⟨xb, 4, none⟩ = some (.slice none 0 0) := (blk_cell HXy4.out 4).trans rfl; have hf := blk_frozen HXy4.out 4; have hk3 := (keep3_reader HBx4.out.rd k3); have HFAy4 := Aside0.mk (forall_keep HFAx4.out hk3); have HRRy4 := Aside0.mk (r_keep rfl (Or.inr rfl) HRRx4.out hk3); have HV1y4 := Aside0.mk (r_keep rfl (Or.inl rfl) HV1x4.out hk3); clear hk3; have HV2y4 := Aside0.mk (Kd.R_lower hvv HBx4.out.below.size); clear k1 k2 k3 hvv)
            obtain ⟨X5, hw⟩ : ∃ W, W = Y4.setCell ⟨xb, 4, none⟩ (.slice A2 kA2 c2) := ⟨_, rfl⟩
            rw [← hw]
            have HBx5 := Aside0.mk (show RB w X5 u4 d4 #[.int .i64 o, .string tok, .int .i64 num, .int .i64 at_, .slice B4 kb cb, .slice A kk cc] by rw [hw]; exact rb_far HBy4.out hxs _ _)
            have HRx5 := Aside0.mk (show (rawK 5).R 67 X5 w.heap.size (fun _ => True) (.slice A kk cc) xs by rw [hw]; exact raw_set HRy4.out HNO.out)
            have hk3 := (show Keep3 Y4 X5 by rw [hw]; exact keep3_set HXy4.out (by decide) (by decide) _ _); have HFAx5 := Aside0.mk (forall_keep HFAy4.out hk3); have HRRx5 := Aside0.mk (r_keep rfl (Or.inr rfl) HRRy4.out hk3); have HV1x5 := Aside0.mk (r_keep rfl (Or.inl rfl) HV1y4.out hk3); have HV2x5 := Aside0.mk (r_keep rfl (Or.inl rfl) HV2y4.out hk3); clear hk3
            have HXx5 := Aside0.mk (show X5.heap[xb]? = some (.cells #[.int .i64 a, .int .i64 b, .int .i64 d, .slice A1 kA1 c1, .slice A2 kA2 c2] 67 (0, 0)) by rw [hw]; exact (blk_set HXy4.out 4 _).trans (by simp only [List.setIfInBounds_toArray, List.set_cons_zero, List.set_cons_succ]))
            clear hw hc hf ff HBx4 HRx4 HXx4 HBy4 HRy4 HXy4 HFAx4 HRRx4 HFAy4 HRRy4 HV1y4 HV2y4 HV1x4
            have he4 : X5.cell? ⟨w.heap.size + 1 + 1, 5, none⟩ = some (.slice A kk cc) := (blk_cell HBx5.out.p 5).trans rfl
            have hx0 : X5.cell? ⟨xb, 0, none⟩ = some (.int .i64 a) := (blk_cell HXx5.out 0).trans rfl
            have hx1 : X5.cell? ⟨xb, 1, none⟩ = some (.int .i64 b) := (blk_cell HXx5.out 1).trans rfl
            have hx2 : X5.cell? ⟨xb, 2, none⟩ = some (.int .i64 d) := (blk_cell HXx5.out 2).trans rfl
            have hx3 : X5.cell? ⟨xb, 3, none⟩ = some (.slice A1 kA1 c1) := (blk_cell HXx5.out 3).trans rfl
            have hx4 : X5.cell? ⟨xb, 4, none⟩ = some (.slice A2 kA2 c2) := (blk_cell HXx5.out 4).trans rfl
            have hb3 : w.heap.size ≤ X5.heap.size := HBx5.out.below.size
            go_wp2_with ((with_reducible refine gate_builtin (b := .append) (xs := #[.tmp 93, .tmp 95]) rfl ?_); (try (refine gate_guard (by rfl) ?_; dsimp only)); at_builtin; refine Kd.R_append (rawK 5) (w0 := X5) w.heap.size rfl (.tmp 93) (.tmp 95) 23 67 (.agg #[.int .i64 0, .int .i64 0, .int .i64 0, .slice none 0 0, .slice none 0 0]) 72 rfl Try.underlying23 info67 rfl (by decide) (by omega) (.slice A kk cc) xs ⟨[.int .i64 a, .int .i64 b, .int .i64 d, .slice A1 kA1 c1, .slice A2 kA2 c2], rfl, by simp [Value.oneCell']⟩ [.int .i64 a, .int .i64 b, .int .i64 d, .slice A1 kA1 c1, .slice A2 kA2 c2] (fun _ => True) (fun _ => False) rfl rfl ?aP (fun _ hk => hk.elim) ?aF ?aO ?aB ?aS ?aL ?_; (case aP => exact rfl); (case aB => exact Below.refl _ _); (case aF => exact (fun _ _ => trivial)); (case aO => exact HRx5.out); (case aS => exact hb3); (case aL => omega); intro v1 w6 ho hbb hg hat; have HO6 := Aside0.mk ho; have HB6 := Aside0.mk (rb_row HBx5.out HRx5.out (by decide) (by decide) hg); have hc6 : w6.cell? ⟨w.heap.size + 1 + 1, 5, none⟩ = some (.slice A kk cc) := (blk_cell HB6.out.p 5).trans rfl; have hf6 := blk_frozen HB6.out.p 5; have hk3 := (keep3_row HRx5.out (by decide) (by decide) hg); have HFAw6 := Aside0.mk (forall_keep HFAx5.out hk3); have HRRw6 := Aside0.mk (r_keep rfl (Or.inr rfl) HRRx5.out hk3); have HV1w6 := Aside0.mk (r_keep rfl (Or.inl rfl) HV1x5.out hk3); have HV2w6 := Aside0.mk (r_keep rfl (Or.inl rfl) HV2x5.out hk3); clear hk3; obtain ⟨A6, k6, c6, rfl⟩ := raw_shape ho; clear ho hbb hg hat)
            go_roundg (m - (k + 1))
            case measure => omega
            case rel => exact ⟨k + 1, u4, d4, _, _, rs ++ [(a, b, d, l1, l2)], by omega, by omega, by
                have hwr : wrap64 ((k : Int) + 1) = (k : Int) + 1 := by unfold wrap64; omega
                first | (simp [hwr]; done) | go_num, by rw [List.length_append, hlen]; rfl, ⟨by rw [show m - (k + 1) = j by have := HJ.out; omega]; exact TQ⟩, ⟨rb_set HB6.out 5 _ (set6 _ _ _ _ _ _ _).2.2.2.2.2⟩, ⟨Kd.R_set HO6.out HB6.out.p (by decide) 5 _⟩, ⟨ent_more (forall_keep HFAw6.out (keep3_set HB6.out.p (by decide) (by decide) _ _)) rfl (r_keep rfl (Or.inl rfl) HV1w6.out (keep3_set HB6.out.p (by decide) (by decide) _ _)) (r_keep rfl (Or.inl rfl) HV2w6.out (keep3_set HB6.out.p (by decide) (by decide) _ _))⟩, ⟨r_keep rfl (Or.inr rfl) HRRw6.out (keep3_set HB6.out.p (by decide) (by decide) _ _)⟩⟩
        case neg =>
          have hkz : decide ((k : Int) < (m : Int)) = false := decide_eq_false (by omega)
          have TQ := TR.out
          rw [show m - k = 0 by omega, F2_zero] at TQ
          have TX := Aside0.mk TQ
          clear TR TQ hk hkg
          obtain ⟨B5, kc, cd, rfl⟩ := raw_shape HRr.out
          cases bk with
          | true =>
            have hP : P = none := TX.out
            subst hP
            go_upto_region 29 with (fail)
            refine wp_region_lit ?_
            refine wpList_build0 rfl 25 rfl _ built25 ?_
            refine wpList_store_row rfl 25 (.tmp 2) (.tmp 109) rfl w.heap.size #[.int .i64 0, .string ⟨#[]⟩, .int .i64 0, .int .i64 0, .slice none 0 0, .slice none 0 0] rfl rfl 25 #[.int .i64 0, .string ⟨#[]⟩, .int .i64 0, .int .i64 0, .slice none 0 0, .slice none 0 0] HBr.out.r info25 rfl (by simp [Value.oneCell']) ?_
            go_wp2
            refine bodyPost_ret (results_cell_tmp Try.results13 _ _ w.heap.size #[.int .i64 0, .string ⟨#[]⟩, .int .i64 0, .int .i64 0, .slice none 0 0, .slice none 0 0] rfl (run_loadVar_row _ w.heap.size 25 25 _ (0, 0) _ (setRow_heap _ _ _ _ _ _ HBr.out.r) Try.underlying25 rfl info25)) rfl ?_
            exact ⟨rfl, grown_setRow (grown_of_below HBr.out.below none) (by omega) _⟩
          | false =>
            by_cases hz : u.size = 0
            case neg =>
              have hl : u.toList.length = u.size := by rw [ByteArray.toList_eq, data_length]
              have hbe : u.toList.isEmpty = false := by
                cases hs : u.toList with
                | nil => rw [hs] at hl; simp at hl; omega
                | cons a l => rfl
              clear hl
              have hP : P = none := (show P = _ from TX.out).trans (by rw [if_neg hz]; rfl)
              subst hP
              go_upto_region 29 with (fail)
              refine wp_region_lit ?_
              refine wpList_build0 rfl 25 rfl _ built25 ?_
              refine wpList_store_row rfl 25 (.tmp 2) (.tmp 109) rfl w.heap.size #[.int .i64 0, .string ⟨#[]⟩, .int .i64 0, .int .i64 0, .slice none 0 0, .slice none 0 0] rfl rfl 25 #[.int .i64 0, .string ⟨#[]⟩, .int .i64 0, .int .i64 0, .slice none 0 0, .slice none 0 0] HBr.out.r info25 rfl (by simp [Value.oneCell']) ?_
              go_wp2
              refine bodyPost_ret (results_cell_tmp Try.results13 _ _ w.heap.size #[.int .i64 0, .string ⟨#[]⟩, .int .i64 0, .int .i64 0, .slice none 0 0, .slice none 0 0] rfl (run_loadVar_row _ w.heap.size 25 25 _ (0, 0) _ (setRow_heap _ _ _ _ _ _ HBr.out.r) Try.underlying25 rfl info25)) rfl ?_
              exact ⟨rfl, grown_setRow (grown_of_below HBr.out.below none) (by omega) _⟩
            case pos =>
              have hl : u.toList.length = u.size := by rw [ByteArray.toList_eq, data_length]
              have hbe : u.toList.isEmpty = true := by
                cases hs : u.toList with
                | nil => rfl
                | cons a l => rw [hs] at hl; simp at hl; omega
              clear hl
              have hP : P = some ⟨o, tok, num, at_, rsR, rs⟩ := (show P = _ from TX.out).trans (by rw [if_pos hz]; rfl)
              subst hP
              go_upto_region 30 with (fail)
              refine wp_region_lit ?_
              refine wpList_load_row rfl 25 (.tmp 5) rfl (w.heap.size + 1 + 1) rfl 25 #[.int .i64 o, .string tok, .int .i64 num, .int .i64 at_, .slice B4 kb cb, .slice B5 kc cd] (0, 0) _ HBr.out.p Try.underlying25 rfl info25 ?_
              refine wpList_store_row rfl 25 (.tmp 2) (.tmp 110) rfl w.heap.size #[.int .i64 o, .string tok, .int .i64 num, .int .i64 at_, .slice B4 kb cb, .slice B5 kc cd] rfl rfl 25 #[.int .i64 0, .string ⟨#[]⟩, .int .i64 0, .int .i64 0, .slice none 0 0, .slice none 0 0] HBr.out.r info25 rfl (by simp [Value.oneCell']) ?_
              go_wp2
              refine bodyPost_ret (results_cell_tmp Try.results13 _ _ w.heap.size #[.int .i64 o, .string tok, .int .i64 num, .int .i64 at_, .slice B4 kb cb, .slice B5 kc cd] rfl (run_loadVar_row _ w.heap.size 25 25 _ (0, 0) _ (setRow_heap _ _ _ _ _ _ HBr.out.r) Try.underlying25 rfl info25)) rfl ?_
              have hK : ∀ k, k ≠ w.heap.size → (wr.setRow w.heap.size #[.int .i64 o, .string tok, .int .i64 num, .int .i64 at_, .slice B4 kb cb, .slice B5 kc cd]).heap[k]? = wr.heap[k]? := fun k h => setRow_other wr w.heap.size k _ h
              exact ⟨⟨_, _, _, _, _, _, xsR, xs, rfl, r_one25 rfl (by decide) HRRr.out HBr.out.r hK, HXRa.out, r_one25 rfl (by decide) HRr.out HBr.out.r hK, all_one25 HFAr.out HBr.out.r hK⟩, grown_setRow (grown_of_below HBr.out.below none) (by omega) _⟩
end Go.Proofs.Ytibfbdfoiboanaa.Rd
