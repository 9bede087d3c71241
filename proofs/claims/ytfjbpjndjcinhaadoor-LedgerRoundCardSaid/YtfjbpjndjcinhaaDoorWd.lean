/- LedgerRound's walk: records go round the ring for ever. Over the program alone. -/
import Derived.Test.YtfjbpjndjcinhaaDoorAk
namespace Go.Proofs.YtfjbpjndjcinhaaDoor.Lg
open Go Go.RowKit Go.Proofs.YtfjbpjndjcinhaaDoor.Mp Go.Proofs.YtfjbpjndjcinhaaDoor.Rg Go.Proofs.YtfjbpjndjcinhaaDoor.Dk Go.Proofs.YtfjbpjndjcinhaaDoor.Pr Go.Proofs.YtfjbpjndjcinhaaDoorW.PrintWords Go.Proofs.YtfjbpjndjcinhaaDoorW.PrintMore Go.Proofs.YtfjbpjndjcinhaaDoorW.PrintLast
set_option linter.unusedVariables false
set_option linter.unusedSimpArgs false
theorem round_opens {s t : St} {N first n a m : Nat} {q : List UInt8} (hg : Good t N) (hf : first + n ≤ N) (hE : Elder (fun i => s.now ((first + i : Nat) : Int)) n m) (hL : Laid (fun i => s.now ((first + i : Nat) : Int)) (fun i => t.now ((first + i : Nat) : Int)) n a m q) (ha : a < n) (h1 : 1 ≤ q.length) (h2 : q.length ≤ 65535) (hm : m < great) (hk : kOf q.length ≤ n) :
    opens (ring t first n) n n a m n = ([q], ((a + kOf q.length) % n, m + 1, n - kOf q.length)) ∧ Elder (fun i => t.now ((first + i : Nat) : Int)) n (m + 1) := by
  refine ⟨?_, elder_next hE hL ha⟩
  rw [ring_good hg (by omega) hf]
  obtain ⟨f, rfl⟩ : ∃ f, n = f + 1 := ⟨n - 1, by omega⟩
  exact opens_one hE hL ha h1 h2 hm hk f
set_option maxRecDepth 100000 in
set_option maxHeartbeats 8000000 in
theorem round_walk (A : Option Addr) (c : Nat) (l : List ByteArray) (nI start : Int) (w : World) (hr : Kd.C Kd.string w A l.length l) (hc : l.length ≤ c) (hl64 : l.length ≤ 9223372036854775807) : Calls Tryd.prog 4 #[.slice A l.length c, .int .i64 nI, .int .i64 start] w fun e w' => e = .returned (.bool true) ∧ Below w.heap.size w w' := by
  obtain ⟨B, hB⟩ : ∃ B, B = w.heap.size := ⟨_, rfl⟩
  have HAW := Aside0.mk (awake_any w)
  have HRO := Aside0.mk hr
  have HC := Aside0.mk hc
  clear hr hc
  rw [← hB] at HAW ⊢
  by_cases hP : l.length ≤ 60 ∧ 6 ≤ nI ∧ nI ≤ 20 ∧ 0 ≤ start ∧ start < nI
  case neg =>
    go_enter Tryd.func4, Tryd.ntmps4
    go_wp2_with (go_at_call 5; (with_reducible refine HAW.out.mono ?_); rintro e w1 ⟨rfl, hb⟩; have HB := Aside0.mk hb; clear hb)
    all_goals first
      | (go_ret; exact ⟨rfl, by first | exact HB.out | (rw [← hB]; exact HB.out)⟩)
      | (exfalso; omega)
  case pos =>
    obtain ⟨p0, p1, p2, p3, p4⟩ := hP
    obtain ⟨a0, rfl⟩ := Int.eq_ofNat_of_zero_le p3
    obtain ⟨n, rfl⟩ := Int.eq_ofNat_of_zero_le (show 0 ≤ nI by omega)
    have b0 : decide (60 < (l.length : Int)) = false := decide_eq_false (by omega)
    have b0n : decide (60 < l.length) = false := decide_eq_false (by omega)
    have b1 : decide ((n : Int) < 6) = false := decide_eq_false (by omega)
    have b1n : decide (n < 6) = false := decide_eq_false (by omega)
    have b2 : decide (20 < (n : Int)) = false := decide_eq_false (by omega)
    have b2n : decide (20 < n) = false := decide_eq_false (by omega)
    have b3 : decide ((n : Int) ≤ (a0 : Int)) = false := decide_eq_false (by omega)
    have b3n : decide (n ≤ a0) = false := decide_eq_false (by omega)
    have b4 : decide ((a0 : Int) < 0) = false := decide_eq_false (by omega)
    have hn6 : 6 ≤ n := by omega
    have hn20 : n ≤ 20 := by omega
    have ha0 : a0 < n := by omega
    have G0 := new_good (N := 24) (by omega) (by omega)
    have e0 : opens (ring (St.new 24) 3 n) n n a0 7 n = ([], (a0, 7, n)) := by
      rw [ring_good G0 (by omega) (by omega)]
      exact opens_stop (none_of elder_new (by omega) a0 n (by omega))
    have HN := Aside0.mk (fun W (hW : B ≤ (World.heap W).size) => One.new (ok := geB B) 24 W (fun k hk => Nat.le_trans hW hk) (by omega) (by omega))
    have HO1 := Aside0.mk (fun W p (hW : One (geB B) W p (St.new 24)) => open_any hW rfl 3 n a0 7 (by omega) (by omega) (by rw [G0.len]; omega) (by omega) (by unfold great; omega) (ring_len G0 (by omega) (by omega)))
    rw [e0] at HO1
    have HG0 := Aside0.mk G0
    simp only [Int.cast_ofNat_Int] at HN HO1
    clear e0 G0 p1 p2 p3 p4
    go_enter Tryd.func4, Tryd.ntmps4
    go_wp2_with (first
      | (go_at_call 5; (with_reducible refine HAW.out.mono ?_); rintro e w1 ⟨rfl, hb⟩; have HB0 := Aside0.mk hb; have HS0 := Aside0.mk (Nat.le_trans (Nat.le_of_eq hB) hb.size); clear hb)
      | (go_at_call 6; (with_reducible refine (HN.out _ HS0.out).mono ?_); rintro e w2 ⟨p, rfl, ho, hT⟩; have HD1 := Aside0.mk ho; have HB1 := Aside0.mk (HB0.out.trans (hT.low HS0.out)); have HS1 := Aside0.mk (Nat.le_trans HS0.out hT.size); clear ho hT)
      | (go_at_call 9; (with_reducible refine (HO1.out _ p HD1.out).mono ?_); rintro e w3 ⟨lb, v, rfl, hl, hr, hlb, hb⟩; have HL2 := Aside0.mk hl; have HD2 := Aside0.mk (HD1.out.skip hb hlb hl.lt); have HB2 := Aside0.mk (HB1.out.trans (hb.lower' HS1.out)); have HLB := Aside0.mk (Nat.le_trans HS1.out hlb); have HS2 := Aside0.mk (Nat.le_trans HS1.out hb.size); clear HO1 hl hr hlb hb))
    clear b0 b0n b1 b1n b2 b2n b3 b3n b4 HAW HN HD1 HB0 HB1 HS0 HS1
    go_loopw [61] (fun v61 wr => ∃ (i a : Nat) (t : St), v61 = .int .i64 (i : Int) ∧ i ≤ l.length ∧ a < n ∧ Aside0 (Good t 24 ∧ t.loose = [] ∧ Elder (fun j => t.now ((3 + j : Nat) : Int)) n (7 + i)) ∧ Aside0 (One (fun k => geB B k ∧ k ≠ lb) wr p t) ∧ Aside0 (Led wr lb p 3 n a (7 + i) n) ∧ Aside0 (Below B w wr) ∧ Aside0 (B ≤ wr.heap.size)) (fun v61 _ => l.length - (intOf v61).toNat)
    case atStart => exact ⟨0, a0, St.new 24, rfl, Nat.zero_le _, ha0, ⟨HG0.out, rfl, elder_new⟩, HD2, HL2, HB2, HS2⟩
    case round =>
      clear HG0 HD2 HL2 HB2 HS2 ha0
      obtain ⟨i, a, t, rfl, hi, ha, HT, HD, HL, HBW, HSZ⟩ := hrel
      by_cases hlt : i < l.length
      case neg =>
        obtain rfl : i = l.length := by omega
        have b1 : decide ((l.length : Int) < (l.length : Int)) = false := decide_eq_false (by omega)
        have HRM := Aside0.mk (room_any HL.out)
        go_wp2_with (go_at_call 15; (with_reducible refine HRM.out.mono ?_); rintro e w4 ⟨rfl, rfl⟩)
        go_ret
        exact ⟨rfl, HBW.out⟩
      case pos =>
        have b1 : decide ((i : Int) < (l.length : Int)) = true := decide_eq_true (by omega)
        have b1n : decide (i < l.length) = true := decide_eq_true hlt
        have p1 : 0 ≤ (i : Int) := by omega
        have q1 : (i : Int) < (l.length : Int) := by omega
        obtain ⟨ad, e1, hx⟩ := Kd.at_string HRO.out i p1 q1
        cases e1
        have hx2 := ((by rw [hB] at HBW; exact HBW.out : Below w.heap.size w wr).cell (World.block_lt_of_cell? w _ hx)).trans hx
        simp only [Int.toNat_natCast] at hx hx2
        obtain ⟨x, hxx⟩ : ∃ x, x = rdOf ByteArray.empty l (i : Int) := ⟨_, rfl⟩
        rw [← hxx] at hx2
        clear hx hxx
        have p2 := eq_true p1
        have q2 := eq_true q1
        have hten : x.toList.length = x.size := by rw [ByteArray.toList_eq]; simp
        by_cases hz : x.size = 0
        case pos =>
          have z1 : x.toList = [] := List.length_eq_zero_iff.1 (by omega)
          have z2 : x.toList.isEmpty = true := List.isEmpty_iff.2 z1
          clear hten hz
          go_wp2
          go_ret
          exact ⟨rfl, HBW.out⟩
        case neg =>
          have z1 : ¬ x.toList = [] := fun e => hz (by rw [← hten, e]; rfl)
          have z2 : x.toList.isEmpty = false := List.isEmpty_eq_false_iff.2 z1
          by_cases h5 : 500 < x.size
          case pos =>
            have z3 : decide (500 < (x.size : Int)) = true := decide_eq_true (by omega)
            have z4 : decide (500 < x.size) = true := decide_eq_true h5
            clear hten hz h5
            go_wp2
            go_ret
            exact ⟨rfl, HBW.out⟩
          case neg =>
            have z3 : decide (500 < (x.size : Int)) = false := decide_eq_false (by omega)
            have z4 : decide (500 < x.size) = false := decide_eq_false h5
            clear hten
            obtain ⟨m, hm⟩ : ∃ m, m = 7 + i := ⟨_, rfl⟩
            rw [← hm] at HT HL
            have hm2 : m ≤ 67 := by omega
            have hxs1 : 1 ≤ x.size := by omega
            have hk : kOf x.size ≤ 5 := by unfold kOf; omega
            have hmg : m < great := by unfold great; omega
            obtain ⟨a1, ha1⟩ : ∃ a1, a1 = (a + kOf x.size) % n := ⟨_, rfl⟩
            obtain ⟨r1, hr1⟩ : ∃ r1, r1 = n - kOf x.size := ⟨_, rfl⟩
            have ha1n : a1 < n := by rw [ha1]; exact Nat.mod_lt _ (by omega)
            have HP := Aside0.mk (fun W (hL : Led W lb p 3 n a m n) (hW : One (fun k => geB B k ∧ k ≠ lb) W p t) => append_any hL hW (fun h => h.2 rfl) HT.out.1 HT.out.2.1 x hxs1 (by omega) (by omega) (by omega) (by omega) (by omega) ha (by omega) (Nat.le_refl _) hmg)
            rw [← ha1, ← hr1] at HP
            have HOP := Aside0.mk (fun W (t' : St) (hG : Good t' 24) (hL : Laid (fun i => t.now ((3 + i : Nat) : Int)) (fun i => t'.now ((3 + i : Nat) : Int)) n a m (bl x)) (hW : One (fun k => geB B k ∧ k ≠ lb) W p t') => (show Calls Tryd.prog 9 #[.pointer (some ⟨p, 0, none⟩), .int .i64 3, .int .i64 (n : Int), .int .i64 (a : Int), .int .i64 (m : Int)] W fun e w' => ∃ lb2 v2, e = .returned (.tuple #[.pointer (some ⟨lb2, 0, none⟩), v2, .bool true]) ∧ Led w' lb2 p 3 n a1 (m + 1) r1 ∧ Kd.R Kd.string 9 w' W.heap.size (But lb2) v2 [x] ∧ W.heap.size ≤ lb2 ∧ Below W.heap.size W w' by
              have h1 := open_any hW hG.off 3 n a m (by omega) (by omega) (by rw [hG.len]; omega) ha (Nat.le_of_lt hmg) (ring_len hG (by omega) (by omega))
              have h2 := (round_opens (first := 3) hG (by omega) HT.out.2.2 hL ha (by rw [bl_size]; exact hxs1) (by rw [bl_size]; omega) hmg (by rw [bl_size]; omega)).1
              rw [h2, bl_size, ← ha1, ← hr1] at h1
              simp only [List.map_cons, List.map_nil, toBA_bl] at h1
              exact h1))
            have HEL := Aside0.mk (fun (t' : St) (hG : Good t' 24) (hL : Laid (fun i => t.now ((3 + i : Nat) : Int)) (fun i => t'.now ((3 + i : Nat) : Int)) n a m (bl x)) => (round_opens (first := 3) hG (by omega) HT.out.2.2 hL ha (by rw [bl_size]; exact hxs1) (by rw [bl_size]; omega) hmg (by rw [bl_size]; omega)).2)
            have HNX := Aside0.mk (next_any HL.out)
            have HM := Aside0.mk hm
            clear hm ha1 hr1 hk hmg hxs1 hz h5 ha
            go_wp2_with (first
              | (go_at_call 12; (with_reducible refine HNX.out.mono ?_); rintro e w4 ⟨rfl, hb⟩; have HL4 := Aside0.mk (HL.out.below hb); have HD4 := Aside0.mk (HD.out.below hb); have HB4 := Aside0.mk (HBW.out.trans (hb.lower' HSZ.out)); have HS4 := Aside0.mk (Nat.le_trans HSZ.out hb.size); clear hb HNX)
              | (go_at_call 13; (with_reducible refine (HP.out _ HL4.out HD4.out).mono ?_); rintro e w5 ⟨t', rfl, ho, hg, hlo, hL, hl, hT⟩; have HD5 := Aside0.mk ho; have HG5 := Aside0.mk (And.intro hg hlo); have HLA := Aside0.mk hL; have HL5 := Aside0.mk hl; have HB5 := Aside0.mk (HB4.out.trans (hT.below (B := B) (fun k hk => by rcases hk with hk | hk; exact hk.1; rw [hk]; exact HLB.out) HS4.out)); have HS5 := Aside0.mk (Nat.le_trans HS4.out hT.size); clear ho hg hlo hL hl hT)
              | (go_at_call 9; (with_reducible refine (HOP.out _ t' HG5.out.1 HLA.out HD5.out).mono ?_); rintro e w6 ⟨lb2, v2, rfl, hl, hr, hlb, hb⟩; obtain ⟨g, c2, rfl, hc1, hc⟩ := one_cell hr; have HL26 := Aside0.mk hl; have HL6 := Aside0.mk (HL5.out.below hb); have HD6 := Aside0.mk (HD5.out.below hb); have HB6 := Aside0.mk (HB5.out.trans (hb.lower' HS5.out)); have HS6 := Aside0.mk (Nat.le_trans HS5.out hb.size); clear hl hr hlb hb)
              | (go_at_call 12; (with_reducible refine (next_any HL6.out).mono ?_); rintro e w7 ⟨rfl, hb⟩; have HL27 := Aside0.mk (HL26.out.below hb); have HL7 := Aside0.mk (HL6.out.below hb); have HD7 := Aside0.mk (HD6.out.below hb); have hc7 := (hb.cell (World.block_lt_of_cell? _ _ hc)).trans hc; have HB7 := Aside0.mk (HB6.out.trans (hb.lower' HS6.out)); have HS7 := Aside0.mk (Nat.le_trans HS6.out hb.size); clear hb hc HL6)
              | (go_at_call 12; (with_reducible refine (next_any HL27.out).mono ?_); rintro e w8 ⟨rfl, hb⟩; have HL8 := Aside0.mk (HL7.out.below hb); have HD8 := Aside0.mk (HD7.out.below hb); have hc8 := (hb.cell (World.block_lt_of_cell? _ _ hc7)).trans hc7; have HB8 := Aside0.mk (HB7.out.trans (hb.lower' HS7.out)); have HS8 := Aside0.mk (Nat.le_trans HS7.out hb.size); clear hb hc7)
              | (go_at_call 14; (with_reducible refine (cut_any HL8.out).mono ?_); rintro e w9 ⟨rfl, hl, hT⟩; have HL9 := Aside0.mk hl; have HD9 := Aside0.mk (HD8.out.turn hT (fun k hk (e : k = lb) => hk.2 e)); have HB9 := Aside0.mk (HB8.out.trans (hT.below (B := B) (fun k (hk : k = lb) => by rw [hk]; exact HLB.out) HS8.out)); have HS9 := Aside0.mk (Nat.le_trans HS8.out hT.size); clear hl hT))
            go_roundw
            case measure => simp [intOf]; omega
            case rel =>
              have hm := HM.out
              refine ⟨i + 1, a1, t', by go_num, by omega, ha1n, ⟨HG5.out.1, HG5.out.2, ?_⟩, HD9, ?_, HB9, HS9⟩
              · rw [show 7 + (i + 1) = m + 1 by omega]
                exact HEL.out t' HG5.out.1 HLA.out
              · rw [show 7 + (i + 1) = m + 1 by omega]
                exact HL9
end Go.Proofs.YtfjbpjndjcinhaaDoor.Lg
