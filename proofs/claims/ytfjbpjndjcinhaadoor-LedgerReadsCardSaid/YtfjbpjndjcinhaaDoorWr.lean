/- LedgerReads' walk: which records plates tell, whatever they hold, is the document's. Over the program alone. -/
import Derived.Test.YtfjbpjndjcinhaaDoorAk
namespace Go.Proofs.YtfjbpjndjcinhaaDoor.Lg
open Go Go.RowKit Go.Proofs.YtfjbpjndjcinhaaDoor.Mp Go.Proofs.YtfjbpjndjcinhaaDoor.Rg Go.Proofs.YtfjbpjndjcinhaaDoor.Dk Go.Proofs.YtfjbpjndjcinhaaDoor.Pr Go.Proofs.YtfjbpjndjcinhaaDoorW.PrintWords Go.Proofs.YtfjbpjndjcinhaaDoorW.PrintMore Go.Proofs.YtfjbpjndjcinhaaDoorW.PrintLast
set_option linter.unusedVariables false
set_option linter.unusedSimpArgs false
/-! Plain. -/
structure Fill (t : St) (n i : Nat) (l : List ByteArray) : Prop where
  good : Good t n
  short : Short t i
  len : l.length = i
  now : ∀ j : Nat, j < i → l[j]? = some (t.now (j : Int))
theorem fill_start {n : Nat} (h1 : 1 ≤ n) (h2 : n ≤ 16384) : Fill (St.new n) n 0 [] := ⟨new_good h1 h2, fun q hq => (by cases hq), rfl, fun j hj => by omega⟩
theorem fill_step {t : St} {n i : Nat} {l : List ByteArray} (h : Fill t n i l) (hi : i < n) {x : ByteArray} (hx : x.size ≤ 128) : (t.lay (i : Int) x).2 = true ∧ Fill (t.lay (i : Int) x).1 n (i + 1) (l ++ [full x]) ∧ (t.lay (i : Int) x).1.get (i : Int) = (full x, true) := by
  obtain ⟨g1, g2, g3, g4⟩ := good_lay h.good hi hx
  obtain ⟨k, hk, _, _, _, _, hnow, hget⟩ := lay_true h.good.ok g1
  obtain rfl : i = k := Int.ofNat.inj hk
  refine ⟨g1, ⟨⟨St.lay_ok h.good.ok _ _, g2, g3, g4⟩, short_lay h.short _ _, by simp [h.len], fun j hj => ?_⟩, hget⟩
  rw [hnow]
  by_cases e : j = i
  · subst e
    rw [if_pos rfl, List.getElem?_append_right (by rw [h.len]; exact Nat.le_refl _), h.len, Nat.sub_self]
    rfl
  · rw [if_neg e, List.getElem?_append_left (by rw [h.len]; omega)]
    exact h.now j (by omega)
theorem fill_big {t : St} {n i : Nat} {l : List ByteArray} (h : Fill t n i l) {x : ByteArray} (hx : 128 < x.size) : (t.lay (i : Int) x).2 = false := by
  unfold St.lay
  rw [decide_eq_false (by omega)]
  simp
theorem fill_ring {t : St} {n : Nat} {l : List ByteArray} (h : Fill t n n l) (hn : 0 < n) : ring t 0 n = rg l := by
  rw [ring_good h.good hn (by omega)]
  funext i
  have hlt := Nat.mod_lt i hn
  have := h.now (i % n) hlt
  unfold rg
  rw [h.len, List.getD_eq_getElem?_getD, this]
  simp
theorem fill_sizes {t : St} {n : Nat} {l : List ByteArray} (h : Fill t n n l) : ∀ x ∈ l, x.size = 128 := by
  intro x hx
  obtain ⟨i, hi, rfl⟩ := List.getElem_of_mem hx
  have := h.now i (by rw [h.len] at hi; exact hi)
  rw [List.getElem?_eq_getElem hi] at this
  rw [Option.some.inj this]
  exact good_now h.good i
theorem same_l0 (l : List ByteArray) (hl : l.length ≤ 1000000) : ∀ (d i : Nat), l.length - i = d → i ≤ l.length → ∀ k, d < k → chancelref12_Same.l0 k l l (i : Int) = some true := by
  intro d
  induction d with
  | zero =>
    intro i hd hi k hk
    obtain ⟨k, rfl⟩ : ∃ q, k = q + 1 := ⟨k - 1, by omega⟩
    simp only [chancelref12_Same.l0]
    rw [if_neg (by omega)]
  | succ d ih =>
    intro i hd hi k hk
    obtain ⟨k, rfl⟩ : ∃ q, k = q + 1 := ⟨k - 1, by omega⟩
    simp only [chancelref12_Same.l0]
    rw [if_pos (by omega), if_pos (by omega), if_pos (by omega), if_pos trivial, w64_one (by omega)]
    exact ih (i + 1) (by omega) (by omega) k (by omega)
theorem same_self (l : List ByteArray) (hl : l.length ≤ 1000000) : chancelref12_Same.f (l.length + 1) l l = some true := by
  unfold chancelref12_Same.f
  rw [if_pos rfl]
  exact same_l0 l hl l.length 0 (by omega) (by omega) _ (by omega)
/-! In memory. -/
/-- From B on, and not a row's block. -/
def offRow (B : Nat) (v : Value) (k : Nat) : Prop := B ≤ k ∧ some k ≠ v.ownBlock
theorem row_move {w w1 : World} {base : Nat} {v : Value} {xs : List ByteArray} (h : Kd.R Kd.string 9 w base (fun _ => True) v xs) (hm : ∀ k, v.ownBlock = some k → w1.heap[k]? = w.heap[k]?) : Kd.R Kd.string 9 w1 base (fun _ => True) v xs :=
  Kd.R_of_own (own_move (Kd.own_of_R h) hm) (fun _ _ => trivial)
theorem row_turn {w w1 : World} {base B : Nat} {v : Value} {xs : List ByteArray} (h : Kd.R Kd.string 9 w base (fun _ => True) v xs) (hT : Turn (offRow B v) w w1) : Kd.R Kd.string 9 w1 base (fun _ => True) v xs :=
  row_move h (fun k hk => hT.block k (Kd.R_lt h k hk) (fun e => e.2 hk.symm))
theorem one_grown {W w1 : World} {B p : Nat} {v v1 : Value} {s : St} {xs ys : List ByteArray} {base : Nat} (h : One (offRow B v) W p s) (hR : Kd.R Kd.string 9 W base (fun _ => True) v xs) (hR1 : Kd.R Kd.string 9 w1 base (fun _ => True) v1 ys) (hg : W.grownBy w1 v.ownBlock) (hat : v1.ownBlock = v.ownBlock ∨ ∃ b, v1.ownBlock = some b ∧ W.heap.size ≤ b) (hB : B ≤ W.heap.size) : One (offRow B v1) w1 p s := by
  obtain ⟨own, hd, hk, hs⟩ := h
  refine ⟨own, hd.apart (own2 := fun k => some k = v.ownBlock) (Turn.of_grown hg (fun k e => e.symm)) (fun k ho e => (hk k ho).2 e), fun k ho => ⟨(hk k ho).1, fun e => ?_⟩, fun k hz => ⟨Nat.le_trans hB (Nat.le_trans hg.size hz), fun e => ?_⟩⟩
  · rcases hat with hat | ⟨b, hb, hle⟩
    · exact (hk k ho).2 (by rw [e, hat])
    · rw [hb] at e
      have := hd.here k ho
      have := Option.some.inj e
      omega
  · have := Kd.R_lt hR1 k e.symm
    omega
set_option maxRecDepth 100000 in
set_option maxHeartbeats 8000000 in
theorem reads_walk (A : Option Addr) (c : Nat) (l : List ByteArray) (start number : Int) (w : World) (hr : Kd.C Kd.string w A l.length l) (hc : l.length ≤ c) : Calls Tryd.prog 3 #[.slice A l.length c, .int .i64 start, .int .i64 number] w fun e w' => e = .returned (.bool true) ∧ Below w.heap.size w w' := by
  obtain ⟨B, hB⟩ : ∃ B, B = w.heap.size := ⟨_, rfl⟩
  have HAW := Aside0.mk (awake_any w)
  have HRO := Aside0.mk hr
  have HC := Aside0.mk hc
  clear hr hc
  rw [← hB] at HAW ⊢
  obtain ⟨n, hn⟩ : ∃ n, n = l.length := ⟨_, rfl⟩
  rw [← hn]
  by_cases hP : 2 ≤ n ∧ n ≤ 60 ∧ 0 ≤ start ∧ start < n ∧ 0 ≤ number ∧ number ≤ 1099511627776
  case neg =>
    go_enter Tryd.func3, Tryd.ntmps3
    go_wp2_with (go_at_call 5; (with_reducible refine HAW.out.mono ?_); rintro e w1 ⟨rfl, hb⟩; have HB := Aside0.mk hb; clear hb)
    all_goals (go_ret; exact ⟨rfl, by first | exact HB.out | (rw [← hB]; exact HB.out)⟩)
  case pos =>
    obtain ⟨p1, p2, p3, p4, p5, p6⟩ := hP
    obtain ⟨a, rfl⟩ := Int.eq_ofNat_of_zero_le p3
    obtain ⟨m, rfl⟩ := Int.eq_ofNat_of_zero_le p5
    have hl2 : l.length ≤ 60 := by omega
    have b1 : decide ((n : Int) < 2) = false := decide_eq_false (by omega)
    have b1n : decide (n < 2) = false := decide_eq_false (by omega)
    have b2 : decide (60 < (n : Int)) = false := decide_eq_false (by omega)
    have b2n : decide (60 < n) = false := decide_eq_false (by omega)
    have b3 : decide ((n : Int) ≤ (a : Int)) = false := decide_eq_false (by omega)
    have b3n : decide (n ≤ a) = false := decide_eq_false (by omega)
    have b4 : decide (1099511627776 < (m : Int)) = false := decide_eq_false (by omega)
    have b5 : decide ((a : Int) < 0) = false := decide_eq_false (by omega)
    have b6 : decide ((m : Int) < 0) = false := decide_eq_false (by omega)
    have HNW := Aside0.mk (fun W (hW : B ≤ (World.heap W).size) => One.new (ok := geB B) n W (fun k hk => Nat.le_trans hW hk) (by omega) (by omega))
    have HF0 := Aside0.mk (fill_start (n := n) (by omega) (by omega))
    have HP := Aside0.mk (And.intro p1 (And.intro p2 (And.intro p4 p6)))
    clear p3 p5 p6
    obtain rfl := hn
    go_enter Tryd.func3, Tryd.ntmps3
    go_wp2_with (first
      | (go_at_call 5; (with_reducible refine HAW.out.mono ?_); rintro e w1 ⟨rfl, hb⟩; have HB := Aside0.mk hb; have HS1 := Aside0.mk (Nat.le_trans (Nat.le_of_eq hB) hb.size); clear hb)
      | (go_at_call 6; (with_reducible refine (HNW.out _ HS1.out).mono ?_); rintro e w2 ⟨p, rfl, ho, hT⟩; have HD := Aside0.mk ho; have HB2 := Aside0.mk (HB.out.trans (hT.low HS1.out)); have HS2 := Aside0.mk (Nat.le_trans HS1.out hT.size); clear ho hT))
    obtain ⟨n, hn⟩ : ∃ n, n = l.length := ⟨_, rfl⟩
    have HN := Aside0.mk hn
    have HR0 := Aside0.mk (Kd.R_nil Kd.string 9 w2 B (fun _ => True))
    have HD0 := Aside0.mk (show One (offRow B (.slice none 0 0)) w2 p (St.new n) by
      rw [hn]
      exact HD.out.to (fun k _ hk => ⟨hk, by simp [Value.ownBlock]⟩) (fun k hk => ⟨Nat.le_trans HS2.out hk, by simp [Value.ownBlock]⟩))
    rw [← hn] at HF0
    clear b1 b1n b2 b2n b3 b3n b4 b5 b6 hn HD HAW HNW HB HS1
    go_loopw [10, 52] (fun v10 v52 wr => ∃ (i : Nat) (t : St) (fl : List ByteArray), v52 = .int .i64 (i : Int) ∧ i ≤ l.length ∧ Aside0 (Fill t n i fl) ∧ Aside0 (Kd.R Kd.string 9 wr B (fun _ => True) v10 fl) ∧ Aside0 (One (offRow B v10) wr p t) ∧ Aside0 (Below B w wr) ∧ Aside0 (B ≤ wr.heap.size)) (fun _ v52 _ => l.length - (intOf v52).toNat)
    case atStart => exact ⟨0, St.new n, [], rfl, Nat.zero_le _, HF0, HR0, HD0, HB2, HS2⟩
    case round =>
      clear HF0 HR0 HD0 HB2 HS2
      obtain ⟨i, t, fl, rfl, hi, HFI, HRW, HD, HBW, HSZ⟩ := hrel
      by_cases hlt : i < l.length
      case neg =>
        obtain rfl : i = l.length := by omega
        have hfi := HFI.out
        rw [← HN.out] at hfi
        obtain ⟨h1, h2, h3, h4⟩ := HP.out
        rw [← HN.out] at h1 h2 h3
        have hR := ring_len hfi.good (first := 0) (n := n) (by omega) (by omega)
        have hO := open_any HD.out hfi.good.off 0 n a m (by omega) (by omega) (by rw [hfi.good.len]; omega) (by omega) (by unfold great; omega) hR
        rw [fill_ring hfi (by omega)] at hO
        obtain ⟨k, hk⟩ := read_ev (L := fl) (m0 := m) (a := a) (fill_sizes hfi) (by rw [hfi.len]; omega) (by rw [hfi.len]; omega) (by unfold great; omega) (by rw [hfi.len]; omega)
        rw [hfi.len] at hk
        obtain ⟨A1, c1, rfl, hc1, hC1⟩ := Kd.R_reads HRW.out
        obtain ⟨res, hres⟩ : ∃ res, res = (opens (rg fl) n n a m n).1.map toBA := ⟨_, rfl⟩
        rw [← hres] at hk hO
        have hrl : res.length ≤ 60 := by
          rw [hres, List.length_map]
          have := opens_size (R := rg fl) (n := n) (by rw [← fill_ring hfi (by omega)]; exact hR) (f := n) (r := n) (a := a) (m := m)
          omega
        have HO := Aside0.mk hO
        have HK := Aside0.mk hk
        have HC1 := Aside0.mk hC1
        have HC2 := Aside0.mk hc1
        have HRL := Aside0.mk hrl
        have hfl : fl.length = l.length := by rw [hfi.len, HN.out]
        rw [HN.out] at HO
        have HFL := Aside0.mk hfl
        have b1 : decide ((l.length : Int) < (l.length : Int)) = false := decide_eq_false (by omega)
        clear hfi h1 h2 h3 h4 hR hO hk hc1 hC1 hres hrl hfl hi hlt
        simp only [Int.natCast_zero] at HO
        go_wp2_with (first
          | (go_at_call 9; (with_reducible refine HO.out.mono ?_); rintro e w3 ⟨lb, v, rfl, _, hr, _, hb⟩; obtain ⟨A2, c2, rfl, hc2, hC2⟩ := Kd.R_reads hr; have HC3 := Aside0.mk hC2; have HL3 := Aside0.mk hc2; have HC13 := Aside0.mk (Kd.C_below HC1.out hb); have HB3 := Aside0.mk (HBW.out.trans (hb.lower' HSZ.out)); have HS3 := Aside0.mk (Nat.le_trans HSZ.out hb.size); clear hr hb hc2 hC2)
          | (go_at_call 11; (with_reducible refine (chancelref17_Read.calls k A1 c1 fl (a : Int) (m : Int) res w3 HC13.out HC2.out HK.out).mono ?_); rintro e w4 ⟨v4, rfl, hr, hb⟩; obtain ⟨A4, c4, rfl, hc4, hC4⟩ := Kd.R_reads hr; have HC4 := Aside0.mk hC4; have HL4 := Aside0.mk hc4; have HC34 := Aside0.mk (Kd.C_below HC3.out hb); have HB4 := Aside0.mk (HB3.out.trans (hb.lower' HS3.out)); have HS4 := Aside0.mk (Nat.le_trans HS3.out hb.size); clear hr hb hc4 hC4)
          | (go_at_call 10; (with_reducible refine (chancelref12_Same.calls (res.length + 1) A2 c2 res A4 c4 res true w4 HC34.out HL3.out HC4.out HL4.out (same_self res (by have := HRL.out; omega))).mono ?_); rintro e w5 ⟨rfl, hd⟩; have HB5 := Aside0.mk (HB4.out.trans (hd.below.lower' HS4.out)); clear hd))
        go_ret
        exact ⟨rfl, HB5.out⟩
      case pos =>
        have b1 : decide ((i : Int) < (l.length : Int)) = true := decide_eq_true (by omega)
        have b1n : decide (i < l.length) = true := decide_eq_true hlt
        have p1 : 0 ≤ (i : Int) := by omega
        have q1 : (i : Int) < (l.length : Int) := by omega
        obtain ⟨ad, e1, hx⟩ := Kd.at_string HRO.out i p1 q1
        cases e1
        have hx2 := ((by rw [hB] at HBW; exact HBW.out : Below w.heap.size w wr).cell (World.block_lt_of_cell? w _ hx)).trans hx
        simp only [Int.toNat_natCast] at hx hx2
        obtain ⟨x, hxx⟩ : ∃ x, x = rdOf ByteArray.empty l (i : Int) := ⟨_, rfl⟩
        rw [← hxx] at hx2
        clear hx hxx
        have p2 := eq_true p1
        have q2 := eq_true q1
        by_cases hs : x.size ≤ 128
        case neg =>
          have HLY := Aside0.mk (show Calls Tryd.prog 7 #[.pointer (some ⟨p, 0, none⟩), .int .i64 (i : Int), .string x] wr fun e w' => e = .returned (.bool false) ∧ Turn (offRow B u10) wr w' by
            have := HD.out.lay (i : Int) x (le_of_short HFI.out.short (by omega))
            rw [fill_big HFI.out (by omega)] at this
            exact this.mono fun e w' ⟨h1, _, h3⟩ => ⟨h1, h3⟩)
          go_wp2_with (go_at_call 7; (with_reducible refine HLY.out.mono ?_); rintro e w3 ⟨rfl, hT⟩; have HT := Aside0.mk hT; clear hT)
          go_ret
          exact ⟨rfl, HBW.out.trans (HT.out.below (B := B) (fun k hk => hk.1) HSZ.out)⟩
        case pos =>
          obtain ⟨f1, f2, f3⟩ := fill_step HFI.out (i := i) (by rw [HN.out]; exact hlt) hs
          obtain ⟨t', ht'⟩ : ∃ t', t' = (t.lay (i : Int) x).1 := ⟨_, rfl⟩
          obtain ⟨y, hy⟩ : ∃ y, y = full x := ⟨_, rfl⟩
          rw [← ht', ← hy] at f2
          rw [← ht', ← hy] at f3
          have HLY := Aside0.mk (show Calls Tryd.prog 7 #[.pointer (some ⟨p, 0, none⟩), .int .i64 (i : Int), .string x] wr fun e w' => e = .returned (.bool true) ∧ One (offRow B u10) w' p t' ∧ Turn (offRow B u10) wr w' by
            have := HD.out.lay (i : Int) x (le_of_short HFI.out.short (by omega))
            rw [f1, ← ht'] at this
            exact this)
          have HGT := Aside0.mk (fun W (hW : One (offRow B u10) W p t') => (show Calls Tryd.prog 8 #[.pointer (some ⟨p, 0, none⟩), .int .i64 (i : Int)] W fun e w' => e = .returned (.tuple #[.string y, .bool true]) ∧ Below W.heap.size W w' by
            have := hW.get (i : Int)
            rw [f3] at this
            exact this))
          have HF2 := Aside0.mk f2
          have HLN := Aside0.mk (show (fl.length + 1) * 16 ≤ 140737488355328 by rw [HFI.out.len]; omega)
          clear f1 f2 f3 ht' hy hs
          go_wp2_with (first
            | (go_at_call 7; (with_reducible refine HLY.out.mono ?_); rintro e w3 ⟨rfl, ho, hT⟩; have HD3 := Aside0.mk ho; have HR3 := Aside0.mk (row_turn HRW.out hT); have HB3 := Aside0.mk (HBW.out.trans (hT.below (B := B) (fun k hk => hk.1) HSZ.out)); have HS3 := Aside0.mk (Nat.le_trans HSZ.out hT.size); clear ho hT)
            | (go_at_call 8; (with_reducible refine (HGT.out _ HD3.out).mono ?_); rintro e w4 ⟨rfl, hb⟩; have HD4 := Aside0.mk (HD3.out.below hb); have HR4 := Aside0.mk (Kd.R_below HR3.out hb); have HB4 := Aside0.mk (HB3.out.trans (hb.lower' HS3.out)); have HS4 := Aside0.mk (Nat.le_trans HS3.out hb.size); clear hb)
            | ((with_reducible refine gate_builtin (b := .append) (xs := #[.tmp 68, .tmp 70]) rfl ?_); at_builtin; refine Kd.R_append Kd.string (w0 := w) B rfl (.tmp 68) (.tmp 70) 22 9 (.string ⟨#[]⟩) 16 rfl Tryd.underlying22 info9 rfl (by decide) (by omega) u10 fl y [.string y] (fun _ => True) (fun _ => False) rfl rfl ?aP (fun _ hk => hk.elim) ?aF ?aO ?aB ?aS ?aL ?_; (case aP => exact rfl); (case aB => exact HB4.out); (case aF => exact (fun _ _ => trivial)); (case aO => exact HR4.out); (case aS => exact HS4.out); (case aL => exact HLN.out); intro v5 w5 ho hb hg hat; have HR5 := Aside0.mk ho; have HD5 := Aside0.mk (one_grown HD4.out HR4.out ho hg hat HS4.out); have HB5 := Aside0.mk hb; have HS5 := Aside0.mk (Nat.le_trans HS4.out hg.size); clear ho hb hg hat))
          go_roundw
          case measure => simp [intOf]; omega
          case rel => exact ⟨i + 1, t', fl ++ [y], by go_num, by omega, HF2, HR5, HD5, HB5, HS5⟩
end Go.Proofs.YtfjbpjndjcinhaaDoor.Lg
