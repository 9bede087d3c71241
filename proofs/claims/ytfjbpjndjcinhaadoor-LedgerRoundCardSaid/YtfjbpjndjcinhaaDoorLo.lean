/- ledger.Open: which ledger it makes of a disk. Over the program alone. -/
import Derived.Test.YtfjbpjndjcinhaaDoorLq
namespace Go.Proofs.YtfjbpjndjcinhaaDoor.Lg
open Go Go.RowKit Go.Proofs.YtfjbpjndjcinhaaDoor.Mp Go.Proofs.YtfjbpjndjcinhaaDoor.Rg Go.Proofs.YtfjbpjndjcinhaaDoor.Dk Go.Proofs.YtfjbpjndjcinhaaDoor.Pr Go.Proofs.YtfjbpjndjcinhaaDoorW.PrintWords Go.Proofs.YtfjbpjndjcinhaaDoorW.PrintMore Go.Proofs.YtfjbpjndjcinhaaDoorW.PrintLast
set_option linter.unusedVariables false
set_option linter.unusedSimpArgs false
theorem opens_two {R : Nat → ByteArray} {n : Nat} (hR : ∀ i, (bl (R i)).length = 128) : ∀ {f g r a m : Nat}, r ≤ f → r ≤ g → opens R n f a m r = opens R n g a m r := by
  intro f
  induction f with
  | zero =>
    intro g r a m h h'
    obtain rfl : r = 0 := by omega
    have hs : recOf R a m 0 = none := by unfold recOf; rw [if_pos (.inl rfl)]
    rw [opens_stop hs, opens_stop hs]
  | succ f ih =>
    intro g r a m h h'
    cases hs : recOf R a m r with
    | none => rw [opens_stop hs, opens_stop hs]
    | some s =>
      have h1 := recOf_room hR hs
      have hk := kOf_two h1.2.2.1
      obtain ⟨g, rfl⟩ : ∃ q, g = q + 1 := ⟨g - 1, by omega⟩
      rw [opens_go hs, opens_go hs, ih (g := g) (by omega) (by omega)]
theorem opens_next {R : Nat → ByteArray} {n : Nat} (hR : ∀ i, (bl (R i)).length = 128) {r a m : Nat} {s : List UInt8} (hs : recOf R a m r = some s) : opens R n r a m r = (s :: (opens R n (r - kOf s.length) ((a + kOf s.length) % n) (m + 1) (r - kOf s.length)).1, (opens R n (r - kOf s.length) ((a + kOf s.length) % n) (m + 1) (r - kOf s.length)).2) := by
  have h1 := recOf_room hR hs
  have hk := kOf_two h1.2.2.1
  obtain ⟨q, rfl⟩ : ∃ q, r = q + 1 := ⟨r - 1, by omega⟩
  rw [opens_go hs, opens_two hR (f := q) (g := q + 1 - kOf s.length) (by omega) (Nat.le_refl _)]
theorem opens_size {R : Nat → ByteArray} {n : Nat} (hR : ∀ i, (bl (R i)).length = 128) : ∀ {f r a m : Nat}, (opens R n f a m r).1.length ≤ r := by
  intro f
  induction f with
  | zero => intro r a m; simp [opens]
  | succ f ih =>
    intro r a m
    cases hs : recOf R a m r with
    | none => rw [opens_stop hs]; simp
    | some s =>
      have h1 := recOf_room hR hs
      have hk := kOf_two h1.2.2.1
      rw [opens_go hs]
      have := ih (r := r - kOf s.length) (a := (a + kOf s.length) % n) (m := m + 1)
      simp only [List.length_cons]
      omega
/-- All blocks but one. -/
def But (lb : Nat) (k : Nat) : Prop := k ≠ lb
theorem rows_turn {w w' : World} {base lb : Nat} {v : Value} {xs : List ByteArray} (h : Kd.R Kd.string 9 w base (But lb) v xs) (hT : Turn (Own lb) w w') : Kd.R Kd.string 9 w' base (But lb) v xs :=
  Kd.R_step h (fun k hk hl => hT.block k hl (fun e => hk e))
set_option maxRecDepth 100000 in
set_option maxHeartbeats 8000000 in
theorem open_any {ok : Nat → Prop} {w : World} {p : Nat} {s : St} (ho : One ok w p s) (hoff : s.off = false) (first n a m : Nat) (hn : 2 ≤ n) (hn2 : n ≤ 1000) (hfn : first + n ≤ s.firm.length) (ha : a < n) (hm : m ≤ great) (hR : ∀ i, (bl (ring s first n i)).length = 128) :
    Calls Tryd.prog 9 #[.pointer (some ⟨p, 0, none⟩), .int .i64 (first : Int), .int .i64 (n : Int), .int .i64 (a : Int), .int .i64 (m : Int)] w fun e w' => ∃ lb v, e = .returned (.tuple #[.pointer (some ⟨lb, 0, none⟩), v, .bool true]) ∧ Led w' lb p first n (opens (ring s first n) n n a m n).2.1 (opens (ring s first n) n n a m n).2.2.1 (opens (ring s first n) n n a m n).2.2.2 ∧ Kd.R Kd.string 9 w' w.heap.size (But lb) v ((opens (ring s first n) n n a m n).1.map toBA) ∧ w.heap.size ≤ lb ∧ Below w.heap.size w w' := by
  have hfit := ho.fit
  have hN := hfit.n2
  have hOn : Calls Tryd.prog 20 #[.pointer (some ⟨p, 0, none⟩)] w fun e w' => e = .returned (.bool true) ∧ w' = w := by
    obtain ⟨own, hd, _⟩ := ho
    have := on_any hd
    rw [hoff] at this
    exact this
  have hSz := ho.size
  obtain ⟨N, hNN⟩ : ∃ N, N = s.firm.length := ⟨_, rfl⟩
  rw [← hNN] at hSz hfn hN
  have HON := Aside0.mk hOn
  have HSZ := Aside0.mk hSz
  have HO := Aside0.mk ho
  have HR := Aside0.mk hR
  obtain ⟨res, hres⟩ : ∃ res, res = opens (ring s first n) n n a m n := ⟨_, rfl⟩
  rw [← hres]
  have HRES := Aside0.mk hres
  have HOFF := Aside0.mk hoff
  unfold great at hm
  have b1 : decide ((first : Int) < 0) = false := decide_eq_false (by omega)
  have b2 : decide ((n : Int) < 2) = false := decide_eq_false (by omega)
  have b2n : decide (n < 2) = false := decide_eq_false (by omega)
  have b3 : decide ((N : Int) < (n : Int)) = false := decide_eq_false (by omega)
  have b3n : decide (N < n) = false := decide_eq_false (by omega)
  have b4 : decide ((N : Int) - (n : Int) < (first : Int)) = false := decide_eq_false (by omega)
  have b5 : decide ((a : Int) < 0) = false := decide_eq_false (by omega)
  have b6 : decide ((n : Int) ≤ (a : Int)) = false := decide_eq_false (by omega)
  have b6n : decide (n ≤ a) = false := decide_eq_false (by omega)
  have b7 : decide ((m : Int) < 0) = false := decide_eq_false (by omega)
  have b8 : decide (1099511627776 < (m : Int)) = false := decide_eq_false (by omega)
  clear hOn hSz ho hR hres hoff hfit hNN
  obtain ⟨B, hB⟩ : ∃ B, B = w.heap.size := ⟨_, rfl⟩
  go_enter Tryd.func9, Tryd.ntmps9
  go_wp2_with (first
    | (go_at_call 20; (with_reducible refine HON.out.mono ?_); rintro e w' ⟨rfl, rfl⟩)
    | (go_at_call 21; (with_reducible refine HSZ.out.mono ?_); rintro e w' ⟨rfl, rfl⟩))
  obtain ⟨lb, hlb⟩ : ∃ lb, lb = w'.heap.size := ⟨_, rfl⟩
  obtain ⟨W, hW⟩ : ∃ W, W = w'.alloc (.cells #[.pointer (some ⟨p, 0, none⟩), .int .i64 (first : Int), .int .i64 (n : Int), .int .i64 (a : Int), .int .i64 (m : Int), .int .i64 (n : Int)] 47) := ⟨_, rfl⟩
  have hbW : Below w'.heap.size w' W := by rw [hW]; exact below_alloc (Below.refl _ _) _
  have HL := Aside0.mk (show Led W lb p first n a m n from ⟨by rw [hW, hlb]; exact heap_alloc_new w' _⟩)
  rw [← hlb, ← hW]
  have HBL := Aside0.mk (show Below B w' W by rw [hB]; exact hbW)
  have HSZ2 := Aside0.mk (show B ≤ W.heap.size by rw [hB]; exact hbW.size)
  have HLB := Aside0.mk (show B ≤ lb by omega)
  have HNIL := Aside0.mk (Kd.R_nil Kd.string 9 W B (But lb))
  have HBE := Aside0.mk hB
  have HA := Aside0.mk ha
  have HM := Aside0.mk hm
  clear hbW hW hlb hB ha hm HON HSZ b1 b2 b2n b3 b3n b4 b5 b6 b6n b7 b8
  go_loopg [14] n (fun gg v14 wr => ∃ (pre : List ByteArray) (a1 m1 r1 : Nat), r1 ≤ gg ∧ Aside0 (Led wr lb p first n a1 m1 r1 ∧ a1 < n ∧ m1 ≤ great ∧ r1 ≤ n ∧ pre.length + r1 ≤ n) ∧ Aside0 ((pre ++ (opens (ring s first n) n r1 a1 m1 r1).1.map toBA, (opens (ring s first n) n r1 a1 m1 r1).2) = (res.1.map toBA, res.2)) ∧ Aside0 (Kd.R Kd.string 9 wr B (But lb) v14 pre) ∧ Aside0 (Below B w' wr) ∧ Aside0 (B ≤ wr.heap.size))
  case atStart => exact ⟨[], a, m, n, Nat.le_refl _, ⟨HL.out, HA.out, by unfold great; exact HM.out, Nat.le_refl _, by simp⟩, ⟨by rw [HRES.out]; simp⟩, HNIL, HBL, HSZ2⟩
  case round =>
    clear HL HNIL HBL HSZ2 HRES HA HM
    obtain ⟨pre, a1, m1, r1, hrg, HST, HEQ, HRW, HBL, HSZ2⟩ := hrel
    obtain ⟨hl1, ha1, hm1, hr1, hp1⟩ := HST.out
    have ho1 : One ok wr p s := HO.out.below (by rw [← HBE.out]; exact HBL.out)
    have HREC := Aside0.mk (record_any hl1 ho1 (by omega) hn2 (by omega) ha1 hr1 HR.out)
    have HP1 := Aside0.mk hp1
    clear hl1 ho1 ha1 hm1 hr1 hp1
    cases hs : recOf (ring s first n) a1 m1 r1 with
    | none =>
      rw [hs] at HREC
      replace HREC : Aside0 (Calls Tryd.prog 22 #[.pointer (some ⟨lb, 0, none⟩)] wr fun e w' => e = .returned (.tuple #[.string ⟨#[]⟩, .bool false]) ∧ Below wr.heap.size wr w') := HREC
      have HS := Aside0.mk hs
      clear hs
      go_wp2_with (go_at_call 22; (with_reducible refine HREC.out.mono ?_); rintro e w2 ⟨rfl, hb⟩; have HB2 := Aside0.mk hb; clear hb)
      have hq := HEQ.out
      rw [opens_stop HS.out] at hq
      simp only [List.map_nil, List.append_nil, Prod.mk.injEq] at hq
      obtain ⟨hl1, ha1, hm1, hr1, hp1⟩ := HST.out
      refine bodyPost_ret (v := .tuple #[.pointer (some ⟨lb, 0, none⟩), u14, .bool true]) (by simp [results, Tryd.results9, go_sem]) rfl ⟨lb, u14, rfl, ?_, ?_, ?_, ?_⟩
      · rw [← hq.2]
        exact hl1.below HB2.out
      · rw [← hq.1, ← HBE.out]
        exact Kd.R_below HRW.out HB2.out
      · rw [← HBE.out]
        exact HLB.out
      · rw [← HBE.out]
        exact HBL.out.trans (HB2.out.lower' HSZ2.out)
    | some q =>
      rw [hs] at HREC
      replace HREC : Aside0 (Calls Tryd.prog 22 #[.pointer (some ⟨lb, 0, none⟩)] wr fun e w' => e = .returned (.tuple #[.string (toBA q), .bool true]) ∧ Below wr.heap.size wr w') := HREC
      have HS := Aside0.mk hs
      have HRM := Aside0.mk (recOf_room HR.out hs)
      have HP := Aside0.mk (fun W (hW : Led W lb p first n a1 m1 r1) => pass_any hW (toBA q) (by rw [size_bl, bl_toBA]; exact HRM.out.2.2.1) (by rw [size_bl, bl_toBA]; exact HRM.out.2.2.2.1) (by omega) (by omega) (by have := HST.out.2.1; omega) HST.out.2.2.1 (by rw [size_bl, bl_toBA]; exact HRM.out.2.2.2.2) (by have := HST.out.2.2.2.1; omega))
      clear hs
      go_wp2_with (first
        | (go_at_call 22; (with_reducible refine HREC.out.mono ?_); rintro e w2 ⟨rfl, hb⟩; have HB2 := Aside0.mk hb; have HSZ3 := Aside0.mk (Nat.le_trans HSZ2.out hb.size); have HBL2 := Aside0.mk (HBL.out.trans (hb.lower' HSZ2.out)); have HL2 := Aside0.mk (HST.out.1.below hb); have HRW2 := Aside0.mk (Kd.R_below HRW.out hb); clear hb)
        | ((with_reducible refine gate_builtin (b := .append) (xs := #[.tmp 76, .tmp 78]) rfl ?_); at_builtin; refine Kd.R_append Kd.string (w0 := w') B rfl (.tmp 76) (.tmp 78) 22 9 (.string ⟨#[]⟩) 16 rfl Tryd.underlying22 info9 rfl (by decide) (by omega) u14 pre (toBA q) [.string (toBA q)] (But lb) (fun _ => False) rfl rfl ?aP (fun _ hk => hk.elim) ?aF ?aO ?aB ?aS ?aL ?_; (case aP => exact rfl); (case aB => exact HBL2.out); (case aF => exact (fun k hk (e : k = lb) => by have := HL2.out.lt; omega)); (case aO => exact HRW2.out); (case aS => exact HSZ3.out); (case aL => have := HP1.out; omega); intro v3 w3 ho hb hg hat; have HRW3 := Aside0.mk ho; have HB3 := Aside0.mk hb; have HL3 := Aside0.mk (show Led w3 lb p first n a1 m1 r1 from ⟨(hg.block lb HL2.out.lt (Kd.R_away HRW2.out (fun k hk => hk))).trans HL2.out.blk⟩); have HSZ4 := Aside0.mk (Nat.le_trans HSZ3.out hg.size); clear ho hb hg hat)
        | (go_at_call 23; (with_reducible refine (HP.out _ HL3.out).mono ?_); rintro e w4 ⟨rfl, hl, hT⟩; have HL4 := Aside0.mk hl; have HRW4 := Aside0.mk (rows_turn HRW3.out hT); have HB4 := Aside0.mk (HB3.out.trans (hT.below (B := B) (fun k (hk : k = lb) => by rw [hk]; exact HLB.out) HSZ4.out)); have HSZ5 := Aside0.mk (Nat.le_trans HSZ4.out hT.size); clear hl hT))
      go_roundg (r1 - kOf q.length)
      case measure =>
        have h1 := HRM.out
        have h2 := kOf_two h1.2.2.1
        omega
      case rel =>
        have h1 := HRM.out
        have h2 := kOf_two h1.2.2.1
        have h3 : kOf (toBA q).size = kOf q.length := by rw [size_bl, bl_toBA]
        have hl := HL4.out
        rw [h3] at hl
        refine ⟨pre ++ [toBA q], _, _, _, Nat.le_refl _, ⟨hl, Nat.mod_lt _ (by omega), by have := h1.2.1; omega, by have := HST.out.2.2.2.1; omega, ?_⟩, ⟨?_⟩, HRW4, HB4, HSZ5⟩
        · have := HP1.out
          simp
          omega
        · have he := HEQ.out
          rw [opens_next HR.out HS.out] at he
          simpa using he
end Go.Proofs.YtfjbpjndjcinhaaDoor.Lg
