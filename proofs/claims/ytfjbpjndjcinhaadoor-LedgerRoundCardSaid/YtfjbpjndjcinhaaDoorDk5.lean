/- plate: Barrier. Over the program alone. -/
import Derived.Test.YtfjbpjndjcinhaaDoorDk4
import Derived.Maps.RangeWalk
namespace Go.Proofs.YtfjbpjndjcinhaaDoor.Dk
open Go Go.RowKit Go.Proofs.YtfjbpjndjcinhaaDoor.Mp Go.Proofs.YtfjbpjndjcinhaaDoor.Rg Go.Proofs.YtfjbpjndjcinhaaDoorW.PrintWords Go.Proofs.YtfjbpjndjcinhaaDoorW.PrintMore Go.Proofs.YtfjbpjndjcinhaaDoorW.PrintLast
set_option linter.unusedVariables false
set_option linter.unusedSimpArgs false
theorem held_inj {a b : Value} (h : (DataW.held a : DataW Value) = .held b) : a = b := by
  cases h
  rfl
/-- The next entry of a map from whole numbers, its element as it stands. -/
theorem next_i {P : Program} {w : World} {ops : Array Oper} {rest : List Oper} {o : Oper} {a : Act} {Q : Exit → Act → World → Prop} (hg : o.guard = none) (it : Operand) (hop : o.op = Op.next it false) (k : TypeId) (hk : P.underlying k = some (.int .i64))
    (b r n : Nat) (M : List (Int × Value)) (left : Lit → Bool) (cnt : Nat) (hit : a.eval it = .pointer (some ⟨r, 0, none⟩)) (h : w.ranges P k rawR b r n (.map (encM M)) left cnt)
    (hDone : cnt = 0 → (∀ kl, left kl = false) → wpList P ops Q rest (a.put o.dst (.tuple #[.bool false])) w)
    (hMore : ∀ (x : Int) (c : Value) (w' : World) (cnt' : Nat), left (.int .i64 x) = true → Mp.get M x = some c → w'.ranges P k rawR b r n (.map (encM M)) (fun z => left z && !z.sameKey (.int .i64 x)) cnt' → cnt' < cnt →
      w.grownBy w' (some r) → w'.heap.size = w.heap.size → (Instr.entry (.pointer (some ⟨r, 0, none⟩))).run P w' = .ok (.tuple #[.int .i64 x, c]) w' → wpList P ops Q rest (a.put o.dst (.tuple #[.bool true, .int .i64 x, c])) w') :
    wpList P ops Q (o :: rest) a w :=
  wpList_next_ranges (α := Int) (β := Value) w hg it hop k (Maps.int_keyed hk) rawR (Value.int .i64) id (fun key kl hkey => by obtain ⟨x, rfl, _⟩ := Maps.keyOf_int_inv hk hkey; exact ⟨x, rfl⟩) (fun v y hv => ⟨v, rfl⟩) b r n _ left cnt hit h hDone
    (fun x c kl y w' cnt' hkey hlk hv hat hrg hlt hgr hsz hen => by
      obtain ⟨x', ex, rfl, _⟩ := Maps.keyOf_int_inv hk hkey
      cases ex
      have hy : y.1 = .held c := by
        have := Option.some.inj hv
        rw [← this]
        rfl
      have h1 := hat (.held (.bool true))
      have h2 := hat (.held (.bool false))
      rw [encM_at, hy] at h1 h2
      have h1 := held_inj h1
      have h2 := held_inj h2
      refine hMore x c w' cnt' hlk ?_ hrg hlt hgr hsz hen
      cases hg : Mp.get M x with
      | none =>
        rw [hg] at h1 h2
        rw [← h1] at h2
        cases h2
      | some v =>
        rw [hg] at h1
        rw [← h1]
        rfl)
theorem setAll_len : ∀ (L : List (Int × List ByteArray)) (f : List ByteArray), (setAll L f).length = f.length
  | [], _ => rfl
  | q :: r, f => by rw [setAll, setAll_len r]; simp
theorem setAll_get : ∀ (L : List (Int × List ByteArray)) (f : List ByteArray) (j : Nat), Rising L → (∀ q ∈ L, 0 ≤ q.1 ∧ q.1 < f.length) → (setAll L f)[j]? = match Mp.get L (j : Int) with | some l => some (lastOf l) | none => f[j]?
  | [], f, j, _, _ => rfl
  | q :: r, f, j, hr, hb => by
    obtain ⟨h1, h2⟩ := List.pairwise_cons.1 hr
    have hq := hb q (by simp)
    rw [setAll, setAll_get r (f.set q.1.toNat (lastOf q.2)) j h2 (fun p hp => by have := hb p (by simp [hp]); simpa using this)]
    by_cases e : q.1 = (j : Int)
    · have e2 : Mp.get r (j : Int) = none := get_none (fun p hp e3 => by have := h1 p hp; omega)
      have e4 : Mp.get (q :: r) (j : Int) = some q.2 := mem_get hr (by rw [← e]; simp)
      rw [e2, e4]
      simp only
      rw [show q.1.toNat = j by omega, List.getElem?_set_self (by omega)]
    · have e4 : Mp.get (q :: r) (j : Int) = Mp.get r (j : Int) := by
        unfold Mp.get
        rw [List.find?_cons_of_neg (by simpa using e)]
      rw [e4]
      cases Mp.get r (j : Int) with
      | some l => rfl
      | none =>
        simp only
        rw [List.getElem?_set_ne (by omega)]
theorem St.barrier_ok {s : St} (h : s.Ok) : s.barrier.1.Ok := by
  unfold St.barrier
  split
  · exact h
  · have hs := St.step_ok h
    split
    · have ef : s.step.1.firm = s.firm := by unfold St.step; split <;> rfl
      refine ⟨by show 1 ≤ (setAll _ _).length; rw [setAll_len]; exact h.n1, by show (setAll _ _).length ≤ _; rw [setAll_len]; exact h.n2, ?_, rising_nil, (fun q hq => by cases hq), hs.lo, hs.hi⟩
      intro x hx
      obtain ⟨j, hj⟩ := List.getElem?_of_mem hx
      rw [setAll_get _ _ _ h.rising (fun q hq => ⟨(h.loose q hq).1, (h.loose q hq).2.1⟩)] at hj
      cases hg : Mp.get s.loose (j : Int) with
      | some l =>
        rw [hg] at hj
        have hq := h.loose _ (get_mem hg)
        have hl : lastOf l ∈ l := by
          have hlp : 0 < l.length := List.length_pos_iff.2 hq.2.2.1
          obtain ⟨m, hm⟩ : ∃ m, l.length = m + 1 := ⟨l.length - 1, by omega⟩
          exact List.mem_of_getElem? (last_at hm)
        rw [← Option.some.inj hj, hq.2.2.2 _ hl]
        exact Nat.le_refl _
      | none =>
        rw [hg] at hj
        exact h.firm x (List.mem_of_getElem? hj)
    · exact hs
theorem barrier_nil (w : World) : Calls Tryd.prog 25 #[.pointer none] w fun e w' => e = .returned (.bool false) ∧ w' = w := by
  go_enter Tryd.func25, Tryd.ntmps25
  go_wp2_with (go_at_call 20; (with_reducible refine (on_nil _).mono ?_); rintro e w' ⟨rfl, rfl⟩)
  go_ret
  exact ⟨rfl, rfl⟩
theorem barrier_off {own : Nat → Prop} {w : World} {p : Nat} {s : St} (h : Disk own w p s) (ho : s.off = true) : Calls Tryd.prog 25 #[.pointer (some ⟨p, 0, none⟩)] w fun e w' => e = .returned (.bool false) ∧ w' = w := by
  have hT := Aside0.mk (on_any h)
  rw [ho] at hT
  clear ho
  go_enter Tryd.func25, Tryd.ntmps25
  go_wp2_with (go_at_call 20; (with_reducible refine hT.out.mono ?_); rintro e w' ⟨rfl, rfl⟩)
  go_ret
  exact ⟨rfl, rfl⟩
theorem barrier_stop {own : Nat → Prop} {w : World} {p : Nat} {s : St} (h : Disk own w p s) (ho : s.off = false) (hs : s.step.2 = false) : Calls Tryd.prog 25 #[.pointer (some ⟨p, 0, none⟩)] w fun e w' => e = .returned (.bool false) ∧ Disk own w' p s.step.1 ∧ Turn own w w' ∧ w'.heap.size = w.heap.size := by
  have hT := Aside0.mk (on_any h)
  have hS := Aside0.mk (step_any h)
  rw [ho] at hT
  rw [hs] at hS
  clear ho hs
  go_enter Tryd.func25, Tryd.ntmps25
  go_wp2_with (first
    | (go_at_call 20; (with_reducible refine hT.out.mono ?_); rintro e w' ⟨rfl, rfl⟩)
    | (go_at_call 18; (with_reducible refine hS.out.mono ?_); rintro e w1 ⟨rfl, hd⟩; have HD := Aside0.mk hd; clear hd))
  go_ret
  exact ⟨rfl, HD.out⟩
theorem index_row (b len cap i : Nat) (h : i < len) (W : World) : (Instr.indexAt 22 (.slice (some ⟨b, 0, none⟩) len cap) (.int .i64 (i : Int))).run Tryd.prog W = .ok (.pointer (some ⟨b, i, none⟩)) W := by
  have hel : Tryd.prog.elem 22 = 9 := by kernel_rfl
  rw [run_indexAt_slice W 22 ⟨b, 0, none⟩ len cap .i64 (i : Int) (by rw [hel]; exact Tryd.underlying22), if_pos ⟨by omega, by omega⟩, hel, Tryd.sizeOf9 W]
  simp [Result.andThen, Addr.add]
  omega
/-- All firm contents anew, none loose. -/
theorem firm_end {own : Nat → Prop} {w w1 wr W : World} {p fb bm : Nat} {s1 s2 : St} {Q : List (Int × Ent)} (hd : Disk own w1 p s1 ∧ Turn own w w1 ∧ w1.heap.size = w.heap.size) (hq : DiskAt own w1 p s1 fb bm Q) (hTu : Turn (fun k => k = fb) w1 wr)
    (hfb : wr.heap[fb]? = some (.cells (s2.firm.map Value.string).toArray 9 (0, 0))) (h1 : s2.firm.length = s1.firm.length) (h2 : s2.steps = s1.steps) (h3 : s2.off = s1.off) (h4 : s2.loose = [])
    (hm : MapI Tryd.prog 3 W bm []) (hg : wr.grownBy W (some bm)) (hs : W.heap.size = wr.heap.size) : DiskAt (More own w W) W p s2 fb bm [] ∧ Turn own w W ∧ (∀ k, More own w W k → k < W.heap.size) := by
  obtain ⟨n1, n2, n3, n4⟩ := hq.p_ne
  have far : ∀ k, k < w1.heap.size → k ≠ bm → k ≠ fb → W.heap[k]? = w1.heap[k]? := fun k hk e1 e2 =>
    (hg.block k (Nat.lt_of_lt_of_le hk hTu.size) (fun e => e1 (Option.some.inj e))).trans (hTu.block k hk e2)
  have hsize : w.heap.size ≤ W.heap.size := by rw [hs, ← hd.2.2]; exact hTu.size
  refine ⟨⟨?_, ?_, hm, h4, fun q hq' => (by cases hq'), fun a ha => (by cases ha), .inl hq.ownp, .inl hq.ownf, .inl hq.ownm⟩, ?_, more_lt (fun k hk => by rw [← hd.2.2]; exact hd.1.here k hk) hsize⟩
  · rw [far p (blk_lt hq.blk) (fun e => n2 e.symm) (fun e => n1 e.symm), hq.blk, h1, h2, h3]
  · exact (hg.block fb (blk_lt hfb) (fun e => n3 (Option.some.inj e).symm)).trans hfb
  · have ht : Turn own w1 W := ⟨hg.os.trans hTu.os, hg.tape.trans hTu.tape, hg.output.trans hTu.output, by rw [hs]; exact hTu.size, fun k hk ho => far k hk (fun e => ho (by rw [e]; exact hq.ownm)) (fun e => ho (by rw [e]; exact hq.ownf))⟩
    exact hd.2.1.trans (ht.mono (fun k hk => .inl hk))
theorem grown_set (w : World) (g j : Nat) (u : Value) : w.grownBy (w.setCell ⟨g, j, none⟩ u) (some g) :=
  ⟨rfl, rfl, rfl, by rw [World.size_setCell]; exact Nat.le_refl _, fun k _ hne => Below.heap_setCell w _ u k (fun e => hne (by rw [e]))⟩
theorem grown_setd (w : World) (g j : Nat) (u : Value) : w.grownBy (w.setCell ⟨g, j, none⟩ u).drew (some g) := ⟨rfl, rfl, rfl, (grown_set w g j u).size, (grown_set w g j u).block⟩
theorem set_strings (F : List ByteArray) (n : Nat) (y : ByteArray) : ((F.map Value.string).toArray).setIfInBounds n (.string y) = ((F.set n y).map Value.string).toArray := by
  rw [List.setIfInBounds_toArray, List.map_set]
/-- Between two rounds. -/
def BarRel (p fb bm r : Nat) (firm G : List ByteArray) (M : List (Int × Value)) (w1 wr : World) : Prop :=
  ∃ (left : Lit → Bool) (cnt : Nat) (F : List ByteArray), wr.ranges Tryd.prog 3 rawR bm r M.length (.map (encM M)) left cnt ∧ wr.heap[fb]? = some (.cells (F.map Value.string).toArray 9 (0, 0)) ∧ F.length = firm.length ∧
    (∀ j, j < firm.length → F[j]? = if left (.int .i64 (j : Int)) = true then firm[j]? else G[j]?) ∧ Turn (fun k => k = fb) w1 wr
set_option maxRecDepth 100000 in
set_option maxHeartbeats 8000000 in
theorem barrier_yes {own : Nat → Prop} {w : World} {p : Nat} {s : St} (h : Disk own w p s) (ho : s.off = false) (hs : s.step.2 = true) : Calls Tryd.prog 25 #[.pointer (some ⟨p, 0, none⟩)] w fun e w' => e = .returned (.bool true) ∧ Disk (More own w w') w' p s.barrier.1 ∧ Turn own w w' := by
  have hT := Aside0.mk (on_any h)
  have hS := Aside0.mk (step_any h)
  rw [ho] at hT
  rw [hs] at hS
  have HOO := Aside0.mk ho
  have HSS := Aside0.mk hs
  clear ho hs
  have HOK := Aside0.mk h.ok
  go_enter Tryd.func25, Tryd.ntmps25
  go_upto_region 3 with (first
    | (go_at_call 20; (with_reducible refine hT.out.mono ?_); rintro e w' ⟨rfl, rfl⟩)
    | (go_at_call 18; (with_reducible refine hS.out.mono ?_); rintro e w1 ⟨rfl, hd⟩; have HD := Aside0.mk hd; clear hd))
  obtain ⟨fb, bm, Q, hq⟩ := HD.out.1.parts
  have hok1 := HD.out.1.ok
  obtain ⟨c0, c1, c2, c3⟩ := hq.cells
  obtain ⟨M, hM⟩ : ∃ M, M = mapv Ent.val Q := ⟨_, rfl⟩
  have hMI : MapI Tryd.prog 3 w1 bm M := by rw [hM]; exact hq.map
  have HQ := Aside0.mk hq
  have HMM := Aside0.mk hM
  have HMI := Aside0.mk hMI
  clear hq hok1 hM hMI c2 c3
  have law := Maps.int_keyed Tryd.underlying3
  have LAW := Aside0.mk law
  clear law
  go_wp2_with (at_range; refine wpList_range_own _ rfl _ 41 rfl 3 22 LAW.out Tryd.underlying41 rawR bm M.length (.map (encM M)) rfl HMI.out.2 ?_; intro w2 hrg hg2 hs2; have HRG := Aside0.mk hrg; have HG2 := Aside0.mk hg2; clear hrg hg2 hs2)
  have hfl : ∀ q ∈ s.loose, 0 ≤ q.1 ∧ q.1 < s.firm.length := fun q hq => ⟨(HOK.out.loose q hq).1, (HOK.out.loose q hq).2.1⟩
  have ef : s.step.1.firm = s.firm := by unfold St.step; split <;> rfl
  have el : s.step.1.loose = s.loose := by unfold St.step; split <;> rfl
  obtain ⟨N, hN⟩ : ∃ N, N = s.firm.length := ⟨_, rfl⟩
  have hN2 : N ≤ 16384 := by rw [hN]; exact HOK.out.n2
  rw [ef, ← hN] at c0
  have HEF := Aside0.mk ef
  have HEL := Aside0.mk el
  have HN := Aside0.mk hN
  have HFL := Aside0.mk hfl
  clear ef el hN hfl
  go_frame
  go_loopw [3] (fun _ wr => BarRel p fb bm w1.heap.size s.firm (setAll s.loose s.firm) M w1 wr) (fun _ wr => wr.rangeLeft bm w1.heap.size)
  case atStart =>
    refine ⟨_, _, s.firm, HRG.out, ?_, rfl, fun j hj => ?_, Turn.of_grown HG2.out (fun k hk => by cases hk)⟩
    · rw [← HEF.out]
      exact (HG2.out.block fb (blk_lt HQ.out.firm) (by simp)).trans HQ.out.firm
    · rw [encM_has]
      split
      · rfl
      · rename_i hn
        rw [setAll_get _ _ _ HOK.out.rising HFL.out]
        have e : Mp.get s.loose (j : Int) = none := by
          rw [← HEL.out, HQ.out.loose, get_mapv]
          rw [HMM.out, get_mapv] at hn
          cases hg : Mp.get Q (j : Int) with
          | none => rfl
          | some y => rw [hg] at hn; exact absurd rfl hn
        rw [e]
  case round =>
    obtain ⟨left, cnt, F, hrg, hfb, hFl, hF, hTu⟩ := hrel
    have hpb : wr.heap[p]? = w1.heap[p]? := hTu.block p (blk_lt HQ.out.blk) (fun e => HQ.out.p_ne.1 e.symm)
    have hpb2 := hpb.trans HQ.out.blk
    rw [HEF.out, ← HN.out] at hpb2
    have b0 : wr.cell? ⟨p, 0, none⟩ = some (.slice (some ⟨fb, 0, none⟩) N N) := (blk_cell hpb2 0).trans rfl
    have b1 : wr.cell? ⟨p, 1, none⟩ = some (.map (some bm)) := (blk_cell hpb2 1).trans rfl
    have HRR := Aside0.mk hrg
    have HFB := Aside0.mk hfb
    have HFF := Aside0.mk hF
    have HFN := Aside0.mk hFl
    have HTU := Aside0.mk hTu
    have HPB := Aside0.mk hpb2
    clear hrg hfb hF hFl hTu hpb hpb2 c0 c1
    go_wp2_with (at_next; refine next_i rfl _ rfl 3 Tryd.underlying3 bm w1.heap.size M.length M left cnt rfl HRR.out ?_ ?_)
    · intro h0 hl0
      obtain ⟨w3, hrun3, hm3, hg3, hs3⟩ := MapI.clear (M := M) (P := Tryd.prog) (k := 3) (w := wr) (b := bm) ⟨HMI.out.1, HRR.out.owns⟩ Tryd.underlying41
      have HM3 := Aside0.mk hm3
      have HG3 := Aside0.mk hg3
      have HS3 := Aside0.mk hs3
      have HL0 := Aside0.mk hl0
      clear hm3 hg3 hs3 hl0 h0
      go_wp2
      go_ret
      have hG : F = setAll s.loose s.firm := by
        apply List.ext_getElem?
        intro j
        by_cases hj : j < s.firm.length
        · rw [HFF.out j hj, HL0.out, if_neg (by simp)]
        · rw [List.getElem?_eq_none (by rw [HFN.out]; omega), List.getElem?_eq_none (by rw [setAll_len]; omega)]
      have eb : s.barrier.1 = { s.step.1 with firm := setAll s.loose s.firm, loose := [] } := by unfold St.barrier; rw [HOO.out, if_neg (by simp), if_pos HSS.out]
      have hend := firm_end (s2 := s.barrier.1) HD.out HQ.out HTU.out (by rw [eb]; show wr.heap[fb]? = some (Obj.cells ((setAll s.loose s.firm).map Value.string).toArray 9 (0, 0)); rw [← hG]; exact HFB.out) (by rw [eb]; show (setAll s.loose s.firm).length = _; rw [setAll_len, HEF.out]) (by rw [eb]) (by rw [eb]) (by rw [eb]) HM3.out HG3.out HS3.out
      exact ⟨rfl, ⟨hend.2.2, ⟨fb, bm, [], hend.1⟩, St.barrier_ok HOK.out⟩, hend.2.1⟩
    · intro x c w3 cnt3 hlx hgx hrg3 hlt3 hg3 hs3 hen
      obtain ⟨e, he, rfl⟩ : ∃ e, Mp.get Q x = some e ∧ e.val = c := by
        rw [HMM.out, get_mapv] at hgx
        cases hg : Mp.get Q x with
        | none => rw [hg] at hgx; cases hgx
        | some e => rw [hg] at hgx; exact ⟨e, rfl, Option.some.inj hgx⟩
      have hmem := get_mem he
      have hsl : Mp.get s.loose x = some e.l := by rw [← HEL.out, HQ.out.loose, get_mapv, he]; rfl
      have hin := HOK.out.loose _ (get_mem hsl)
      have hlp : 0 < e.l.length := List.length_pos_iff.2 hin.2.2.1
      obtain ⟨m, hm⟩ : ∃ m, e.l.length = m + 1 := ⟨e.l.length - 1, by omega⟩
      have hat := (HQ.out.ents _ hmem).1
      have hgf := (HQ.out.ents _ hmem).2.2
      have hglt : e.g < w1.heap.size := by obtain ⟨cur, hc, _⟩ := hat; exact blk_lt hc
      have hgr : e.g ≠ w1.heap.size := by omega
      have hat3 : e.at_ w3 := Ent.move (Ent.move hat (HTU.out.block _ hglt hgf)) (hg3.block _ (Nat.lt_of_lt_of_le hglt HTU.out.size) (fun e2 => hgr (Option.some.inj e2)))
      have hc := Ent.at_cell hat3 (last_at hm)
      have hcap : e.l.length ≤ e.cap ∧ e.cap ≤ maxLen := by obtain ⟨_, _, h2, h3, _⟩ := hat; exact ⟨h2, h3⟩
      simp only [maxLen] at hcap
      obtain ⟨n, rfl⟩ := Int.eq_ofNat_of_zero_le hin.1
      have hnN : n < N := by have := hin.2.1; rw [HN.out]; omega
      obtain ⟨g, cap, l⟩ := e
      simp only at hc hm hcap hgf hglt hgr hsl
      simp only [Ent.val] at hen ⊢
      rw [hm] at hen ⊢
      obtain ⟨y, hy⟩ : ∃ y, y = lastOf l := ⟨_, rfl⟩
      rw [← hy] at hc
      have hp3 : w3.heap[p]? = wr.heap[p]? := hg3.block p (blk_lt HPB.out) (fun e => by have := blk_lt HQ.out.blk; have e := Option.some.inj e; omega)
      have q0 : w3.cell? ⟨p, 0, none⟩ = some (.slice (some ⟨fb, 0, none⟩) N N) := (blk_cell (hp3.trans HPB.out) 0).trans rfl
      have hf3 : w3.heap[fb]? = some (.cells (F.map Value.string).toArray 9 (0, 0)) := (hg3.block fb (blk_lt HFB.out) (fun e => by have := blk_lt HQ.out.firm; have e := Option.some.inj e; omega)).trans HFB.out
      have ff := blk_frozen hf3 n
      have hcn : ∃ z, w3.cell? ⟨fb, n, none⟩ = some z := by
        rw [blk_cell hf3 n]
        exact ⟨_, Array.getElem?_eq_getElem (by simp; rw [HFN.out, ← HN.out]; exact hnN)⟩
      obtain ⟨z, hz⟩ := hcn
      have d1 : decide ((n : Int) < (N : Int)) = true := decide_eq_true (by omega)
      have d2 : decide (n < N) = true := decide_eq_true hnN
      have d3 : decide (m < m + 1) = true := decide_eq_true (by omega)
      have hmm : m ≤ 9223372036854775806 := by omega
      have HRG3 := Aside0.mk hrg3
      have HF3 := Aside0.mk hf3
      have HLT := Aside0.mk hlt3
      have HG3 := Aside0.mk hg3
      have HY := Aside0.mk hy
      have HSL := Aside0.mk hsl
      have HNN := Aside0.mk hnN
      clear hrg3 hf3 hlt3 hg3 hs3 hlx hgx he hmem hin hlp hat hgf hglt hgr hat3 hcap hp3 hy hsl hm b0 b1
      go_upto_region 6 with (fail)
      have wm : IntKind.i64.wrap (m : Int) = (m : Int) := by rw [IntKind.wrap_i64]; omega
      have hi1 := index_row g (m + 1) cap m (by omega)
      have hi2 := index_row fb N N n HNN.out
      go_still_tail 12, (by kernel_rfl)
      change wpList _ _ _ _ _ w3.drew
      clear wm hi1 hi2
      go_wp2
      go_roundw
      case rel =>
        have hk : ∀ k, k < w1.heap.size → k ≠ fb → w3.heap[k]? = wr.heap[k]? := fun k hk e => HG3.out.block k (Nat.lt_of_lt_of_le hk HTU.out.size) (fun e2 => by have e2 := Option.some.inj e2; omega)
        have hT3 : Turn (fun k => k = fb) w1 w3 := ⟨HG3.out.os.trans HTU.out.os, HG3.out.tape.trans HTU.out.tape, HG3.out.output.trans HTU.out.output, Nat.le_trans HTU.out.size HG3.out.size, fun k hk1 e => (hk k hk1 e).trans (HTU.out.block k hk1 e)⟩
        have hT4 : Turn (fun k => k = fb) w1 (w3.setCell ⟨fb, n, none⟩ (.string y)) := hT3.set (a := ⟨fb, n, none⟩) rfl _
        refine ⟨_, cnt3, F.set n y, HRG3.out.kept (grown_setd w3 fb n _) (fun e => HQ.out.p_ne.2.2.1 (Option.some.inj e)) (fun e => by have := blk_lt HQ.out.firm; have e := Option.some.inj e; omega), ?_, by simp [HFN.out], fun j hj => ?_, hT4.drew⟩
        · exact blk_put HF3.out n _ (set_strings F n y)
        · by_cases hjn : j = n
          · subst hjn
            rw [List.getElem?_set_self (by rw [HFN.out]; exact hj)]
            have : (left (.int .i64 (j : Int)) && !(Lit.int .i64 (j : Int)).sameKey (.int .i64 (j : Int))) = false := by rw [sameKey_int]; simp
            rw [this, if_neg (by simp), setAll_get _ _ _ HOK.out.rising HFL.out, HSL.out, HY.out]
          · rw [List.getElem?_set_ne (fun e => hjn e.symm), HFF.out j hj, sameKey_int]
            have : decide ((j : Int) = (n : Int)) = false := decide_eq_false (by omega)
            rw [this]
            simp
      case measure =>
        rw [HRR.out.left_eq, (HRG3.out.kept (grown_setd w3 fb n (.string y)) (fun e => HQ.out.p_ne.2.2.1 (Option.some.inj e)) (fun e => by have := blk_lt HQ.out.firm; have e := Option.some.inj e; omega)).left_eq]
        exact HLT.out
theorem barrier_any {own : Nat → Prop} {w : World} {p : Nat} {s : St} (h : Disk own w p s) : Calls Tryd.prog 25 #[.pointer (some ⟨p, 0, none⟩)] w fun e w' => e = .returned (.bool s.barrier.2) ∧ Disk (More own w w') w' p s.barrier.1 ∧ Turn own w w' := by
  cases ho : s.off with
  | true =>
    have e1 : s.barrier = (s, false) := by unfold St.barrier; rw [if_pos ho]
    refine (barrier_off h ho).mono fun e w' ⟨he, hw⟩ => ?_
    subst hw
    rw [e1]
    exact ⟨he, h.more (fun k hk => .inl hk) (more_lt h.here (Nat.le_refl _)), Turn.refl _ _⟩
  | false =>
    cases hs : s.step.2 with
    | true =>
      refine (barrier_yes h ho hs).mono fun e w' ⟨he, hr⟩ => ⟨?_, hr⟩
      rw [he]
      unfold St.barrier
      rw [ho, if_neg (by simp), if_pos hs]
    | false =>
      have e1 : s.barrier = (s.step.1, false) := by unfold St.barrier; rw [ho, if_neg (by simp), if_neg (by rw [hs]; simp)]
      refine (barrier_stop h ho hs).mono fun e w' ⟨he, hd, hT, hz⟩ => ?_
      rw [e1]
      exact ⟨he, hd.more (fun k hk => .inl hk) (more_lt h.here (by omega)), hT⟩
end Go.Proofs.YtfjbpjndjcinhaaDoor.Dk
