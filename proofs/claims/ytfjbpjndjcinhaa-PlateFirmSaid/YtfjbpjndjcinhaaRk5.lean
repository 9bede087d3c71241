/- chancelref16: Barrier. Over the program alone. -/
import Derived.Test.YtfjbpjndjcinhaaRk4
namespace Go.Proofs.Ytfjbpjndjcinhaa.Dk
open Go Go.RowKit Go.Proofs.Ytfjbpjndjcinhaa.Mp Go.Proofs.Ytfjbpjndjcinhaa.Rg Go.Proofs.YtfjbpjndjcinhaaW.PrintWords Go.Proofs.YtfjbpjndjcinhaaW.PrintMore Go.Proofs.YtfjbpjndjcinhaaW.PrintLast
set_option linter.unusedVariables false
set_option linter.unusedSimpArgs false
/-- A store into a map from whole numbers, for the walk. -/
theorem update_i {P : Program} {w : World} {ops : Array Oper} {rest : List Oper} {o : Oper} {a : Act} {Q : Exit → Act → World → Prop} (hg : o.guard = none) (m x y : Operand) (t k e : TypeId) (hop : o.op = Op.mapUpdate t m x y)
    (hk : P.underlying k = some (.int .i64)) (ht : P.underlying t = some (.map k e)) (b : Nat) (M : List (Int × Value)) (hM : MapI P k w b M) (hn : M.length < 9223372036854775807) (i : Int) (hi : I64 i) (v : Value)
    (em : a.eval m = .map (some b)) (ex : a.eval x = .int .i64 i) (ey : a.eval y = v)
    (h : ∀ w', MapI P k w' b (put M i v) → w.grownBy w' (some b) → w'.heap.size = w.heap.size → wpList P ops Q rest (a.put o.dst undef) w') : wpList P ops Q (o :: rest) a w := by
  refine wpList_plain hg fun K' hK' => ?_
  obtain ⟨w', hrun, r1, r2, r3⟩ := hM.store hk ht hn hi v
  unfold Oper.wp
  simp [execOp, hop, em, ex, ey, hrun, Result.andThen]
  exact hK' _ _ (h w' r1 r2 r3)
theorem putAll_snoc : ∀ (L : List (Int × List ByteArray)) (q : Int × List ByteArray) (f : List (Int × ByteArray)), putAll (L ++ [q]) f = put (putAll L f) q.1 (lastOf q.2)
  | [], q, f => rfl
  | r :: L, q, f => by
    show putAll (L ++ [q]) _ = _
    rw [putAll_snoc L q]
    rfl
theorem rising_putAll : ∀ (L : List (Int × List ByteArray)) (f : List (Int × ByteArray)), Rising f → Rising (putAll L f)
  | [], f, h => h
  | r :: L, f, h => rising_putAll L _ (rising_put h _ _)
theorem mem_putAll : ∀ (L : List (Int × List ByteArray)) (f : List (Int × ByteArray)) (q : Int × ByteArray), q ∈ putAll L f → q ∈ f ∨ ∃ r ∈ L, q = (r.1, lastOf r.2)
  | [], f, q, h => .inl h
  | r :: L, f, q, h => by
    rcases mem_putAll L _ q h with h | ⟨y, hy, e⟩
    · rcases mem_put.1 h with h | ⟨h, _⟩
      · exact .inr ⟨r, by simp, h⟩
      · exact .inl h
    · exact .inr ⟨y, by simp [hy], e⟩
theorem lastOf_mem {l : List ByteArray} (h : l ≠ []) : lastOf l ∈ l := by
  have hp : 0 < l.length := List.length_pos_iff.2 h
  obtain ⟨m, hm⟩ : ∃ m, l.length = m + 1 := ⟨l.length - 1, by omega⟩
  exact List.mem_of_getElem? (last_at hm)
theorem RSt.barrier_ok {s : RSt} (h : s.Ok) : s.barrier.1.Ok := by
  unfold RSt.barrier
  split
  · exact h
  · have hs := RSt.step_ok h
    split
    · have en : s.step.1.n = s.n := by unfold RSt.step; split <;> rfl
      refine ⟨hs.n2, fun q hq => ?_, rising_putAll _ _ h.rf, rising_nil, (fun q hq => by cases hq), hs.lo, hs.hi⟩
      show 0 ≤ q.1 ∧ q.1 < (s.step.1.n : Int) ∧ _
      rw [en]
      rcases mem_putAll _ _ _ hq with hq | ⟨r, hr, rfl⟩
      · exact h.firm q hq
      · have := h.laid r hr
        exact ⟨this.1, this.2.1, this.2.2.2 _ (lastOf_mem this.2.2.1)⟩
    · exact hs
theorem RSt.Ok.few {s : RSt} (h : s.Ok) : s.laid.length ≤ 16384 :=
  Nat.le_trans (rising_length s.n 0 s.laid h.rising (fun q hq => by have := h.laid q hq; omega)) h.n2
theorem put_all_few {s : RSt} (h : s.Ok) (k : Nat) : (putAll (s.laid.take k) s.firm).length ≤ 16384 := by
  refine Nat.le_trans (rising_length s.n 0 _ (rising_putAll _ _ h.rf) (fun q hq => ?_)) h.n2
  rcases mem_putAll _ _ _ hq with hq | ⟨r, hr, rfl⟩
  · have := h.firm q hq
    omega
  · have := h.laid r (List.mem_of_mem_take hr)
    simp only
    omega
theorem rbarrier_off {own : Nat → Prop} {w : World} {p : Nat} {s : RSt} (h : RDisk own w p s) (ho : s.off = true) : Calls Try.prog 18 #[.pointer (some ⟨p, 0, none⟩)] w fun e w' => e = .returned (.bool false) ∧ w' = w := by
  obtain ⟨hh, ⟨fm, lm, Q, hq⟩, _⟩ := h
  obtain ⟨c0, c1, c2, c3, c4⟩ := hq.cells
  rw [ho] at c2
  clear ho hq hh c0 c1 c3 c4
  go_enter Try.func18, Try.ntmps18
  go_wp2
  go_ret
  exact ⟨rfl, rfl⟩
theorem rbarrier_stop {own : Nat → Prop} {w : World} {p : Nat} {s : RSt} (h : RDisk own w p s) (ho : s.off = false) (hs : s.step.2 = false) : Calls Try.prog 18 #[.pointer (some ⟨p, 0, none⟩)] w fun e w' => e = .returned (.bool false) ∧ RDisk own w' p s.step.1 ∧ Turn own w w' ∧ w'.heap.size = w.heap.size := by
  have hS := Aside0.mk (rstep_any h)
  obtain ⟨hh, ⟨fm, lm, Q, hq⟩, _⟩ := h
  obtain ⟨c0, c1, c2, c3, c4⟩ := hq.cells
  rw [ho] at c2
  rw [hs] at hS
  clear ho hs hq hh c0 c1 c3 c4
  go_enter Try.func18, Try.ntmps18
  go_wp2_with (go_at_call 30; (with_reducible refine hS.out.mono ?_); rintro e w1 ⟨rfl, hd⟩; have HD := Aside0.mk hd; clear hd)
  go_ret
  exact ⟨rfl, HD.out⟩
/-- Between two rounds, of the map of firm contents. -/
def MapRel (fm : Nat) (F : Nat → List (Int × ByteArray)) (K : Nat) (w2 : World) (k : Nat) (wr : World) : Prop :=
  k ≤ K ∧ MapI Try.prog 3 wr fm (mapv Value.string (F k)) ∧ Turn (fun j => j = fm) w2 wr
/-- All firm contents anew, none loose. -/
theorem rfirm_end {own : Nat → Prop} {w w1 wr : World} {p fm lm : Nat} {s1 s2 : RSt} {Q : List (Int × Ent)} (hd : RDisk own w1 p s1 ∧ Turn own w w1 ∧ w1.heap.size = w.heap.size) (hq : RDiskAt own w1 p s1 fm lm Q) (hTu : Turn (fun k => k = fm) w1 wr)
    (hf : MapI Try.prog 3 wr fm (mapv Value.string s2.firm)) (h1 : s2.n = s1.n) (h2 : s2.left = s1.left) (h3 : s2.off = s1.off) (h4 : s2.laid = []) :
    RDiskAt (More own w ((wr.setCell ⟨p, 4, none⟩ (.map (some wr.heap.size))).alloc (.map #[] 0))) ((wr.setCell ⟨p, 4, none⟩ (.map (some wr.heap.size))).alloc (.map #[] 0)) p s2 fm wr.heap.size [] ∧ Turn own w ((wr.setCell ⟨p, 4, none⟩ (.map (some wr.heap.size))).alloc (.map #[] 0)) ∧ (∀ k, More own w ((wr.setCell ⟨p, 4, none⟩ (.map (some wr.heap.size))).alloc (.map #[] 0)) k → k < ((wr.setCell ⟨p, 4, none⟩ (.map (some wr.heap.size))).alloc (.map #[] 0)).heap.size) := by
  obtain ⟨n1, n2, n3⟩ := hq.p_ne
  have hsz : ((wr.setCell ⟨p, 4, none⟩ (.map (some wr.heap.size))).alloc (.map #[] 0)).heap.size = wr.heap.size + 1 := by rw [World.size_alloc, World.size_setCell]
  have hsize : w.heap.size ≤ wr.heap.size := by rw [← hd.2.2]; exact hTu.size
  have hpr : wr.heap[p]? = some _ := (hTu.block p (blk_lt hq.blk) (fun e => n1 e.symm)).trans hq.blk
  have hpl := blk_lt hpr
  have old : ∀ k, k < wr.heap.size → ((wr.setCell ⟨p, 4, none⟩ (.map (some wr.heap.size))).alloc (.map #[] 0)).heap[k]? = (wr.setCell ⟨p, 4, none⟩ (.map (some wr.heap.size))).heap[k]? := fun k hk => Below.heap_alloc _ _ k (by rw [World.size_setCell]; exact hk)
  have far : ∀ k, k < wr.heap.size → k ≠ p → ((wr.setCell ⟨p, 4, none⟩ (.map (some wr.heap.size))).alloc (.map #[] 0)).heap[k]? = wr.heap[k]? := fun k hk he => (old k hk).trans (Below.heap_setCell _ _ _ k he)
  refine ⟨⟨?_, ?_, ?_, h4, fun q hq' => (by cases hq'), ?_, .inl hq.ownp, .inl hq.ownf, .inr ⟨hsize, by rw [hsz]; omega⟩⟩, ?_, more_lt (fun k hk => by rw [← hd.2.2]; exact hd.1.here k hk) (by rw [hsz]; omega)⟩
  · rw [h1, h2, h3, old p hpl]
    exact blk_put hpr 4 _ rfl
  · exact hf.move (far _ hf.lt n1)
  · have hm := MapI.made (wr.setCell ⟨p, 4, none⟩ (.map (some wr.heap.size))) Try.prog 3
    rw [World.size_setCell] at hm
    exact hm
  · have := hf.lt
    omega
  · have ht : Turn own w1 ((wr.setCell ⟨p, 4, none⟩ (.map (some wr.heap.size))).alloc (.map #[] 0)) := ⟨hTu.os, hTu.tape, hTu.output, by rw [hsz]; have := hTu.size; omega, fun k hk ho =>
      (far k (Nat.lt_of_lt_of_le hk hTu.size) (fun e => ho (by rw [e]; exact hq.ownp))).trans (hTu.block k hk (fun e => ho (by rw [e]; exact hq.ownf)))⟩
    exact hd.2.1.trans (ht.mono (fun k hk => .inl hk))
set_option maxRecDepth 100000 in
set_option maxHeartbeats 8000000 in
theorem rbarrier_yes {own : Nat → Prop} {w : World} {p : Nat} {s : RSt} (h : RDisk own w p s) (ho : s.off = false) (hs : s.step.2 = true) : Calls Try.prog 18 #[.pointer (some ⟨p, 0, none⟩)] w fun e w' => e = .returned (.bool true) ∧ RDisk (More own w w') w' p s.barrier.1 ∧ Turn own w w' := by
  have hS := Aside0.mk (rstep_any h)
  have HOK := Aside0.mk h.ok
  have en : s.step.1.n = s.n := by unfold RSt.step; split <;> rfl
  have ef : s.step.1.firm = s.firm := by unfold RSt.step; split <;> rfl
  have el : s.step.1.laid = s.laid := by unfold RSt.step; split <;> rfl
  have eb : s.barrier.1 = { s.step.1 with firm := putAll s.laid s.firm, laid := [] } := by unfold RSt.barrier; rw [ho, if_neg (by simp), if_pos hs]
  have HEN := Aside0.mk en
  have HEF := Aside0.mk ef
  have HEL := Aside0.mk el
  have HEB := Aside0.mk eb
  have ek : s.step.1.keys = s.keys := by unfold RSt.keys; rw [el]
  obtain ⟨K, hK⟩ : ∃ K, K = s.keys.length := ⟨_, rfl⟩
  have hKL : K = s.laid.length := by rw [hK]; simp [RSt.keys]
  have hK2 : K ≤ 16384 := by rw [hKL]; exact h.ok.few
  have HK := Aside0.mk hK
  have HKL := Aside0.mk hKL
  have HEK := Aside0.mk ek
  obtain ⟨hh, ⟨fm0, lm0, Q0, hq0⟩, _⟩ := h
  obtain ⟨c0, c1, c2, c3, c4⟩ := hq0.cells
  rw [ho] at c2
  rw [hs] at hS
  clear ho hs en ef el eb hh hq0 c0 c1 c3 c4 hK hKL ek
  go_enter Try.func18, Try.ntmps18
  go_upto_region 3 with (go_at_call 30; (with_reducible refine hS.out.mono ?_); rintro e w1 ⟨rfl, hd⟩; have HD := Aside0.mk hd; clear hd)
  have hL := rloose_any HD.out.1
  rw [HEK.out, ← HK.out] at hL
  have HL := Aside0.mk hL
  obtain ⟨fm, lm, Q, hq⟩ := HD.out.1.parts
  have HQ := Aside0.mk hq
  clear hL hq c2
  go_wp2_with (go_at_call 23; (with_reducible refine HL.out.mono ?_); rintro e w2 ⟨v, rfl, ho, hb⟩; obtain ⟨A0, cp, rfl, hrow⟩ := keys_shape ho; have HRW := Aside0.mk hrow; have HB := Aside0.mk hb; clear ho hb hrow)
  go_loopw [4] (fun v wr => ∃ k : Nat, v = .int .i64 k ∧ MapRel fm (fun k => putAll (s.laid.take k) s.firm) K w2 k wr) (fun v _ => K - (intOf v).toNat)
  case atStart =>
    refine ⟨0, rfl, Nat.zero_le _, ?_, Turn.refl _ _⟩
    have := HQ.out.firm.move (HB.out.block fm HQ.out.firm.lt)
    rw [HEF.out] at this
    exact this
  case round =>
    obtain ⟨k, rfl, hkl, hfm, hTu⟩ := hrel
    have hTu1 : Turn (fun k => k = fm) w1 wr := ⟨hTu.os.trans HB.out.os, hTu.tape.trans HB.out.tape, hTu.output.trans HB.out.output, Nat.le_trans HB.out.size hTu.size, fun j hj e => (hTu.block j (Nat.lt_of_lt_of_le hj HB.out.size) e).trans (HB.out.block j hj)⟩
    have hpb : wr.heap[p]? = some _ := (hTu1.block p (blk_lt HQ.out.blk) (fun e => HQ.out.p_ne.1 e.symm)).trans HQ.out.blk
    have b3 : wr.cell? ⟨p, 3, none⟩ = some (.map (some fm)) := (blk_cell hpb 3).trans rfl
    have b4 : wr.cell? ⟨p, 4, none⟩ = some (.map (some lm)) := (blk_cell hpb 4).trans rfl
    by_cases hlt : k < K
    case neg =>
      obtain rfl : k = K := by omega
      have d1 : decide ((k : Int) < (k : Int)) = false := decide_eq_false (by omega)
      have f4 := blk_frozen hpb 4
      have hmm := @run_makeMap Try.prog
      have hpl := blk_lt hpb
      have HFM := Aside0.mk hfm
      have HT1 := Aside0.mk hTu1
      clear hfm hTu hTu1 hpb b3
      go_wp2
      go_ret
      have hend := rfirm_end (s2 := s.barrier.1) HD.out HQ.out HT1.out (by
        have := HFM.out
        rw [HEB.out]
        simp only [HKL.out, List.take_length] at this
        exact this) (by rw [HEB.out]) (by rw [HEB.out]) (by rw [HEB.out]) (by rw [HEB.out])
      exact ⟨rfl, ⟨hend.2.2, ⟨fm, wr.heap.size, [], hend.1⟩, RSt.barrier_ok HOK.out⟩, hend.2.1⟩
    case pos =>
      obtain ⟨g, rfl, hgB, hgl, hcell⟩ := HRW.out (by omega)
      have hkL : k < s.laid.length := by rw [← HKL.out]; exact hlt
      obtain ⟨q, hqk⟩ : ∃ q, s.laid[k]? = some q := ⟨_, List.getElem?_eq_getElem hkL⟩
      have hqm := List.mem_of_getElem? hqk
      have hin := HOK.out.laid q hqm
      obtain ⟨x, l⟩ := q
      have hkey : s.keys[k]? = some x := by unfold RSt.keys; rw [List.getElem?_map, hqk]; rfl
      have hn2 := HOK.out.n2
      have hxi : I64 x := ⟨by have := hin.1; simp only at this; omega, by have := hin.2.1; simp only at this; omega⟩
      have hfml : fm < w1.heap.size := HQ.out.firm.lt
      have kc : wr.cell? ⟨g, k, none⟩ = some (.int .i64 x) := by
        rw [World.cell?_of_block (w := w2) (hTu.block g hgl (by omega))]
        exact hcell k _ hkey
      have hi0 : ∀ W, (Instr.indexAt 36 (.slice (some ⟨g, 0, none⟩) K cp) (.int .i64 (k : Int))).run Try.prog W = .ok (.pointer (some ⟨g, k, none⟩)) W := fun W => by
        have := index_ints g K cp k 0 hlt W
        rw [Nat.zero_add] at this
        exact this
      have d1 : decide ((k : Int) < (K : Int)) = true := decide_eq_true (by omega)
      have d1n : decide (k < K) = true := decide_eq_true hlt
      obtain ⟨e, he, hel, hat, hoe⟩ := HQ.out.entry (i := x) (l := l) (by rw [HEL.out]; exact mem_get HOK.out.rising hqm)
      have hegl : e.g < w1.heap.size := HD.out.1.here _ hoe
      have hat2 : e.at_ wr := Ent.move hat (hTu1.block _ hegl (HQ.out.p_ne.2.2 _ (get_mem he)).2.1)
      have hmr : MapI Try.prog 3 wr lm (mapv Ent.val Q) := HQ.out.map.move (hTu1.block lm HQ.out.map.lt (fun e => HQ.out.ne e.symm))
      have hL : ∀ W : World, W.heap = wr.heap → (Instr.lookup 42 (.map (some lm)) (.int .i64 x) false).run Try.prog W = .ok e.val W := fun W hW => by
        have := (hmr.move (w' := W) (by rw [hW])).look Try.underlying3 Try.underlying42 (Try.zeroValue52 W) hxi
        rw [get_mapv, he] at this
        exact this
      obtain ⟨eg, ecap, el⟩ := e
      simp only at hel
      subst hel
      have hlp : 0 < el.length := List.length_pos_iff.2 hin.2.2.1
      obtain ⟨m, hm⟩ : ∃ m, el.length = m + 1 := ⟨el.length - 1, by omega⟩
      have hc := Ent.at_cell hat2 (last_at hm)
      have hcap : el.length ≤ ecap ∧ ecap ≤ maxLen := by obtain ⟨_, _, h2, h3, _⟩ := hat; exact ⟨h2, h3⟩
      simp only [maxLen] at hcap
      simp only [Ent.val] at hL
      rw [hm] at hL hcap
      have hmm' : m ≤ 9223372036854775806 := by omega
      obtain ⟨y, hy⟩ : ∃ y, y = lastOf el := ⟨_, rfl⟩
      simp only at hc
      rw [← hy] at hc
      have d3 : decide (m < m + 1) = true := decide_eq_true (by omega)
      have HFM := Aside0.mk hfm
      have HTU := Aside0.mk hTu
      have HT1 := Aside0.mk hTu1
      have HQK := Aside0.mk hqk
      have HXI := Aside0.mk hxi
      have HY := Aside0.mk hy
      have hfew := put_all_few HOK.out k
      have HFW := Aside0.mk (show (mapv Value.string (putAll (s.laid.take k) s.firm)).length < 9223372036854775807 by simp [mapv]; omega)
      clear hfm hTu hTu1 hqk hqm hin hxi hy hat2 hat hoe hegl hmr hpb hgB hgl hkL hfml hcell hkey he hlp hm hcap hfew hn2
      go_upto_region 7 with (fail)
      have hLd : (Instr.lookup 42 (.map (some lm)) (.int .i64 x) false).run Try.prog wr.drew = .ok (.slice (some ⟨eg, 0, none⟩) (m + 1) ecap) wr.drew := hL wr.drew rfl
      go_still_tail 9, (by kernel_rfl)
      change wpList _ _ _ _ _ wr.drew
      clear hLd hL
      go_upto_region 8 with (fail)
      obtain ⟨w4, hw4⟩ : ∃ w4, w4 = wr.drew := ⟨_, rfl⟩
      rw [← hw4]
      have kc4 : w4.cell? ⟨g, k, none⟩ = some (.int .i64 x) := by rw [hw4]; exact kc
      have c34 : w4.cell? ⟨p, 3, none⟩ = some (.map (some fm)) := by rw [hw4]; exact b3
      have hc4 : w4.cell? ⟨eg, m, none⟩ = some (.string y) := by rw [hw4]; exact hc
      have HFM4 := Aside0.mk (show MapI Try.prog 3 w4 fm (mapv Value.string (putAll (s.laid.take k) s.firm)) from HFM.out.move (by rw [hw4]; rfl))
      have HT4 := Aside0.mk (show Turn (fun j => j = fm) w2 w4 by rw [hw4]; exact HTU.out.drew)
      clear hw4 kc b3 b4 hc
      have wm : IntKind.i64.wrap (m : Int) = (m : Int) := by rw [IntKind.wrap_i64]; omega
      have hi1 := index_row eg (m + 1) ecap m (by omega)
      go_still_tail 14, (by kernel_rfl)
      change wpList _ _ _ _ _ w4.drew
      clear wm hi1 hi0
      refine update_i rfl (.tmp 35) (.tmp 39) (.tmp 45) 41 3 9 rfl Try.underlying3 Try.underlying41 fm _ (HFM4.out.move rfl) HFW.out x HXI.out (.string y) rfl rfl rfl ?_
      intro w5 hm5 hg5 hs5
      have HM5 := Aside0.mk hm5
      have HG5 := Aside0.mk hg5
      clear hm5 hg5 hs5
      go_wp2
      go_roundw
      case rel =>
        refine ⟨k + 1, by go_num, by omega, ?_, ?_⟩
        · show MapI _ _ _ _ (mapv Value.string (putAll (s.laid.take (k + 1)) s.firm))
          rw [List.take_add_one, HQK.out, Option.toList_some, putAll_snoc, put_mapv, ← HY.out]
          exact HM5.out
        · have h4 := HT4.out
          exact ⟨HG5.out.os.trans h4.os, HG5.out.tape.trans h4.tape, HG5.out.output.trans h4.output, Nat.le_trans h4.size HG5.out.size, fun j hj e => (HG5.out.block j (Nat.lt_of_lt_of_le hj h4.size) (fun e2 => e (Option.some.inj e2))).trans (h4.block j hj e)⟩
      case measure => simp [intOf]; omega
theorem rbarrier_any {own : Nat → Prop} {w : World} {p : Nat} {s : RSt} (h : RDisk own w p s) : Calls Try.prog 18 #[.pointer (some ⟨p, 0, none⟩)] w fun e w' => e = .returned (.bool s.barrier.2) ∧ RDisk (More own w w') w' p s.barrier.1 ∧ Turn own w w' := by
  cases ho : s.off with
  | true =>
    have e1 : s.barrier = (s, false) := by unfold RSt.barrier; rw [if_pos ho]
    refine (rbarrier_off h ho).mono fun e w' ⟨he, hw⟩ => ?_
    subst hw
    rw [e1]
    exact ⟨he, h.more (fun k hk => .inl hk) (more_lt h.here (Nat.le_refl _)), Turn.refl _ _⟩
  | false =>
    cases hs : s.step.2 with
    | true =>
      refine (rbarrier_yes h ho hs).mono fun e w' ⟨he, hr⟩ => ⟨?_, hr⟩
      rw [he]
      unfold RSt.barrier
      rw [ho, if_neg (by simp), if_pos hs]
    | false =>
      have e1 : s.barrier = (s.step.1, false) := by unfold RSt.barrier; rw [ho, if_neg (by simp), if_neg (by rw [hs]; simp)]
      refine (rbarrier_stop h ho hs).mono fun e w' ⟨he, hd, hT, hz⟩ => ?_
      rw [e1]
      exact ⟨he, hd.more (fun k hk => .inl hk) (more_lt h.here (by omega)), hT⟩
end Go.Proofs.Ytfjbpjndjcinhaa.Dk
