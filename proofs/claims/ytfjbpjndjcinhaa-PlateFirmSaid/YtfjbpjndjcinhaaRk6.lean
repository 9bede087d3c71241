/- chancelref16: Fall. Over the program alone. -/
import Derived.Test.YtfjbpjndjcinhaaRk5
namespace Go.Proofs.Ytfjbpjndjcinhaa.Dk
open Go Go.RowKit Go.Proofs.Ytfjbpjndjcinhaa.Mp Go.Proofs.Ytfjbpjndjcinhaa.Rg Go.Proofs.YtfjbpjndjcinhaaW.PrintWords Go.Proofs.YtfjbpjndjcinhaaW.PrintMore Go.Proofs.YtfjbpjndjcinhaaW.PrintLast
set_option linter.unusedVariables false
set_option linter.unusedSimpArgs false
theorem rfallAll_snoc : ∀ (L : List (Int × List ByteArray)) (q : Int × List ByteArray) (pick : List Int) (f : List (Int × ByteArray)) (x : Int), pick[L.length]? = some x → rfallAll (L ++ [q]) pick f = putPick q x (rfallAll L pick f)
  | [], q, [], f, x, h => by simp at h
  | [], q, v :: p, f, x, h => by
    have h : v = x := by simpa using h
    subst h
    simp [rfallAll]
  | r :: L, q, [], f, x, h => by simp at h
  | r :: L, q, v :: p, f, x, h => by
    have h : p[L.length]? = some x := by simpa using h
    show rfallAll (L ++ [q]) p _ = _
    rw [rfallAll_snoc L q p _ x h]
    rfl
theorem rfallAll_end : ∀ (L : List (Int × List ByteArray)) (pick : List Int) (f : List (Int × ByteArray)) (k : Nat), pick.length ≤ k ∨ L.length ≤ k → rfallAll (L.take k) pick f = rfallAll L pick f
  | [], pick, f, k, h => by simp
  | q :: r, [], f, k, h => by
    cases k with
    | zero => simp [rfallAll]
    | succ k => simp [rfallAll]
  | q :: r, v :: p, f, 0, h => by rcases h with h | h <;> simp at h
  | q :: r, v :: p, f, k + 1, h => by
    rw [List.take_succ_cons, rfallAll, rfallAll]
    exact rfallAll_end r p _ k (by simpa using h)
theorem rising_putPick {f : List (Int × ByteArray)} (h : Rising f) (q : Int × List ByteArray) (v : Int) : Rising (putPick q v f) := by
  unfold putPick
  split
  · exact rising_put h _ _
  · exact h
theorem rising_rfallAll : ∀ (L : List (Int × List ByteArray)) (pick : List Int) (f : List (Int × ByteArray)), Rising f → Rising (rfallAll L pick f)
  | [], _, f, h => h
  | _ :: _, [], f, h => h
  | q :: r, v :: p, f, h => rising_rfallAll r p _ (rising_putPick h q v)
theorem mem_rfallAll : ∀ (L : List (Int × List ByteArray)) (pick : List Int) (f : List (Int × ByteArray)) (z : Int × ByteArray), z ∈ rfallAll L pick f → z ∈ f ∨ ∃ r ∈ L, z.1 = r.1 ∧ z.2 ∈ r.2
  | [], _, f, z, h => .inl h
  | _ :: _, [], f, z, h => .inl h
  | q :: r, v :: p, f, z, h => by
    rcases mem_rfallAll r p _ z h with h | ⟨y, hy, e⟩
    · unfold putPick at h
      split at h
      · rename_i hv
        rcases mem_put.1 h with rfl | ⟨h, _⟩
        · refine .inr ⟨q, by simp, rfl, ?_⟩
          have h3 := Int.emod_lt_of_pos v (show 0 < ((q.2.length : Int) + 1) by omega)
          simp only
          rw [List.getD_eq_getElem?_getD, List.getElem?_eq_getElem (by omega)]
          exact List.getElem_mem _
        · exact .inl h
      · exact .inl h
    · exact .inr ⟨y, by simp [hy], e⟩
theorem RSt.fall_ok {s : RSt} (h : s.Ok) (pick : List Int) : (s.fall pick).Ok := by
  refine ⟨h.n2, fun q hq => ?_, rising_rfallAll _ _ _ h.rf, rising_nil, (fun q hq => by cases hq), (by show (-1 : Int) ≤ -1; decide), (by show (-1 : Int) ≤ _; decide)⟩
  rcases mem_rfallAll _ _ _ _ hq with hq | ⟨r, hr, e1, e2⟩
  · exact h.firm q hq
  · have := h.laid r hr
    rw [e1]
    exact ⟨this.1, this.2.1, this.2.2.2 _ e2⟩
theorem fall_few {s : RSt} (h : s.Ok) (pick : List Int) (k : Nat) : (rfallAll (s.laid.take k) pick s.firm).length ≤ 16384 := by
  refine Nat.le_trans (rising_length s.n 0 _ (rising_rfallAll _ _ _ h.rf) (fun q hq => ?_)) h.n2
  rcases mem_rfallAll _ _ _ _ hq with hq | ⟨r, hr, e, _⟩
  · have := h.firm q hq
    omega
  · have := h.laid r (List.mem_of_mem_take hr)
    omega
theorem rem_once (y n : Int) (hn : 0 < n) : (y.tmod n < 0 → y.tmod n + n = y % n) ∧ (¬ y.tmod n < 0 → y.tmod n = y % n) := by
  have h1 : y.tmod n = if 0 ≤ y ∨ n ∣ y then y % n else y % n - n := by
    rw [Int.tmod_eq_emod]
    by_cases h : 0 ≤ y ∨ n ∣ y
    · simp [h]
    · simp [h]
      omega
  have h2 := Int.emod_nonneg y (show n ≠ 0 by omega)
  have h3 := Int.emod_lt_of_pos y hn
  rw [h1]
  split
  · exact ⟨fun h => by omega, fun _ => rfl⟩
  · exact ⟨fun _ => by omega, fun h => by omega⟩
theorem rfall_end {own : Nat → Prop} {w w2 wr : World} {p fm lm : Nat} {s : RSt} {Q : List (Int × Ent)} {pick : List Int} {k : Nat} (hd : RDisk own w p s) (hq : RDiskAt own w p s fm lm Q) (hTu : Turn (fun k => k = fm) w wr) (hk : pick.length ≤ k ∨ s.laid.length ≤ k)
    (hf : MapI Try.prog 3 wr fm (mapv Value.string (rfallAll (s.laid.take k) pick s.firm))) :
    RDisk (More own w ((((wr.setCell ⟨p, 4, none⟩ (.map (some wr.heap.size))).setCell ⟨p, 2, none⟩ (.bool false)).setCell ⟨p, 1, none⟩ (.int .i64 (-1))).alloc (.map #[] 0))) ((((wr.setCell ⟨p, 4, none⟩ (.map (some wr.heap.size))).setCell ⟨p, 2, none⟩ (.bool false)).setCell ⟨p, 1, none⟩ (.int .i64 (-1))).alloc (.map #[] 0)) p (s.fall pick) ∧ Turn own w ((((wr.setCell ⟨p, 4, none⟩ (.map (some wr.heap.size))).setCell ⟨p, 2, none⟩ (.bool false)).setCell ⟨p, 1, none⟩ (.int .i64 (-1))).alloc (.map #[] 0)) := by
  rw [rfallAll_end _ _ _ _ hk] at hf
  obtain ⟨n1, n2, n3⟩ := hq.p_ne
  have hsv : (((wr.setCell ⟨p, 4, none⟩ (.map (some wr.heap.size))).setCell ⟨p, 2, none⟩ (.bool false)).setCell ⟨p, 1, none⟩ (.int .i64 (-1))).heap.size = wr.heap.size := by rw [World.size_setCell, World.size_setCell, World.size_setCell]
  have hsz : ((((wr.setCell ⟨p, 4, none⟩ (.map (some wr.heap.size))).setCell ⟨p, 2, none⟩ (.bool false)).setCell ⟨p, 1, none⟩ (.int .i64 (-1))).alloc (.map #[] 0)).heap.size = wr.heap.size + 1 := by rw [World.size_alloc, hsv]
  have hsize : w.heap.size ≤ wr.heap.size := hTu.size
  have hpr : wr.heap[p]? = some _ := (hTu.block p (blk_lt hq.blk) (fun e => n1 e.symm)).trans hq.blk
  have hpl := blk_lt hpr
  have old : ∀ k, k < wr.heap.size → ((((wr.setCell ⟨p, 4, none⟩ (.map (some wr.heap.size))).setCell ⟨p, 2, none⟩ (.bool false)).setCell ⟨p, 1, none⟩ (.int .i64 (-1))).alloc (.map #[] 0)).heap[k]? = (((wr.setCell ⟨p, 4, none⟩ (.map (some wr.heap.size))).setCell ⟨p, 2, none⟩ (.bool false)).setCell ⟨p, 1, none⟩ (.int .i64 (-1))).heap[k]? := fun k hk => Below.heap_alloc _ _ k (by rw [hsv]; exact hk)
  have far : ∀ k, k < wr.heap.size → k ≠ p → ((((wr.setCell ⟨p, 4, none⟩ (.map (some wr.heap.size))).setCell ⟨p, 2, none⟩ (.bool false)).setCell ⟨p, 1, none⟩ (.int .i64 (-1))).alloc (.map #[] 0)).heap[k]? = wr.heap[k]? := fun k hk he => (old k hk).trans ((Below.heap_setCell _ _ _ k he).trans ((Below.heap_setCell _ _ _ k he).trans (Below.heap_setCell _ _ _ k he)))
  have hmo := more_lt (own := own) (w := w) (w' := ((((wr.setCell ⟨p, 4, none⟩ (.map (some wr.heap.size))).setCell ⟨p, 2, none⟩ (.bool false)).setCell ⟨p, 1, none⟩ (.int .i64 (-1))).alloc (.map #[] 0))) hd.here (by rw [hsz]; omega)
  refine ⟨⟨hmo, ⟨fm, wr.heap.size, [], ?_, ?_, ?_, rfl, fun q hq' => (by cases hq'), ?_, .inl hq.ownp, .inl hq.ownf, .inr ⟨hsize, by rw [hsz]; omega⟩⟩, RSt.fall_ok hd.ok pick⟩, ?_⟩
  · rw [old p hpl]
    exact blk_put (blk_put (blk_put hpr 4 _ rfl) 2 _ rfl) 1 _ rfl
  · exact hf.move (far _ hf.lt n1)
  · have hm := MapI.made (((wr.setCell ⟨p, 4, none⟩ (.map (some wr.heap.size))).setCell ⟨p, 2, none⟩ (.bool false)).setCell ⟨p, 1, none⟩ (.int .i64 (-1))) Try.prog 3
    rw [hsv] at hm
    exact hm
  · have := hf.lt
    omega
  · exact ⟨hTu.os, hTu.tape, hTu.output, by rw [hsz]; omega, fun k hk ho =>
      (far k (Nat.lt_of_lt_of_le hk hTu.size) (fun e => ho (by rw [e]; exact hq.ownp))).trans (hTu.block k hk (fun e => ho (by rw [e]; exact hq.ownf)))⟩
set_option maxRecDepth 100000 in
set_option maxHeartbeats 16000000 in
theorem rfall_any {own : Nat → Prop} {w : World} {p : Nat} {s : RSt} (h : RDisk own w p s) (A : Option Addr) (c : Nat) (pick : List Int) (hp : Picks own w A c pick) (hsm : ∀ q ∈ s.laid, q.2.length ≤ 1000000000) : Calls Try.prog 21 #[.pointer (some ⟨p, 0, none⟩), .slice A pick.length c] w fun e w' => e = .returned (.tuple #[]) ∧ RDisk (More own w w') w' p (s.fall pick) ∧ Turn own w w' := by
  have HD := Aside0.mk h
  have hL := rloose_any h
  have HOK := Aside0.mk h.ok
  have HPK := Aside0.mk hp
  have HSM := Aside0.mk hsm
  clear hsm
  obtain ⟨K, hK⟩ : ∃ K, K = s.keys.length := ⟨_, rfl⟩
  obtain ⟨PL, hPL⟩ : ∃ P, P = pick.length := ⟨_, rfl⟩
  have hKL : K = s.laid.length := by rw [hK]; simp [RSt.keys]
  have hK2 : K ≤ 16384 := by rw [hKL]; exact h.ok.few
  have hP2 : PL ≤ 9223372036854775807 := by rw [hPL]; exact hp.cap
  have HKL := Aside0.mk hKL
  have HPL := Aside0.mk hPL
  rw [← hK] at hL
  have HL := Aside0.mk hL
  rw [← hPL]
  obtain ⟨fm, lm, Q, hq⟩ := h.parts
  have HQ := Aside0.mk hq
  clear hL hq hK hKL hPL hp h
  go_enter Try.func21, Try.ntmps21
  go_wp2_with (go_at_call 23; (with_reducible refine HL.out.mono ?_); rintro e w2 ⟨v, rfl, ho, hb⟩; obtain ⟨A0, cp, rfl, hrow⟩ := keys_shape ho; have HRW := Aside0.mk hrow; have HB := Aside0.mk hb; clear ho hb hrow)
  go_loopw [5] (fun v wr => ∃ k : Nat, v = .int .i64 k ∧ MapRel fm (fun k => rfallAll (s.laid.take k) pick s.firm) K w2 k wr) (fun v _ => K - (intOf v).toNat)
  case atStart =>
    exact ⟨0, rfl, Nat.zero_le _, HQ.out.firm.move (HB.out.block fm HQ.out.firm.lt), Turn.refl _ _⟩
  case round =>
    obtain ⟨k, rfl, hkl, hfm, hTu⟩ := hrel
    have hTu1 : Turn (fun k => k = fm) w wr := ⟨hTu.os.trans HB.out.os, hTu.tape.trans HB.out.tape, hTu.output.trans HB.out.output, Nat.le_trans HB.out.size hTu.size, fun j hj e => (hTu.block j (Nat.lt_of_lt_of_le hj HB.out.size) e).trans (HB.out.block j hj)⟩
    have hpb : wr.heap[p]? = some _ := (hTu1.block p (blk_lt HQ.out.blk) (fun e => HQ.out.p_ne.1 e.symm)).trans HQ.out.blk
    have b3 : wr.cell? ⟨p, 3, none⟩ = some (.map (some fm)) := (blk_cell hpb 3).trans rfl
    have b4 : wr.cell? ⟨p, 4, none⟩ = some (.map (some lm)) := (blk_cell hpb 4).trans rfl
    by_cases hlt : k < K ∧ k < PL
    case neg =>
      have HKK := Aside0.mk (show pick.length ≤ k ∨ s.laid.length ≤ k by rw [← HKL.out, ← HPL.out]; omega)
      have b1 : wr.cell? ⟨p, 1, none⟩ = some (.int .i64 s.left) := (blk_cell hpb 1).trans rfl
      have b2 : wr.cell? ⟨p, 2, none⟩ = some (.bool s.off) := (blk_cell hpb 2).trans rfl
      have f4 := blk_frozen hpb 4
      have f2 := blk_frozen hpb 2
      have f1 := blk_frozen hpb 1
      have hmm := @run_makeMap Try.prog
      have hpl := blk_lt hpb
      have HFM := Aside0.mk hfm
      have HT1 := Aside0.mk hTu1
      by_cases h1 : k < K
      · have h2 : ¬ k < PL := fun h => hlt ⟨h1, h⟩
        have d1 : decide ((k : Int) < (K : Int)) = true := decide_eq_true (by omega)
        have d2 : decide ((k : Int) < (PL : Int)) = false := decide_eq_false (by omega)
        clear hfm hTu hTu1 hpb b3 hlt
        go_wp2
        go_end0
        exact ⟨rfl, rfall_end (w2 := w2) HD.out HQ.out HT1.out HKK.out HFM.out⟩
      · have d1 : decide ((k : Int) < (K : Int)) = false := decide_eq_false (by omega)
        clear hfm hTu hTu1 hpb b3 hlt
        go_wp2
        go_end0
        exact ⟨rfl, rfall_end (w2 := w2) HD.out HQ.out HT1.out HKK.out HFM.out⟩
    case pos =>
      obtain ⟨hlt, hpk⟩ := hlt
      obtain ⟨g, rfl, hgB, hgl, hcell⟩ := HRW.out (by omega)
      have hkL : k < s.laid.length := by rw [← HKL.out]; exact hlt
      obtain ⟨q, hqk⟩ : ∃ q, s.laid[k]? = some q := ⟨_, List.getElem?_eq_getElem hkL⟩
      have hqm := List.mem_of_getElem? hqk
      have hin := HOK.out.laid q hqm
      have hms := HSM.out q hqm
      obtain ⟨x, l⟩ := q
      have hkey : s.keys[k]? = some x := by unfold RSt.keys; rw [List.getElem?_map, hqk]; rfl
      have hn2 := HOK.out.n2
      have hxi : I64 x := ⟨by have := hin.1; simp only at this; omega, by have := hin.2.1; simp only at this; omega⟩
      have hfml : fm < w.heap.size := HQ.out.firm.lt
      have kc : wr.cell? ⟨g, k, none⟩ = some (.int .i64 x) := by
        rw [World.cell?_of_block (w := w2) (hTu.block g hgl (by omega))]
        exact hcell k _ hkey
      have hi0 : ∀ W, (Instr.indexAt 36 (.slice (some ⟨g, 0, none⟩) K cp) (.int .i64 (k : Int))).run Try.prog W = .ok (.pointer (some ⟨g, k, none⟩)) W := fun W => by
        have := index_ints g K cp k 0 hlt W
        rw [Nat.zero_add] at this
        exact this
      have d1 : decide ((k : Int) < (K : Int)) = true := decide_eq_true (by omega)
      have d1n : decide (k < K) = true := decide_eq_true hlt
      have d2 : decide ((k : Int) < (PL : Int)) = true := decide_eq_true (by omega)
      have d2n : decide (k < PL) = true := decide_eq_true hpk
      obtain ⟨y, hy⟩ : ∃ y, pick[k]? = some y := ⟨_, List.getElem?_eq_getElem (by rw [← HPL.out]; exact hpk)⟩
      obtain ⟨b, o, rfl, hob, hbl, hpc⟩ := HPK.out.row (fun e => by rw [e] at hy; cases hy)
      have pc : wr.cell? ⟨b, o + k, none⟩ = some (.int .i64 y) := by
        rw [World.cell?_of_block (w := w) (hTu1.block b hbl (fun e => hob (by rw [e]; exact HQ.out.ownf)))]
        exact hpc k y hy
      have hi1 := index_ints b PL c k o hpk
      obtain ⟨e, he, hel, hat, hoe⟩ := HQ.out.entry (i := x) (l := l) (mem_get HOK.out.rising hqm)
      have hegl : e.g < w.heap.size := HD.out.here _ hoe
      have hat2 : e.at_ wr := Ent.move hat (hTu1.block _ hegl (HQ.out.p_ne.2.2 _ (get_mem he)).2.1)
      have hmr : MapI Try.prog 3 wr lm (mapv Ent.val Q) := HQ.out.map.move (hTu1.block lm HQ.out.map.lt (fun e => HQ.out.ne e.symm))
      have hL : (Instr.lookup 42 (.map (some lm)) (.int .i64 x) false).run Try.prog wr.drew = .ok e.val wr.drew := by
        have := (hmr.move (w' := wr.drew) rfl).look Try.underlying3 Try.underlying42 (Try.zeroValue52 wr.drew) hxi
        rw [get_mapv, he] at this
        exact this
      obtain ⟨eg, ecap, el⟩ := e
      simp only at hel
      subst hel
      obtain ⟨m, hm⟩ : ∃ m, m = el.length := ⟨_, rfl⟩
      simp only [Ent.val] at hL
      rw [← hm] at hL
      have hm2 : m ≤ 1000000000 := by rw [hm]; exact hms
      have hmz : (((m : Int) + 1) == 0) = false := by simp; omega
      have HFM := Aside0.mk hfm
      have HTU := Aside0.mk hTu
      have HQK := Aside0.mk hqk
      have HXI := Aside0.mk hxi
      have HY := Aside0.mk hy
      have HAT := Aside0.mk hat2
      have HM := Aside0.mk hm
      have hfew := fall_few HOK.out pick k
      have HFW := Aside0.mk (show (mapv Value.string (rfallAll (s.laid.take k) pick s.firm)).length < 9223372036854775807 by simp [mapv]; omega)
      clear hfm hTu hTu1 hqk hqm hin hms hxi hy hat2 hat hoe hegl hmr hpb hgB hgl hkL hfml hcell hkey he hm hfew hn2 hob hbl hpc
      go_upto_region 4 with (fail)
      go_still_tail 9, (by kernel_rfl)
      change wpList _ _ _ _ _ wr.drew
      clear hL
      go_upto_region 5 with (fail)
      obtain ⟨w4, hw4⟩ : ∃ w4, w4 = wr.drew := ⟨_, rfl⟩
      rw [← hw4]
      have kc4 : w4.cell? ⟨g, k, none⟩ = some (.int .i64 x) := by rw [hw4]; exact kc
      have pc4 : w4.cell? ⟨b, o + k, none⟩ = some (.int .i64 y) := by rw [hw4]; exact pc
      have c34 : w4.cell? ⟨p, 3, none⟩ = some (.map (some fm)) := by rw [hw4]; exact b3
      have HFM4 := Aside0.mk (show MapI Try.prog 3 w4 fm (mapv Value.string (rfallAll (s.laid.take k) pick s.firm)) from HFM.out.move (by rw [hw4]; rfl))
      have HT4 := Aside0.mk (show Turn (fun j => j = fm) w2 w4 by rw [hw4]; exact HTU.out.drew)
      have HAT4 := Aside0.mk (show Ent.at_ w4 ⟨eg, ecap, el⟩ from Ent.move HAT.out (by rw [hw4]; rfl))
      clear hw4 kc pc b3 b4
      have HSN := Aside0.mk (show rfallAll (s.laid.take (k + 1)) pick s.firm = putPick (x, el) y (rfallAll (s.laid.take k) pick s.firm) by
        rw [List.take_add_one, HQK.out, Option.toList_some, rfallAll_snoc _ _ _ _ y (by rw [List.length_take, Nat.min_eq_left (by have := (List.getElem?_eq_some_iff.1 HQK.out).1; omega)]; exact HY.out)])
      obtain ⟨v, hve⟩ : ∃ v, v = y % ((m : Int) + 1) := ⟨_, rfl⟩
      have hv0 := Int.emod_nonneg y (show ((m : Int) + 1) ≠ 0 by omega)
      have hv1 := Int.emod_lt_of_pos y (show 0 < ((m : Int) + 1) by omega)
      have hro := rem_once y ((m : Int) + 1) (by omega)
      have hti := tmod_in y ((m : Int) + 1) (by omega)
      rw [← hve] at hv0 hv1 hro
      have HVE := Aside0.mk hve
      clear hve
      go_upto_region 6 with (fail)
      obtain ⟨R, hR⟩ : ∃ R, R = y.tmod ((m : Int) + 1) := ⟨_, rfl⟩
      rw [← hR]
      rw [← hR] at hro hti
      clear hR
      by_cases hR0 : R < 0
      · have dR : decide (R < 0) = true := decide_eq_true hR0
        have hRv := hro.1 hR0
        clear hro
        go_upto_region 8 with (fail)
        rw [show R + (m : Int) + 1 = v by omega]
        clear hRv hR0 hti dR
        by_cases hz : v = 0
        case pos =>
          subst hz
          go_wp2
          go_roundw
          case rel =>
            refine ⟨k + 1, by go_num, by omega, ?_, HT4.out⟩
            show MapI _ _ _ _ (mapv Value.string (rfallAll (s.laid.take (k + 1)) pick s.firm))
            have e1 : putPick (x, el) y (rfallAll (s.laid.take k) pick s.firm) = rfallAll (s.laid.take k) pick s.firm := by
              unfold putPick
              simp only
              rw [← HM.out, ← HVE.out, if_neg (by omega)]
            rw [HSN.out, e1]
            exact HFM4.out
          case measure => simp [intOf]; omega
        case neg =>
          obtain ⟨j, rfl⟩ : ∃ j : Nat, v = (j : Int) + 1 := ⟨(v - 1).toNat, by omega⟩
          have hjm : j < m := by omega
          obtain ⟨z, hzz⟩ : ∃ z, el[j]? = some z := ⟨_, List.getElem?_eq_getElem (by rw [← HM.out]; exact hjm)⟩
          have zc := Ent.at_cell HAT4.out hzz
          simp only at zc
          have HZZ := Aside0.mk hzz
          have d3 : decide ((0 : Int) < (j : Int) + 1) = true := decide_eq_true (by omega)
          have wm : IntKind.i64.wrap (j : Int) = (j : Int) := by rw [IntKind.wrap_i64]; omega
          have hi2 := index_row eg m ecap j hjm
          clear hzz hz hv0 hv1
          go_upto_region 9 with (fail)
          go_still_tail 13, (by kernel_rfl)
          change wpList _ _ _ _ _ w4.drew
          clear wm hi2 hi1 hi0
          refine update_i rfl (.tmp 51) (.tmp 55) (.tmp 60) 41 3 9 rfl Try.underlying3 Try.underlying41 fm _ (HFM4.out.move rfl) HFW.out x HXI.out (.string z) rfl rfl rfl ?_
          intro w5 hm5 hg5 hs5
          have HM5 := Aside0.mk hm5
          have HG5 := Aside0.mk hg5
          clear hm5 hg5 hs5
          go_wp2
          go_roundw
          case rel =>
            refine ⟨k + 1, by go_num, by omega, ?_, ?_⟩
            · show MapI _ _ _ _ (mapv Value.string (rfallAll (s.laid.take (k + 1)) pick s.firm))
              have e1 : putPick (x, el) y (rfallAll (s.laid.take k) pick s.firm) = put (rfallAll (s.laid.take k) pick s.firm) x z := by
                unfold putPick
                simp only
                rw [← HM.out, ← HVE.out, if_pos (by omega), show (((j : Int) + 1).toNat - 1) = j by omega, List.getD_eq_getElem?_getD, HZZ.out]
                rfl
              rw [HSN.out, e1, put_mapv]
              exact HM5.out
            · have h4 := HT4.out
              exact ⟨HG5.out.os.trans h4.os, HG5.out.tape.trans h4.tape, HG5.out.output.trans h4.output, Nat.le_trans h4.size HG5.out.size, fun j hj e => (HG5.out.block j (Nat.lt_of_lt_of_le hj h4.size) (fun e2 => e (Option.some.inj e2))).trans (h4.block j hj e)⟩
          case measure => simp [intOf]; omega
      · have dR : decide (R < 0) = false := decide_eq_false hR0
        have hRv := (hro.2 hR0).symm
        subst hRv
        clear hro hti
        go_upto_region 8 with (fail)
        clear dR
        by_cases hz : v = 0
        case pos =>
          subst hz
          go_wp2
          go_roundw
          case rel =>
            refine ⟨k + 1, by go_num, by omega, ?_, HT4.out⟩
            show MapI _ _ _ _ (mapv Value.string (rfallAll (s.laid.take (k + 1)) pick s.firm))
            have e1 : putPick (x, el) y (rfallAll (s.laid.take k) pick s.firm) = rfallAll (s.laid.take k) pick s.firm := by
              unfold putPick
              simp only
              rw [← HM.out, ← HVE.out, if_neg (by omega)]
            rw [HSN.out, e1]
            exact HFM4.out
          case measure => simp [intOf]; omega
        case neg =>
          obtain ⟨j, rfl⟩ : ∃ j : Nat, v = (j : Int) + 1 := ⟨(v - 1).toNat, by omega⟩
          have hjm : j < m := by omega
          obtain ⟨z, hzz⟩ : ∃ z, el[j]? = some z := ⟨_, List.getElem?_eq_getElem (by rw [← HM.out]; exact hjm)⟩
          have zc := Ent.at_cell HAT4.out hzz
          simp only at zc
          have HZZ := Aside0.mk hzz
          have d3 : decide ((0 : Int) < (j : Int) + 1) = true := decide_eq_true (by omega)
          have wm : IntKind.i64.wrap (j : Int) = (j : Int) := by rw [IntKind.wrap_i64]; omega
          have hi2 := index_row eg m ecap j hjm
          clear hzz hz hv0 hv1
          go_upto_region 9 with (fail)
          go_still_tail 13, (by kernel_rfl)
          change wpList _ _ _ _ _ w4.drew
          clear wm hi2 hi1 hi0
          refine update_i rfl (.tmp 51) (.tmp 55) (.tmp 60) 41 3 9 rfl Try.underlying3 Try.underlying41 fm _ (HFM4.out.move rfl) HFW.out x HXI.out (.string z) rfl rfl rfl ?_
          intro w5 hm5 hg5 hs5
          have HM5 := Aside0.mk hm5
          have HG5 := Aside0.mk hg5
          clear hm5 hg5 hs5
          go_wp2
          go_roundw
          case rel =>
            refine ⟨k + 1, by go_num, by omega, ?_, ?_⟩
            · show MapI _ _ _ _ (mapv Value.string (rfallAll (s.laid.take (k + 1)) pick s.firm))
              have e1 : putPick (x, el) y (rfallAll (s.laid.take k) pick s.firm) = put (rfallAll (s.laid.take k) pick s.firm) x z := by
                unfold putPick
                simp only
                rw [← HM.out, ← HVE.out, if_pos (by omega), show (((j : Int) + 1).toNat - 1) = j by omega, List.getD_eq_getElem?_getD, HZZ.out]
                rfl
              rw [HSN.out, e1, put_mapv]
              exact HM5.out
            · have h4 := HT4.out
              exact ⟨HG5.out.os.trans h4.os, HG5.out.tape.trans h4.tape, HG5.out.output.trans h4.output, Nat.le_trans h4.size HG5.out.size, fun j hj e => (HG5.out.block j (Nat.lt_of_lt_of_le hj h4.size) (fun e2 => e (Option.some.inj e2))).trans (h4.block j hj e)⟩
          case measure => simp [intOf]; omega
end Go.Proofs.Ytfjbpjndjcinhaa.Dk
