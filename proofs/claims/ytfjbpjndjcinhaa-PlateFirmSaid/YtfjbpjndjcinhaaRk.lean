/- chancelref16: the disk of the document, in memory; a new one, Full, a step, what was laid last. Over the program alone. -/
import Derived.Test.YtfjbpjndjcinhaaDk6
namespace Go.Proofs.Ytfjbpjndjcinhaa.Dk
open Go Go.RowKit Go.Proofs.Ytfjbpjndjcinhaa.Mp Go.Proofs.Ytfjbpjndjcinhaa.Rg Go.Proofs.YtfjbpjndjcinhaaW.PrintWords Go.Proofs.YtfjbpjndjcinhaaW.PrintMore Go.Proofs.YtfjbpjndjcinhaaW.PrintLast
set_option linter.unusedVariables false
set_option linter.unusedSimpArgs false
/-! ### The state -/
structure RSt where
  n : Nat
  left : Int
  off : Bool
  firm : List (Int × ByteArray)
  laid : List (Int × List ByteArray)
def RSt.in_ (s : RSt) (i : Int) : Bool := !s.off && (decide (0 ≤ i) && decide (i < s.n))
def RSt.firmAt (s : RSt) (i : Int) : ByteArray := (Mp.get s.firm i).getD (full ⟨#[]⟩)
def RSt.now (s : RSt) (i : Int) : ByteArray :=
  match Mp.get s.laid i with
  | some l => lastOf l
  | none => s.firmAt i
def RSt.get (s : RSt) (i : Int) : ByteArray × Bool := if s.in_ i then (s.now i, true) else (⟨#[]⟩, false)
def RSt.step (s : RSt) : RSt × Bool := if s.left = 0 then ({ s with off := true }, false) else ({ s with left := if 0 < s.left then s.left - 1 else s.left }, true)
def RSt.lay (s : RSt) (i : Int) (x : ByteArray) : RSt × Bool :=
  if s.in_ i && decide (x.size ≤ 128) then
    if s.step.2 then ({ s.step.1 with laid := put s.laid i ((Mp.get s.laid i).getD [] ++ [full x]) }, true) else (s.step.1, false)
  else (s, false)
def putAll : List (Int × List ByteArray) → List (Int × ByteArray) → List (Int × ByteArray)
  | [], f => f
  | q :: r, f => putAll r (put f q.1 (lastOf q.2))
def RSt.barrier (s : RSt) : RSt × Bool :=
  if s.off then (s, false) else if s.step.2 then ({ s.step.1 with firm := putAll s.laid s.firm, laid := [] }, true) else (s.step.1, false)
def putPick (q : Int × List ByteArray) (v : Int) (f : List (Int × ByteArray)) : List (Int × ByteArray) :=
  if 0 < v % ((q.2.length : Int) + 1) then put f q.1 (q.2.getD ((v % ((q.2.length : Int) + 1)).toNat - 1) ⟨#[]⟩) else f
def rfallAll : List (Int × List ByteArray) → List Int → List (Int × ByteArray) → List (Int × ByteArray)
  | q :: r, v :: p, f => rfallAll r p (putPick q v f)
  | _, _, f => f
def RSt.fall (s : RSt) (pick : List Int) : RSt := { n := s.n, left := -1, off := false, firm := rfallAll s.laid pick s.firm, laid := [] }
def RSt.new (n : Nat) : RSt := ⟨n, -1, false, [], []⟩
structure RSt.Ok (s : RSt) : Prop where
  n2 : s.n ≤ 16384
  firm : ∀ q ∈ s.firm, 0 ≤ q.1 ∧ q.1 < s.n ∧ q.2.size = 128
  rf : Rising s.firm
  rising : Rising s.laid
  laid : ∀ q ∈ s.laid, 0 ≤ q.1 ∧ q.1 < s.n ∧ q.2 ≠ [] ∧ ∀ x ∈ q.2, x.size = 128
  lo : -1 ≤ s.left
  hi : s.left ≤ 9223372036854775807
/-! ### In memory -/
structure RDiskAt (own : Nat → Prop) (w : World) (p : Nat) (s : RSt) (fm lm : Nat) (Q : List (Int × Ent)) : Prop where
  blk : w.heap[p]? = some (.cells #[.int .i64 (s.n : Int), .int .i64 s.left, .bool s.off, .map (some fm), .map (some lm)] 44 (0, 0))
  firm : MapI Try.prog 3 w fm (mapv Value.string s.firm)
  map : MapI Try.prog 3 w lm (mapv Ent.val Q)
  laid : s.laid = mapv (fun e => e.l) Q
  ents : ∀ q ∈ Q, q.2.at_ w ∧ own q.2.g
  ne : fm ≠ lm
  ownp : own p
  ownf : own fm
  ownm : own lm
structure RDisk (own : Nat → Prop) (w : World) (p : Nat) (s : RSt) : Prop where
  here : ∀ k, own k → k < w.heap.size
  parts : ∃ fm lm Q, RDiskAt own w p s fm lm Q
  ok : s.Ok
section
variable {own own' : Nat → Prop} {w w' : World} {p fm lm : Nat} {s s' : RSt} {Q : List (Int × Ent)}
theorem RDiskAt.move (h : RDiskAt own w p s fm lm Q) (hm : ∀ k, own k → w'.heap[k]? = w.heap[k]?) (ho : ∀ k, own k → own' k) : RDiskAt own' w' p s fm lm Q :=
  ⟨(hm p h.ownp).trans h.blk, h.firm.move (hm fm h.ownf), h.map.move (hm lm h.ownm), h.laid, fun q hq => ⟨Ent.move (h.ents q hq).1 (hm _ (h.ents q hq).2), ho _ (h.ents q hq).2⟩, h.ne, ho _ h.ownp, ho _ h.ownf, ho _ h.ownm⟩
theorem RDisk.apart {own2 : Nat → Prop} (h : RDisk own w p s) (hT : Turn own2 w w') (hd : ∀ k, own k → ¬ own2 k) : RDisk own w' p s := by
  obtain ⟨h1, ⟨fb, bm, Q, hq⟩, h3⟩ := h
  exact ⟨fun k hk => Nat.lt_of_lt_of_le (h1 k hk) hT.size, ⟨fb, bm, Q, hq.move (fun k hk => hT.block k (h1 k hk) (hd k hk)) (fun _ hk => hk)⟩, h3⟩
theorem RDisk.below (h : RDisk own w p s) (hb : Below w.heap.size w w') : RDisk own w' p s := h.apart (own2 := fun _ => False) (Turn.of_below hb) (fun _ _ h => h)
theorem RDisk.more (h : RDisk own w p s) (ho : ∀ k, own k → own' k) (hl : ∀ k, own' k → k < w.heap.size) : RDisk own' w p s := by
  obtain ⟨h1, ⟨fb, bm, Q, hq⟩, h3⟩ := h
  exact ⟨hl, ⟨fb, bm, Q, hq.move (fun _ _ => rfl) ho⟩, h3⟩
theorem RDiskAt.cells (h : RDiskAt own w p s fm lm Q) :
    w.cell? ⟨p, 0, none⟩ = some (.int .i64 (s.n : Int)) ∧ w.cell? ⟨p, 1, none⟩ = some (.int .i64 s.left) ∧ w.cell? ⟨p, 2, none⟩ = some (.bool s.off) ∧ w.cell? ⟨p, 3, none⟩ = some (.map (some fm)) ∧ w.cell? ⟨p, 4, none⟩ = some (.map (some lm)) :=
  ⟨(blk_cell h.blk 0).trans rfl, (blk_cell h.blk 1).trans rfl, (blk_cell h.blk 2).trans rfl, (blk_cell h.blk 3).trans rfl, (blk_cell h.blk 4).trans rfl⟩
theorem RDiskAt.p_ne (h : RDiskAt own w p s fm lm Q) : fm ≠ p ∧ lm ≠ p ∧ ∀ q ∈ Q, q.2.g ≠ p ∧ q.2.g ≠ fm ∧ q.2.g ≠ lm := by
  refine ⟨map_ne h.firm h.blk, map_ne h.map h.blk, fun q hq => ?_⟩
  obtain ⟨cur, hc, _⟩ := (h.ents q hq).1
  exact ⟨fun e => blk_ne hc h.blk (by decide) e, fun e => map_ne h.firm hc e.symm, fun e => map_ne h.map hc e.symm⟩
/-- A field of the disk is set. -/
theorem RDiskAt.field (h : RDiskAt own w p s fm lm Q) (j : Nat) (u : Value) (hn : s'.n = s.n) (hf : s'.firm = s.firm) (hl : s'.laid = s.laid)
    (hc : (#[.int .i64 (s.n : Int), .int .i64 s.left, .bool s.off, .map (some fm), .map (some lm)] : Array Value).setIfInBounds j u = #[.int .i64 (s.n : Int), .int .i64 s'.left, .bool s'.off, .map (some fm), .map (some lm)]) :
    RDiskAt own (w.setCell ⟨p, j, none⟩ u) p s' fm lm Q := by
  obtain ⟨n1, n2, n3⟩ := h.p_ne
  have far : ∀ k, k ≠ p → (w.setCell ⟨p, j, none⟩ u).heap[k]? = w.heap[k]? := fun k hk => Below.heap_setCell w _ u k hk
  refine ⟨?_, by rw [hf]; exact h.firm.move (far _ n1), h.map.move (far _ n2), by rw [hl]; exact h.laid, fun q hq => ⟨Ent.move (h.ents q hq).1 (far _ (n3 q hq).1), (h.ents q hq).2⟩, h.ne, h.ownp, h.ownf, h.ownm⟩
  rw [hn]
  exact blk_put h.blk j u hc
theorem RSt.step_ok (h : s.Ok) : s.step.1.Ok := by
  unfold RSt.step
  split
  · exact ⟨h.n2, h.firm, h.rf, h.rising, h.laid, h.lo, h.hi⟩
  · have h1 := h.lo
    have h2 := h.hi
    refine ⟨h.n2, h.firm, h.rf, h.rising, h.laid, ?_, ?_⟩
    · show -1 ≤ if 0 < s.left then s.left - 1 else s.left
      split <;> omega
    · show (if 0 < s.left then s.left - 1 else s.left) ≤ _
      split <;> omega
set_option maxHeartbeats 400000 in
theorem rstep_any (h : RDisk own w p s) : Calls Try.prog 30 #[.pointer (some ⟨p, 0, none⟩)] w fun e w' => e = .returned (.bool s.step.2) ∧ RDisk own w' p s.step.1 ∧ Turn own w w' ∧ w'.heap.size = w.heap.size := by
  have hok := h.ok
  obtain ⟨hh, ⟨fb, bm, Q, hq⟩, _⟩ := h
  obtain ⟨c0, c1, c2, c3, c4⟩ := hq.cells
  have f1 := blk_frozen hq.blk 1
  have f2 := blk_frozen hq.blk 2
  have hlo := hok.lo
  have hhi := hok.hi
  have HQ := Aside0.mk hq
  have HK := Aside0.mk (RSt.step_ok hok)
  have HH := Aside0.mk hh
  clear hq hok hh
  by_cases h0 : s.left = 0
  · have e : s.step = ({ s with off := true }, false) := by unfold RSt.step; rw [if_pos h0]
    rw [e] at HK ⊢
    rw [h0] at c1
    clear h0 e hlo hhi
    go_enter Try.func30, Try.ntmps30
    go_wp2
    go_ret
    exact ⟨rfl, ⟨fun k hk => by rw [World.size_setCell]; exact HH.out k hk, ⟨fb, bm, Q, HQ.out.field 2 _ rfl rfl rfl rfl⟩, HK.out⟩, (Turn.refl _ _).set (a := ⟨p, 2, none⟩) HQ.out.ownp _, World.size_setCell _ _ _⟩
  · have e : s.step = ({ s with left := if 0 < s.left then s.left - 1 else s.left }, true) := by unfold RSt.step; rw [if_neg h0]
    rw [e] at HK ⊢
    have hb : (s.left == 0) = false := by simpa using h0
    by_cases hp : 0 < s.left
    · have d1 : decide (0 < s.left) = true := decide_eq_true hp
      rw [if_pos hp] at HK ⊢
      clear h0 e
      go_enter Try.func30, Try.ntmps30
      go_wp2
      go_ret
      refine ⟨rfl, ⟨fun k hk => by rw [World.size_setCell]; exact HH.out k hk, ⟨fb, bm, Q, HQ.out.field 1 _ rfl rfl rfl ?_⟩, HK.out⟩, (Turn.refl _ _).set (a := ⟨p, 1, none⟩) HQ.out.ownp _, World.size_setCell _ _ _⟩
      all_goals rfl
    · have d1 : decide (0 < s.left) = false := decide_eq_false hp
      rw [if_neg hp] at HK ⊢
      clear h0 e
      go_enter Try.func30, Try.ntmps30
      go_wp2
      go_ret
      exact ⟨rfl, ⟨HH.out, ⟨fb, bm, Q, HQ.out⟩, HK.out⟩, Turn.refl _ _, rfl⟩
theorem RSt.new_ok {n : Nat} (h2 : n ≤ 16384) : (RSt.new n).Ok :=
  ⟨h2, (fun q hq => by cases hq), rising_nil, rising_nil, (fun q hq => by cases hq), (by show (-1 : Int) ≤ -1; decide), (by show (-1 : Int) ≤ _; decide)⟩
set_option maxHeartbeats 800000 in
theorem rnew_any (n : Nat) (w : World) (h1 : 1 ≤ n) (h2 : n ≤ 16384) : Calls Try.prog 10 #[.int .i64 (n : Int)] w fun e w' => ∃ p, e = .returned (.tuple #[.pointer (some ⟨p, 0, none⟩), .bool true]) ∧ RDisk (Since w w') w' p (RSt.new n) ∧ Below w.heap.size w w' := by
  have hmm := @run_makeMap Try.prog
  have d1 : decide ((n : Int) < 1) = false := decide_eq_false (by omega)
  have d2 : decide (n < 1) = false := decide_eq_false (by omega)
  have d3 : decide (16384 < (n : Int)) = false := decide_eq_false (by omega)
  have d4 : decide (16384 < n) = false := decide_eq_false (by omega)
  have HO := Aside0.mk (RSt.new_ok h2)
  clear h1 h2
  go_enter Try.func10, Try.ntmps10
  go_wp2
  go_ret2
  refine ⟨w.heap.size + 2, rfl, ⟨?_, ⟨w.heap.size, w.heap.size + 1, [], ?_⟩, HO.out⟩, ?_⟩
  · rintro k ⟨_, hk⟩
    exact hk
  · refine ⟨?_, ?_, ?_, rfl, fun q hq => (by cases hq), by omega, ⟨by omega, by simp⟩, ⟨Nat.le_refl _, by simp; omega⟩, ⟨by omega, by simp⟩⟩
    · have := heap_alloc_new ((w.alloc (.map #[] 0)).alloc (.map #[] 0)) (.cells #[.int .i64 (n : Int), .int .i64 (-1), .bool false, .map (some w.heap.size), .map (some (w.heap.size + 1))] 44)
      rw [show ((w.alloc (.map #[] 0)).alloc (.map #[] 0)).heap.size = w.heap.size + 2 by simp] at this
      exact this
    · have hm := MapI.made w Try.prog 3
      exact (hm.move (Below.heap_alloc _ _ _ (by simp))).move (Below.heap_alloc _ _ _ (by simp; omega))
    · have hm := MapI.made (w.alloc (.map #[] 0)) Try.prog 3
      rw [show (w.alloc (.map #[] 0)).heap.size = w.heap.size + 1 by simp] at hm
      exact hm.move (Below.heap_alloc _ _ _ (by simp))
  · exact below_alloc (below_alloc (below_alloc (Below.refl _ _) _) _) _
theorem rnew_no (n : Int) (w : World) (h : n < 1 ∨ 16384 < n) : Calls Try.prog 10 #[.int .i64 n] w fun e w' => e = .returned (.tuple #[.pointer none, .bool false]) ∧ w' = w := by
  rcases h with h | h
  · have d1 : decide (n < 1) = true := decide_eq_true (by omega)
    clear h
    go_enter Try.func10, Try.ntmps10
    go_wp2
    go_ret2
    exact ⟨rfl, rfl⟩
  · have d1 : decide (n < 1) = false := decide_eq_false (by omega)
    have d2 : decide (16384 < n) = true := decide_eq_true h
    clear h
    go_enter Try.func10, Try.ntmps10
    go_wp2
    go_ret2
    exact ⟨rfl, rfl⟩
/-! ### Full -/
theorem info_byte : (Try.prog.info? 5).map (fun i => (i.zero, i.size, i.bytes)) = some (some (.int .u8 0), 1, 1) := by kernel_rfl
theorem zeros_nums (n : Nat) : strOfNums (List.replicate n 0) = zeros n := by
  unfold strOfNums zeros
  congr 1
  simp
set_option maxHeartbeats 400000 in
theorem full_any (x : ByteArray) (w : World) (hx : x.size ≤ 128) : Calls Try.prog 31 #[.string x] w fun e w' => e = .returned (.string (full x)) ∧ Below w.heap.size w w' := by
  obtain ⟨m, hm⟩ : ∃ m, m = 128 - x.size := ⟨_, rfl⟩
  have hmx : (128 : Int) - (x.size : Int) = (m : Int) := by omega
  obtain ⟨Z, hZ⟩ : ∃ Z, Z = zeros m := ⟨_, rfl⟩
  have z1 : Z.size = m := by rw [hZ, zeros_size]
  have hf : full x = x ++ Z := by unfold full; rw [hZ, hm]
  have e1 : x.size + Z.size ≤ 9223372036854775807 := by omega
  have e2 := eq_false (show ¬ 9223372036854775807 < x.size + Z.size by omega)
  have HF := Aside0.mk hf
  have hZ2 : strOfNums (List.replicate ((128 : Int) - (x.size : Int)).toNat 0) = Z := by rw [hmx, Int.toNat_natCast, zeros_nums, hZ]
  have HZ := Aside0.mk hZ2
  clear hf hm hZ hZ2
  have HMX := Aside0.mk hmx
  clear hmx
  go_enter Try.func31, Try.ntmps31
  go_wp2_with ((with_reducible refine gate_dst (N := 7) rfl ?_); refine Kd.R_make (Kd.int .u8) _ 5 rfl (N := 7) rfl 63 _ _ rfl _ rfl rfl Try.underlying63 (.int .u8 0) 1 info_byte rfl (by decide) (by omega) 0 (ok := fun _ => True) (okp := fun _ => True) rfl (fun _ hk => hk) trivial (by omega) (by omega) (Below.refl _ _) (Nat.le_refl _) ?_; intro v1 w1 ho8 hb hg_ hnew_; have HO := Aside0.mk ho8; have HB1 := Aside0.mk hb; have hcv := own_string (P := Try.prog) Try.underlying63 Try.underlying5 Try.underlying9 (Kd.own_of_R HO.out); rw [HZ.out] at hcv; clear ho8 hb hg_ hnew_)
  go_ret
  exact ⟨by rw [HF.out]; rfl, HB1.out⟩
end
end Go.Proofs.Ytfjbpjndjcinhaa.Dk
