/- chancelref16: Lay. Over the program alone. -/
import Derived.Test.YtfjbpjndjcinhaaRk3
namespace Go.Proofs.Ytfjbpjndjcinhaa.Dk
open Go Go.RowKit Go.Proofs.Ytfjbpjndjcinhaa.Mp Go.Proofs.Ytfjbpjndjcinhaa.Rg Go.Proofs.YtfjbpjndjcinhaaW.PrintWords Go.Proofs.YtfjbpjndjcinhaaW.PrintMore Go.Proofs.YtfjbpjndjcinhaaW.PrintLast
set_option linter.unusedVariables false
set_option linter.unusedSimpArgs false
theorem info_string : (Try.prog.info? 9).map (fun i => (i.zero, i.size, i.bytes)) = some (some (.string ⟨#[]⟩), 1, 16) := by kernel_rfl
theorem append_none {P : Program} (W : World) (g t ty e : Nat) (i0 : TypeInfo) (ht : P.underlying t = some (.slice e)) (hi : P.info? e = some i0) : (Builtin.append_ #[t, t] ty #[.slice (some ⟨g, 0, none⟩) 0 0, .slice none 0 0]).run P W = .ok (.slice (some ⟨g, 0, none⟩) 0 0) W := by
  simp [Builtin.append_, run_underlying ht, sizeOf, typeInfo, hi, Builtin.lenOf, Builtin.firstCells, loadCells, loadCellsFrom, storeCells]
/-! ### The store into the map of rows -/
def RV (p lm : Nat) (i : Int) (x : ByteArray) (u : Value) : Nat → Value → Prop
  | 0, v => v = .pointer (some ⟨p, 0, none⟩)
  | 1, v => v = .pointer (some ⟨p, 0, none⟩)
  | 2, v => v = .pointer (some ⟨p, 4, none⟩)
  | 3, v => v = .map (some lm)
  | 4, v => v = .int .i64 i
  | 6, v => v = .pointer (some ⟨p, 0, none⟩)
  | 7, v => v = .pointer (some ⟨p, 0, none⟩)
  | 8, v => v = .pointer (some ⟨p, 4, none⟩)
  | 9, v => v = .map (some lm)
  | 10, v => v = .int .i64 i
  | 11, v => v = u
  | 13, v => v = .string x
  | 14, v => v = .string (full x)
  | _, _ => True
/-- Behind the store. -/
def RC (lm : Nat) (i : Int) (l : List ByteArray) (y : ByteArray) (w1 : World) (M : List (Int × Value)) (W : World) : Prop :=
  ∃ v W2, Below w1.heap.size w1 W2 ∧ W2.ownsRow w1.heap.size 9 1 v (l.length + 1) ((l ++ [y]).map Value.string) ∧ MapI Try.prog 3 W lm (put M i v) ∧ W2.grownBy W (some lm) ∧ W.heap.size = W2.heap.size
structure RJ (p lm : Nat) (i : Int) (x : ByteArray) (u : Value) (l : List ByteArray) (w1 : World) (M : List (Int × Value)) (D : Nat → Bool) (f : Nat → Value) (W : World) : Prop where
  val : ∀ j, D j = true → RV p lm i x u j (f j)
  a : D 17 = false → Below w1.heap.size w1 W
  lit5 : D 5 = true → D 12 = false → ∃ g, f 5 = .slice (some ⟨g, 0, none⟩) 0 0 ∧ W.heap[g]? = some (.cells #[] 9 (0, 0)) ∧ w1.heap.size ≤ g
  lit15 : D 15 = true → D 16 = false → ∃ g, f 15 = .slice (some ⟨g, 0, none⟩) 1 1 ∧ W.heap[g]? = some (.cells #[.string (full x)] 9 (0, 0)) ∧ w1.heap.size ≤ g ∧ (D 5 = true → D 12 = false → (f 5).ownBlock ≠ some g)
  ap12 : D 12 = true → D 16 = false → W.ownsRow w1.heap.size 9 1 (f 12) l.length (l.map Value.string)
  b : D 16 = true → D 17 = false → W.ownsRow w1.heap.size 9 1 (f 16) (l.length + 1) ((l ++ [full x]).map Value.string)
  c : D 17 = true → RC lm i l (full x) w1 M W
section
variable {p lm : Nat} {i : Int} {x : ByteArray} {u : Value} {l : List ByteArray} {w1 : World} {M : List (Int × Value)} {D : Nat → Bool} {f : Nat → Value} {W : World}
theorem RJ.start (p lm : Nat) (i : Int) (x : ByteArray) (u : Value) (l : List ByteArray) (w1 : World) (M : List (Int × Value)) : RJ p lm i x u l w1 M (fun _ => false) (fun _ => undef) w1.drew :=
  ⟨fun _ h => by (cases h), fun _ => below_drew (Below.refl _ _), fun h => by (cases h), fun h => by (cases h), fun h => by (cases h), fun h => by (cases h), fun h => by (cases h)⟩
theorem RJ.vals {k : Nat} {v : Value} (h : RJ p lm i x u l w1 M D f W) (hv : RV p lm i x u k v) : ∀ j, upd D k true j = true → RV p lm i x u j (upd f k v j) := fun j hj => by
  by_cases e : j = k
  · subst e
    rw [upd_self]
    exact hv
  · rw [upd_ne e] at hj ⊢
    exact h.val j hj
theorem RJ.same {k : Nat} {v : Value} (h : RJ p lm i x u l w1 M D f W) (hk : k ≠ 5 ∧ k ≠ 12 ∧ k ≠ 15 ∧ k ≠ 16 ∧ k ≠ 17) (hv : RV p lm i x u k v) : RJ p lm i x u l w1 M (upd D k true) (upd f k v) W := by
  obtain ⟨k5, k12, k15, k16, k17⟩ := hk
  refine ⟨h.vals hv, ?_, ?_, ?_, ?_, ?_, ?_⟩
  · rw [upd_ne (Ne.symm k17)]
    exact h.a
  · rw [upd_ne (Ne.symm k5), upd_ne (Ne.symm k12), upd_ne (Ne.symm k5)]
    exact h.lit5
  · rw [upd_ne (Ne.symm k15), upd_ne (Ne.symm k16), upd_ne (Ne.symm k15), upd_ne (Ne.symm k5), upd_ne (Ne.symm k12), upd_ne (Ne.symm k5)]
    exact h.lit15
  · rw [upd_ne (Ne.symm k12), upd_ne (Ne.symm k16), upd_ne (Ne.symm k12)]
    exact h.ap12
  · rw [upd_ne (Ne.symm k16), upd_ne (Ne.symm k17), upd_ne (Ne.symm k16)]
    exact h.b
  · rw [upd_ne (Ne.symm k17)]
    exact h.c
theorem no_true {D : Nat → Bool} {k : Nat} {A : Prop} (h : D k = false) : D k = true → A := fun h1 => by
  rw [h] at h1
  cases h1
theorem RJ.move {k : Nat} {v : Value} {W' : World} (h : RJ p lm i x u l w1 M D f W) (n15 : D 15 = false) (n16 : D 16 = false) (n17 : D 17 = false) (hk : k ≠ 5 ∧ k ≠ 12 ∧ k ≠ 15 ∧ k ≠ 16 ∧ k ≠ 17) (hv : RV p lm i x u k v) (hb : Below W.heap.size W W') : RJ p lm i x u l w1 M (upd D k true) (upd f k v) W' := by
  obtain ⟨k5, k12, k15, k16, k17⟩ := hk
  refine ⟨h.vals hv, ?_, ?_, ?_, ?_, ?_, ?_⟩
  · rw [upd_ne (Ne.symm k17)]
    intro h1
    exact below_step (h.a h1) hb
  · rw [upd_ne (Ne.symm k5), upd_ne (Ne.symm k12), upd_ne (Ne.symm k5)]
    intro h1 h2
    obtain ⟨g, e1, e2, e3⟩ := h.lit5 h1 h2
    exact ⟨g, e1, blk_below e2 hb, e3⟩
  · rw [upd_ne (Ne.symm k15)]
    exact no_true n15
  · rw [upd_ne (Ne.symm k12), upd_ne (Ne.symm k16), upd_ne (Ne.symm k12)]
    intro h1 h2
    exact own_below (h.ap12 h1 h2) hb
  · rw [upd_ne (Ne.symm k16)]
    exact no_true n16
  · rw [upd_ne (Ne.symm k17)]
    exact no_true n17
theorem RJ.lit_5 (h : RJ p lm i x u l w1 M D f W) (n12 : D 12 = false) (n16 : D 16 = false) (n17 : D 17 = false) : RJ p lm i x u l w1 M (upd D 5 true) (upd f 5 (.slice (some ⟨W.heap.size, 0, none⟩) 0 0)) (W.alloc (.cells #[] 9)) := by
  have ha := h.a n17
  refine ⟨h.vals trivial, ?_, ?_, ?_, ?_, ?_, ?_⟩
  · intro _
    exact below_alloc ha _
  · intro _ _
    exact ⟨W.heap.size, upd_self _ _ _, heap_alloc_new W _, ha.size⟩
  · rw [upd_ne (by omega), upd_ne (by omega), upd_ne (by omega), upd_self]
    intro h1 h2
    obtain ⟨g, e1, e2, e3, _⟩ := h.lit15 h1 h2
    exact ⟨g, e1, blk_alloc e2 _, e3, fun _ _ e => by have := blk_lt e2; have e : some W.heap.size = some g := e; cases e; omega⟩
  · rw [upd_ne (by omega)]
    exact no_true n12
  · rw [upd_ne (by omega)]
    exact no_true n16
  · rw [upd_ne (by omega)]
    exact no_true n17
theorem RJ.lit_15 (h : RJ p lm i x u l w1 M D f W) (n15 : D 15 = false) (n16 : D 16 = false) (n17 : D 17 = false) : RJ p lm i x u l w1 M (upd D 15 true) (upd f 15 (.slice (some ⟨W.heap.size, 0, none⟩) 1 1)) (W.alloc (.cells #[.string (full x)] 9)) := by
  have ha := h.a n17
  refine ⟨h.vals trivial, ?_, ?_, ?_, ?_, ?_, ?_⟩
  · intro _
    exact below_alloc ha _
  · rw [upd_ne (by omega), upd_ne (by omega), upd_ne (by omega)]
    intro h1 h2
    obtain ⟨g, e1, e2, e3⟩ := h.lit5 h1 h2
    exact ⟨g, e1, blk_alloc e2 _, e3⟩
  · intro _ _
    refine ⟨W.heap.size, upd_self _ _ _, heap_alloc_new W _, ha.size, ?_⟩
    rw [upd_ne (by omega), upd_ne (by omega), upd_ne (by omega)]
    intro h1 h2 e
    obtain ⟨g, e1, e2, _⟩ := h.lit5 h1 h2
    rw [e1] at e
    have e : some g = some W.heap.size := e
    cases e
    have := blk_lt e2
    omega
  · rw [upd_ne (by omega), upd_ne (by omega), upd_ne (by omega)]
    intro h1 h2
    exact own_below (h.ap12 h1 h2) (below_alloc (Below.refl _ _) _)
  · rw [upd_ne (by omega)]
    exact no_true n16
  · rw [upd_ne (by omega)]
    exact no_true n17
theorem RJ.app0 {g : Nat} (h : RJ p lm i x u l w1 M D f W) (n12 : D 12 = false) (n16 : D 16 = false) (n17 : D 17 = false) (g5 : D 5 = true) (hg : W.heap[g]? = some (.cells #[] 9 (0, 0))) (hge : w1.heap.size ≤ g) (hl : l = []) :
    RJ p lm i x u l w1 M (upd D 12 true) (upd f 12 (.slice (some ⟨g, 0, none⟩) 0 0)) W := by
  refine ⟨h.vals trivial, ?_, ?_, ?_, ?_, ?_, ?_⟩
  · rw [upd_ne (by omega)]
    exact h.a
  · rw [upd_self]
    intro _ h2
    cases h2
  · rw [upd_ne (by omega), upd_ne (by omega), upd_ne (by omega), upd_self]
    intro h1 h2
    obtain ⟨g', e1, e2, e3, _⟩ := h.lit15 h1 h2
    exact ⟨g', e1, e2, e3, fun _ h3 => by cases h3⟩
  · intro _ _
    rw [upd_self, hl]
    exact ⟨rfl, .inr ⟨g, 0, #[], rfl, hge, hg, Nat.le_refl _, Nat.zero_le _, rfl, rfl⟩⟩
  · rw [upd_ne (by omega)]
    exact no_true n16
  · rw [upd_ne (by omega)]
    exact no_true n17
theorem own_at {w : World} {e n B : Nat} {v : Value} {xs : List Value} (h : w.ownsRow 0 e 1 v n xs) (hB : ∀ k, v.ownBlock = some k → B ≤ k) : w.ownsRow B e 1 v n xs := by
  refine ⟨h.1, ?_⟩
  rcases h.2 with h2 | ⟨g, cap, cur, rfl, _, r⟩
  · exact .inl h2
  · exact .inr ⟨g, cap, cur, rfl, hB g rfl, r⟩
theorem RJ.app12 {g : Nat} {v' : Value} {w' : World} (h : RJ p lm i x u l w1 M D f W) (n12 : D 12 = false) (n16 : D 16 = false) (n17 : D 17 = false) (g5 : D 5 = true) (eg : f 5 = .slice (some ⟨g, 0, none⟩) 0 0) (hge : w1.heap.size ≤ g)
    (ho : w'.ownsRow 0 9 1 v' l.length (l.map Value.string)) (hg : W.grownBy w' (Value.ownBlock (.slice (some ⟨g, 0, none⟩) 0 0))) (hloc : v'.ownBlock = Value.ownBlock (.slice (some ⟨g, 0, none⟩) 0 0) ∨ v'.ownBlock = some W.heap.size) :
    RJ p lm i x u l w1 M (upd D 12 true) (upd f 12 v') w' := by
  have ha := h.a n17
  refine ⟨h.vals trivial, ?_, ?_, ?_, ?_, ?_, ?_⟩
  · intro _
    exact ha.grown hg ha.size (fun j hj => by cases hj; exact hge)
  · rw [upd_self]
    intro _ h2
    cases h2
  · rw [upd_ne (by omega), upd_ne (by omega), upd_ne (by omega), upd_self]
    intro h1 h2
    obtain ⟨g', e1, e2, e3, e4⟩ := h.lit15 h1 h2
    refine ⟨g', e1, blk_grown e2 hg (fun e => ?_), e3, fun _ h3 => by cases h3⟩
    have := e4 g5 n12
    rw [eg] at this
    exact this e.symm
  · intro _ _
    rw [upd_self]
    refine own_at ho (fun k hk => ?_)
    rcases hloc with e | e
    · rw [e] at hk
      cases hk
      exact hge
    · rw [e] at hk
      cases hk
      exact ha.size
  · rw [upd_ne (by omega)]
    exact no_true n16
  · rw [upd_ne (by omega)]
    exact no_true n17
theorem RJ.app16 {v' : Value} {w' : World} (h : RJ p lm i x u l w1 M D f W) (n16 : D 16 = false) (n17 : D 17 = false) (g12 : D 12 = true)
    (ho : w'.ownsRow 0 9 1 v' (l.length + 1) (l.map Value.string ++ [.string (full x)])) (hg : W.grownBy w' (f 12).ownBlock) (hloc : v'.ownBlock = (f 12).ownBlock ∨ v'.ownBlock = some W.heap.size) :
    RJ p lm i x u l w1 M (upd D 16 true) (upd f 16 v') w' := by
  have ha := h.a n17
  have h12 := h.ap12 g12 n16
  refine ⟨h.vals trivial, ?_, ?_, ?_, ?_, ?_, ?_⟩
  · intro _
    exact ha.grown hg ha.size (own_base h12)
  · rw [upd_ne (by omega), upd_ne (by omega)]
    intro _ h2
    rw [g12] at h2
    cases h2
  · rw [upd_self]
    intro _ h2
    cases h2
  · rw [upd_self]
    intro _ h2
    cases h2
  · intro _ _
    rw [upd_self, List.map_append]
    refine own_at ho (fun k hk => ?_)
    rcases hloc with e | e
    · rw [e] at hk
      exact own_base h12 k hk
    · rw [e] at hk
      cases hk
      exact ha.size
  · rw [upd_ne (by omega)]
    exact no_true n17
theorem RJ.done {v : Value} {w' : World} (h : RJ p lm i x u l w1 M D f W) (g12 : D 12 = true) (g16 : D 16 = true) (n17 : D 17 = false) (hm : MapI Try.prog 3 w' lm (put M i (f 16))) (hg : W.grownBy w' (some lm)) (hs : w'.heap.size = W.heap.size) :
    RJ p lm i x u l w1 M (upd D 17 true) (upd f 17 v) w' := by
  have hlt : ∀ {A : Prop}, D 16 = false → A := fun h1 => by rw [g16] at h1; cases h1
  refine ⟨h.vals trivial, ?_, ?_, ?_, ?_, ?_, ?_⟩
  · rw [upd_self]
    intro h2
    cases h2
  · rw [upd_ne (by omega), upd_ne (by omega), upd_ne (by omega)]
    intro _ h2
    rw [g12] at h2
    cases h2
  · rw [upd_ne (by omega), upd_ne (by omega)]
    intro _ h2
    exact hlt h2
  · rw [upd_ne (by omega), upd_ne (by omega)]
    intro _ h2
    exact hlt h2
  · rw [upd_self]
    intro _ h2
    cases h2
  · intro _
    exact ⟨f 16, W, h.a n17, h.b g16 n17, hm, hg, hs⟩
end
theorem RSt.lay_ok {s : RSt} (h : s.Ok) (i : Int) (x : ByteArray) : (s.lay i x).1.Ok := by
  unfold RSt.lay
  split
  · rename_i hc
    rw [Bool.and_eq_true] at hc
    obtain ⟨_, h0, h1⟩ := in_iff hc.1
    have hx : x.size ≤ 128 := by simpa using hc.2
    have hs := RSt.step_ok h
    split
    · have en : s.step.1.n = s.n := by unfold RSt.step; split <;> rfl
      refine ⟨hs.n2, hs.firm, hs.rf, rising_put h.rising _ _, fun q hq => ?_, hs.lo, hs.hi⟩
      show 0 ≤ q.1 ∧ q.1 < (s.step.1.n : Int) ∧ _
      rw [en]
      rcases mem_put.1 hq with rfl | ⟨hq, _⟩
      · refine ⟨h0, h1, by simp, fun y hy => ?_⟩
        rcases List.mem_append.1 hy with hy | hy
        · cases hg : Mp.get s.laid i with
          | none => rw [hg] at hy; cases hy
          | some l =>
            rw [hg] at hy
            exact (h.laid _ (get_mem hg)).2.2.2 y hy
        · rw [List.mem_singleton.1 hy]
          exact full_size hx
      · exact h.laid q hq
    · exact hs
  · exact h
theorem rlay_end {own : Nat → Prop} {w w1 W : World} {p fm lm : Nat} {s s1 : RSt} {Q : List (Int × Ent)} {i : Int} {x : ByteArray} {l : List ByteArray} (hd : RDisk own w1 p s1) (hT : Turn own w w1 ∧ w1.heap.size = w.heap.size) (hq : RDiskAt own w1 p s1 fm lm Q)
    (hf : s1.n = (s.lay i x).1.n ∧ s1.firm = (s.lay i x).1.firm ∧ s1.left = (s.lay i x).1.left ∧ s1.off = (s.lay i x).1.off) (hl : (s.lay i x).1.laid = put s1.laid i (l ++ [full x])) (hok : s.Ok)
    (h : RC lm i l (full x) w1 (mapv Ent.val Q) W) : RDisk (More own w W) W p (s.lay i x).1 ∧ Turn own w W := by
  obtain ⟨v, W2, hb, ho, hm, hg2, hsz⟩ := h
  obtain ⟨n1, n2, n3⟩ := hq.p_ne
  obtain ⟨g, cap, cur, rfl, hgB, hgv, hcap⟩ : ∃ g cap cur, v = .slice (some ⟨g, 0, none⟩) (l.length + 1) cap ∧ w1.heap.size ≤ g ∧ W2.heap[g]? = some (.cells cur 9 (0, 0)) ∧ (l.length + 1 ≤ cap ∧ cap ≤ maxLen ∧ cur.size = cap ∧ cur.toList.take (l.length + 1) = (l ++ [full x]).map Value.string) := by
    rcases ho.2 with ⟨_, h0⟩ | ⟨g, cap, cur, e, hB, h1, h2, h3, h4, h5⟩
    · omega
    · exact ⟨g, cap, cur, e, hB, h1, h2, h3, by omega, by rw [Nat.mul_one] at h5; exact h5⟩
  have far : ∀ k, k < w1.heap.size → k ≠ lm → W.heap[k]? = w1.heap[k]? := fun k hk h1 =>
    (hg2.block k (Nat.lt_of_lt_of_le hk hb.size) (fun e => h1 (Option.some.inj e))).trans (hb.block k hk)
  have hlm : lm < w1.heap.size := hq.map.lt
  have hWg : W.heap[g]? = some (.cells cur 9 (0, 0)) := (hg2.block g (blk_lt hgv) (fun e => by have e := Option.some.inj e; omega)).trans hgv
  have hsize : w.heap.size ≤ W.heap.size := by rw [hsz, ← hT.2]; exact hb.size
  have hturn : Turn own w1 W := ⟨hg2.os.trans hb.os, hg2.tape.trans hb.tape, hg2.output.trans hb.output, by rw [hsz]; exact hb.size, fun k hk ho' => far k hk (fun e => ho' (by rw [e]; exact hq.ownm))⟩
  have hlt : ∀ q ∈ Q, q.2.g < w1.heap.size := fun q hq' => hd.here _ (hq.ents q hq').2
  refine ⟨⟨more_lt (fun k hk => by rw [← hT.2]; exact hd.here k hk) hsize, ⟨fm, lm, put Q i ⟨g, cap, l ++ [full x]⟩, ?_⟩, RSt.lay_ok hok i x⟩, ?_⟩
  · refine ⟨?_, ?_, ?_, ?_, ?_, hq.ne, .inl hq.ownp, .inl hq.ownf, .inl hq.ownm⟩
    · rw [far p (blk_lt hq.blk) (fun e => n2 e.symm), hq.blk, hf.1, hf.2.2.1, hf.2.2.2]
    · rw [← hf.2.1]
      exact hq.firm.move (far fm hq.firm.lt hq.ne)
    · rw [put_mapv]
      have ev : Ent.val ⟨g, cap, l ++ [full x]⟩ = .slice (some ⟨g, 0, none⟩) (l.length + 1) cap := by simp [Ent.val]
      rw [ev]
      exact hm
    · rw [hl, put_mapv, hq.laid]
    · intro q hq'
      rcases mem_put.1 hq' with rfl | ⟨hq', hne⟩
      · exact ⟨⟨cur, hWg, by simpa using hcap.1, hcap.2.1, hcap.2.2.1, by simpa using hcap.2.2.2⟩, .inr ⟨by rw [← hT.2]; exact hgB, blk_lt hWg⟩⟩
      · exact ⟨Ent.move (hq.ents q hq').1 (far _ (hlt q hq') (n3 q hq').2.2), .inl (hq.ents q hq').2⟩
  · exact hT.1.trans (hturn.mono (fun k hk => .inl hk))
theorem rlay_no {own : Nat → Prop} {w : World} {p : Nat} {s : RSt} (h : RDisk own w p s) (i : Int) (x : ByteArray) (hn : (s.in_ i && decide (x.size ≤ 128)) = false) : Calls Try.prog 17 #[.pointer (some ⟨p, 0, none⟩), .int .i64 i, .string x] w fun e w' => e = .returned (.bool false) ∧ w' = w := by
  obtain ⟨hh, ⟨fm, lm, Q, hq⟩, _⟩ := h
  obtain ⟨c0, c1, c2, c3, c4⟩ := hq.cells
  clear c1 c3 c4
  cases ht : s.in_ i with
  | false =>
    rcases in_not ht with ho | ⟨ho, h0⟩ | ⟨ho, h0, h1⟩
    · rw [ho] at c2
      clear hq ht hh ho hn
      go_enter Try.func17, Try.ntmps17
      go_wp2
      go_ret
      exact ⟨rfl, rfl⟩
    · rw [ho] at c2
      have d1 : decide (i < 0) = true := decide_eq_true h0
      clear hq ht hh ho hn
      go_enter Try.func17, Try.ntmps17
      go_wp2
      go_ret
      exact ⟨rfl, rfl⟩
    · rw [ho] at c2
      have d1 : decide (i < 0) = false := decide_eq_false h0
      have d2 : decide ((s.n : Int) ≤ i) = true := decide_eq_true h1
      clear hq ht hh ho hn
      go_enter Try.func17, Try.ntmps17
      go_wp2
      go_ret
      exact ⟨rfl, rfl⟩
  | true =>
    rw [ht] at hn
    obtain ⟨ho, h0, h1⟩ := in_iff ht
    rw [ho] at c2
    have hx : 128 < x.size := by simpa using hn
    have d1 : decide (i < 0) = false := decide_eq_false (by omega)
    have d2 : decide ((s.n : Int) ≤ i) = false := decide_eq_false (by omega)
    have d3 : decide (128 < x.size) = true := decide_eq_true hx
    have d4 : decide (128 < (x.size : Int)) = true := decide_eq_true (by omega)
    clear hq ht hh ho hn hx h0 h1
    go_enter Try.func17, Try.ntmps17
    go_wp2
    go_ret
    exact ⟨rfl, rfl⟩
theorem rlay_off {own : Nat → Prop} {w : World} {p : Nat} {s : RSt} (h : RDisk own w p s) (i : Int) (x : ByteArray) (hn : (s.in_ i && decide (x.size ≤ 128)) = true) (hs : s.step.2 = false) : Calls Try.prog 17 #[.pointer (some ⟨p, 0, none⟩), .int .i64 i, .string x] w fun e w' => e = .returned (.bool false) ∧ RDisk own w' p s.step.1 ∧ Turn own w w' ∧ w'.heap.size = w.heap.size := by
  have hS := Aside0.mk (rstep_any h)
  obtain ⟨hh, ⟨fm, lm, Q, hq⟩, _⟩ := h
  obtain ⟨c0, c1, c2, c3, c4⟩ := hq.cells
  rw [Bool.and_eq_true] at hn
  rw [hs] at hS
  obtain ⟨ho, h0, h1⟩ := in_iff hn.1
  rw [ho] at c2
  have hx : x.size ≤ 128 := by simpa using hn.2
  have d1 : decide (i < 0) = false := decide_eq_false (by omega)
  have d2 : decide ((s.n : Int) ≤ i) = false := decide_eq_false (by omega)
  have d3 : decide (128 < x.size) = false := decide_eq_false (by omega)
  have d4 : decide (128 < (x.size : Int)) = false := decide_eq_false (by omega)
  clear hn hs hx ho h0 h1 hq hh c1 c3 c4
  go_enter Try.func17, Try.ntmps17
  go_wp2_with (go_at_call 30; (with_reducible refine hS.out.mono ?_); rintro e w1 ⟨rfl, hd⟩; have HD := Aside0.mk hd; clear hd)
  go_ret
  exact ⟨rfl, HD.out⟩
set_option maxRecDepth 100000 in
set_option maxHeartbeats 8000000 in
theorem rlay_yes {own : Nat → Prop} {w : World} {p : Nat} {s : RSt} (h : RDisk own w p s) (i : Int) (x : ByteArray) (hn : (s.in_ i && decide (x.size ≤ 128)) = true) (hs : s.step.2 = true) (hl : ∀ q ∈ s.laid, q.2.length ≤ 1000000000) : Calls Try.prog 17 #[.pointer (some ⟨p, 0, none⟩), .int .i64 i, .string x] w fun e w' => e = .returned (.bool true) ∧ RDisk (More own w w') w' p (s.lay i x).1 ∧ Turn own w w' := by
  have hS := Aside0.mk (rstep_any h)
  have en : s.step.1.n = s.n := by unfold RSt.step; split <;> rfl
  have el : s.step.1.laid = s.laid := by unfold RSt.step; split <;> rfl
  have elay : (s.lay i x).1 = { s.step.1 with laid := put s.laid i ((Mp.get s.laid i).getD [] ++ [full x]) } := by unfold RSt.lay; rw [if_pos hn, if_pos hs]
  have HOK := Aside0.mk h.ok
  have HS1 := Aside0.mk (show s.step.1.n = (s.lay i x).1.n ∧ s.step.1.firm = (s.lay i x).1.firm ∧ s.step.1.left = (s.lay i x).1.left ∧ s.step.1.off = (s.lay i x).1.off by rw [elay]; exact ⟨rfl, rfl, rfl, rfl⟩)
  obtain ⟨l, hll⟩ : ∃ l, l = (Mp.get s.laid i).getD [] := ⟨_, rfl⟩
  have HLY := Aside0.mk (show (s.lay i x).1.laid = put s.step.1.laid i (l ++ [full x]) by rw [elay, el, hll])
  have hlen : l.length ≤ 1000000000 := by
    rw [hll]
    cases hg : Mp.get s.laid i with
    | none => simp
    | some y => exact hl _ (get_mem hg)
  have HLEN := Aside0.mk hlen
  have HL0 := Aside0.mk hll
  have HEL := Aside0.mk el
  rw [Bool.and_eq_true] at hn
  obtain ⟨ho, h0, h1⟩ := in_iff hn.1
  have HI := Aside0.mk (i64_of h0 h1 (by have := h.ok.n2; omega))
  rw [hs] at hS
  obtain ⟨hh, ⟨fm0, lm0, Q0, hq0⟩, _⟩ := h
  obtain ⟨c0, c1, c2, c3, c4⟩ := hq0.cells
  rw [ho] at c2
  obtain ⟨N, hN⟩ : ∃ N, N = s.n := ⟨_, rfl⟩
  rw [← hN] at c0
  have hx : x.size ≤ 128 := by simpa using hn.2
  have HX := Aside0.mk hx
  have d1 : decide (i < 0) = false := decide_eq_false (by omega)
  have d2 : decide ((N : Int) ≤ i) = false := decide_eq_false (by omega)
  have d3 : decide (128 < x.size) = false := decide_eq_false (by omega)
  have d4 : decide (128 < (x.size : Int)) = false := decide_eq_false (by omega)
  clear hn hs hx en el elay hll hlen h0 h1 hl ho hh hq0 c1 c3 c4 hN
  go_enter Try.func17, Try.ntmps17
  go_upto_region 3 with (go_at_call 30; (with_reducible refine hS.out.mono ?_); rintro e w1 ⟨rfl, hd⟩; have HD := Aside0.mk hd; clear hd)
  obtain ⟨fm, lm, Q, hq⟩ := HD.out.1.parts
  have hok1 := HD.out.1.ok
  obtain ⟨M, hM⟩ : ∃ M, M = mapv Ent.val Q := ⟨_, rfl⟩
  obtain ⟨u, hu⟩ : ∃ u, u = (Mp.get M i).getD (.slice none 0 0) := ⟨_, rfl⟩
  have hlq : l = ((Mp.get Q i).map (·.l)).getD [] := by rw [HL0.out, ← HEL.out, hq.laid, get_mapv]
  have hUC : (u = .slice none 0 0 ∧ l = []) ∨ ∃ y : Ent, u = y.val ∧ y.at_ w1 ∧ l = y.l := by
    rw [hu, hM, get_mapv, hlq]
    cases hg : Mp.get Q i with
    | none => exact .inl ⟨rfl, rfl⟩
    | some e => exact .inr ⟨e, rfl, (hq.ents _ (get_mem hg)).1, rfl⟩
  have HUC := Aside0.mk hUC
  have HQ := Aside0.mk hq
  have HM := Aside0.mk (show MapI Try.prog 3 w1 lm M by rw [hM]; exact hq.map)
  have HU := Aside0.mk hu.symm
  have HMM := Aside0.mk hM
  have HML := Aside0.mk (show M.length < 9223372036854775807 by
    have h1 : s.step.1.laid.length ≤ 16384 := Nat.le_trans (rising_length s.step.1.n 0 s.step.1.laid hok1.rising (fun q hq => by have := hok1.laid q hq; omega)) hok1.n2
    rw [hq.laid] at h1
    rw [hM]
    simp [mapv] at h1 ⊢
    omega)
  have HL1 := Aside0.mk (show l.length + 1 ≤ maxLen by have := HLEN.out; unfold maxLen; omega)
  have HL2 := Aside0.mk (show (l.length + 1) * 16 ≤ 140737488355328 by have := HLEN.out; omega)
  clear hUC hlq hu hM hok1 hq c0 c2
  refine region_inv (P := Try.prog) (frame := fun f => ⟨#[.pointer (some ⟨p, 0, none⟩), .int .i64 i, .string x, undef, undef, undef, .bool false, .pointer (some ⟨p, 0, none⟩), .pointer (some ⟨p, 0, none⟩), .pointer (some ⟨p, 2, none⟩), .bool false, .bool false, .int .i64 i, .bool false, .bool false, .bool false, .int .i64 i, .pointer (some ⟨p, 0, none⟩), .pointer (some ⟨p, 0, none⟩), .pointer (some ⟨p, 0, none⟩), .int .i64 (N : Int), .bool false, .bool false, .bool false, .string x, .int .i64 (x.size : Int), .bool false, .bool false, .bool false, .pointer (some ⟨p, 0, none⟩), .bool true, .bool false, .bool false, f 0, f 1, f 2, f 3, f 4, f 5, f 6, f 7, f 8, f 9, f 10, f 11, f 12, f 13, f 14, f 15, f 16], []⟩) (J := RJ p lm i x u l w1 M) ⟨?_, ?_, ?_, ?_⟩ (by kernel_rfl) (fun _ => undef) _ (RJ.start p lm i x u l w1 M)
  · refine ops_all (all_cons ?_ (all_cons ?_ (all_cons ?_ (all_cons ?_ (all_cons ?_ (all_cons ?_ (all_cons ?_ (all_cons ?_ (all_cons ?_ (all_cons ?_ (all_cons ?_ (all_cons ?_ (all_cons ?_ (all_cons ?_ (all_cons ?_ (all_cons ?_ (all_cons ?_ (all_cons ?_ (all_nil))))))))))))))))))) <;> (intro f v; simp only [Act.put, List.setIfInBounds_toArray, List.set_cons_zero, List.set_cons_succ]; rfl)
  · exact ops_all (ord_all _ 0 (by kernel_rfl))
  · refine ops_all (all_cons ?_ (all_cons ?_ (all_cons ?_ (all_cons ?_ (all_cons ?_ (all_cons ?_ (all_cons ?_ (all_cons ?_ (all_cons ?_ (all_cons ?_ (all_cons ?_ (all_cons ?_ (all_cons ?_ (all_cons ?_ (all_cons ?_ (all_cons ?_ (all_cons ?_ (all_cons ?_ (all_nil)))))))))))))))))))
    · intro D f W hC hD hd hJ K hK
      have n17 : D 17 = false := by
        cases h17 : D 17 with
        | false => rfl
        | true =>
          exfalso
          have s0 : D 3 = true := hC 17 h17 _ (by rfl) ⟨3, .data⟩ (by simp) rfl
          have s1 : D 2 = true := hC 3 s0 _ (by rfl) ⟨2, .data⟩ (by simp) rfl
          have s2 : D 1 = true := hC 2 s1 _ (by rfl) ⟨1, .data⟩ (by simp) rfl
          have s3 : D 0 = true := hC 1 s2 _ (by rfl) ⟨0, .data⟩ (by simp) rfl
          rw [hD] at s3
          cases s3
      refine value_ (w1 := W) (v := .pointer (some ⟨p, 0, none⟩)) (by rfl) rfl ?_ (hK _ _ (hJ.same (by decide) rfl))
      first | (go_simp; done) | (go_simp; rfl)
    · intro D f W hC hD hd hJ K hK
      have n17 : D 17 = false := by
        cases h17 : D 17 with
        | false => rfl
        | true =>
          exfalso
          have s0 : D 3 = true := hC 17 h17 _ (by rfl) ⟨3, .data⟩ (by simp) rfl
          have s1 : D 2 = true := hC 3 s0 _ (by rfl) ⟨2, .data⟩ (by simp) rfl
          have s2 : D 1 = true := hC 2 s1 _ (by rfl) ⟨1, .data⟩ (by simp) rfl
          rw [hD] at s2
          cases s2
      have g0 : D 0 = true := hd ⟨0, .data⟩ (by simp) rfl
      have e0 : f 0 = .pointer (some ⟨p, 0, none⟩) := hJ.val 0 g0
      refine value_ (w1 := W) (v := .pointer (some ⟨p, 0, none⟩)) (by rfl) rfl ?_ (hK _ _ (hJ.same (by decide) rfl))
      first | (go_simp; done) | (go_simp; rfl)
    · intro D f W hC hD hd hJ K hK
      have n17 : D 17 = false := by
        cases h17 : D 17 with
        | false => rfl
        | true =>
          exfalso
          have s0 : D 3 = true := hC 17 h17 _ (by rfl) ⟨3, .data⟩ (by simp) rfl
          have s1 : D 2 = true := hC 3 s0 _ (by rfl) ⟨2, .data⟩ (by simp) rfl
          rw [hD] at s1
          cases s1
      have g1 : D 1 = true := hd ⟨1, .data⟩ (by simp) rfl
      have e1 : f 1 = .pointer (some ⟨p, 0, none⟩) := hJ.val 1 g1
      refine value_ (w1 := W) (v := .pointer (some ⟨p, 4, none⟩)) (by rfl) rfl ?_ (hK _ _ (hJ.same (by decide) rfl))
      first | (go_simp; done) | (go_simp; rfl)
    · intro D f W hC hD hd hJ K hK
      have n17 : D 17 = false := by
        cases h17 : D 17 with
        | false => rfl
        | true =>
          exfalso
          have s0 : D 3 = true := hC 17 h17 _ (by rfl) ⟨3, .data⟩ (by simp) rfl
          rw [hD] at s0
          cases s0
      have g2 : D 2 = true := hd ⟨2, .data⟩ (by simp) rfl
      have e2 : f 2 = .pointer (some ⟨p, 4, none⟩) := hJ.val 2 g2
      have hx4 : W.cell? ⟨p, 4, none⟩ = some (.map (some lm)) := (blk_cell (blk_below HQ.out.blk (hJ.a n17)) 4).trans rfl
      refine value_ (w1 := W) (v := .map (some lm)) (by rfl) rfl ?_ (hK _ _ (hJ.same (by decide) rfl))
      first | (go_simp; done) | (go_simp; rfl)
    · intro D f W hC hD hd hJ K hK
      have n17 : D 17 = false := by
        cases h17 : D 17 with
        | false => rfl
        | true =>
          exfalso
          have s0 : D 4 = true := hC 17 h17 _ (by rfl) ⟨4, .data⟩ (by simp) rfl
          rw [hD] at s0
          cases s0
      refine value_ (w1 := W) (v := .int .i64 i) (by rfl) rfl ?_ (hK _ _ (hJ.same (by decide) rfl))
      first | (go_simp; done) | (go_simp; rfl)
    · intro D f W hC hD hd hJ K hK
      have n17 : D 17 = false := by
        cases h17 : D 17 with
        | false => rfl
        | true =>
          exfalso
          have s0 : D 16 = true := hC 17 h17 _ (by rfl) ⟨16, .data⟩ (by simp) rfl
          have s1 : D 12 = true := hC 16 s0 _ (by rfl) ⟨12, .data⟩ (by simp) rfl
          have s2 : D 5 = true := hC 12 s1 _ (by rfl) ⟨5, .data⟩ (by simp) rfl
          rw [hD] at s2
          cases s2
      have n16 : D 16 = false := by
        cases h16 : D 16 with
        | false => rfl
        | true =>
          exfalso
          have s0 : D 12 = true := hC 16 h16 _ (by rfl) ⟨12, .data⟩ (by simp) rfl
          have s1 : D 5 = true := hC 12 s0 _ (by rfl) ⟨5, .data⟩ (by simp) rfl
          rw [hD] at s1
          cases s1
      have n12 : D 12 = false := by
        cases h12 : D 12 with
        | false => rfl
        | true =>
          exfalso
          have s0 : D 5 = true := hC 12 h12 _ (by rfl) ⟨5, .data⟩ (by simp) rfl
          rw [hD] at s0
          cases s0
      refine value_ (w1 := W.alloc (.cells #[] 9)) (v := .slice (some ⟨W.heap.size, 0, none⟩) 0 0) (by rfl) rfl ?_ (hK _ _ (hJ.lit_5 n12 n16 n17))
      first | (go_simp; done) | (go_simp; rfl)
    · intro D f W hC hD hd hJ K hK
      have n17 : D 17 = false := by
        cases h17 : D 17 with
        | false => rfl
        | true =>
          exfalso
          have s0 : D 16 = true := hC 17 h17 _ (by rfl) ⟨16, .data⟩ (by simp) rfl
          have s1 : D 12 = true := hC 16 s0 _ (by rfl) ⟨12, .data⟩ (by simp) rfl
          have s2 : D 11 = true := hC 12 s1 _ (by rfl) ⟨11, .data⟩ (by simp) rfl
          have s3 : D 9 = true := hC 11 s2 _ (by rfl) ⟨9, .data⟩ (by simp) rfl
          have s4 : D 8 = true := hC 9 s3 _ (by rfl) ⟨8, .data⟩ (by simp) rfl
          have s5 : D 7 = true := hC 8 s4 _ (by rfl) ⟨7, .data⟩ (by simp) rfl
          have s6 : D 6 = true := hC 7 s5 _ (by rfl) ⟨6, .data⟩ (by simp) rfl
          rw [hD] at s6
          cases s6
      have n16 : D 16 = false := by
        cases h16 : D 16 with
        | false => rfl
        | true =>
          exfalso
          have s0 : D 12 = true := hC 16 h16 _ (by rfl) ⟨12, .data⟩ (by simp) rfl
          have s1 : D 11 = true := hC 12 s0 _ (by rfl) ⟨11, .data⟩ (by simp) rfl
          have s2 : D 9 = true := hC 11 s1 _ (by rfl) ⟨9, .data⟩ (by simp) rfl
          have s3 : D 8 = true := hC 9 s2 _ (by rfl) ⟨8, .data⟩ (by simp) rfl
          have s4 : D 7 = true := hC 8 s3 _ (by rfl) ⟨7, .data⟩ (by simp) rfl
          have s5 : D 6 = true := hC 7 s4 _ (by rfl) ⟨6, .data⟩ (by simp) rfl
          rw [hD] at s5
          cases s5
      have n12 : D 12 = false := by
        cases h12 : D 12 with
        | false => rfl
        | true =>
          exfalso
          have s0 : D 11 = true := hC 12 h12 _ (by rfl) ⟨11, .data⟩ (by simp) rfl
          have s1 : D 9 = true := hC 11 s0 _ (by rfl) ⟨9, .data⟩ (by simp) rfl
          have s2 : D 8 = true := hC 9 s1 _ (by rfl) ⟨8, .data⟩ (by simp) rfl
          have s3 : D 7 = true := hC 8 s2 _ (by rfl) ⟨7, .data⟩ (by simp) rfl
          have s4 : D 6 = true := hC 7 s3 _ (by rfl) ⟨6, .data⟩ (by simp) rfl
          rw [hD] at s4
          cases s4
      refine value_ (w1 := W) (v := .pointer (some ⟨p, 0, none⟩)) (by rfl) rfl ?_ (hK _ _ (hJ.same (by decide) rfl))
      first | (go_simp; done) | (go_simp; rfl)
    · intro D f W hC hD hd hJ K hK
      have n17 : D 17 = false := by
        cases h17 : D 17 with
        | false => rfl
        | true =>
          exfalso
          have s0 : D 16 = true := hC 17 h17 _ (by rfl) ⟨16, .data⟩ (by simp) rfl
          have s1 : D 12 = true := hC 16 s0 _ (by rfl) ⟨12, .data⟩ (by simp) rfl
          have s2 : D 11 = true := hC 12 s1 _ (by rfl) ⟨11, .data⟩ (by simp) rfl
          have s3 : D 9 = true := hC 11 s2 _ (by rfl) ⟨9, .data⟩ (by simp) rfl
          have s4 : D 8 = true := hC 9 s3 _ (by rfl) ⟨8, .data⟩ (by simp) rfl
          have s5 : D 7 = true := hC 8 s4 _ (by rfl) ⟨7, .data⟩ (by simp) rfl
          rw [hD] at s5
          cases s5
      have n16 : D 16 = false := by
        cases h16 : D 16 with
        | false => rfl
        | true =>
          exfalso
          have s0 : D 12 = true := hC 16 h16 _ (by rfl) ⟨12, .data⟩ (by simp) rfl
          have s1 : D 11 = true := hC 12 s0 _ (by rfl) ⟨11, .data⟩ (by simp) rfl
          have s2 : D 9 = true := hC 11 s1 _ (by rfl) ⟨9, .data⟩ (by simp) rfl
          have s3 : D 8 = true := hC 9 s2 _ (by rfl) ⟨8, .data⟩ (by simp) rfl
          have s4 : D 7 = true := hC 8 s3 _ (by rfl) ⟨7, .data⟩ (by simp) rfl
          rw [hD] at s4
          cases s4
      have n12 : D 12 = false := by
        cases h12 : D 12 with
        | false => rfl
        | true =>
          exfalso
          have s0 : D 11 = true := hC 12 h12 _ (by rfl) ⟨11, .data⟩ (by simp) rfl
          have s1 : D 9 = true := hC 11 s0 _ (by rfl) ⟨9, .data⟩ (by simp) rfl
          have s2 : D 8 = true := hC 9 s1 _ (by rfl) ⟨8, .data⟩ (by simp) rfl
          have s3 : D 7 = true := hC 8 s2 _ (by rfl) ⟨7, .data⟩ (by simp) rfl
          rw [hD] at s3
          cases s3
      have g6 : D 6 = true := hd ⟨6, .data⟩ (by simp) rfl
      have e6 : f 6 = .pointer (some ⟨p, 0, none⟩) := hJ.val 6 g6
      refine value_ (w1 := W) (v := .pointer (some ⟨p, 0, none⟩)) (by rfl) rfl ?_ (hK _ _ (hJ.same (by decide) rfl))
      first | (go_simp; done) | (go_simp; rfl)
    · intro D f W hC hD hd hJ K hK
      have n17 : D 17 = false := by
        cases h17 : D 17 with
        | false => rfl
        | true =>
          exfalso
          have s0 : D 16 = true := hC 17 h17 _ (by rfl) ⟨16, .data⟩ (by simp) rfl
          have s1 : D 12 = true := hC 16 s0 _ (by rfl) ⟨12, .data⟩ (by simp) rfl
          have s2 : D 11 = true := hC 12 s1 _ (by rfl) ⟨11, .data⟩ (by simp) rfl
          have s3 : D 9 = true := hC 11 s2 _ (by rfl) ⟨9, .data⟩ (by simp) rfl
          have s4 : D 8 = true := hC 9 s3 _ (by rfl) ⟨8, .data⟩ (by simp) rfl
          rw [hD] at s4
          cases s4
      have n16 : D 16 = false := by
        cases h16 : D 16 with
        | false => rfl
        | true =>
          exfalso
          have s0 : D 12 = true := hC 16 h16 _ (by rfl) ⟨12, .data⟩ (by simp) rfl
          have s1 : D 11 = true := hC 12 s0 _ (by rfl) ⟨11, .data⟩ (by simp) rfl
          have s2 : D 9 = true := hC 11 s1 _ (by rfl) ⟨9, .data⟩ (by simp) rfl
          have s3 : D 8 = true := hC 9 s2 _ (by rfl) ⟨8, .data⟩ (by simp) rfl
          rw [hD] at s3
          cases s3
      have n12 : D 12 = false := by
        cases h12 : D 12 with
        | false => rfl
        | true =>
          exfalso
          have s0 : D 11 = true := hC 12 h12 _ (by rfl) ⟨11, .data⟩ (by simp) rfl
          have s1 : D 9 = true := hC 11 s0 _ (by rfl) ⟨9, .data⟩ (by simp) rfl
          have s2 : D 8 = true := hC 9 s1 _ (by rfl) ⟨8, .data⟩ (by simp) rfl
          rw [hD] at s2
          cases s2
      have g7 : D 7 = true := hd ⟨7, .data⟩ (by simp) rfl
      have e7 : f 7 = .pointer (some ⟨p, 0, none⟩) := hJ.val 7 g7
      refine value_ (w1 := W) (v := .pointer (some ⟨p, 4, none⟩)) (by rfl) rfl ?_ (hK _ _ (hJ.same (by decide) rfl))
      first | (go_simp; done) | (go_simp; rfl)
    · intro D f W hC hD hd hJ K hK
      have n17 : D 17 = false := by
        cases h17 : D 17 with
        | false => rfl
        | true =>
          exfalso
          have s0 : D 16 = true := hC 17 h17 _ (by rfl) ⟨16, .data⟩ (by simp) rfl
          have s1 : D 12 = true := hC 16 s0 _ (by rfl) ⟨12, .data⟩ (by simp) rfl
          have s2 : D 11 = true := hC 12 s1 _ (by rfl) ⟨11, .data⟩ (by simp) rfl
          have s3 : D 9 = true := hC 11 s2 _ (by rfl) ⟨9, .data⟩ (by simp) rfl
          rw [hD] at s3
          cases s3
      have n16 : D 16 = false := by
        cases h16 : D 16 with
        | false => rfl
        | true =>
          exfalso
          have s0 : D 12 = true := hC 16 h16 _ (by rfl) ⟨12, .data⟩ (by simp) rfl
          have s1 : D 11 = true := hC 12 s0 _ (by rfl) ⟨11, .data⟩ (by simp) rfl
          have s2 : D 9 = true := hC 11 s1 _ (by rfl) ⟨9, .data⟩ (by simp) rfl
          rw [hD] at s2
          cases s2
      have n12 : D 12 = false := by
        cases h12 : D 12 with
        | false => rfl
        | true =>
          exfalso
          have s0 : D 11 = true := hC 12 h12 _ (by rfl) ⟨11, .data⟩ (by simp) rfl
          have s1 : D 9 = true := hC 11 s0 _ (by rfl) ⟨9, .data⟩ (by simp) rfl
          rw [hD] at s1
          cases s1
      have g8 : D 8 = true := hd ⟨8, .data⟩ (by simp) rfl
      have e8 : f 8 = .pointer (some ⟨p, 4, none⟩) := hJ.val 8 g8
      have hx4 : W.cell? ⟨p, 4, none⟩ = some (.map (some lm)) := (blk_cell (blk_below HQ.out.blk (hJ.a n17)) 4).trans rfl
      refine value_ (w1 := W) (v := .map (some lm)) (by rfl) rfl ?_ (hK _ _ (hJ.same (by decide) rfl))
      first | (go_simp; done) | (go_simp; rfl)
    · intro D f W hC hD hd hJ K hK
      have n17 : D 17 = false := by
        cases h17 : D 17 with
        | false => rfl
        | true =>
          exfalso
          have s0 : D 16 = true := hC 17 h17 _ (by rfl) ⟨16, .data⟩ (by simp) rfl
          have s1 : D 12 = true := hC 16 s0 _ (by rfl) ⟨12, .data⟩ (by simp) rfl
          have s2 : D 11 = true := hC 12 s1 _ (by rfl) ⟨11, .data⟩ (by simp) rfl
          have s3 : D 10 = true := hC 11 s2 _ (by rfl) ⟨10, .data⟩ (by simp) rfl
          rw [hD] at s3
          cases s3
      have n16 : D 16 = false := by
        cases h16 : D 16 with
        | false => rfl
        | true =>
          exfalso
          have s0 : D 12 = true := hC 16 h16 _ (by rfl) ⟨12, .data⟩ (by simp) rfl
          have s1 : D 11 = true := hC 12 s0 _ (by rfl) ⟨11, .data⟩ (by simp) rfl
          have s2 : D 10 = true := hC 11 s1 _ (by rfl) ⟨10, .data⟩ (by simp) rfl
          rw [hD] at s2
          cases s2
      have n12 : D 12 = false := by
        cases h12 : D 12 with
        | false => rfl
        | true =>
          exfalso
          have s0 : D 11 = true := hC 12 h12 _ (by rfl) ⟨11, .data⟩ (by simp) rfl
          have s1 : D 10 = true := hC 11 s0 _ (by rfl) ⟨10, .data⟩ (by simp) rfl
          rw [hD] at s1
          cases s1
      refine value_ (w1 := W) (v := .int .i64 i) (by rfl) rfl ?_ (hK _ _ (hJ.same (by decide) rfl))
      first | (go_simp; done) | (go_simp; rfl)
    · intro D f W hC hD hd hJ K hK
      have n17 : D 17 = false := by
        cases h17 : D 17 with
        | false => rfl
        | true =>
          exfalso
          have s0 : D 16 = true := hC 17 h17 _ (by rfl) ⟨16, .data⟩ (by simp) rfl
          have s1 : D 12 = true := hC 16 s0 _ (by rfl) ⟨12, .data⟩ (by simp) rfl
          have s2 : D 11 = true := hC 12 s1 _ (by rfl) ⟨11, .data⟩ (by simp) rfl
          rw [hD] at s2
          cases s2
      have n16 : D 16 = false := by
        cases h16 : D 16 with
        | false => rfl
        | true =>
          exfalso
          have s0 : D 12 = true := hC 16 h16 _ (by rfl) ⟨12, .data⟩ (by simp) rfl
          have s1 : D 11 = true := hC 12 s0 _ (by rfl) ⟨11, .data⟩ (by simp) rfl
          rw [hD] at s1
          cases s1
      have n12 : D 12 = false := by
        cases h12 : D 12 with
        | false => rfl
        | true =>
          exfalso
          have s0 : D 11 = true := hC 12 h12 _ (by rfl) ⟨11, .data⟩ (by simp) rfl
          rw [hD] at s0
          cases s0
      have g9 : D 9 = true := hd ⟨9, .data⟩ (by simp) rfl
      have e9 : f 9 = .map (some lm) := hJ.val 9 g9
      have g10 : D 10 = true := hd ⟨10, .data⟩ (by simp) rfl
      have e10 : f 10 = .int .i64 i := hJ.val 10 g10
      refine look_op (by rfl) rfl (.tmp 42) (.tmp 43) 42 3 52 rfl Try.underlying3 Try.underlying42 (Try.zeroValue52 W) lm M (HM.out.move ((hJ.a n17).block _ (HM.out.lt))) i HI.out ?_ ?_ ?_
      · show f 9 = _
        exact e9
      · show f 10 = _
        exact e10
      · rw [HU.out]
        exact hK _ _ (hJ.same (by decide) rfl)
    · intro D f W hC hD hd hJ K hK
      have n17 : D 17 = false := by
        cases h17 : D 17 with
        | false => rfl
        | true =>
          exfalso
          have s0 : D 16 = true := hC 17 h17 _ (by rfl) ⟨16, .data⟩ (by simp) rfl
          have s1 : D 12 = true := hC 16 s0 _ (by rfl) ⟨12, .data⟩ (by simp) rfl
          rw [hD] at s1
          cases s1
      have n16 : D 16 = false := by
        cases h16 : D 16 with
        | false => rfl
        | true =>
          exfalso
          have s0 : D 12 = true := hC 16 h16 _ (by rfl) ⟨12, .data⟩ (by simp) rfl
          rw [hD] at s0
          cases s0
      have n12 : D 12 = false := hD
      have g5 : D 5 = true := hd ⟨5, .data⟩ (by simp) rfl
      have g11 : D 11 = true := hd ⟨11, .data⟩ (by simp) rfl
      have e11 : f 11 = u := hJ.val 11 g11
      obtain ⟨g, eg, hg, hge⟩ := hJ.lit5 g5 n12
      rcases HUC.out with ⟨hu0, hl0⟩ | ⟨y, huy, hay, hly⟩
      · refine value_ (w1 := W) (v := .slice (some ⟨g, 0, none⟩) 0 0) (by rfl) rfl ?_ (hK _ _ (hJ.app0 n12 n16 n17 g5 hg hge hl0))
        obtain ⟨i0, hi0, _⟩ := Option.map_eq_some_iff.1 info_string
        show (execOp _ _).run _ _ = _
        unfold execOp
        have e5 : f 5 = .slice (some ⟨g, 0, none⟩) 0 0 := eg
        have e11' : f 11 = .slice none 0 0 := by rw [e11, hu0]
        simp only [resolve, invoke, builtin, Act.eval, List.map_toArray, List.map_cons, List.map_nil]
        show ((do pure (Next.value (← Builtin.append_ _ _ #[f 5, f 11]))) : Sem Next).run _ _ = _
        rw [e5, e11']
        simp [append_none W g 52 _ 9 i0 Try.underlying52 hi0, Result.andThen]
      · refine append_op (by rfl) rfl (.tmp 38) (.tmp 44) 52 9 rfl Try.underlying52 (.string ⟨#[]⟩) 16 (by kernel_rfl) (by rfl) (.slice (some ⟨g, 0, none⟩) 0 0) 0 [] ?_ ⟨rfl, .inr ⟨g, 0, #[], rfl, Nat.zero_le _, hg, Nat.le_refl _, Nat.zero_le _, rfl, rfl⟩⟩ ⟨y.g, 0, none⟩ l.length y.cap ?_ (l.map Value.string) (by simp) ?_ ?_ (by have := HL1.out; omega) (by have := HL2.out; omega) ?_
        · show f 5 = _
          exact eg
        · show f 11 = _
          rw [e11, huy, hly]
          rfl
        · intro j c hj
          rw [List.getElem?_map] at hj
          obtain ⟨z, hz, rfl⟩ := Option.map_eq_some_iff.1 hj
          have hb := hJ.a n17
          have := Ent.at_cell (Ent.move hay (hb.block _ (by obtain ⟨cur, hc, _⟩ := hay; exact blk_lt hc))) (by rw [← hly]; exact hz)
          rw [show (⟨y.g, 0, none⟩ : Addr).add j = ⟨y.g, j, none⟩ by simp [Addr.add]; omega]
          exact this
        · intro c hc
          obtain ⟨z, _, rfl⟩ := List.mem_map.1 hc
          rfl
        · intro v' w' ho hgr hnil hloc
          exact hK _ _ (hJ.app12 n12 n16 n17 g5 eg hge (by simpa using ho) hgr hloc)
    · intro D f W hC hD hd hJ K hK
      have n17 : D 17 = false := by
        cases h17 : D 17 with
        | false => rfl
        | true =>
          exfalso
          have s0 : D 16 = true := hC 17 h17 _ (by rfl) ⟨16, .data⟩ (by simp) rfl
          have s1 : D 15 = true := hC 16 s0 _ (by rfl) ⟨15, .data⟩ (by simp) rfl
          have s2 : D 14 = true := hC 15 s1 _ (by rfl) ⟨14, .data⟩ (by simp) rfl
          have s3 : D 13 = true := hC 14 s2 _ (by rfl) ⟨13, .data⟩ (by simp) rfl
          rw [hD] at s3
          cases s3
      have n16 : D 16 = false := by
        cases h16 : D 16 with
        | false => rfl
        | true =>
          exfalso
          have s0 : D 15 = true := hC 16 h16 _ (by rfl) ⟨15, .data⟩ (by simp) rfl
          have s1 : D 14 = true := hC 15 s0 _ (by rfl) ⟨14, .data⟩ (by simp) rfl
          have s2 : D 13 = true := hC 14 s1 _ (by rfl) ⟨13, .data⟩ (by simp) rfl
          rw [hD] at s2
          cases s2
      have n15 : D 15 = false := by
        cases h15 : D 15 with
        | false => rfl
        | true =>
          exfalso
          have s0 : D 14 = true := hC 15 h15 _ (by rfl) ⟨14, .data⟩ (by simp) rfl
          have s1 : D 13 = true := hC 14 s0 _ (by rfl) ⟨13, .data⟩ (by simp) rfl
          rw [hD] at s1
          cases s1
      refine value_ (w1 := W) (v := .string x) (by rfl) rfl ?_ (hK _ _ (hJ.same (by decide) rfl))
      first | (go_simp; done) | (go_simp; rfl)
    · intro D f W hC hD hd hJ K hK
      have n17 : D 17 = false := by
        cases h17 : D 17 with
        | false => rfl
        | true =>
          exfalso
          have s0 : D 16 = true := hC 17 h17 _ (by rfl) ⟨16, .data⟩ (by simp) rfl
          have s1 : D 15 = true := hC 16 s0 _ (by rfl) ⟨15, .data⟩ (by simp) rfl
          have s2 : D 14 = true := hC 15 s1 _ (by rfl) ⟨14, .data⟩ (by simp) rfl
          rw [hD] at s2
          cases s2
      have n16 : D 16 = false := by
        cases h16 : D 16 with
        | false => rfl
        | true =>
          exfalso
          have s0 : D 15 = true := hC 16 h16 _ (by rfl) ⟨15, .data⟩ (by simp) rfl
          have s1 : D 14 = true := hC 15 s0 _ (by rfl) ⟨14, .data⟩ (by simp) rfl
          rw [hD] at s1
          cases s1
      have n15 : D 15 = false := by
        cases h15 : D 15 with
        | false => rfl
        | true =>
          exfalso
          have s0 : D 14 = true := hC 15 h15 _ (by rfl) ⟨14, .data⟩ (by simp) rfl
          rw [hD] at s0
          cases s0
      have g13 : D 13 = true := hd ⟨13, .data⟩ (by simp) rfl
      have e13 : f 13 = .string x := hJ.val 13 g13
      refine goes_ Try.func31 (by kernel_rfl) rfl #[.string x] (by rfl) rfl rfl (by simp only [List.map_toArray, List.map_cons, List.map_nil]; show #[f 13] = _; rw [e13]) ?_
      with_reducible refine (full_any x W HX.out).mono ?_
      rintro e wt ⟨rfl, hb⟩
      exact ⟨_, rfl, hK _ _ (hJ.move n15 n16 n17 (by decide) rfl hb)⟩
    · intro D f W hC hD hd hJ K hK
      have n17 : D 17 = false := by
        cases h17 : D 17 with
        | false => rfl
        | true =>
          exfalso
          have s0 : D 16 = true := hC 17 h17 _ (by rfl) ⟨16, .data⟩ (by simp) rfl
          have s1 : D 15 = true := hC 16 s0 _ (by rfl) ⟨15, .data⟩ (by simp) rfl
          rw [hD] at s1
          cases s1
      have n16 : D 16 = false := by
        cases h16 : D 16 with
        | false => rfl
        | true =>
          exfalso
          have s0 : D 15 = true := hC 16 h16 _ (by rfl) ⟨15, .data⟩ (by simp) rfl
          rw [hD] at s0
          cases s0
      have n15 : D 15 = false := hD
      have g14 : D 14 = true := hd ⟨14, .data⟩ (by simp) rfl
      have e14 : f 14 = .string (full x) := hJ.val 14 g14
      refine value_ (w1 := W.alloc (.cells #[.string (full x)] 9)) (v := .slice (some ⟨W.heap.size, 0, none⟩) 1 1) (by rfl) rfl ?_ (hK _ _ (hJ.lit_15 n15 n16 n17))
      first | (go_simp; done) | (go_simp; rfl)
    · intro D f W hC hD hd hJ K hK
      have n17 : D 17 = false := by
        cases h17 : D 17 with
        | false => rfl
        | true =>
          exfalso
          have s0 : D 16 = true := hC 17 h17 _ (by rfl) ⟨16, .data⟩ (by simp) rfl
          rw [hD] at s0
          cases s0
      have n16 : D 16 = false := hD
      have g12 : D 12 = true := hd ⟨12, .data⟩ (by simp) rfl
      have g15 : D 15 = true := hd ⟨15, .data⟩ (by simp) rfl
      obtain ⟨g, eg, hg, hge, _⟩ := hJ.lit15 g15 n16
      have hO := hJ.ap12 g12 n16
      refine append_op (by rfl) rfl (.tmp 45) (.tmp 48) 52 9 rfl Try.underlying52 (.string ⟨#[]⟩) 16 (by kernel_rfl) (by rfl) (f 12) l.length (l.map Value.string) rfl (own_weaken hO (Nat.zero_le _)) ⟨g, 0, none⟩ 1 1 ?_ [.string (full x)] rfl ?_ ?_ HL1.out HL2.out ?_
      · show f 15 = _
        exact eg
      · intro j y hj
        match j, hj with
        | 0, hj =>
          obtain rfl := Option.some.inj hj
          exact (blk_cell hg 0).trans rfl
      · intro y hy
        rw [List.mem_singleton.1 hy]
        rfl
      · intro v' w' ho hgr hnil hloc
        exact hK _ _ (hJ.app16 n16 n17 g12 ho hgr hloc)
    · intro D f W hC hD hd hJ K hK
      have n17 : D 17 = false := hD
      have g3 : D 3 = true := hd ⟨3, .data⟩ (by simp) rfl
      have e3 : f 3 = .map (some lm) := hJ.val 3 g3
      have g4 : D 4 = true := hd ⟨4, .data⟩ (by simp) rfl
      have e4 : f 4 = .int .i64 i := hJ.val 4 g4
      have g16 : D 16 = true := hd ⟨16, .data⟩ (by simp) rfl
      have hB := hJ.b g16 n17
      refine update_op (by rfl) rfl (.tmp 36) (.tmp 37) (.tmp 49) 42 3 52 rfl Try.underlying3 Try.underlying42 lm M (HM.out.move ((hJ.a n17).block _ HM.out.lt)) HML.out i HI.out (f 16) ?_ ?_ rfl ?_
      · show f 3 = _
        exact e3
      · show f 4 = _
        exact e4
      · intro w' hm hgr hsz
        exact hK undef _ (hJ.done (hC 16 g16 _ (by rfl) ⟨12, .data⟩ (by simp) rfl) g16 n17 hm hgr hsz)
  · intro D f W hall hJ
    have hc := Aside0.mk (hJ.c (hall 17 (by decide)))
    clear hJ hall
    go_wp2
    go_ret
    exact ⟨rfl, rlay_end (Q := Q) HD.out.1 HD.out.2 HQ.out HS1.out HLY.out HOK.out (by rw [← HMM.out]; exact hc.out)⟩
theorem rlay_any {own : Nat → Prop} {w : World} {p : Nat} {s : RSt} (h : RDisk own w p s) (i : Int) (x : ByteArray) (hl : ∀ q ∈ s.laid, q.2.length ≤ 1000000000) : Calls Try.prog 17 #[.pointer (some ⟨p, 0, none⟩), .int .i64 i, .string x] w fun e w' => e = .returned (.bool (s.lay i x).2) ∧ RDisk (More own w w') w' p (s.lay i x).1 ∧ Turn own w w' := by
  by_cases hn : (s.in_ i && decide (x.size ≤ 128)) = true
  · by_cases hs : s.step.2 = true
    · refine (rlay_yes h i x hn hs hl).mono fun e w' ⟨he, hr⟩ => ⟨?_, hr⟩
      rw [he]
      unfold RSt.lay
      rw [if_pos hn, if_pos hs]
    · have hs' : s.step.2 = false := by simpa using hs
      refine (rlay_off h i x hn hs').mono fun e w' ⟨he, hd, hT, hz⟩ => ?_
      have e1 : s.lay i x = (s.step.1, false) := by unfold RSt.lay; rw [if_pos hn, if_neg hs]
      rw [e1]
      exact ⟨he, hd.more (fun k hk => .inl hk) (more_lt h.here (by omega)), hT⟩
  · have hn' : (s.in_ i && decide (x.size ≤ 128)) = false := by simpa using hn
    refine (rlay_no h i x hn').mono fun e w' ⟨he, hw⟩ => ?_
    subst hw
    have e1 : s.lay i x = (s, false) := by unfold RSt.lay; rw [if_neg hn]
    rw [e1]
    exact ⟨he, h.more (fun k hk => .inl hk) (more_lt h.here (Nat.le_refl _)), Turn.refl _ _⟩
end Go.Proofs.Ytfjbpjndjcinhaa.Dk
