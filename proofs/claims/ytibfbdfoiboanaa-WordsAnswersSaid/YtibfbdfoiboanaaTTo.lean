/- words.Told: whether bytes are an answer's. Over the program alone. -/
import Derived.Test.YtibfbdfoiboanaaTRd5
namespace Go.Proofs.Ytibfbdfoiboanaa.Rd
open Go.RowKit Go.Proofs.YtibfbdfoiboanaaW.PrintWords Go.Proofs.YtibfbdfoiboanaaW.PrintMore
set_option linter.unusedVariables false
set_option linter.unusedSimpArgs false
/-- Cells as they are. -/
def Raw (n : Nat) : Type := { l : List Value // l.length = n ∧ ∀ u ∈ l, u.oneCell' = true }
def rawK (n : Nat) : Kd (Raw n) where
  sz := n
  E := []
  K := fun _ x cs => cs = x.1
  M := fun _ _ _ x cs => cs = x.1
  K_len := by rintro w x cs rfl; exact x.2.1
  K_one := by rintro w x cs rfl; exact x.2.2
  K_below := by intro w w1 x cs _ h; exact h
  K_of_M := by intro w base ok x cs h; exact h
  M_mono := by intro w base ok ok' x cs _ h; exact h
  M_bound := by intro w base ok x cs h; exact h
  M_move := by intro w w1 base ok x cs _ h; exact h
  M_lower := by intro w base base' ok x cs _ h; exact h
theorem raw_shape {n e base : Nat} {W : World} {v : Value} {xs : List (Raw n)} (h : (rawK n).R e W base (fun _ => True) v xs) : ∃ A k c, v = .slice A k c := by
  obtain ⟨A, c, h⟩ := Kd.R_slice h
  exact ⟨A, _, c, h⟩
theorem raw_grown {n e base g t : Nat} {W W' : World} {v : Value} {xs : List (Raw n)} {C : Array Value} (h : (rawK n).R e W base (fun _ => True) v xs) (hg : W.grownBy W' (some g)) (hb : W.heap[g]? = some (.cells C t (0, 0))) (ht : e ≠ t) : (rawK n).R e W' base (fun _ => True) v xs :=
  Kd.R_grown2 h rfl hg (fun k hk => by injection hk with hk; subst hk; exact Kd.R_ne h hb ht)
theorem raw_set {n e base b j : Nat} {u : Value} {W : World} {v : Value} {xs : List (Raw n)} (h : (rawK n).R e W base (fun _ => True) v xs) (hb : ∀ k, v.ownBlock = some k → k ≠ b) : (rawK n).R e (W.setCell ⟨b, j, none⟩ u) base (fun _ => True) v xs :=
  Kd.R_reok rfl (Kd.R_far (Kd.R_reok (ok := fun k => k ≠ b) rfl h hb) (fun k hk => hk) u) (fun _ _ => trivial)
theorem begun_below {w W W' : World} {C B : Array Value} {tc : TypeId} (h : Begun w W C B tc) (k : Below W.heap.size W W') : Begun w W' C B tc := by
  have hs := h.size
  exact ⟨(k.block _ (by omega)).trans h.res, (k.block _ (by omega)).trans h.ok, fun q hq => (k.block q (by omega)).trans (h.rest q hq), k.os.trans h.os, k.tape.trans h.tape, k.output.trans h.output, Nat.le_trans hs k.size⟩
theorem begun_far {w W : World} {C B : Array Value} {tc : TypeId} (h : Begun w W C B tc) {b : Nat} (hb : w.heap.size + 2 ≤ b) (j : Nat) (u : Value) : Begun w (W.setCell ⟨b, j, none⟩ u) C B tc :=
  ⟨(Below.heap_setCell W ⟨b, j, none⟩ u _ (by simp; omega)).trans h.res, (Below.heap_setCell W ⟨b, j, none⟩ u _ (by simp; omega)).trans h.ok, fun q hq => (Below.heap_setCell W ⟨b, j, none⟩ u q (by simp; omega)).trans (h.rest q hq), h.os, h.tape, h.output, by simpa [World.setCell] using h.size⟩
theorem begun_row {n e : Nat} {w W W' : World} {C B : Array Value} {v : Value} {xs : List (Raw n)} (h : Begun w W C B 25) (hR : (rawK n).R e W w.heap.size (fun _ => True) v xs) (h1 : e ≠ 25) (h2 : e ≠ 4) (hg : W.grownBy W' v.ownBlock) : Begun w W' C B 25 := by
  have hs := h.size
  exact ⟨(hg.block _ (by omega) (Kd.R_ne hR h.res h1)).trans h.res, (hg.block _ (by omega) (Kd.R_ne hR h.ok h2)).trans h.ok, fun q hq => (hg.block q (by omega) (fun e => by have := Kd.R_base hR q e.symm; omega)).trans (h.rest q hq), hg.os.trans h.os, hg.tape.trans h.tape, hg.output.trans h.output, Nat.le_trans hs hg.size⟩
theorem left_row {n e g base : Nat} {W W' : World} {u : ByteArray} {v : Value} {xs : List (Raw n)} (h : Left W g u) (hR : (rawK n).R e W base (fun _ => True) v xs) (h1 : e ≠ 75) (hg : W.grownBy W' v.ownBlock) : Left W' g u :=
  (hg.block _ (blk_lt h) (Kd.R_ne hR h h1)).trans h
theorem left_below {W W' : World} {g : Nat} {u : ByteArray} (h : Left W g u) (k : Below W.heap.size W W') : Left W' g u := (k.block g (blk_lt h)).trans h
/-! The closure. -/
structure Cleared6 (w w' : World) (b k : Nat) (C B : Array Value) : Prop where
  res : w'.heap[b]? = some (.cells C 25 (0, 0))
  ok : w'.heap[k]? = some (.cells B 4 (0, 0))
  rest : ∀ q, q < w.heap.size → q ≠ b → q ≠ k → w'.heap[q]? = w.heap[q]?
  os : w'.os = w.os
  tape : w'.tape = w.tape
  output : w'.output = w.output
  size : w.heap.size ≤ w'.heap.size
theorem cl_res {w W : World} {b k : Nat} {C C' B : Array Value} (h : Cleared6 w W b k C B) (hne : b ≠ k) (j : Nat) (u : Value) (e : C.setIfInBounds j u = C') : Cleared6 w (W.setCell ⟨b, j, none⟩ u) b k C' B := by
  subst e
  exact ⟨blk_set h.res j u, (Below.heap_setCell W ⟨b, j, none⟩ u k (by simpa using hne.symm)).trans h.ok, fun q hq hb hk => (Below.heap_setCell W ⟨b, j, none⟩ u q (by simpa using hb)).trans (h.rest q hq hb hk), h.os, h.tape, h.output, by simpa [World.setCell] using h.size⟩
theorem cl_ok {w W : World} {b k : Nat} {C B B' : Array Value} (h : Cleared6 w W b k C B) (hne : b ≠ k) (j : Nat) (u : Value) (e : B.setIfInBounds j u = B') : Cleared6 w (W.setCell ⟨k, j, none⟩ u) b k C B' := by
  subst e
  exact ⟨(Below.heap_setCell W ⟨k, j, none⟩ u b (by simpa using hne)).trans h.res, blk_set h.ok j u, fun q hq hb hk => (Below.heap_setCell W ⟨k, j, none⟩ u q (by simpa using hk)).trans (h.rest q hq hb hk), h.os, h.tape, h.output, by simpa [World.setCell] using h.size⟩
theorem cl_alloc {w W : World} {b k : Nat} {C B : Array Value} (h : Cleared6 w W b k C B) (o : Obj) : Cleared6 w (W.alloc o) b k C B := by
  have hp := below_alloc (Below.refl W.heap.size W) o
  exact ⟨(hp.block b (blk_lt h.res)).trans h.res, (hp.block k (blk_lt h.ok)).trans h.ok, fun q hq hb hk => (hp.block q (Nat.lt_of_lt_of_le hq h.size)).trans (h.rest q hq hb hk), h.os, h.tape, h.output, Nat.le_trans h.size hp.size⟩
def cl6 (w : World) (b k : Nat) : World := ((((((((w.setCell ⟨b, 0, none⟩ (.int .i64 0)).setCell ⟨b, 1, none⟩ (.string ⟨#[]⟩)).setCell ⟨b, 2, none⟩ (.int .i64 0)).setCell ⟨b, 3, none⟩ (.int .i64 0)).setCell ⟨b, 4, none⟩ (.slice none 0 0)).setCell ⟨b, 5, none⟩ (.slice none 0 0)).setCell ⟨k, 0, none⟩ (.bool false))).alloc (.cells #[] 54)
theorem set6 (u0 u1 u2 u3 u4 u5 v : Value) : (#[u0, u1, u2, u3, u4, u5] : Array Value).setIfInBounds 0 v = #[v, u1, u2, u3, u4, u5] ∧ (#[u0, u1, u2, u3, u4, u5] : Array Value).setIfInBounds 1 v = #[u0, v, u2, u3, u4, u5] ∧ (#[u0, u1, u2, u3, u4, u5] : Array Value).setIfInBounds 2 v = #[u0, u1, v, u3, u4, u5] ∧ (#[u0, u1, u2, u3, u4, u5] : Array Value).setIfInBounds 3 v = #[u0, u1, u2, v, u4, u5] ∧ (#[u0, u1, u2, u3, u4, u5] : Array Value).setIfInBounds 4 v = #[u0, u1, u2, u3, v, u5] ∧ (#[u0, u1, u2, u3, u4, u5] : Array Value).setIfInBounds 5 v = #[u0, u1, u2, u3, u4, v] := by
  refine ⟨?_, ?_, ?_, ?_, ?_, ?_⟩ <;> simp only [List.setIfInBounds_toArray, List.set_cons_zero, List.set_cons_succ]
theorem cleared6 (b k : Nat) (u0 u1 u2 u3 u4 u5 v : Value) (w : World) (hb : w.heap[b]? = some (.cells #[u0, u1, u2, u3, u4, u5] 25 (0, 0))) (hk : w.heap[k]? = some (.cells #[v] 4 (0, 0))) (hne : b ≠ k) :
    Cleared6 w (cl6 w b k) b k #[.int .i64 0, .string ⟨#[]⟩, .int .i64 0, .int .i64 0, .slice none 0 0, .slice none 0 0] #[.bool false] := by
  have h0 : Cleared6 w w b k #[u0, u1, u2, u3, u4, u5] #[v] := ⟨hb, hk, fun _ _ _ _ => rfl, rfl, rfl, rfl, Nat.le_refl _⟩
  have h1 := cl_res h0 hne 0 (.int .i64 0) (set6 _ _ _ _ _ _ _).1
  have h2 := cl_res h1 hne 1 (.string ⟨#[]⟩) (set6 _ _ _ _ _ _ _).2.1
  have h3 := cl_res h2 hne 2 (.int .i64 0) (set6 _ _ _ _ _ _ _).2.2.1
  have h4 := cl_res h3 hne 3 (.int .i64 0) (set6 _ _ _ _ _ _ _).2.2.2.1
  have h5 := cl_res h4 hne 4 (.slice none 0 0) (set6 _ _ _ _ _ _ _).2.2.2.2.1
  have h6 := cl_res h5 hne 5 (.slice none 0 0) (set6 _ _ _ _ _ _ _).2.2.2.2.2
  have h7 := cl_ok h6 hne 0 (.bool false) (B' := #[.bool false]) rfl
  exact cl_alloc h7 _
theorem told_idle (p q : Addr) (w : World) :
    CallsD Try.prog 34 #[.pointer (some p), .pointer (some q)] .returning w fun e u' w' => e = .returned (.tuple #[]) ∧ u' = .returning ∧ w' = w := by
  refine callsD_of_wpS Try.func34 rfl fun c₀ cs hu => ?_
  apply wpS_seq
  apply wpS_region
  simp [wpOpsS, go_sem, recoverD, hu, Try.ntmps34, Exit.thenS]
  apply wpS_seq
  apply wpS_region
  simp [wpOpsS, go_sem, Exit.thenS]
  refine wpS_cond (t := false) (by simp [Act.eval, Array.replicate]) ?_
  simp only [Bool.false_eq_true, if_false]
  refine wpS_of_wp (wp_skip ?_)
  cases c₀
  simp_all [bodyPostS, results, Try.results34]
set_option maxRecDepth 100000 in
set_option maxHeartbeats 4000000 in
theorem told_panicking (b k : Nat) (u0 u1 u2 u3 u4 u5 v : Value) (w : World) (hb : w.heap[b]? = some (.cells #[u0, u1, u2, u3, u4, u5] 25 (0, 0))) (hk : w.heap[k]? = some (.cells #[v] 4 (0, 0))) :
    CallsD Try.prog 34 #[.pointer (some ⟨b, 0, none⟩), .pointer (some ⟨k, 0, none⟩)] (.panicking [badP]) w fun e u' w' =>
      e = .returned (.tuple #[]) ∧ u' = .panicking [{ badP with recovered := true }] ∧ w' = cl6 w b k := by
  refine callsD_of_wpS Try.func34 rfl fun c₀ cs hu => ?_
  apply wpS_seq
  apply wpS_region
  simp [wpOpsS, go_sem, recoverD, hu, Try.ntmps34, Exit.thenS, badP]
  apply wpS_seq
  apply wpS_region
  simp [wpOpsS, go_sem, Exit.thenS]
  refine wpS_cond (t := true) (by simp [Act.eval, Array.replicate]) ?_
  simp only [if_true]
  refine wpS_of_wp ?_
  have hs0 : w.frozen? ⟨b, 0, none⟩ = false := blk_frozen hb 0
  have hc0 : w.cell? ⟨b, 0, none⟩ = some u0 := (blk_cell hb 0).trans rfl
  have hs1 : w.frozen? ⟨b, 1, none⟩ = false := blk_frozen hb 1
  have hc1 : w.cell? ⟨b, 1, none⟩ = some u1 := (blk_cell hb 1).trans rfl
  have hs2 : w.frozen? ⟨b, 2, none⟩ = false := blk_frozen hb 2
  have hc2 : w.cell? ⟨b, 2, none⟩ = some u2 := (blk_cell hb 2).trans rfl
  have hs3 : w.frozen? ⟨b, 3, none⟩ = false := blk_frozen hb 3
  have hc3 : w.cell? ⟨b, 3, none⟩ = some u3 := (blk_cell hb 3).trans rfl
  have hs4 : w.frozen? ⟨b, 4, none⟩ = false := blk_frozen hb 4
  have hc4 : w.cell? ⟨b, 4, none⟩ = some u4 := (blk_cell hb 4).trans rfl
  have hs5 : w.frozen? ⟨b, 5, none⟩ = false := blk_frozen hb 5
  have hc5 : w.cell? ⟨b, 5, none⟩ = some u5 := (blk_cell hb 5).trans rfl
  have hk0 : w.cell? ⟨k, 0, none⟩ = some v := (blk_cell hk 0).trans rfl
  have hkf : w.frozen? ⟨k, 0, none⟩ = false := blk_frozen hk 0
  have hbl : b < w.heap.size := blk_lt hb
  have hkl : k < w.heap.size := blk_lt hk
  have hbk : b ≠ k := fun e => by rw [e, hk] at hb; cases hb
  have hkb : k ≠ b := fun e => hbk e.symm
  have hta : ∀ W, (Instr.typeAssert (.iface 54 (.agg #[])) 20 54 true).run Try.prog W = .ok (.tuple #[.agg #[], .bool true]) W := fun W => by simp [Instr.typeAssert, run_underlying Try.underlying54, go_sem, Result.andThen]
  simp [Array.replicate]
  go_wp2
  cases c₀
  simp_all [bodyPostS, results, Try.results34, badP, cl6]
/-- Where the body gives up. -/
structure ToldEnd (w w'' : World) : Prop where
  res : w''.heap[w.heap.size]? = some (.cells #[.int .i64 0, .string ⟨#[]⟩, .int .i64 0, .int .i64 0, .slice none 0 0, .slice none 0 0] 25 (0, 0))
  ok : w''.heap[w.heap.size + 1]? = some (.cells #[.bool false] 4 (0, 0))
  grown : w.grownBy w'' none
theorem told_end {w W w'' : World} {u0 u1 u2 u3 u4 u5 v : Value} (hB : Begun w W #[u0, u1, u2, u3, u4, u5] #[v] 25) (hw : w'' = cl6 W w.heap.size (w.heap.size + 1)) : ToldEnd w w'' := by
  have hcl : Cleared6 W w'' w.heap.size (w.heap.size + 1) #[.int .i64 0, .string ⟨#[]⟩, .int .i64 0, .int .i64 0, .slice none 0 0, .slice none 0 0] #[.bool false] := by rw [hw]; exact cleared6 _ _ _ _ _ _ _ _ _ W hB.res hB.ok (by omega)
  exact ⟨hcl.res, hcl.ok, hcl.os.trans hB.os, hcl.tape.trans hB.tape, hcl.output.trans hB.output, by have := hB.size; have := hcl.size; omega, fun q hq _ => (hcl.rest q (by have := hB.size; omega) (by omega) (by omega)).trans (hB.rest q hq)⟩
theorem list_shape {w : World} {base : Nat} {v : Value} {xs : List Int} (hR : Kd.R (Kd.int .i64) 3 w base (fun _ => True) v xs) : ∃ A n c, v = .slice A n c := by
  obtain ⟨A, c, h⟩ := Kd.R_slice hR
  exact ⟨A, _, c, h⟩
theorem pList_size {s t : ByteArray} {xs : List Int} (h : pList s = some (xs, t)) : t.size ≤ s.size := by
  unfold pList at h
  cases hp : pLen s with
  | none => rw [hp] at h; cases h
  | some a =>
    rw [hp, Option.bind_some] at h
    exact Nat.le_trans (pNums_size _ (xs := xs) h).1 (pLen_range (a := a.1) (t := a.2) hp).2.2
/-- The result's block after a store. -/
theorem begun_s {w W : World} {C C' B : Array Value} (h : Begun w W C B 25) (j : Nat) (v : Value) (e : C.setIfInBounds j v = C') : Begun w (W.setCell ⟨w.heap.size, j, none⟩ v) C' B 25 := by
  subst e
  exact begun_set h j v
theorem info63 : (Try.prog.info? 63).map (fun i => (i.zero, i.size, i.bytes)) = some (some (.agg #[.int .i64 0, .int .i64 0, .bool false, .string ⟨#[]⟩]), 4, 40) := by kernel_rfl
theorem info67 : (Try.prog.info? 67).map (fun i => (i.zero, i.size, i.bytes)) = some (some (.agg #[.int .i64 0, .int .i64 0, .int .i64 0, .slice none 0 0, .slice none 0 0]), 5, 72) := by kernel_rfl
end Go.Proofs.Ytibfbdfoiboanaa.Rd
