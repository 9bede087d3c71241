/- words.Told: whether bytes are an answer's. Over the program alone. -/
import Derived.Test.YtibfbdfoiboanaaRd5
namespace Go.Proofs.Ytibfbdfoiboanaa.Rd
open Go.RowKit Go.Proofs.YtibfbdfoiboanaaW.PrintWords Go.Proofs.YtibfbdfoiboanaaW.PrintMore
set_option linter.unusedVariables false
set_option linter.unusedSimpArgs false
/-! What is left behind a run, an entry, so many of them, an answer. -/
def pRunR (s : ByteArray) : Option ByteArray := (pNum s).bind fun a => (pNum a.2).bind fun b => (pFlag b.2).bind fun c => (pText c.2).map fun d => d.2
def pEntR (s : ByteArray) : Option ByteArray := (pNum s).bind fun a => (pNum a.2).bind fun b => (pNum b.2).bind fun c => (pList c.2).bind fun d => (pList d.2).map fun e => e.2
def pReps (p : ByteArray → Option ByteArray) : Nat → ByteArray → Option ByteArray
  | 0, s => some s
  | n + 1, s => (p s).bind (pReps p n)
def pTold (s : ByteArray) : Option ByteArray :=
  (pLen s).bind fun o => (pText o.2).bind fun t => (pNum t.2).bind fun n => (pNum n.2).bind fun a => (pLen a.2).bind fun k => (pReps pRunR k.1.toNat k.2).bind fun u => (pLen u).bind fun m => (pReps pEntR m.1.toNat m.2).bind fun v => if v.size = 0 then some v else none
/-- Cells as they are. -/
def Raw (n : Nat) : Type := { l : List Value // l.length = n ∧ ∀ u ∈ l, u.oneCell' = true }
def rawK (n : Nat) : Kd (Raw n) where
  sz := n
  E := []
  K := fun _ x cs => cs = x.1
  M := fun _ _ _ x cs => cs = x.1
  K_len := by rintro w x cs rfl; exact x.2.1
  K_one := by rintro w x cs rfl; exact x.2.2
  K_below := by intro w w1 x cs _ h; exact h
  K_of_M := by intro w base ok x cs h; exact h
  M_mono := by intro w base ok ok' x cs _ h; exact h
  M_bound := by intro w base ok x cs h; exact h
  M_move := by intro w w1 base ok x cs _ h; exact h
  M_lower := by intro w base base' ok x cs _ h; exact h
theorem raw_shape {n e base : Nat} {W : World} {v : Value} {xs : List (Raw n)} (h : (rawK n).R e W base (fun _ => True) v xs) : ∃ A k c, v = .slice A k c := by
  obtain ⟨A, c, h⟩ := Kd.R_slice h
  exact ⟨A, _, c, h⟩
theorem raw_grown {n e base g t : Nat} {W W' : World} {v : Value} {xs : List (Raw n)} {C : Array Value} (h : (rawK n).R e W base (fun _ => True) v xs) (hg : W.grownBy W' (some g)) (hb : W.heap[g]? = some (.cells C t (0, 0))) (ht : e ≠ t) : (rawK n).R e W' base (fun _ => True) v xs :=
  Kd.R_grown2 h rfl hg (fun k hk => by injection hk with hk; subst hk; exact Kd.R_ne h hb ht)
theorem raw_set {n e base b j : Nat} {u : Value} {W : World} {v : Value} {xs : List (Raw n)} (h : (rawK n).R e W base (fun _ => True) v xs) (hb : ∀ k, v.ownBlock = some k → k ≠ b) : (rawK n).R e (W.setCell ⟨b, j, none⟩ u) base (fun _ => True) v xs :=
  Kd.R_reok rfl (Kd.R_far (Kd.R_reok (ok := fun k => k ≠ b) rfl h hb) (fun k hk => hk) u) (fun _ _ => trivial)
theorem begun_below {w W W' : World} {C B : Array Value} {tc : TypeId} (h : Begun w W C B tc) (k : Below W.heap.size W W') : Begun w W' C B tc := by
  have hs := h.size
  exact ⟨(k.block _ (by omega)).trans h.res, (k.block _ (by omega)).trans h.ok, fun q hq => (k.block q (by omega)).trans (h.rest q hq), k.os.trans h.os, k.tape.trans h.tape, k.output.trans h.output, Nat.le_trans hs k.size⟩
theorem begun_far {w W : World} {C B : Array Value} {tc : TypeId} (h : Begun w W C B tc) {b : Nat} (hb : w.heap.size + 2 ≤ b) (j : Nat) (u : Value) : Begun w (W.setCell ⟨b, j, none⟩ u) C B tc :=
  ⟨(Below.heap_setCell W ⟨b, j, none⟩ u _ (by simp; omega)).trans h.res, (Below.heap_setCell W ⟨b, j, none⟩ u _ (by simp; omega)).trans h.ok, fun q hq => (Below.heap_setCell W ⟨b, j, none⟩ u q (by simp; omega)).trans (h.rest q hq), h.os, h.tape, h.output, by simpa [World.setCell] using h.size⟩
theorem begun_row {n e : Nat} {w W W' : World} {C B : Array Value} {v : Value} {xs : List (Raw n)} (h : Begun w W C B 25) (hR : (rawK n).R e W w.heap.size (fun _ => True) v xs) (h1 : e ≠ 25) (h2 : e ≠ 4) (hg : W.grownBy W' v.ownBlock) : Begun w W' C B 25 := by
  have hs := h.size
  exact ⟨(hg.block _ (by omega) (Kd.R_ne hR h.res h1)).trans h.res, (hg.block _ (by omega) (Kd.R_ne hR h.ok h2)).trans h.ok, fun q hq => (hg.block q (by omega) (fun e => by have := Kd.R_base hR q e.symm; omega)).trans (h.rest q hq), hg.os.trans h.os, hg.tape.trans h.tape, hg.output.trans h.output, Nat.le_trans hs hg.size⟩
theorem left_row {n e g base : Nat} {W W' : World} {u : ByteArray} {v : Value} {xs : List (Raw n)} (h : Left W g u) (hR : (rawK n).R e W base (fun _ => True) v xs) (h1 : e ≠ 75) (hg : W.grownBy W' v.ownBlock) : Left W' g u :=
  (hg.block _ (blk_lt h) (Kd.R_ne hR h h1)).trans h
theorem left_below {W W' : World} {g : Nat} {u : ByteArray} (h : Left W g u) (k : Below W.heap.size W W') : Left W' g u := (k.block g (blk_lt h)).trans h
/-! The closure. -/
structure Cleared6 (w w' : World) (b k : Nat) (C B : Array Value) : Prop where
  res : w'.heap[b]? = some (.cells C 25 (0, 0))
  ok : w'.heap[k]? = some (.cells B 4 (0, 0))
  rest : ∀ q, q < w.heap.size → q ≠ b → q ≠ k → w'.heap[q]? = w.heap[q]?
  os : w'.os = w.os
  tape : w'.tape = w.tape
  output : w'.output = w.output
  size : w.heap.size ≤ w'.heap.size
theorem cl_res {w W : World} {b k : Nat} {C C' B : Array Value} (h : Cleared6 w W b k C B) (hne : b ≠ k) (j : Nat) (u : Value) (e : C.setIfInBounds j u = C') : Cleared6 w (W.setCell ⟨b, j, none⟩ u) b k C' B := by
  subst e
  exact ⟨blk_set h.res j u, (Below.heap_setCell W ⟨b, j, none⟩ u k (by simpa using hne.symm)).trans h.ok, fun q hq hb hk => (Below.heap_setCell W ⟨b, j, none⟩ u q (by simpa using hb)).trans (h.rest q hq hb hk), h.os, h.tape, h.output, by simpa [World.setCell] using h.size⟩
theorem cl_ok {w W : World} {b k : Nat} {C B B' : Array Value} (h : Cleared6 w W b k C B) (hne : b ≠ k) (j : Nat) (u : Value) (e : B.setIfInBounds j u = B') : Cleared6 w (W.setCell ⟨k, j, none⟩ u) b k C B' := by
  subst e
  exact ⟨(Below.heap_setCell W ⟨k, j, none⟩ u b (by simpa using hne)).trans h.res, blk_set h.ok j u, fun q hq hb hk => (Below.heap_setCell W ⟨k, j, none⟩ u q (by simpa using hk)).trans (h.rest q hq hb hk), h.os, h.tape, h.output, by simpa [World.setCell] using h.size⟩
theorem cl_alloc {w W : World} {b k : Nat} {C B : Array Value} (h : Cleared6 w W b k C B) (o : Obj) : Cleared6 w (W.alloc o) b k C B := by
  have hp := below_alloc (Below.refl W.heap.size W) o
  exact ⟨(hp.block b (blk_lt h.res)).trans h.res, (hp.block k (blk_lt h.ok)).trans h.ok, fun q hq hb hk => (hp.block q (Nat.lt_of_lt_of_le hq h.size)).trans (h.rest q hq hb hk), h.os, h.tape, h.output, Nat.le_trans h.size hp.size⟩
def cl6 (w : World) (b k : Nat) : World := ((((((((w.setCell ⟨b, 0, none⟩ (.int .i64 0)).setCell ⟨b, 1, none⟩ (.string ⟨#[]⟩)).setCell ⟨b, 2, none⟩ (.int .i64 0)).setCell ⟨b, 3, none⟩ (.int .i64 0)).setCell ⟨b, 4, none⟩ (.slice none 0 0)).setCell ⟨b, 5, none⟩ (.slice none 0 0)).setCell ⟨k, 0, none⟩ (.bool false))).alloc (.cells #[] 54)
theorem set6 (u0 u1 u2 u3 u4 u5 v : Value) : (#[u0, u1, u2, u3, u4, u5] : Array Value).setIfInBounds 0 v = #[v, u1, u2, u3, u4, u5] ∧ (#[u0, u1, u2, u3, u4, u5] : Array Value).setIfInBounds 1 v = #[u0, v, u2, u3, u4, u5] ∧ (#[u0, u1, u2, u3, u4, u5] : Array Value).setIfInBounds 2 v = #[u0, u1, v, u3, u4, u5] ∧ (#[u0, u1, u2, u3, u4, u5] : Array Value).setIfInBounds 3 v = #[u0, u1, u2, v, u4, u5] ∧ (#[u0, u1, u2, u3, u4, u5] : Array Value).setIfInBounds 4 v = #[u0, u1, u2, u3, v, u5] ∧ (#[u0, u1, u2, u3, u4, u5] : Array Value).setIfInBounds 5 v = #[u0, u1, u2, u3, u4, v] := by
  refine ⟨?_, ?_, ?_, ?_, ?_, ?_⟩ <;> simp only [List.setIfInBounds_toArray, List.set_cons_zero, List.set_cons_succ]
theorem cleared6 (b k : Nat) (u0 u1 u2 u3 u4 u5 v : Value) (w : World) (hb : w.heap[b]? = some (.cells #[u0, u1, u2, u3, u4, u5] 25 (0, 0))) (hk : w.heap[k]? = some (.cells #[v] 4 (0, 0))) (hne : b ≠ k) :
    Cleared6 w (cl6 w b k) b k #[.int .i64 0, .string ⟨#[]⟩, .int .i64 0, .int .i64 0, .slice none 0 0, .slice none 0 0] #[.bool false] := by
  have h0 : Cleared6 w w b k #[u0, u1, u2, u3, u4, u5] #[v] := ⟨hb, hk, fun _ _ _ _ => rfl, rfl, rfl, rfl, Nat.le_refl _⟩
  have h1 := cl_res h0 hne 0 (.int .i64 0) (set6 _ _ _ _ _ _ _).1
  have h2 := cl_res h1 hne 1 (.string ⟨#[]⟩) (set6 _ _ _ _ _ _ _).2.1
  have h3 := cl_res h2 hne 2 (.int .i64 0) (set6 _ _ _ _ _ _ _).2.2.1
  have h4 := cl_res h3 hne 3 (.int .i64 0) (set6 _ _ _ _ _ _ _).2.2.2.1
  have h5 := cl_res h4 hne 4 (.slice none 0 0) (set6 _ _ _ _ _ _ _).2.2.2.2.1
  have h6 := cl_res h5 hne 5 (.slice none 0 0) (set6 _ _ _ _ _ _ _).2.2.2.2.2
  have h7 := cl_ok h6 hne 0 (.bool false) (B' := #[.bool false]) rfl
  exact cl_alloc h7 _
theorem told_idle (p q : Addr) (w : World) :
    CallsD Try.prog 34 #[.pointer (some p), .pointer (some q)] .returning w fun e u' w' => e = .returned (.tuple #[]) ∧ u' = .returning ∧ w' = w := by
  refine callsD_of_wpS Try.func34 rfl fun c₀ cs hu => ?_
  apply wpS_seq
  apply wpS_region
  simp [wpOpsS, go_sem, recoverD, hu, Try.ntmps34, Exit.thenS]
  apply wpS_seq
  apply wpS_region
  simp [wpOpsS, go_sem, Exit.thenS]
  refine wpS_cond (t := false) (by simp [Act.eval, Array.replicate]) ?_
  simp only [Bool.false_eq_true, if_false]
  refine wpS_of_wp (wp_skip ?_)
  cases c₀
  simp_all [bodyPostS, results, Try.results34]
set_option maxRecDepth 100000 in
set_option maxHeartbeats 4000000 in
theorem told_panicking (b k : Nat) (u0 u1 u2 u3 u4 u5 v : Value) (w : World) (hb : w.heap[b]? = some (.cells #[u0, u1, u2, u3, u4, u5] 25 (0, 0))) (hk : w.heap[k]? = some (.cells #[v] 4 (0, 0))) :
    CallsD Try.prog 34 #[.pointer (some ⟨b, 0, none⟩), .pointer (some ⟨k, 0, none⟩)] (.panicking [badP]) w fun e u' w' =>
      e = .returned (.tuple #[]) ∧ u' = .panicking [{ badP with recovered := true }] ∧ w' = cl6 w b k := by
  refine callsD_of_wpS Try.func34 rfl fun c₀ cs hu => ?_
  apply wpS_seq
  apply wpS_region
  simp [wpOpsS, go_sem, recoverD, hu, Try.ntmps34, Exit.thenS, badP]
  apply wpS_seq
  apply wpS_region
  simp [wpOpsS, go_sem, Exit.thenS]
  refine wpS_cond (t := true) (by simp [Act.eval, Array.replicate]) ?_
  simp only [if_true]
  refine wpS_of_wp ?_
  have hs0 : w.frozen? ⟨b, 0, none⟩ = false := blk_frozen hb 0
  have hc0 : w.cell? ⟨b, 0, none⟩ = some u0 := (blk_cell hb 0).trans rfl
  have hs1 : w.frozen? ⟨b, 1, none⟩ = false := blk_frozen hb 1
  have hc1 : w.cell? ⟨b, 1, none⟩ = some u1 := (blk_cell hb 1).trans rfl
  have hs2 : w.frozen? ⟨b, 2, none⟩ = false := blk_frozen hb 2
  have hc2 : w.cell? ⟨b, 2, none⟩ = some u2 := (blk_cell hb 2).trans rfl
  have hs3 : w.frozen? ⟨b, 3, none⟩ = false := blk_frozen hb 3
  have hc3 : w.cell? ⟨b, 3, none⟩ = some u3 := (blk_cell hb 3).trans rfl
  have hs4 : w.frozen? ⟨b, 4, none⟩ = false := blk_frozen hb 4
  have hc4 : w.cell? ⟨b, 4, none⟩ = some u4 := (blk_cell hb 4).trans rfl
  have hs5 : w.frozen? ⟨b, 5, none⟩ = false := blk_frozen hb 5
  have hc5 : w.cell? ⟨b, 5, none⟩ = some u5 := (blk_cell hb 5).trans rfl
  have hk0 : w.cell? ⟨k, 0, none⟩ = some v := (blk_cell hk 0).trans rfl
  have hkf : w.frozen? ⟨k, 0, none⟩ = false := blk_frozen hk 0
  have hbl : b < w.heap.size := blk_lt hb
  have hkl : k < w.heap.size := blk_lt hk
  have hbk : b ≠ k := fun e => by rw [e, hk] at hb; cases hb
  have hkb : k ≠ b := fun e => hbk e.symm
  have hta : ∀ W, (Instr.typeAssert (.iface 54 (.agg #[])) 20 54 true).run Try.prog W = .ok (.tuple #[.agg #[], .bool true]) W := fun W => by simp [Instr.typeAssert, run_underlying Try.underlying54, go_sem, Result.andThen]
  simp [Array.replicate]
  go_wp2
  cases c₀
  simp_all [bodyPostS, results, Try.results34, badP, cl6]
/-- Where the body gives up. -/
structure ToldEnd (w w'' : World) : Prop where
  res : w''.heap[w.heap.size]? = some (.cells #[.int .i64 0, .string ⟨#[]⟩, .int .i64 0, .int .i64 0, .slice none 0 0, .slice none 0 0] 25 (0, 0))
  ok : w''.heap[w.heap.size + 1]? = some (.cells #[.bool false] 4 (0, 0))
  grown : w.grownBy w'' none
theorem told_end {w W w'' : World} {u0 u1 u2 u3 u4 u5 v : Value} (hB : Begun w W #[u0, u1, u2, u3, u4, u5] #[v] 25) (hw : w'' = cl6 W w.heap.size (w.heap.size + 1)) : ToldEnd w w'' := by
  have hcl : Cleared6 W w'' w.heap.size (w.heap.size + 1) #[.int .i64 0, .string ⟨#[]⟩, .int .i64 0, .int .i64 0, .slice none 0 0, .slice none 0 0] #[.bool false] := by rw [hw]; exact cleared6 _ _ _ _ _ _ _ _ _ W hB.res hB.ok (by omega)
  exact ⟨hcl.res, hcl.ok, hcl.os.trans hB.os, hcl.tape.trans hB.tape, hcl.output.trans hB.output, by have := hB.size; have := hcl.size; omega, fun q hq _ => (hcl.rest q (by have := hB.size; omega) (by omega) (by omega)).trans (hB.rest q hq)⟩
theorem list_shape {w : World} {base : Nat} {v : Value} {xs : List Int} (hR : Kd.R (Kd.int .i64) 3 w base (fun _ => True) v xs) : ∃ A n c, v = .slice A n c := by
  obtain ⟨A, c, h⟩ := Kd.R_slice hR
  exact ⟨A, _, c, h⟩
theorem pList_size {s t : ByteArray} {xs : List Int} (h : pList s = some (xs, t)) : t.size ≤ s.size := by
  unfold pList at h
  cases hp : pLen s with
  | none => rw [hp] at h; cases h
  | some a =>
    rw [hp, Option.bind_some] at h
    exact Nat.le_trans (pNums_size _ (xs := xs) h).1 (pLen_range (a := a.1) (t := a.2) hp).2.2
/-- The result's block after a store. -/
theorem begun_s {w W : World} {C C' B : Array Value} (h : Begun w W C B 25) (j : Nat) (v : Value) (e : C.setIfInBounds j v = C') : Begun w (W.setCell ⟨w.heap.size, j, none⟩ v) C' B 25 := by
  subst e
  exact begun_set h j v
theorem info63 : (Try.prog.info? 63).map (fun i => (i.zero, i.size, i.bytes)) = some (some (.agg #[.int .i64 0, .int .i64 0, .bool false, .string ⟨#[]⟩]), 4, 40) := by kernel_rfl
theorem info67 : (Try.prog.info? 67).map (fun i => (i.zero, i.size, i.bytes)) = some (some (.agg #[.int .i64 0, .int .i64 0, .int .i64 0, .slice none 0 0, .slice none 0 0]), 5, 72) := by kernel_rfl
set_option maxRecDepth 100000 in
set_option maxHeartbeats 64000000 in
theorem told_calls (s : ByteArray) (w : World) (hs : s.size ≤ 9223372036854775807) :
    Calls Try.prog 11 #[.string s] w fun e w' => (∃ a b c d A k1 c1 B k2 c2, e = .returned (.tuple #[.agg #[.int .i64 a, .string b, .int .i64 c, .int .i64 d, .slice A k1 c1, .slice B k2 c2], .bool (pTold s).isSome])) ∧ w.grownBy w' none := by
  have hmf : ∀ (fn : Fn) (first cap : Array Value) (w : World), (Instr.makeFunc fn first cap).run Try.prog w = .ok (.func fn first cap) w := fun _ _ _ _ => rfl
  obtain ⟨P, hP⟩ : ∃ P, P = (pTold s).isSome := ⟨_, rfl⟩
  rw [← hP]
  have HPP := Aside0.mk hP
  have HS0 := Aside0.mk hs
  clear hP hs
  go_enter_defers Try.func11, Try.ntmps11
  go_upto_region 3 with (fail)
  have hC0 := fun W g (h : Left W g s) => length_calls g s W h HS0.out
  cases p0 : pLen s with
  | none =>
    rw [p0] at hC0
    have HC := Aside0.mk hC0
    clear hC0
    go_wp2_with (go_at_call 35; refine (HC.out _ _ ?_).mono ?_; exact left_new _ _ _ _; rintro e wa ⟨rfl, hg⟩; have HBa := Aside0.mk (begun w wa _ _ 25 s hg); clear hg)
    have hPf : P = false := by rw [HPP.out]; simp only [pTold, p0, Option.bind_some, Option.bind_none, Int.toNat_natCast]; rfl
    subst hPf
    refine leaves_cons (f := 34) (args := #[.pointer (some ⟨w.heap.size, 0, none⟩), .pointer (some ⟨w.heap.size + 1, 0, none⟩)]) (by simp) (by simp [go_sem]) ?_
    refine (told_panicking w.heap.size (w.heap.size + 1) _ _ _ _ _ _ _ _ HBa.out.res HBa.out.ok).mono ?_
    rintro e u' w'' ⟨rfl, rfl, hw⟩
    have hE := told_end HBa.out hw
    have hc0 : w''.cell? ⟨w.heap.size, 0, none⟩ = some (.int .i64 0) := (blk_cell hE.res 0).trans rfl
    have hc1 : w''.cell? ⟨w.heap.size, 1, none⟩ = some (.string ⟨#[]⟩) := (blk_cell hE.res 1).trans rfl
    have hc2 : w''.cell? ⟨w.heap.size, 2, none⟩ = some (.int .i64 0) := (blk_cell hE.res 2).trans rfl
    have hc3 : w''.cell? ⟨w.heap.size, 3, none⟩ = some (.int .i64 0) := (blk_cell hE.res 3).trans rfl
    have hc4 : w''.cell? ⟨w.heap.size, 4, none⟩ = some (.slice none 0 0) := (blk_cell hE.res 4).trans rfl
    have hc5 : w''.cell? ⟨w.heap.size, 5, none⟩ = some (.slice none 0 0) := (blk_cell hE.res 5).trans rfl
    have hk0 : w''.cell? ⟨w.heap.size + 1, 0, none⟩ = some (.bool false) := (blk_cell hE.ok 0).trans rfl
    have HG := hE.grown
    clear hw hE
    simp [Leaves, settle, results, Try.results11, go_sem, hc0, hc1, hc2, hc3, hc4, hc5, hk0, Result.andThen]
    exact HG
  | some a =>
    obtain ⟨st, s1⟩ := a
    rw [p0] at hC0
    have HC := Aside0.mk hC0
    have HS1 := Aside0.mk (Nat.le_trans (pLen_range p0).2.2 HS0.out)
    have HP0 := Aside0.mk p0
    clear hC0 p0
    go_upto_region 4 with (go_at_call 35; refine (HC.out _ _ ?_).mono ?_; exact left_new _ _ _ _; rintro e wa ⟨rfl, hg, hl⟩; have HBa := Aside0.mk (begun w wa _ _ 25 s hg); have HLa := Aside0.mk hl; have hc : wa.cell? ⟨w.heap.size, 0, none⟩ = some (.int .i64 0) := (blk_cell HBa.out.res 0).trans rfl; have hf := blk_frozen HBa.out.res 0; clear hg hl)
    obtain ⟨w1, hw⟩ : ∃ W, W = wa.setCell ⟨w.heap.size, 0, none⟩ (.int .i64 st) := ⟨_, rfl⟩
    rw [← hw]
    have HB1 := Aside0.mk (show Begun w w1 #[.int .i64 st, .string ⟨#[]⟩, .int .i64 0, .int .i64 0, .slice none 0 0, .slice none 0 0] #[.bool false] 25 by rw [hw]; exact begun_s HBa.out 0 _ (set6 _ _ _ _ _ _ _).1)
    have HL1 := Aside0.mk (show Left w1 (w.heap.size + 1 + 1) s1 by rw [hw]; exact left_setc HLa.out (by omega))
    clear hw hc hf HBa HLa HC
    have hC1 := fun W g (h : Left W g s1) => text_calls g s1 W h HS1.out
    cases p1 : pText s1 with
    | none =>
      rw [p1] at hC1
      have HC := Aside0.mk hC1
      clear hC1
      go_wp2_with (go_at_call 36; refine (HC.out _ _ HL1.out).mono ?_; rintro e wa ⟨rfl, hg⟩; have HBa := Aside0.mk (begun_grown HB1.out hg); clear hg)
      have hPf : P = false := by rw [HPP.out]; simp only [pTold, HP0.out, p1, Option.bind_some, Option.bind_none, Int.toNat_natCast]; rfl
      subst hPf
      refine leaves_cons (f := 34) (args := #[.pointer (some ⟨w.heap.size, 0, none⟩), .pointer (some ⟨w.heap.size + 1, 0, none⟩)]) (by simp) (by simp [go_sem]) ?_
      refine (told_panicking w.heap.size (w.heap.size + 1) _ _ _ _ _ _ _ _ HBa.out.res HBa.out.ok).mono ?_
      rintro e u' w'' ⟨rfl, rfl, hw⟩
      have hE := told_end HBa.out hw
      have hc0 : w''.cell? ⟨w.heap.size, 0, none⟩ = some (.int .i64 0) := (blk_cell hE.res 0).trans rfl
      have hc1 : w''.cell? ⟨w.heap.size, 1, none⟩ = some (.string ⟨#[]⟩) := (blk_cell hE.res 1).trans rfl
      have hc2 : w''.cell? ⟨w.heap.size, 2, none⟩ = some (.int .i64 0) := (blk_cell hE.res 2).trans rfl
      have hc3 : w''.cell? ⟨w.heap.size, 3, none⟩ = some (.int .i64 0) := (blk_cell hE.res 3).trans rfl
      have hc4 : w''.cell? ⟨w.heap.size, 4, none⟩ = some (.slice none 0 0) := (blk_cell hE.res 4).trans rfl
      have hc5 : w''.cell? ⟨w.heap.size, 5, none⟩ = some (.slice none 0 0) := (blk_cell hE.res 5).trans rfl
      have hk0 : w''.cell? ⟨w.heap.size + 1, 0, none⟩ = some (.bool false) := (blk_cell hE.ok 0).trans rfl
      have HG := hE.grown
      clear hw hE
      simp [Leaves, settle, results, Try.results11, go_sem, hc0, hc1, hc2, hc3, hc4, hc5, hk0, Result.andThen]
      exact HG
    | some a =>
      obtain ⟨tok, s2⟩ := a
      rw [p1] at hC1
      have HC := Aside0.mk hC1
      have HS2 := Aside0.mk (Nat.le_trans (pText_size p1) HS1.out)
      have HP1 := Aside0.mk p1
      clear hC1 p1
      go_upto_region 5 with (go_at_call 36; refine (HC.out _ _ HL1.out).mono ?_; rintro e wa ⟨rfl, hg, hl⟩; have HBa := Aside0.mk (begun_grown HB1.out hg); have HLa := Aside0.mk hl; have hc : wa.cell? ⟨w.heap.size, 1, none⟩ = some (.string ⟨#[]⟩) := (blk_cell HBa.out.res 1).trans rfl; have hf := blk_frozen HBa.out.res 1; clear hg hl)
      obtain ⟨w2, hw⟩ : ∃ W, W = wa.setCell ⟨w.heap.size, 1, none⟩ (.string tok) := ⟨_, rfl⟩
      rw [← hw]
      have HB2 := Aside0.mk (show Begun w w2 #[.int .i64 st, .string tok, .int .i64 0, .int .i64 0, .slice none 0 0, .slice none 0 0] #[.bool false] 25 by rw [hw]; exact begun_s HBa.out 1 _ (set6 _ _ _ _ _ _ _).2.1)
      have HL2 := Aside0.mk (show Left w2 (w.heap.size + 1 + 1) s2 by rw [hw]; exact left_setc HLa.out (by omega))
      clear hw hc hf HBa HLa HC HB1 HL1
      have hC2 := fun W g (h : Left W g s2) => num_calls g s2 W h HS2.out
      cases p2 : pNum s2 with
      | none =>
        rw [p2] at hC2
        have HC := Aside0.mk hC2
        clear hC2
        go_wp2_with (go_at_call 37; refine (HC.out _ _ HL2.out).mono ?_; rintro e wa ⟨rfl, hg⟩; have HBa := Aside0.mk (begun_grown HB2.out hg); clear hg)
        have hPf : P = false := by rw [HPP.out]; simp only [pTold, HP0.out, HP1.out, p2, Option.bind_some, Option.bind_none, Int.toNat_natCast]; rfl
        subst hPf
        refine leaves_cons (f := 34) (args := #[.pointer (some ⟨w.heap.size, 0, none⟩), .pointer (some ⟨w.heap.size + 1, 0, none⟩)]) (by simp) (by simp [go_sem]) ?_
        refine (told_panicking w.heap.size (w.heap.size + 1) _ _ _ _ _ _ _ _ HBa.out.res HBa.out.ok).mono ?_
        rintro e u' w'' ⟨rfl, rfl, hw⟩
        have hE := told_end HBa.out hw
        have hc0 : w''.cell? ⟨w.heap.size, 0, none⟩ = some (.int .i64 0) := (blk_cell hE.res 0).trans rfl
        have hc1 : w''.cell? ⟨w.heap.size, 1, none⟩ = some (.string ⟨#[]⟩) := (blk_cell hE.res 1).trans rfl
        have hc2 : w''.cell? ⟨w.heap.size, 2, none⟩ = some (.int .i64 0) := (blk_cell hE.res 2).trans rfl
        have hc3 : w''.cell? ⟨w.heap.size, 3, none⟩ = some (.int .i64 0) := (blk_cell hE.res 3).trans rfl
        have hc4 : w''.cell? ⟨w.heap.size, 4, none⟩ = some (.slice none 0 0) := (blk_cell hE.res 4).trans rfl
        have hc5 : w''.cell? ⟨w.heap.size, 5, none⟩ = some (.slice none 0 0) := (blk_cell hE.res 5).trans rfl
        have hk0 : w''.cell? ⟨w.heap.size + 1, 0, none⟩ = some (.bool false) := (blk_cell hE.ok 0).trans rfl
        have HG := hE.grown
        clear hw hE
        simp [Leaves, settle, results, Try.results11, go_sem, hc0, hc1, hc2, hc3, hc4, hc5, hk0, Result.andThen]
        exact HG
      | some a =>
        obtain ⟨num, s3⟩ := a
        rw [p2] at hC2
        have HC := Aside0.mk hC2
        have HS3 := Aside0.mk (Nat.le_trans (pNum_size p2) HS2.out)
        have HP2 := Aside0.mk p2
        clear hC2 p2
        go_upto_region 6 with (go_at_call 37; refine (HC.out _ _ HL2.out).mono ?_; rintro e wa ⟨rfl, hg, hl⟩; have HBa := Aside0.mk (begun_grown HB2.out hg); have HLa := Aside0.mk hl; have hc : wa.cell? ⟨w.heap.size, 2, none⟩ = some (.int .i64 0) := (blk_cell HBa.out.res 2).trans rfl; have hf := blk_frozen HBa.out.res 2; clear hg hl)
        obtain ⟨w3, hw⟩ : ∃ W, W = wa.setCell ⟨w.heap.size, 2, none⟩ (.int .i64 num) := ⟨_, rfl⟩
        rw [← hw]
        have HB3 := Aside0.mk (show Begun w w3 #[.int .i64 st, .string tok, .int .i64 num, .int .i64 0, .slice none 0 0, .slice none 0 0] #[.bool false] 25 by rw [hw]; exact begun_s HBa.out 2 _ (set6 _ _ _ _ _ _ _).2.2.1)
        have HL3 := Aside0.mk (show Left w3 (w.heap.size + 1 + 1) s3 by rw [hw]; exact left_setc HLa.out (by omega))
        clear hw hc hf HBa HLa HC HB2 HL2
        have hC3 := fun W g (h : Left W g s3) => num_calls g s3 W h HS3.out
        cases p3 : pNum s3 with
        | none =>
          rw [p3] at hC3
          have HC := Aside0.mk hC3
          clear hC3
          go_wp2_with (go_at_call 37; refine (HC.out _ _ HL3.out).mono ?_; rintro e wa ⟨rfl, hg⟩; have HBa := Aside0.mk (begun_grown HB3.out hg); clear hg)
          have hPf : P = false := by rw [HPP.out]; simp only [pTold, HP0.out, HP1.out, HP2.out, p3, Option.bind_some, Option.bind_none, Int.toNat_natCast]; rfl
          subst hPf
          refine leaves_cons (f := 34) (args := #[.pointer (some ⟨w.heap.size, 0, none⟩), .pointer (some ⟨w.heap.size + 1, 0, none⟩)]) (by simp) (by simp [go_sem]) ?_
          refine (told_panicking w.heap.size (w.heap.size + 1) _ _ _ _ _ _ _ _ HBa.out.res HBa.out.ok).mono ?_
          rintro e u' w'' ⟨rfl, rfl, hw⟩
          have hE := told_end HBa.out hw
          have hc0 : w''.cell? ⟨w.heap.size, 0, none⟩ = some (.int .i64 0) := (blk_cell hE.res 0).trans rfl
          have hc1 : w''.cell? ⟨w.heap.size, 1, none⟩ = some (.string ⟨#[]⟩) := (blk_cell hE.res 1).trans rfl
          have hc2 : w''.cell? ⟨w.heap.size, 2, none⟩ = some (.int .i64 0) := (blk_cell hE.res 2).trans rfl
          have hc3 : w''.cell? ⟨w.heap.size, 3, none⟩ = some (.int .i64 0) := (blk_cell hE.res 3).trans rfl
          have hc4 : w''.cell? ⟨w.heap.size, 4, none⟩ = some (.slice none 0 0) := (blk_cell hE.res 4).trans rfl
          have hc5 : w''.cell? ⟨w.heap.size, 5, none⟩ = some (.slice none 0 0) := (blk_cell hE.res 5).trans rfl
          have hk0 : w''.cell? ⟨w.heap.size + 1, 0, none⟩ = some (.bool false) := (blk_cell hE.ok 0).trans rfl
          have HG := hE.grown
          clear hw hE
          simp [Leaves, settle, results, Try.results11, go_sem, hc0, hc1, hc2, hc3, hc4, hc5, hk0, Result.andThen]
          exact HG
        | some a =>
          obtain ⟨at_, s4⟩ := a
          rw [p3] at hC3
          have HC := Aside0.mk hC3
          have HS4 := Aside0.mk (Nat.le_trans (pNum_size p3) HS3.out)
          have HP3 := Aside0.mk p3
          clear hC3 p3
          go_upto_region 7 with (go_at_call 37; refine (HC.out _ _ HL3.out).mono ?_; rintro e wa ⟨rfl, hg, hl⟩; have HBa := Aside0.mk (begun_grown HB3.out hg); have HLa := Aside0.mk hl; have hc : wa.cell? ⟨w.heap.size, 3, none⟩ = some (.int .i64 0) := (blk_cell HBa.out.res 3).trans rfl; have hf := blk_frozen HBa.out.res 3; clear hg hl)
          obtain ⟨w4, hw⟩ : ∃ W, W = wa.setCell ⟨w.heap.size, 3, none⟩ (.int .i64 at_) := ⟨_, rfl⟩
          rw [← hw]
          have HB4 := Aside0.mk (show Begun w w4 #[.int .i64 st, .string tok, .int .i64 num, .int .i64 at_, .slice none 0 0, .slice none 0 0] #[.bool false] 25 by rw [hw]; exact begun_s HBa.out 3 _ (set6 _ _ _ _ _ _ _).2.2.2.1)
          have HL4 := Aside0.mk (show Left w4 (w.heap.size + 1 + 1) s4 by rw [hw]; exact left_setc HLa.out (by omega))
          clear hw hc hf HBa HLa HC HB3 HL3
          have hC4 := fun W g (h : Left W g s4) => length_calls g s4 W h HS4.out
          cases p4 : pLen s4 with
          | none =>
            rw [p4] at hC4
            have HC := Aside0.mk hC4
            clear hC4
            go_wp2_with (go_at_call 35; refine (HC.out _ _ HL4.out).mono ?_; rintro e wa ⟨rfl, hg⟩; have HBa := Aside0.mk (begun_grown HB4.out hg); clear hg)
            have hPf : P = false := by rw [HPP.out]; simp only [pTold, HP0.out, HP1.out, HP2.out, HP3.out, p4, Option.bind_some, Option.bind_none, Int.toNat_natCast]; rfl
            subst hPf
            refine leaves_cons (f := 34) (args := #[.pointer (some ⟨w.heap.size, 0, none⟩), .pointer (some ⟨w.heap.size + 1, 0, none⟩)]) (by simp) (by simp [go_sem]) ?_
            refine (told_panicking w.heap.size (w.heap.size + 1) _ _ _ _ _ _ _ _ HBa.out.res HBa.out.ok).mono ?_
            rintro e u' w'' ⟨rfl, rfl, hw⟩
            have hE := told_end HBa.out hw
            have hc0 : w''.cell? ⟨w.heap.size, 0, none⟩ = some (.int .i64 0) := (blk_cell hE.res 0).trans rfl
            have hc1 : w''.cell? ⟨w.heap.size, 1, none⟩ = some (.string ⟨#[]⟩) := (blk_cell hE.res 1).trans rfl
            have hc2 : w''.cell? ⟨w.heap.size, 2, none⟩ = some (.int .i64 0) := (blk_cell hE.res 2).trans rfl
            have hc3 : w''.cell? ⟨w.heap.size, 3, none⟩ = some (.int .i64 0) := (blk_cell hE.res 3).trans rfl
            have hc4 : w''.cell? ⟨w.heap.size, 4, none⟩ = some (.slice none 0 0) := (blk_cell hE.res 4).trans rfl
            have hc5 : w''.cell? ⟨w.heap.size, 5, none⟩ = some (.slice none 0 0) := (blk_cell hE.res 5).trans rfl
            have hk0 : w''.cell? ⟨w.heap.size + 1, 0, none⟩ = some (.bool false) := (blk_cell hE.ok 0).trans rfl
            have HG := hE.grown
            clear hw hE
            simp [Leaves, settle, results, Try.results11, go_sem, hc0, hc1, hc2, hc3, hc4, hc5, hk0, Result.andThen]
            exact HG
          | some a =>
            obtain ⟨nI, s5⟩ := a
            rw [p4] at hC4
            have HC := Aside0.mk hC4
            have HS5 := Aside0.mk (Nat.le_trans (pLen_range p4).2.2 HS4.out)
            obtain ⟨n, hn⟩ := Int.eq_ofNat_of_zero_le (pLen_range p4).1
            have hn5 : n ≤ 255 := by have := (pLen_range p4).2.1; omega
            subst hn
            have HP4 := Aside0.mk p4
            clear hC4 p4
            go_wp2_with (go_at_call 35; refine (HC.out _ _ HL4.out).mono ?_; rintro e wa ⟨rfl, hg, hl⟩; have HBa := Aside0.mk (begun_grown HB4.out hg); have HLa := Aside0.mk hl; clear hg hl)
            clear HC HB4 HL4
            go_loopg [25] n (fun gg vi wr => ∃ (k : Nat) (u : ByteArray) (vr : Value) (xs : List (Raw 4)), k ≤ n ∧ n - k ≤ gg ∧ vi = .int .i64 k ∧ xs.length = k ∧ u.size ≤ 9223372036854775807 ∧ Aside0 (pReps pRunR n s5 = pReps pRunR (n - k) u) ∧ Aside0 (Begun w wr #[.int .i64 st, .string tok, .int .i64 num, .int .i64 at_, vr, .slice none 0 0] #[.bool false] 25) ∧ Aside0 (Left wr (w.heap.size + 1 + 1) u) ∧ Aside0 ((rawK 4).R 63 wr w.heap.size (fun _ => True) vr xs))
            case atStart => exact ⟨0, s5, _, [], Nat.zero_le _, by omega, rfl, rfl, HS5.out, ⟨rfl⟩, HBa, HLa, ⟨Kd.R_nil _ _ _ _ _⟩⟩
            case round =>
              clear HBa HLa
              obtain ⟨k, u, vr, xs, hk, hkg, rfl, hlen, hu, HPR, HBr, HLr, HRr⟩ := hrel
              by_cases hlt : k < n
              · have hkz : decide ((k : Int) < (n : Int)) = true := decide_eq_true (by omega)
                obtain ⟨j, hj⟩ : ∃ j, n - k = j + 1 := ⟨n - k - 1, by omega⟩
                rw [hj] at HPR
                have HJ := Aside0.mk hj
                clear hj
                obtain ⟨A, kk, cc, rfl⟩ := raw_shape HRr.out
                go_upto_region 9 with (fail)
                have hN0 := fun W g (h : Left W g u) => num_calls g u W h hu
                cases q0 : pNum u with
                | none =>
                  rw [q0] at hN0
                  have HN0 := Aside0.mk hN0
                  clear hN0
                  go_wp2_with (go_at_call 37; (with_reducible refine (HN0.out _ _ HLr.out).mono ?_); rintro e n0 ⟨rfl, hg⟩; have HBn0 := Aside0.mk (begun_grown HBr.out hg); clear hg)
                  have hnone : pReps pRunR n s5 = none := by rw [HPR.out]; simp only [pReps, pRunR, q0, Option.bind_some, Option.bind_none]
                  have hPf : P = false := by rw [HPP.out]; simp only [pTold, HP0.out, HP1.out, HP2.out, HP3.out, HP4.out, Option.bind_some, Option.bind_none, Int.toNat_natCast, hnone]; rfl
                  subst hPf
                  refine leaves_cons (f := 34) (args := #[.pointer (some ⟨w.heap.size, 0, none⟩), .pointer (some ⟨w.heap.size + 1, 0, none⟩)]) (by simp) (by simp [go_sem]) ?_
                  refine (told_panicking w.heap.size (w.heap.size + 1) _ _ _ _ _ _ _ _ HBn0.out.res HBn0.out.ok).mono ?_
                  rintro e u' w'' ⟨rfl, rfl, hw⟩
                  have hE := told_end HBn0.out hw
                  have hc0 : w''.cell? ⟨w.heap.size, 0, none⟩ = some (.int .i64 0) := (blk_cell hE.res 0).trans rfl
                  have hc1 : w''.cell? ⟨w.heap.size, 1, none⟩ = some (.string ⟨#[]⟩) := (blk_cell hE.res 1).trans rfl
                  have hc2 : w''.cell? ⟨w.heap.size, 2, none⟩ = some (.int .i64 0) := (blk_cell hE.res 2).trans rfl
                  have hc3 : w''.cell? ⟨w.heap.size, 3, none⟩ = some (.int .i64 0) := (blk_cell hE.res 3).trans rfl
                  have hc4 : w''.cell? ⟨w.heap.size, 4, none⟩ = some (.slice none 0 0) := (blk_cell hE.res 4).trans rfl
                  have hc5 : w''.cell? ⟨w.heap.size, 5, none⟩ = some (.slice none 0 0) := (blk_cell hE.res 5).trans rfl
                  have hk0 : w''.cell? ⟨w.heap.size + 1, 0, none⟩ = some (.bool false) := (blk_cell hE.ok 0).trans rfl
                  have HG := hE.grown
                  clear hw hE
                  simp [Leaves, settle, results, Try.results11, go_sem, hc0, hc1, hc2, hc3, hc4, hc5, hk0, Result.andThen]
                  exact HG
                | some z =>
                  obtain ⟨a, u0⟩ := z
                  rw [q0] at hN0
                  have HN0 := Aside0.mk hN0
                  have hz0 : u0.size ≤ 9223372036854775807 := Nat.le_trans (pNum_size q0) hu
                  have HQ0 := Aside0.mk q0
                  clear hN0 q0
                  have hN1 := fun W g (h : Left W g u0) => num_calls g u0 W h hz0
                  cases q1 : pNum u0 with
                  | none =>
                    rw [q1] at hN1
                    have HN1 := Aside0.mk hN1
                    clear hN1
                    go_wp2_with (first | (go_at_call 37; (with_reducible refine (HN1.out _ _ HLn0.out).mono ?_); rintro e n1 ⟨rfl, hg⟩; have HBn1 := Aside0.mk (begun_grown HBn0.out hg); clear hg) | (go_at_call 37; (with_reducible refine (HN0.out _ _ HLr.out).mono ?_); rintro e n0 ⟨rfl, hg, hl⟩; have HBn0 := Aside0.mk (begun_grown HBr.out hg); have HLn0 := Aside0.mk hl; have HRn0 := Aside0.mk (raw_grown HRr.out hg HLr.out (by decide)); clear hg hl))
                    have hnone : pReps pRunR n s5 = none := by rw [HPR.out]; simp only [pReps, pRunR, HQ0.out, q1, Option.bind_some, Option.bind_none]
                    have hPf : P = false := by rw [HPP.out]; simp only [pTold, HP0.out, HP1.out, HP2.out, HP3.out, HP4.out, Option.bind_some, Option.bind_none, Int.toNat_natCast, hnone]; rfl
                    subst hPf
                    refine leaves_cons (f := 34) (args := #[.pointer (some ⟨w.heap.size, 0, none⟩), .pointer (some ⟨w.heap.size + 1, 0, none⟩)]) (by simp) (by simp [go_sem]) ?_
                    refine (told_panicking w.heap.size (w.heap.size + 1) _ _ _ _ _ _ _ _ HBn1.out.res HBn1.out.ok).mono ?_
                    rintro e u' w'' ⟨rfl, rfl, hw⟩
                    have hE := told_end HBn1.out hw
                    have hc0 : w''.cell? ⟨w.heap.size, 0, none⟩ = some (.int .i64 0) := (blk_cell hE.res 0).trans rfl
                    have hc1 : w''.cell? ⟨w.heap.size, 1, none⟩ = some (.string ⟨#[]⟩) := (blk_cell hE.res 1).trans rfl
                    have hc2 : w''.cell? ⟨w.heap.size, 2, none⟩ = some (.int .i64 0) := (blk_cell hE.res 2).trans rfl
                    have hc3 : w''.cell? ⟨w.heap.size, 3, none⟩ = some (.int .i64 0) := (blk_cell hE.res 3).trans rfl
                    have hc4 : w''.cell? ⟨w.heap.size, 4, none⟩ = some (.slice none 0 0) := (blk_cell hE.res 4).trans rfl
                    have hc5 : w''.cell? ⟨w.heap.size, 5, none⟩ = some (.slice none 0 0) := (blk_cell hE.res 5).trans rfl
                    have hk0 : w''.cell? ⟨w.heap.size + 1, 0, none⟩ = some (.bool false) := (blk_cell hE.ok 0).trans rfl
                    have HG := hE.grown
                    clear hw hE
                    simp [Leaves, settle, results, Try.results11, go_sem, hc0, hc1, hc2, hc3, hc4, hc5, hk0, Result.andThen]
                    exact HG
                  | some z =>
                    obtain ⟨b, u1⟩ := z
                    rw [q1] at hN1
                    have HN1 := Aside0.mk hN1
                    have hz1 : u1.size ≤ 9223372036854775807 := Nat.le_trans (pNum_size q1) hz0
                    have HQ1 := Aside0.mk q1
                    clear hN1 q1
                    go_upto_region 10 with (first | (go_at_call 37; (with_reducible refine (HN1.out _ _ HLn0.out).mono ?_); rintro e n1 ⟨rfl, hg, hl⟩; have HBn1 := Aside0.mk (begun_grown HBn0.out hg); have HLn1 := Aside0.mk hl; have HRn1 := Aside0.mk (raw_grown HRn0.out hg HLn0.out (by decide)); clear hg hl) | (go_at_call 37; (with_reducible refine (HN0.out _ _ HLr.out).mono ?_); rintro e n0 ⟨rfl, hg, hl⟩; have HBn0 := Aside0.mk (begun_grown HBr.out hg); have HLn0 := Aside0.mk hl; have HRn0 := Aside0.mk (raw_grown HRr.out hg HLr.out (by decide)); clear hg hl))
                    obtain ⟨xb, hxb⟩ : ∃ xb, xb = n1.heap.size := ⟨_, rfl⟩
                    obtain ⟨x1, hw⟩ : ∃ W, W = n1.alloc (.cells #[.int .i64 a, .int .i64 b, .bool false, .string ⟨#[]⟩] 63) := ⟨_, rfl⟩
                    rw [← hw, ← hxb]
                    have HBx1 := Aside0.mk (show Begun w x1 #[.int .i64 st, .string tok, .int .i64 num, .int .i64 at_, .slice A kk cc, .slice none 0 0] #[.bool false] 25 by rw [hw]; exact begun_below HBn1.out (below_alloc (Below.refl _ _) _))
                    have HLx1 := Aside0.mk (show Left x1 (w.heap.size + 1 + 1) u1 by rw [hw]; exact left_below HLn1.out (below_alloc (Below.refl _ _) _))
                    have HRx1 := Aside0.mk (show (rawK 4).R 63 x1 w.heap.size (fun _ => True) (.slice A kk cc) xs by rw [hw]; exact Kd.R_alloc HRn1.out _)
                    have HX1 := Aside0.mk (show x1.heap[xb]? = some (.cells #[.int .i64 a, .int .i64 b, .bool false, .string ⟨#[]⟩] 63 (0, 0)) by rw [hw, hxb]; exact heap_alloc_new _ _)
                    have hno : ∀ k, (Value.slice A kk cc).ownBlock = some k → k ≠ xb := fun k hk => by have := Kd.R_lt HRn1.out k hk; omega
                    have hxs : w.heap.size + 3 ≤ xb := by rw [hxb]; exact HBn1.out.size
                    have HNO := Aside0.mk hno
                    have HXS := Aside0.mk hxs
                    clear hw hxb hno hxs HBn0 HLn0 HRn0 HN0 HBn1 HLn1 HRn1 HN1 HBr HLr HRr
                    have hM0 := fun W g (h : Left W g u1) => flag_calls g u1 W h hz1
                    cases r0 : pFlag u1 with
                    | none =>
                      rw [r0] at hM0
                      have HM := Aside0.mk hM0
                      clear hM0
                      go_wp2_with (go_at_call 38; refine (HM.out _ _ HLx1.out).mono ?_; rintro e y1 ⟨rfl, hg⟩; have HBy1 := Aside0.mk (begun_grown HBx1.out hg); clear hg)
                      have hnone : pReps pRunR n s5 = none := by rw [HPR.out]; simp only [pReps, pRunR, HQ0.out, HQ1.out, r0, Option.bind_some, Option.bind_none, Option.map_none]
                      have hPf : P = false := by rw [HPP.out]; simp only [pTold, HP0.out, HP1.out, HP2.out, HP3.out, HP4.out, Option.bind_some, Option.bind_none, Int.toNat_natCast, hnone]; rfl
                      subst hPf
                      refine leaves_cons (f := 34) (args := #[.pointer (some ⟨w.heap.size, 0, none⟩), .pointer (some ⟨w.heap.size + 1, 0, none⟩)]) (by simp) (by simp [go_sem]) ?_
                      refine (told_panicking w.heap.size (w.heap.size + 1) _ _ _ _ _ _ _ _ HBy1.out.res HBy1.out.ok).mono ?_
                      rintro e u' w'' ⟨rfl, rfl, hw⟩
                      have hE := told_end HBy1.out hw
                      have hc0 : w''.cell? ⟨w.heap.size, 0, none⟩ = some (.int .i64 0) := (blk_cell hE.res 0).trans rfl
                      have hc1 : w''.cell? ⟨w.heap.size, 1, none⟩ = some (.string ⟨#[]⟩) := (blk_cell hE.res 1).trans rfl
                      have hc2 : w''.cell? ⟨w.heap.size, 2, none⟩ = some (.int .i64 0) := (blk_cell hE.res 2).trans rfl
                      have hc3 : w''.cell? ⟨w.heap.size, 3, none⟩ = some (.int .i64 0) := (blk_cell hE.res 3).trans rfl
                      have hc4 : w''.cell? ⟨w.heap.size, 4, none⟩ = some (.slice none 0 0) := (blk_cell hE.res 4).trans rfl
                      have hc5 : w''.cell? ⟨w.heap.size, 5, none⟩ = some (.slice none 0 0) := (blk_cell hE.res 5).trans rfl
                      have hk0 : w''.cell? ⟨w.heap.size + 1, 0, none⟩ = some (.bool false) := (blk_cell hE.ok 0).trans rfl
                      have HG := hE.grown
                      clear hw hE
                      simp [Leaves, settle, results, Try.results11, go_sem, hc0, hc1, hc2, hc3, hc4, hc5, hk0, Result.andThen]
                      exact HG
                    | some z =>
                      obtain ⟨cf, v0⟩ := z
                      rw [r0] at hM0
                      have HM := Aside0.mk hM0
                      have hy0 : v0.size ≤ 9223372036854775807 := Nat.le_trans (pFlag_size r0) hz1
                      have HR0_ := Aside0.mk r0
                      clear hM0 r0
                      go_upto_region 11 with (go_at_call 38; refine (HM.out _ _ HLx1.out).mono ?_; rintro e y1 ⟨rfl, hg, hl⟩; have HBy1 := Aside0.mk (begun_grown HBx1.out hg); have HLy1 := Aside0.mk hl; have HRy1 := Aside0.mk (raw_grown HRx1.out hg HLx1.out (by decide)); have HXy1 := Aside0.mk ((hg.block xb (blk_lt HX1.out) (fun e => by injection e with e; have := HXS.out; omega)).trans HX1.out); have hc : y1.cell? ⟨xb, 2, none⟩ = some (.bool false) := (blk_cell HXy1.out 2).trans rfl; have hf := blk_frozen HXy1.out 2; clear hg hl)
                      obtain ⟨x2, hw⟩ : ∃ W, W = y1.setCell ⟨xb, 2, none⟩ (.bool cf) := ⟨_, rfl⟩
                      rw [← hw]
                      have HBx2 := Aside0.mk (show Begun w x2 #[.int .i64 st, .string tok, .int .i64 num, .int .i64 at_, .slice A kk cc, .slice none 0 0] #[.bool false] 25 by rw [hw]; exact begun_far HBy1.out (by have := HXS.out; omega) _ _)
                      have HLx2 := Aside0.mk (show Left x2 (w.heap.size + 1 + 1) v0 by rw [hw]; exact left_setc HLy1.out (by have := HXS.out; omega))
                      have HRx2 := Aside0.mk (show (rawK 4).R 63 x2 w.heap.size (fun _ => True) (.slice A kk cc) xs by rw [hw]; exact raw_set HRy1.out HNO.out)
                      have HX2 := Aside0.mk (show x2.heap[xb]? = some (.cells #[.int .i64 a, .int .i64 b, .bool cf, .string ⟨#[]⟩] 63 (0, 0)) by rw [hw]; exact (blk_set HXy1.out 2 _).trans (by simp only [List.setIfInBounds_toArray, List.set_cons_zero, List.set_cons_succ]))
                      clear hw hc hf HM HBy1 HLy1 HRy1 HXy1 HBx1 HLx1 HRx1 HX1
                      have hM1 := fun W g (h : Left W g v0) => text_calls g v0 W h hy0
                      cases r1 : pText v0 with
                      | none =>
                        rw [r1] at hM1
                        have HM := Aside0.mk hM1
                        clear hM1
                        go_wp2_with (go_at_call 36; refine (HM.out _ _ HLx2.out).mono ?_; rintro e y2 ⟨rfl, hg⟩; have HBy2 := Aside0.mk (begun_grown HBx2.out hg); clear hg)
                        have hnone : pReps pRunR n s5 = none := by rw [HPR.out]; simp only [pReps, pRunR, HQ0.out, HQ1.out, HR0_.out, r1, Option.bind_some, Option.bind_none, Option.map_none]
                        have hPf : P = false := by rw [HPP.out]; simp only [pTold, HP0.out, HP1.out, HP2.out, HP3.out, HP4.out, Option.bind_some, Option.bind_none, Int.toNat_natCast, hnone]; rfl
                        subst hPf
                        refine leaves_cons (f := 34) (args := #[.pointer (some ⟨w.heap.size, 0, none⟩), .pointer (some ⟨w.heap.size + 1, 0, none⟩)]) (by simp) (by simp [go_sem]) ?_
                        refine (told_panicking w.heap.size (w.heap.size + 1) _ _ _ _ _ _ _ _ HBy2.out.res HBy2.out.ok).mono ?_
                        rintro e u' w'' ⟨rfl, rfl, hw⟩
                        have hE := told_end HBy2.out hw
                        have hc0 : w''.cell? ⟨w.heap.size, 0, none⟩ = some (.int .i64 0) := (blk_cell hE.res 0).trans rfl
                        have hc1 : w''.cell? ⟨w.heap.size, 1, none⟩ = some (.string ⟨#[]⟩) := (blk_cell hE.res 1).trans rfl
                        have hc2 : w''.cell? ⟨w.heap.size, 2, none⟩ = some (.int .i64 0) := (blk_cell hE.res 2).trans rfl
                        have hc3 : w''.cell? ⟨w.heap.size, 3, none⟩ = some (.int .i64 0) := (blk_cell hE.res 3).trans rfl
                        have hc4 : w''.cell? ⟨w.heap.size, 4, none⟩ = some (.slice none 0 0) := (blk_cell hE.res 4).trans rfl
                        have hc5 : w''.cell? ⟨w.heap.size, 5, none⟩ = some (.slice none 0 0) := (blk_cell hE.res 5).trans rfl
                        have hk0 : w''.cell? ⟨w.heap.size + 1, 0, none⟩ = some (.bool false) := (blk_cell hE.ok 0).trans rfl
                        have HG := hE.grown
                        clear hw hE
                        simp [Leaves, settle, results, Try.results11, go_sem, hc0, hc1, hc2, hc3, hc4, hc5, hk0, Result.andThen]
                        exact HG
                      | some z =>
                        obtain ⟨tx, v1⟩ := z
                        rw [r1] at hM1
                        have HM := Aside0.mk hM1
                        have hy1 : v1.size ≤ 9223372036854775807 := Nat.le_trans (pText_size r1) hy0
                        have HR1_ := Aside0.mk r1
                        clear hM1 r1
                        go_upto_region 12 with (go_at_call 36; refine (HM.out _ _ HLx2.out).mono ?_; rintro e y2 ⟨rfl, hg, hl⟩; have HBy2 := Aside0.mk (begun_grown HBx2.out hg); have HLy2 := Aside0.mk hl; have HRy2 := Aside0.mk (raw_grown HRx2.out hg HLx2.out (by decide)); have HXy2 := Aside0.mk ((hg.block xb (blk_lt HX2.out) (fun e => by injection e with e; have := HXS.out; omega)).trans HX2.out); have hc : y2.cell? ⟨xb, 3, none⟩ = some (.string ⟨#[]⟩) := (blk_cell HXy2.out 3).trans rfl; have hf := blk_frozen HXy2.out 3; clear hg hl)
                        obtain ⟨x3, hw⟩ : ∃ W, W = y2.setCell ⟨xb, 3, none⟩ (.string tx) := ⟨_, rfl⟩
                        rw [← hw]
                        have HBx3 := Aside0.mk (show Begun w x3 #[.int .i64 st, .string tok, .int .i64 num, .int .i64 at_, .slice A kk cc, .slice none 0 0] #[.bool false] 25 by rw [hw]; exact begun_far HBy2.out (by have := HXS.out; omega) _ _)
                        have HLx3 := Aside0.mk (show Left x3 (w.heap.size + 1 + 1) v1 by rw [hw]; exact left_setc HLy2.out (by have := HXS.out; omega))
                        have HRx3 := Aside0.mk (show (rawK 4).R 63 x3 w.heap.size (fun _ => True) (.slice A kk cc) xs by rw [hw]; exact raw_set HRy2.out HNO.out)
                        have HX3 := Aside0.mk (show x3.heap[xb]? = some (.cells #[.int .i64 a, .int .i64 b, .bool cf, .string tx] 63 (0, 0)) by rw [hw]; exact (blk_set HXy2.out 3 _).trans (by simp only [List.setIfInBounds_toArray, List.set_cons_zero, List.set_cons_succ]))
                        clear hw hc hf HM HBy2 HLy2 HRy2 HXy2 HBx2 HLx2 HRx2 HX2
                        have he4 : x3.cell? ⟨w.heap.size, 4, none⟩ = some (.slice A kk cc) := (blk_cell HBx3.out.res 4).trans rfl
                        have hx0 : x3.cell? ⟨xb, 0, none⟩ = some (.int .i64 a) := (blk_cell HX3.out 0).trans rfl
                        have hx1 : x3.cell? ⟨xb, 1, none⟩ = some (.int .i64 b) := (blk_cell HX3.out 1).trans rfl
                        have hx2 : x3.cell? ⟨xb, 2, none⟩ = some (.bool cf) := (blk_cell HX3.out 2).trans rfl
                        have hx3 : x3.cell? ⟨xb, 3, none⟩ = some (.string tx) := (blk_cell HX3.out 3).trans rfl
                        have hb3 : w.heap.size ≤ x3.heap.size := by have := HBx3.out.size; omega
                        go_wp2_with ((with_reducible refine gate_builtin (b := .append) (xs := #[.tmp 39, .tmp 41]) rfl ?_); (try (refine gate_guard (by rfl) ?_; dsimp only)); at_builtin; refine Kd.R_append (rawK 4) (w0 := x3) w.heap.size rfl (.tmp 39) (.tmp 41) 22 63 (.agg #[.int .i64 0, .int .i64 0, .bool false, .string ⟨#[]⟩]) 40 rfl Try.underlying22 info63 rfl (by decide) (by omega) (.slice A kk cc) xs ⟨[.int .i64 a, .int .i64 b, .bool cf, .string tx], rfl, by simp [Value.oneCell']⟩ [.int .i64 a, .int .i64 b, .bool cf, .string tx] (fun _ => True) (fun _ => False) rfl rfl ?aP (fun _ hk => hk.elim) ?aF ?aO ?aB ?aS ?aL ?_; (case aP => exact rfl); (case aB => exact Below.refl _ _); (case aF => exact (fun _ _ => trivial)); (case aO => exact HRx3.out); (case aS => exact hb3); (case aL => omega); intro v1 w6 ho hbb hg hat; have HO6 := Aside0.mk ho; have HB6 := Aside0.mk (begun_row HBx3.out HRx3.out (by decide) (by decide) hg); have HL6 := Aside0.mk (left_row HLx3.out HRx3.out (by decide) hg); have hc6 : w6.cell? ⟨w.heap.size, 4, none⟩ = some (.slice A kk cc) := (blk_cell HB6.out.res 4).trans rfl; have hf6 := blk_frozen HB6.out.res 4; obtain ⟨A6, k6, c6, rfl⟩ := raw_shape ho; clear ho hbb hg hat)
                        go_roundg (n - (k + 1))
                        case measure => omega
                        case rel => exact ⟨k + 1, v1, _, _, by omega, by omega, by
                            have hwr : wrap64 ((k : Int) + 1) = (k : Int) + 1 := by unfold wrap64; omega
                            first | (simp [hwr]; done) | go_num, by rw [List.length_append, hlen]; rfl, hy1, ⟨by
                            rw [HPR.out, show n - (k + 1) = j by have := HJ.out; omega]
                            simp only [pReps, pRunR, HQ0.out, HQ1.out, HR0_.out, HR1_.out, Option.bind_some, Option.map_some]⟩, ⟨begun_s HB6.out 4 _ (set6 _ _ _ _ _ _ _).2.2.2.2.1⟩, ⟨left_setc HL6.out (by omega)⟩, ⟨Kd.R_set HO6.out HB6.out.res (by decide) 4 _⟩⟩
              · obtain rfl : k = n := by omega
                have hkz : decide ((k : Int) < (k : Int)) = false := decide_eq_false (by omega)
                have hend := HPR.out
                rw [Nat.sub_self] at hend
                simp only [pReps] at hend
                obtain ⟨B4, kb, cb, rfl⟩ := raw_shape HRr.out
                have HE4 := Aside0.mk hend
                clear hend hkz HPR HRr
                obtain ⟨s20, hs20⟩ : ∃ x, x = u := ⟨_, rfl⟩
                subst hs20
                have HS20 := Aside0.mk hu
                have HB20 := HBr
                have HL20 := HLr
                obtain ⟨w20, hw20⟩ : ∃ W, W = wr := ⟨_, rfl⟩
                subst hw20
                clear HBr HLr hu
                have hC20 := fun W g (h : Left W g s20) => length_calls g s20 W h HS20.out
                cases p20 : pLen s20 with
                | none =>
                  rw [p20] at hC20
                  have HC := Aside0.mk hC20
                  clear hC20
                  go_wp2_with (go_at_call 35; refine (HC.out _ _ HL20.out).mono ?_; rintro e wa ⟨rfl, hg⟩; have HBa := Aside0.mk (begun_grown HB20.out hg); clear hg)
                  have hPf : P = false := by rw [HPP.out]; simp only [pTold, HP0.out, HP1.out, HP2.out, HP3.out, HP4.out, HE4.out, p20, Option.bind_some, Option.bind_none, Int.toNat_natCast]; rfl
                  subst hPf
                  refine leaves_cons (f := 34) (args := #[.pointer (some ⟨w.heap.size, 0, none⟩), .pointer (some ⟨w.heap.size + 1, 0, none⟩)]) (by simp) (by simp [go_sem]) ?_
                  refine (told_panicking w.heap.size (w.heap.size + 1) _ _ _ _ _ _ _ _ HBa.out.res HBa.out.ok).mono ?_
                  rintro e u' w'' ⟨rfl, rfl, hw⟩
                  have hE := told_end HBa.out hw
                  have hc0 : w''.cell? ⟨w.heap.size, 0, none⟩ = some (.int .i64 0) := (blk_cell hE.res 0).trans rfl
                  have hc1 : w''.cell? ⟨w.heap.size, 1, none⟩ = some (.string ⟨#[]⟩) := (blk_cell hE.res 1).trans rfl
                  have hc2 : w''.cell? ⟨w.heap.size, 2, none⟩ = some (.int .i64 0) := (blk_cell hE.res 2).trans rfl
                  have hc3 : w''.cell? ⟨w.heap.size, 3, none⟩ = some (.int .i64 0) := (blk_cell hE.res 3).trans rfl
                  have hc4 : w''.cell? ⟨w.heap.size, 4, none⟩ = some (.slice none 0 0) := (blk_cell hE.res 4).trans rfl
                  have hc5 : w''.cell? ⟨w.heap.size, 5, none⟩ = some (.slice none 0 0) := (blk_cell hE.res 5).trans rfl
                  have hk0 : w''.cell? ⟨w.heap.size + 1, 0, none⟩ = some (.bool false) := (blk_cell hE.ok 0).trans rfl
                  have HG := hE.grown
                  clear hw hE
                  simp [Leaves, settle, results, Try.results11, go_sem, hc0, hc1, hc2, hc3, hc4, hc5, hk0, Result.andThen]
                  exact HG
                | some a =>
                  obtain ⟨mI, s21⟩ := a
                  rw [p20] at hC20
                  have HC := Aside0.mk hC20
                  have HS21 := Aside0.mk (Nat.le_trans (pLen_range p20).2.2 HS20.out)
                  obtain ⟨m, hm⟩ := Int.eq_ofNat_of_zero_le (pLen_range p20).1
                  have hm5 : m ≤ 255 := by have := (pLen_range p20).2.1; omega
                  subst hm
                  have HP20 := Aside0.mk p20
                  clear hC20 p20
                  go_wp2_with (go_at_call 35; refine (HC.out _ _ HL20.out).mono ?_; rintro e wa ⟨rfl, hg, hl⟩; have HBa := Aside0.mk (begun_grown HB20.out hg); have HLa := Aside0.mk hl; clear hg hl)
                  clear HC HB20 HL20
                  go_loopg [47] m (fun gg vi wr => ∃ (k : Nat) (u : ByteArray) (vr : Value) (xs : List (Raw 5)), k ≤ m ∧ m - k ≤ gg ∧ vi = .int .i64 k ∧ xs.length = k ∧ u.size ≤ 9223372036854775807 ∧ Aside0 (pReps pEntR m s21 = pReps pEntR (m - k) u) ∧ Aside0 (Begun w wr #[.int .i64 st, .string tok, .int .i64 num, .int .i64 at_, .slice B4 kb cb, vr] #[.bool false] 25) ∧ Aside0 (Left wr (w.heap.size + 1 + 1) u) ∧ Aside0 ((rawK 5).R 67 wr w.heap.size (fun _ => True) vr xs))
                  case atStart => exact ⟨0, s21, _, [], Nat.zero_le _, by omega, rfl, rfl, HS21.out, ⟨rfl⟩, HBa, HLa, ⟨Kd.R_nil _ _ _ _ _⟩⟩
                  case round =>
                    clear HBa HLa
                    obtain ⟨k, u, vr, xs, hk, hkg, rfl, hlen, hu, HPR, HBr, HLr, HRr⟩ := hrel
                    by_cases hlt : k < m
                    · have hkz : decide ((k : Int) < (m : Int)) = true := decide_eq_true (by omega)
                      obtain ⟨j, hj⟩ : ∃ j, m - k = j + 1 := ⟨m - k - 1, by omega⟩
                      rw [hj] at HPR
                      have HJ := Aside0.mk hj
                      clear hj
                      obtain ⟨A, kk, cc, rfl⟩ := raw_shape HRr.out
                      go_upto_region 16 with (fail)
                      have hN0 := fun W g (h : Left W g u) => num_calls g u W h hu
                      cases q0 : pNum u with
                      | none =>
                        rw [q0] at hN0
                        have HN0 := Aside0.mk hN0
                        clear hN0
                        go_wp2_with (go_at_call 37; (with_reducible refine (HN0.out _ _ HLr.out).mono ?_); rintro e n0 ⟨rfl, hg⟩; have HBn0 := Aside0.mk (begun_grown HBr.out hg); clear hg)
                        have hnone : pReps pEntR m s21 = none := by rw [HPR.out]; simp only [pReps, pEntR, q0, Option.bind_some, Option.bind_none]
                        have hPf : P = false := by rw [HPP.out]; simp only [pTold, HP0.out, HP1.out, HP2.out, HP3.out, HP4.out, HE4.out, HP20.out, Option.bind_some, Option.bind_none, Int.toNat_natCast, hnone]; rfl
                        subst hPf
                        refine leaves_cons (f := 34) (args := #[.pointer (some ⟨w.heap.size, 0, none⟩), .pointer (some ⟨w.heap.size + 1, 0, none⟩)]) (by simp) (by simp [go_sem]) ?_
                        refine (told_panicking w.heap.size (w.heap.size + 1) _ _ _ _ _ _ _ _ HBn0.out.res HBn0.out.ok).mono ?_
                        rintro e u' w'' ⟨rfl, rfl, hw⟩
                        have hE := told_end HBn0.out hw
                        have hc0 : w''.cell? ⟨w.heap.size, 0, none⟩ = some (.int .i64 0) := (blk_cell hE.res 0).trans rfl
                        have hc1 : w''.cell? ⟨w.heap.size, 1, none⟩ = some (.string ⟨#[]⟩) := (blk_cell hE.res 1).trans rfl
                        have hc2 : w''.cell? ⟨w.heap.size, 2, none⟩ = some (.int .i64 0) := (blk_cell hE.res 2).trans rfl
                        have hc3 : w''.cell? ⟨w.heap.size, 3, none⟩ = some (.int .i64 0) := (blk_cell hE.res 3).trans rfl
                        have hc4 : w''.cell? ⟨w.heap.size, 4, none⟩ = some (.slice none 0 0) := (blk_cell hE.res 4).trans rfl
                        have hc5 : w''.cell? ⟨w.heap.size, 5, none⟩ = some (.slice none 0 0) := (blk_cell hE.res 5).trans rfl
                        have hk0 : w''.cell? ⟨w.heap.size + 1, 0, none⟩ = some (.bool false) := (blk_cell hE.ok 0).trans rfl
                        have HG := hE.grown
                        clear hw hE
                        simp [Leaves, settle, results, Try.results11, go_sem, hc0, hc1, hc2, hc3, hc4, hc5, hk0, Result.andThen]
                        exact HG
                      | some z =>
                        obtain ⟨a, u0⟩ := z
                        rw [q0] at hN0
                        have HN0 := Aside0.mk hN0
                        have hz0 : u0.size ≤ 9223372036854775807 := Nat.le_trans (pNum_size q0) hu
                        have HQ0 := Aside0.mk q0
                        clear hN0 q0
                        have hN1 := fun W g (h : Left W g u0) => num_calls g u0 W h hz0
                        cases q1 : pNum u0 with
                        | none =>
                          rw [q1] at hN1
                          have HN1 := Aside0.mk hN1
                          clear hN1
                          go_wp2_with (first | (go_at_call 37; (with_reducible refine (HN1.out _ _ HLn0.out).mono ?_); rintro e n1 ⟨rfl, hg⟩; have HBn1 := Aside0.mk (begun_grown HBn0.out hg); clear hg) | (go_at_call 37; (with_reducible refine (HN0.out _ _ HLr.out).mono ?_); rintro e n0 ⟨rfl, hg, hl⟩; have HBn0 := Aside0.mk (begun_grown HBr.out hg); have HLn0 := Aside0.mk hl; have HRn0 := Aside0.mk (raw_grown HRr.out hg HLr.out (by decide)); clear hg hl))
                          have hnone : pReps pEntR m s21 = none := by rw [HPR.out]; simp only [pReps, pEntR, HQ0.out, q1, Option.bind_some, Option.bind_none]
                          have hPf : P = false := by rw [HPP.out]; simp only [pTold, HP0.out, HP1.out, HP2.out, HP3.out, HP4.out, HE4.out, HP20.out, Option.bind_some, Option.bind_none, Int.toNat_natCast, hnone]; rfl
                          subst hPf
                          refine leaves_cons (f := 34) (args := #[.pointer (some ⟨w.heap.size, 0, none⟩), .pointer (some ⟨w.heap.size + 1, 0, none⟩)]) (by simp) (by simp [go_sem]) ?_
                          refine (told_panicking w.heap.size (w.heap.size + 1) _ _ _ _ _ _ _ _ HBn1.out.res HBn1.out.ok).mono ?_
                          rintro e u' w'' ⟨rfl, rfl, hw⟩
                          have hE := told_end HBn1.out hw
                          have hc0 : w''.cell? ⟨w.heap.size, 0, none⟩ = some (.int .i64 0) := (blk_cell hE.res 0).trans rfl
                          have hc1 : w''.cell? ⟨w.heap.size, 1, none⟩ = some (.string ⟨#[]⟩) := (blk_cell hE.res 1).trans rfl
                          have hc2 : w''.cell? ⟨w.heap.size, 2, none⟩ = some (.int .i64 0) := (blk_cell hE.res 2).trans rfl
                          have hc3 : w''.cell? ⟨w.heap.size, 3, none⟩ = some (.int .i64 0) := (blk_cell hE.res 3).trans rfl
                          have hc4 : w''.cell? ⟨w.heap.size, 4, none⟩ = some (.slice none 0 0) := (blk_cell hE.res 4).trans rfl
                          have hc5 : w''.cell? ⟨w.heap.size, 5, none⟩ = some (.slice none 0 0) := (blk_cell hE.res 5).trans rfl
                          have hk0 : w''.cell? ⟨w.heap.size + 1, 0, none⟩ = some (.bool false) := (blk_cell hE.ok 0).trans rfl
                          have HG := hE.grown
                          clear hw hE
                          simp [Leaves, settle, results, Try.results11, go_sem, hc0, hc1, hc2, hc3, hc4, hc5, hk0, Result.andThen]
                          exact HG
                        | some z =>
                          obtain ⟨b, u1⟩ := z
                          rw [q1] at hN1
                          have HN1 := Aside0.mk hN1
                          have hz1 : u1.size ≤ 9223372036854775807 := Nat.le_trans (pNum_size q1) hz0
                          have HQ1 := Aside0.mk q1
                          clear hN1 q1
                          have hN2 := fun W g (h : Left W g u1) => num_calls g u1 W h hz1
                          cases q2 : pNum u1 with
                          | none =>
                            rw [q2] at hN2
                            have HN2 := Aside0.mk hN2
                            clear hN2
                            go_wp2_with (first | (go_at_call 37; (with_reducible refine (HN2.out _ _ HLn1.out).mono ?_); rintro e n2 ⟨rfl, hg⟩; have HBn2 := Aside0.mk (begun_grown HBn1.out hg); clear hg) | (go_at_call 37; (with_reducible refine (HN1.out _ _ HLn0.out).mono ?_); rintro e n1 ⟨rfl, hg, hl⟩; have HBn1 := Aside0.mk (begun_grown HBn0.out hg); have HLn1 := Aside0.mk hl; have HRn1 := Aside0.mk (raw_grown HRn0.out hg HLn0.out (by decide)); clear hg hl) | (go_at_call 37; (with_reducible refine (HN0.out _ _ HLr.out).mono ?_); rintro e n0 ⟨rfl, hg, hl⟩; have HBn0 := Aside0.mk (begun_grown HBr.out hg); have HLn0 := Aside0.mk hl; have HRn0 := Aside0.mk (raw_grown HRr.out hg HLr.out (by decide)); clear hg hl))
                            have hnone : pReps pEntR m s21 = none := by rw [HPR.out]; simp only [pReps, pEntR, HQ0.out, HQ1.out, q2, Option.bind_some, Option.bind_none]
                            have hPf : P = false := by rw [HPP.out]; simp only [pTold, HP0.out, HP1.out, HP2.out, HP3.out, HP4.out, HE4.out, HP20.out, Option.bind_some, Option.bind_none, Int.toNat_natCast, hnone]; rfl
                            subst hPf
                            refine leaves_cons (f := 34) (args := #[.pointer (some ⟨w.heap.size, 0, none⟩), .pointer (some ⟨w.heap.size + 1, 0, none⟩)]) (by simp) (by simp [go_sem]) ?_
                            refine (told_panicking w.heap.size (w.heap.size + 1) _ _ _ _ _ _ _ _ HBn2.out.res HBn2.out.ok).mono ?_
                            rintro e u' w'' ⟨rfl, rfl, hw⟩
                            have hE := told_end HBn2.out hw
                            have hc0 : w''.cell? ⟨w.heap.size, 0, none⟩ = some (.int .i64 0) := (blk_cell hE.res 0).trans rfl
                            have hc1 : w''.cell? ⟨w.heap.size, 1, none⟩ = some (.string ⟨#[]⟩) := (blk_cell hE.res 1).trans rfl
                            have hc2 : w''.cell? ⟨w.heap.size, 2, none⟩ = some (.int .i64 0) := (blk_cell hE.res 2).trans rfl
                            have hc3 : w''.cell? ⟨w.heap.size, 3, none⟩ = some (.int .i64 0) := (blk_cell hE.res 3).trans rfl
                            have hc4 : w''.cell? ⟨w.heap.size, 4, none⟩ = some (.slice none 0 0) := (blk_cell hE.res 4).trans rfl
                            have hc5 : w''.cell? ⟨w.heap.size, 5, none⟩ = some (.slice none 0 0) := (blk_cell hE.res 5).trans rfl
                            have hk0 : w''.cell? ⟨w.heap.size + 1, 0, none⟩ = some (.bool false) := (blk_cell hE.ok 0).trans rfl
                            have HG := hE.grown
                            clear hw hE
                            simp [Leaves, settle, results, Try.results11, go_sem, hc0, hc1, hc2, hc3, hc4, hc5, hk0, Result.andThen]
                            exact HG
                          | some z =>
                            obtain ⟨d, u2⟩ := z
                            rw [q2] at hN2
                            have HN2 := Aside0.mk hN2
                            have hz2 : u2.size ≤ 9223372036854775807 := Nat.le_trans (pNum_size q2) hz1
                            have HQ2 := Aside0.mk q2
                            clear hN2 q2
                            go_upto_region 17 with (first | (go_at_call 37; (with_reducible refine (HN2.out _ _ HLn1.out).mono ?_); rintro e n2 ⟨rfl, hg, hl⟩; have HBn2 := Aside0.mk (begun_grown HBn1.out hg); have HLn2 := Aside0.mk hl; have HRn2 := Aside0.mk (raw_grown HRn1.out hg HLn1.out (by decide)); clear hg hl) | (go_at_call 37; (with_reducible refine (HN1.out _ _ HLn0.out).mono ?_); rintro e n1 ⟨rfl, hg, hl⟩; have HBn1 := Aside0.mk (begun_grown HBn0.out hg); have HLn1 := Aside0.mk hl; have HRn1 := Aside0.mk (raw_grown HRn0.out hg HLn0.out (by decide)); clear hg hl) | (go_at_call 37; (with_reducible refine (HN0.out _ _ HLr.out).mono ?_); rintro e n0 ⟨rfl, hg, hl⟩; have HBn0 := Aside0.mk (begun_grown HBr.out hg); have HLn0 := Aside0.mk hl; have HRn0 := Aside0.mk (raw_grown HRr.out hg HLr.out (by decide)); clear hg hl))
                            obtain ⟨xb, hxb⟩ : ∃ xb, xb = n2.heap.size := ⟨_, rfl⟩
                            obtain ⟨x1, hw⟩ : ∃ W, W = n2.alloc (.cells #[.int .i64 a, .int .i64 b, .int .i64 d, .slice none 0 0, .slice none 0 0] 67) := ⟨_, rfl⟩
                            rw [← hw, ← hxb]
                            have HBx1 := Aside0.mk (show Begun w x1 #[.int .i64 st, .string tok, .int .i64 num, .int .i64 at_, .slice B4 kb cb, .slice A kk cc] #[.bool false] 25 by rw [hw]; exact begun_below HBn2.out (below_alloc (Below.refl _ _) _))
                            have HLx1 := Aside0.mk (show Left x1 (w.heap.size + 1 + 1) u2 by rw [hw]; exact left_below HLn2.out (below_alloc (Below.refl _ _) _))
                            have HRx1 := Aside0.mk (show (rawK 5).R 67 x1 w.heap.size (fun _ => True) (.slice A kk cc) xs by rw [hw]; exact Kd.R_alloc HRn2.out _)
                            have HX1 := Aside0.mk (show x1.heap[xb]? = some (.cells #[.int .i64 a, .int .i64 b, .int .i64 d, .slice none 0 0, .slice none 0 0] 67 (0, 0)) by rw [hw, hxb]; exact heap_alloc_new _ _)
                            have hno : ∀ k, (Value.slice A kk cc).ownBlock = some k → k ≠ xb := fun k hk => by have := Kd.R_lt HRn2.out k hk; omega
                            have hxs : w.heap.size + 3 ≤ xb := by rw [hxb]; exact HBn2.out.size
                            have HNO := Aside0.mk hno
                            have HXS := Aside0.mk hxs
                            clear hw hxb hno hxs HBn0 HLn0 HRn0 HN0 HBn1 HLn1 HRn1 HN1 HBn2 HLn2 HRn2 HN2 HBr HLr HRr
                            have hM0 := fun W g (h : Left W g u2) => list_calls g u2 W h hz2
                            cases r0 : pList u2 with
                            | none =>
                              rw [r0] at hM0
                              have HM := Aside0.mk hM0
                              clear hM0
                              go_wp2_with (go_at_call 39; refine (HM.out _ _ HLx1.out).mono ?_; rintro e y1 ⟨rfl, hg⟩; have HBy1 := Aside0.mk (begun_grown HBx1.out hg); clear hg)
                              have hnone : pReps pEntR m s21 = none := by rw [HPR.out]; simp only [pReps, pEntR, HQ0.out, HQ1.out, HQ2.out, r0, Option.bind_some, Option.bind_none, Option.map_none]
                              have hPf : P = false := by rw [HPP.out]; simp only [pTold, HP0.out, HP1.out, HP2.out, HP3.out, HP4.out, HE4.out, HP20.out, Option.bind_some, Option.bind_none, Int.toNat_natCast, hnone]; rfl
                              subst hPf
                              refine leaves_cons (f := 34) (args := #[.pointer (some ⟨w.heap.size, 0, none⟩), .pointer (some ⟨w.heap.size + 1, 0, none⟩)]) (by simp) (by simp [go_sem]) ?_
                              refine (told_panicking w.heap.size (w.heap.size + 1) _ _ _ _ _ _ _ _ HBy1.out.res HBy1.out.ok).mono ?_
                              rintro e u' w'' ⟨rfl, rfl, hw⟩
                              have hE := told_end HBy1.out hw
                              have hc0 : w''.cell? ⟨w.heap.size, 0, none⟩ = some (.int .i64 0) := (blk_cell hE.res 0).trans rfl
                              have hc1 : w''.cell? ⟨w.heap.size, 1, none⟩ = some (.string ⟨#[]⟩) := (blk_cell hE.res 1).trans rfl
                              have hc2 : w''.cell? ⟨w.heap.size, 2, none⟩ = some (.int .i64 0) := (blk_cell hE.res 2).trans rfl
                              have hc3 : w''.cell? ⟨w.heap.size, 3, none⟩ = some (.int .i64 0) := (blk_cell hE.res 3).trans rfl
                              have hc4 : w''.cell? ⟨w.heap.size, 4, none⟩ = some (.slice none 0 0) := (blk_cell hE.res 4).trans rfl
                              have hc5 : w''.cell? ⟨w.heap.size, 5, none⟩ = some (.slice none 0 0) := (blk_cell hE.res 5).trans rfl
                              have hk0 : w''.cell? ⟨w.heap.size + 1, 0, none⟩ = some (.bool false) := (blk_cell hE.ok 0).trans rfl
                              have HG := hE.grown
                              clear hw hE
                              simp [Leaves, settle, results, Try.results11, go_sem, hc0, hc1, hc2, hc3, hc4, hc5, hk0, Result.andThen]
                              exact HG
                            | some z =>
                              obtain ⟨l1, v0⟩ := z
                              rw [r0] at hM0
                              have HM := Aside0.mk hM0
                              have hy0 : v0.size ≤ 9223372036854775807 := Nat.le_trans (pList_size r0) hz2
                              have HR0_ := Aside0.mk r0
                              clear hM0 r0
                              go_upto_region 18 with (go_at_call 39; refine (HM.out _ _ HLx1.out).mono ?_; rintro e y1 ⟨⟨vv, rfl, hvv⟩, hg, hl⟩; obtain ⟨A1, k1, c1, rfl⟩ := list_shape hvv; have HBy1 := Aside0.mk (begun_grown HBx1.out hg); have HLy1 := Aside0.mk hl; have HRy1 := Aside0.mk (raw_grown HRx1.out hg HLx1.out (by decide)); have HXy1 := Aside0.mk ((hg.block xb (blk_lt HX1.out) (fun e => by injection e with e; have := HXS.out; omega)).trans HX1.out); have hc : y1.cell? ⟨xb, 3, none⟩ = some (.slice none 0 0) := (blk_cell HXy1.out 3).trans rfl; have hf := blk_frozen HXy1.out 3; clear hg hl hvv)
                              obtain ⟨x2, hw⟩ : ∃ W, W = y1.setCell ⟨xb, 3, none⟩ (.slice A1 k1 c1) := ⟨_, rfl⟩
                              rw [← hw]
                              have HBx2 := Aside0.mk (show Begun w x2 #[.int .i64 st, .string tok, .int .i64 num, .int .i64 at_, .slice B4 kb cb, .slice A kk cc] #[.bool false] 25 by rw [hw]; exact begun_far HBy1.out (by have := HXS.out; omega) _ _)
                              have HLx2 := Aside0.mk (show Left x2 (w.heap.size + 1 + 1) v0 by rw [hw]; exact left_setc HLy1.out (by have := HXS.out; omega))
                              have HRx2 := Aside0.mk (show (rawK 5).R 67 x2 w.heap.size (fun _ => True) (.slice A kk cc) xs by rw [hw]; exact raw_set HRy1.out HNO.out)
                              have HX2 := Aside0.mk (show x2.heap[xb]? = some (.cells #[.int .i64 a, .int .i64 b, .int .i64 d, .slice A1 k1 c1, .slice none 0 0] 67 (0, 0)) by rw [hw]; exact (blk_set HXy1.out 3 _).trans (by simp only [List.setIfInBounds_toArray, List.set_cons_zero, List.set_cons_succ]))
                              clear hw hc hf HM HBy1 HLy1 HRy1 HXy1 HBx1 HLx1 HRx1 HX1
                              have hM1 := fun W g (h : Left W g v0) => list_calls g v0 W h hy0
                              cases r1 : pList v0 with
                              | none =>
                                rw [r1] at hM1
                                have HM := Aside0.mk hM1
                                clear hM1
                                go_wp2_with (go_at_call 39; refine (HM.out _ _ HLx2.out).mono ?_; rintro e y2 ⟨rfl, hg⟩; have HBy2 := Aside0.mk (begun_grown HBx2.out hg); clear hg)
                                have hnone : pReps pEntR m s21 = none := by rw [HPR.out]; simp only [pReps, pEntR, HQ0.out, HQ1.out, HQ2.out, HR0_.out, r1, Option.bind_some, Option.bind_none, Option.map_none]
                                have hPf : P = false := by rw [HPP.out]; simp only [pTold, HP0.out, HP1.out, HP2.out, HP3.out, HP4.out, HE4.out, HP20.out, Option.bind_some, Option.bind_none, Int.toNat_natCast, hnone]; rfl
                                subst hPf
                                refine leaves_cons (f := 34) (args := #[.pointer (some ⟨w.heap.size, 0, none⟩), .pointer (some ⟨w.heap.size + 1, 0, none⟩)]) (by simp) (by simp [go_sem]) ?_
                                refine (told_panicking w.heap.size (w.heap.size + 1) _ _ _ _ _ _ _ _ HBy2.out.res HBy2.out.ok).mono ?_
                                rintro e u' w'' ⟨rfl, rfl, hw⟩
                                have hE := told_end HBy2.out hw
                                have hc0 : w''.cell? ⟨w.heap.size, 0, none⟩ = some (.int .i64 0) := (blk_cell hE.res 0).trans rfl
                                have hc1 : w''.cell? ⟨w.heap.size, 1, none⟩ = some (.string ⟨#[]⟩) := (blk_cell hE.res 1).trans rfl
                                have hc2 : w''.cell? ⟨w.heap.size, 2, none⟩ = some (.int .i64 0) := (blk_cell hE.res 2).trans rfl
                                have hc3 : w''.cell? ⟨w.heap.size, 3, none⟩ = some (.int .i64 0) := (blk_cell hE.res 3).trans rfl
                                have hc4 : w''.cell? ⟨w.heap.size, 4, none⟩ = some (.slice none 0 0) := (blk_cell hE.res 4).trans rfl
                                have hc5 : w''.cell? ⟨w.heap.size, 5, none⟩ = some (.slice none 0 0) := (blk_cell hE.res 5).trans rfl
                                have hk0 : w''.cell? ⟨w.heap.size + 1, 0, none⟩ = some (.bool false) := (blk_cell hE.ok 0).trans rfl
                                have HG := hE.grown
                                clear hw hE
                                simp [Leaves, settle, results, Try.results11, go_sem, hc0, hc1, hc2, hc3, hc4, hc5, hk0, Result.andThen]
                                exact HG
                              | some z =>
                                obtain ⟨l2, v1⟩ := z
                                rw [r1] at hM1
                                have HM := Aside0.mk hM1
                                have hy1 : v1.size ≤ 9223372036854775807 := Nat.le_trans (pList_size r1) hy0
                                have HR1_ := Aside0.mk r1
                                clear hM1 r1
                                go_upto_region 19 with (go_at_call 39; refine (HM.out _ _ HLx2.out).mono ?_; rintro e y2 ⟨⟨vv, rfl, hvv⟩, hg, hl⟩; obtain ⟨A2, k2, c2, rfl⟩ := list_shape hvv; have HBy2 := Aside0.mk (begun_grown HBx2.out hg); have HLy2 := Aside0.mk hl; have HRy2 := Aside0.mk (raw_grown HRx2.out hg HLx2.out (by decide)); have HXy2 := Aside0.mk ((hg.block xb (blk_lt HX2.out) (fun e => by injection e with e; have := HXS.out; omega)).trans HX2.out); have hc : y2.cell? ⟨xb, 4, none⟩ = some (.slice none 0 0) := (blk_cell HXy2.out 4).trans rfl; have hf := blk_frozen HXy2.out 4; clear hg hl hvv)
                                obtain ⟨x3, hw⟩ : ∃ W, W = y2.setCell ⟨xb, 4, none⟩ (.slice A2 k2 c2) := ⟨_, rfl⟩
                                rw [← hw]
                                have HBx3 := Aside0.mk (show Begun w x3 #[.int .i64 st, .string tok, .int .i64 num, .int .i64 at_, .slice B4 kb cb, .slice A kk cc] #[.bool false] 25 by rw [hw]; exact begun_far HBy2.out (by have := HXS.out; omega) _ _)
                                have HLx3 := Aside0.mk (show Left x3 (w.heap.size + 1 + 1) v1 by rw [hw]; exact left_setc HLy2.out (by have := HXS.out; omega))
                                have HRx3 := Aside0.mk (show (rawK 5).R 67 x3 w.heap.size (fun _ => True) (.slice A kk cc) xs by rw [hw]; exact raw_set HRy2.out HNO.out)
                                have HX3 := Aside0.mk (show x3.heap[xb]? = some (.cells #[.int .i64 a, .int .i64 b, .int .i64 d, .slice A1 k1 c1, .slice A2 k2 c2] 67 (0, 0)) by rw [hw]; exact (blk_set HXy2.out 4 _).trans (by simp only [List.setIfInBounds_toArray, List.set_cons_zero, List.set_cons_succ]))
                                clear hw hc hf HM HBy2 HLy2 HRy2 HXy2 HBx2 HLx2 HRx2 HX2
                                have he4 : x3.cell? ⟨w.heap.size, 5, none⟩ = some (.slice A kk cc) := (blk_cell HBx3.out.res 5).trans rfl
                                have hx0 : x3.cell? ⟨xb, 0, none⟩ = some (.int .i64 a) := (blk_cell HX3.out 0).trans rfl
                                have hx1 : x3.cell? ⟨xb, 1, none⟩ = some (.int .i64 b) := (blk_cell HX3.out 1).trans rfl
                                have hx2 : x3.cell? ⟨xb, 2, none⟩ = some (.int .i64 d) := (blk_cell HX3.out 2).trans rfl
                                have hx3 : x3.cell? ⟨xb, 3, none⟩ = some (.slice A1 k1 c1) := (blk_cell HX3.out 3).trans rfl
                                have hx4 : x3.cell? ⟨xb, 4, none⟩ = some (.slice A2 k2 c2) := (blk_cell HX3.out 4).trans rfl
                                have hb3 : w.heap.size ≤ x3.heap.size := by have := HBx3.out.size; omega
                                go_wp2_with ((with_reducible refine gate_builtin (b := .append) (xs := #[.tmp 63, .tmp 65]) rfl ?_); (try (refine gate_guard (by rfl) ?_; dsimp only)); at_builtin; refine Kd.R_append (rawK 5) (w0 := x3) w.heap.size rfl (.tmp 63) (.tmp 65) 23 67 (.agg #[.int .i64 0, .int .i64 0, .int .i64 0, .slice none 0 0, .slice none 0 0]) 72 rfl Try.underlying23 info67 rfl (by decide) (by omega) (.slice A kk cc) xs ⟨[.int .i64 a, .int .i64 b, .int .i64 d, .slice A1 k1 c1, .slice A2 k2 c2], rfl, by simp [Value.oneCell']⟩ [.int .i64 a, .int .i64 b, .int .i64 d, .slice A1 k1 c1, .slice A2 k2 c2] (fun _ => True) (fun _ => False) rfl rfl ?aP (fun _ hk => hk.elim) ?aF ?aO ?aB ?aS ?aL ?_; (case aP => exact rfl); (case aB => exact Below.refl _ _); (case aF => exact (fun _ _ => trivial)); (case aO => exact HRx3.out); (case aS => exact hb3); (case aL => omega); intro v1 w6 ho hbb hg hat; have HO6 := Aside0.mk ho; have HB6 := Aside0.mk (begun_row HBx3.out HRx3.out (by decide) (by decide) hg); have HL6 := Aside0.mk (left_row HLx3.out HRx3.out (by decide) hg); have hc6 : w6.cell? ⟨w.heap.size, 5, none⟩ = some (.slice A kk cc) := (blk_cell HB6.out.res 5).trans rfl; have hf6 := blk_frozen HB6.out.res 5; obtain ⟨A6, k6, c6, rfl⟩ := raw_shape ho; clear ho hbb hg hat)
                                go_roundg (m - (k + 1))
                                case measure => omega
                                case rel => exact ⟨k + 1, v1, _, _, by omega, by omega, by
                                    have hwr : wrap64 ((k : Int) + 1) = (k : Int) + 1 := by unfold wrap64; omega
                                    first | (simp [hwr]; done) | go_num, by rw [List.length_append, hlen]; rfl, hy1, ⟨by
                                    rw [HPR.out, show m - (k + 1) = j by have := HJ.out; omega]
                                    simp only [pReps, pEntR, HQ0.out, HQ1.out, HQ2.out, HR0_.out, HR1_.out, Option.bind_some, Option.map_some]⟩, ⟨begun_s HB6.out 5 _ (set6 _ _ _ _ _ _ _).2.2.2.2.2⟩, ⟨left_setc HL6.out (by omega)⟩, ⟨Kd.R_set HO6.out HB6.out.res (by decide) 5 _⟩⟩
                    · obtain rfl : k = m := by omega
                      have hkz : decide ((k : Int) < (k : Int)) = false := decide_eq_false (by omega)
                      have hend := HPR.out
                      rw [Nat.sub_self] at hend
                      simp only [pReps] at hend
                      obtain ⟨B5, kc, cd, rfl⟩ := raw_shape HRr.out
                      have HE20 := Aside0.mk hend
                      clear hend hkz HPR HRr
                      obtain ⟨s30, hs30⟩ : ∃ x, x = u := ⟨_, rfl⟩
                      subst hs30
                      have hC := end_calls (w.heap.size + 1 + 1) s30 wr HLr.out
                      by_cases hz : s30.size = 0
                      · rw [if_pos hz] at hC
                        have HC := Aside0.mk hC
                        have HZ := Aside0.mk hz
                        clear hC hz
                        go_wp2_with (go_at_call 40; refine HC.out.mono ?_; rintro e wb ⟨rfl, hg, hl⟩; have HBb := Aside0.mk (begun_grown HBr.out hg); have hx0 : wb.cell? ⟨w.heap.size, 0, none⟩ = some (.int .i64 st) := (blk_cell HBb.out.res 0).trans rfl; have hy0 := blk_frozen HBb.out.res 0; have hx1 : wb.cell? ⟨w.heap.size, 1, none⟩ = some (.string tok) := (blk_cell HBb.out.res 1).trans rfl; have hy1 := blk_frozen HBb.out.res 1; have hx2 : wb.cell? ⟨w.heap.size, 2, none⟩ = some (.int .i64 num) := (blk_cell HBb.out.res 2).trans rfl; have hy2 := blk_frozen HBb.out.res 2; have hx3 : wb.cell? ⟨w.heap.size, 3, none⟩ = some (.int .i64 at_) := (blk_cell HBb.out.res 3).trans rfl; have hy3 := blk_frozen HBb.out.res 3; have hx4 : wb.cell? ⟨w.heap.size, 4, none⟩ = some (.slice B4 kb cb) := (blk_cell HBb.out.res 4).trans rfl; have hy4 := blk_frozen HBb.out.res 4; have hx5 : wb.cell? ⟨w.heap.size, 5, none⟩ = some (.slice B5 kc cd) := (blk_cell HBb.out.res 5).trans rfl; have hy5 := blk_frozen HBb.out.res 5; have hz0 : wb.cell? ⟨w.heap.size + 1, 0, none⟩ = some (.bool false) := (blk_cell HBb.out.ok 0).trans rfl; have hz1 := blk_frozen HBb.out.ok 0; clear hg hl)
                        have hPt : P = true := by rw [HPP.out]; simp only [pTold, HP0.out, HP1.out, HP2.out, HP3.out, HP4.out, HE4.out, HP20.out, HE20.out, Option.bind_some, Int.toNat_natCast, HZ.out, if_true]; rfl
                        subst hPt
                        have hB := begun_setok (begun_s (begun_s (begun_s (begun_s (begun_s (begun_s HBb.out 0 (.int .i64 st) (set6 _ _ _ _ _ _ _).1) 1 (.string tok) (set6 _ _ _ _ _ _ _).2.1) 2 (.int .i64 num) (set6 _ _ _ _ _ _ _).2.2.1) 3 (.int .i64 at_) (set6 _ _ _ _ _ _ _).2.2.2.1) 4 (.slice B4 kb cb) (set6 _ _ _ _ _ _ _).2.2.2.2.1) 5 (.slice B5 kc cd) (set6 _ _ _ _ _ _ _).2.2.2.2.2) 0 (.bool true)
                        refine leaves_cons (f := 34) (args := #[.pointer (some ⟨w.heap.size, 0, none⟩), .pointer (some ⟨w.heap.size + 1, 0, none⟩)]) (by simp) (by simp [go_sem]) ?_
                        refine (told_idle ⟨w.heap.size, 0, none⟩ ⟨w.heap.size + 1, 0, none⟩ _).mono ?_
                        rintro e u' w'' ⟨rfl, rfl, hw⟩
                        rw [← hw] at hB
                        have hc0 : w''.cell? ⟨w.heap.size, 0, none⟩ = some (.int .i64 st) := (blk_cell hB.res 0).trans rfl
                        have hc1 : w''.cell? ⟨w.heap.size, 1, none⟩ = some (.string tok) := (blk_cell hB.res 1).trans rfl
                        have hc2 : w''.cell? ⟨w.heap.size, 2, none⟩ = some (.int .i64 num) := (blk_cell hB.res 2).trans rfl
                        have hc3 : w''.cell? ⟨w.heap.size, 3, none⟩ = some (.int .i64 at_) := (blk_cell hB.res 3).trans rfl
                        have hc4 : w''.cell? ⟨w.heap.size, 4, none⟩ = some (.slice B4 kb cb) := (blk_cell hB.res 4).trans rfl
                        have hc5 : w''.cell? ⟨w.heap.size, 5, none⟩ = some (.slice B5 kc cd) := (blk_cell hB.res 5).trans rfl
                        have hk0 : w''.cell? ⟨w.heap.size + 1, 0, none⟩ = some (.bool true) := (blk_cell hB.ok 0).trans rfl
                        have HG := begun_all hB
                        clear hw hB hz0 hz1 hx0 hy0 hx1 hy1 hx2 hy2 hx3 hy3 hx4 hy4 hx5 hy5
                        simp [Leaves, settle, results, Try.results11, go_sem, hc0, hc1, hc2, hc3, hc4, hc5, hk0, Result.andThen]
                        exact HG
                      · rw [if_neg hz] at hC
                        have HC := Aside0.mk hC
                        have HZ := Aside0.mk hz
                        clear hC hz
                        go_wp2_with (go_at_call 40; refine HC.out.mono ?_; rintro e wa ⟨rfl, hg⟩; have HBa := Aside0.mk (begun_grown HBr.out hg); clear hg)
                        have hPf : P = false := by rw [HPP.out]; simp only [pTold, HP0.out, HP1.out, HP2.out, HP3.out, HP4.out, HE4.out, HP20.out, HE20.out, Option.bind_some, Option.bind_none, Int.toNat_natCast, if_neg HZ.out]; rfl
                        subst hPf
                        refine leaves_cons (f := 34) (args := #[.pointer (some ⟨w.heap.size, 0, none⟩), .pointer (some ⟨w.heap.size + 1, 0, none⟩)]) (by simp) (by simp [go_sem]) ?_
                        refine (told_panicking w.heap.size (w.heap.size + 1) _ _ _ _ _ _ _ _ HBa.out.res HBa.out.ok).mono ?_
                        rintro e u' w'' ⟨rfl, rfl, hw⟩
                        have hE := told_end HBa.out hw
                        have hc0 : w''.cell? ⟨w.heap.size, 0, none⟩ = some (.int .i64 0) := (blk_cell hE.res 0).trans rfl
                        have hc1 : w''.cell? ⟨w.heap.size, 1, none⟩ = some (.string ⟨#[]⟩) := (blk_cell hE.res 1).trans rfl
                        have hc2 : w''.cell? ⟨w.heap.size, 2, none⟩ = some (.int .i64 0) := (blk_cell hE.res 2).trans rfl
                        have hc3 : w''.cell? ⟨w.heap.size, 3, none⟩ = some (.int .i64 0) := (blk_cell hE.res 3).trans rfl
                        have hc4 : w''.cell? ⟨w.heap.size, 4, none⟩ = some (.slice none 0 0) := (blk_cell hE.res 4).trans rfl
                        have hc5 : w''.cell? ⟨w.heap.size, 5, none⟩ = some (.slice none 0 0) := (blk_cell hE.res 5).trans rfl
                        have hk0 : w''.cell? ⟨w.heap.size + 1, 0, none⟩ = some (.bool false) := (blk_cell hE.ok 0).trans rfl
                        have HG := hE.grown
                        clear hw hE
                        simp [Leaves, settle, results, Try.results11, go_sem, hc0, hc1, hc2, hc3, hc4, hc5, hk0, Result.andThen]
                        exact HG
end Go.Proofs.Ytibfbdfoiboanaa.Rd
