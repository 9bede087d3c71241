/- words.Ask: what it answers, at every text: the call that is read, or none. Over the program alone. -/
import Derived.Test.YtibfbdfoiboanaaRd4
namespace Go.Proofs.Ytibfbdfoiboanaa.Rd
open Go.RowKit Go.Proofs.YtibfbdfoiboanaaW.PrintWords Go.Proofs.YtibfbdfoiboanaaW.PrintMore
set_option linter.unusedVariables false
/-- What the closure leaves. -/
structure Cleared (w w' : World) (b k : Nat) : Prop where
  res : w'.heap[b]? = some (.cells #[.string ⟨#[]⟩, .int .i64 0, .nilIface] 35 (0, 0))
  ok : w'.heap[k]? = some (.cells #[.bool false] 4 (0, 0))
  rest : ∀ q, q < w.heap.size → q ≠ b → q ≠ k → w'.heap[q]? = w.heap[q]?
  os : w'.os = w.os
  tape : w'.tape = w.tape
  output : w'.output = w.output
  size : w.heap.size ≤ w'.heap.size
theorem cleared (b k : Nat) (u0 u1 u2 v : Value) (w : World) (hb : w.heap[b]? = some (.cells #[u0, u1, u2] 35 (0, 0))) (hk : w.heap[k]? = some (.cells #[v] 4 (0, 0))) (hne : b ≠ k) :
    Cleared w (((((w.setCell ⟨b, 0, none⟩ (.string ⟨#[]⟩)).setCell ⟨b, 1, none⟩ (.int .i64 0)).setCell ⟨b, 2, none⟩ .nilIface).setCell ⟨k, 0, none⟩ (.bool false)).alloc (.cells #[] 54)) b k := by
  have hbl : b < w.heap.size := blk_lt hb
  have hkl : k < w.heap.size := blk_lt hk
  have e1 := blk_set hb 0 (.string ⟨#[]⟩)
  have e2 := blk_set e1 1 (.int .i64 0)
  have e3 := blk_set e2 2 .nilIface
  have k1 := (Below.heap_setCell w ⟨b, 0, none⟩ (.string ⟨#[]⟩) k (by simpa using hne.symm)).trans hk
  have k2 := (Below.heap_setCell _ ⟨b, 1, none⟩ (.int .i64 0) k (by simpa using hne.symm)).trans k1
  have k3 := (Below.heap_setCell _ ⟨b, 2, none⟩ .nilIface k (by simpa using hne.symm)).trans k2
  have k4 := blk_set k3 0 (.bool false)
  have e4 := (Below.heap_setCell _ ⟨k, 0, none⟩ (.bool false) b (by simpa using hne)).trans e3
  have hp : ∀ (W : World) (q : Nat), q < W.heap.size → (W.alloc (.cells #[] 54)).heap[q]? = W.heap[q]? := fun W q hq => by
    show (W.heap.push _)[q]? = _
    rw [Array.getElem?_push, if_neg (by omega)]
  refine ⟨(hp _ b (blk_lt e4)).trans e4, (hp _ k (blk_lt k4)).trans k4, fun q hq hqb hqk => ?_, rfl, rfl, rfl, by simp [World.setCell]⟩
  rw [hp _ q (by simpa [World.setCell] using hq)]
  rw [Below.heap_setCell _ ⟨k, 0, none⟩ _ q (by simpa using hqk), Below.heap_setCell _ ⟨b, 2, none⟩ _ q (by simpa using hqb), Below.heap_setCell _ ⟨b, 1, none⟩ _ q (by simpa using hqb), Below.heap_setCell _ ⟨b, 0, none⟩ _ q (by simpa using hqb)]
structure Begun (w w2 : World) (C0 B0 : Array Value) (tc : TypeId) : Prop where
  res : w2.heap[w.heap.size]? = some (.cells C0 tc (0, 0))
  ok : w2.heap[w.heap.size + 1]? = some (.cells B0 4 (0, 0))
  rest : ∀ q, q < w.heap.size → w2.heap[q]? = w.heap[q]?
  os : w2.os = w.os
  tape : w2.tape = w.tape
  output : w2.output = w.output
  size : w.heap.size + 3 ≤ w2.heap.size
theorem begun (w w2 : World) (C0 B0 : Array Value) (tc : TypeId) (s : ByteArray)
    (h : (((w.alloc (.cells C0 tc)).alloc (.cells B0 4)).alloc (.cells #[.string s] 75)).grownBy w2 (some (w.heap.size + 1 + 1))) : Begun w w2 C0 B0 tc := by
  obtain ⟨W, hW⟩ : ∃ W, W = (((w.alloc (.cells C0 tc)).alloc (.cells B0 4)).alloc (.cells #[.string s] 75)) := ⟨_, rfl⟩
  have hH : W.heap = ((w.heap.push (.cells C0 tc (0, 0))).push (.cells B0 4 (0, 0))).push (.cells #[.string s] 75 (0, 0)) := by rw [hW]; rfl
  have hS : W.heap.size = w.heap.size + 3 := by rw [hH]; simp
  have ho : W.os = w.os ∧ W.tape = w.tape ∧ W.output = w.output := by rw [hW]; exact ⟨rfl, rfl, rfl⟩
  rw [← hW] at h
  clear hW
  have g : ∀ q, q < w.heap.size + 2 → w2.heap[q]? = W.heap[q]? := fun q hq => h.block q (by omega) (fun e => by injection e with e; omega)
  refine ⟨?_, ?_, fun q hq => ?_, h.os.trans ho.1, h.tape.trans ho.2.1, h.output.trans ho.2.2, by have := h.size; omega⟩
  · rw [g _ (by omega), hH, Array.getElem?_push, if_neg (by simp; omega), Array.getElem?_push, if_neg (by simp), Array.getElem?_push, if_pos rfl]
  · rw [g _ (by omega), hH, Array.getElem?_push, if_neg (by simp), Array.getElem?_push, if_pos (by simp)]
  · rw [g _ (by omega), hH, Array.getElem?_push, if_neg (by simp; omega), Array.getElem?_push, if_neg (by simp; omega), Array.getElem?_push, if_neg (by omega)]
theorem begun_grown {w w2 w3 : World} {C0 B0 : Array Value} {tc : TypeId} (h : Begun w w2 C0 B0 tc) (k : w2.grownBy w3 (some (w.heap.size + 1 + 1))) : Begun w w3 C0 B0 tc := by
  have hs := h.size
  refine ⟨(k.block _ (by omega) (fun e => by injection e with e; omega)).trans h.res, (k.block _ (by omega) (fun e => by injection e with e; omega)).trans h.ok, fun q hq => (k.block q (by omega) (fun e => by injection e with e; omega)).trans (h.rest q hq), k.os.trans h.os, k.tape.trans h.tape, k.output.trans h.output, Nat.le_trans hs k.size⟩
theorem begun_set {w w2 : World} {C0 B0 : Array Value} {tc : TypeId} (h : Begun w w2 C0 B0 tc) (j : Nat) (u : Value) : Begun w (w2.setCell ⟨w.heap.size, j, none⟩ u) (C0.setIfInBounds j u) B0 tc := by
  refine ⟨blk_set h.res j u, (Below.heap_setCell w2 ⟨w.heap.size, j, none⟩ u _ (by simp)).trans h.ok, fun q hq => (Below.heap_setCell w2 ⟨w.heap.size, j, none⟩ u q (by simp; omega)).trans (h.rest q hq), h.os, h.tape, h.output, by simpa [World.setCell] using h.size⟩
theorem begun_setok {w w2 : World} {C0 B0 : Array Value} {tc : TypeId} (h : Begun w w2 C0 B0 tc) (j : Nat) (u : Value) : Begun w (w2.setCell ⟨w.heap.size + 1, j, none⟩ u) C0 (B0.setIfInBounds j u) tc := by
  refine ⟨(Below.heap_setCell w2 ⟨w.heap.size + 1, j, none⟩ u _ (by simp)).trans h.res, blk_set h.ok j u, fun q hq => (Below.heap_setCell w2 ⟨w.heap.size + 1, j, none⟩ u q (by simp; omega)).trans (h.rest q hq), h.os, h.tape, h.output, by simpa [World.setCell] using h.size⟩
theorem left_setc {w : World} {g c j : Nat} {s : ByteArray} {u : Value} (hL : Left w g s) (hg : g ≠ c) : Left (w.setCell ⟨c, j, none⟩ u) g s :=
  (Below.heap_setCell w ⟨c, j, none⟩ u g (by simpa using hg)).trans hL
theorem ite_shape {c : Prop} [Decidable c] {v u : Value} (h1 : ∃ ty cs, v = .iface ty (.agg cs)) (h2 : ∃ ty cs, u = .iface ty (.agg cs)) : ∃ ty cs, (if c then v else u) = .iface ty (.agg cs) := by
  by_cases h : c
  · rw [if_pos h]; exact h1
  · rw [if_neg h]; exact h2
theorem askV_shape (x : Asked) : ∃ ty cs, askV x = .iface ty (.agg cs) := by
  unfold askV
  repeat (refine ite_shape ⟨_, _, rfl⟩ ?_)
  exact ⟨_, _, rfl⟩
theorem begun_all {w w2 : World} {C0 B0 : Array Value} {tc : TypeId} (h : Begun w w2 C0 B0 tc) : w.grownBy w2 none :=
  ⟨h.os, h.tape, h.output, by have := h.size; omega, fun q hq _ => h.rest q hq⟩
theorem left_new (w : World) (A B : Obj) (s : ByteArray) : Left (((w.alloc A).alloc B).alloc (.cells #[.string s] 75)) (w.heap.size + 1 + 1) s := by
  show (((w.heap.push A).push B).push (.cells #[.string s] 75 (0, 0)))[w.heap.size + 1 + 1]? = _
  rw [Array.getElem?_push, if_pos (by simp)]
def pAsk (s : ByteArray) : Option ((Int × ByteArray × Int × Asked) × ByteArray) :=
  (pLen s).bind fun o => (pText o.2).bind fun t => (pNum t.2).bind fun n => (pFields o.1 n.2).bind fun a => if a.2.size = 0 then some ((o.1, t.1, n.1, a.1), a.2) else none
set_option maxRecDepth 100000 in
set_option maxHeartbeats 4000000 in
theorem ask_none1 (s : ByteArray) (w : World) (hs : s.size ≤ 9223372036854775807) (hp0 : pLen s = none) :
    Calls Try.prog 14 #[.string s] w fun e w' => e = .returned (.tuple #[.agg #[.string ⟨#[]⟩, .int .i64 0, .nilIface], .bool false]) ∧ w.grownBy w' none := by
  have hmf : ∀ (fn : Fn) (first cap : Array Value) (w : World), (Instr.makeFunc fn first cap).run Try.prog w = .ok (.func fn first cap) w := fun _ _ _ _ => rfl
  have hC0 := fun W g (h : Left W g s) => length_calls g s W h hs
  simp only [hp0] at hC0
  have HC0 := Aside0.mk hC0
  clear hC0 hp0
  go_enter_defers Try.func14, Try.ntmps14
  go_wp2_with (go_at_call 35; refine (HC0.out _ _ ?_).mono ?_; exact left_new _ _ _ _; rintro e w0 ⟨rfl, hg⟩; have HB0 := Aside0.mk (begun w w0 _ _ 35 s hg); clear hg)
  have hB := HB0.out
  refine leaves_cons (f := 49) (args := #[.pointer (some ⟨w.heap.size, 0, none⟩), .pointer (some ⟨w.heap.size + 1, 0, none⟩)]) (by simp) (by simp [go_sem]) ?_
  refine (ask_panicking w.heap.size (w.heap.size + 1) _ _ _ _ _ hB.res hB.ok).mono ?_
  rintro e u' w'' ⟨rfl, rfl, hw⟩
  have hcl : Cleared w0 w'' w.heap.size (w.heap.size + 1) := by rw [hw]; exact cleared _ _ _ _ _ _ _ hB.res hB.ok (by omega)
  have hc0 : w''.cell? ⟨w.heap.size, 0, none⟩ = some (.string ⟨#[]⟩) := (blk_cell hcl.res 0).trans rfl
  have hc1 : w''.cell? ⟨w.heap.size, 1, none⟩ = some (.int .i64 0) := (blk_cell hcl.res 1).trans rfl
  have hc2 : w''.cell? ⟨w.heap.size, 2, none⟩ = some .nilIface := (blk_cell hcl.res 2).trans rfl
  have hk0 : w''.cell? ⟨w.heap.size + 1, 0, none⟩ = some (.bool false) := (blk_cell hcl.ok 0).trans rfl
  have hG : w.grownBy w'' none := ⟨hcl.os.trans hB.os, hcl.tape.trans hB.tape, hcl.output.trans hB.output, by have := hB.size; have := hcl.size; omega, fun q hq _ => (hcl.rest q (by have := hB.size; omega) (by omega) (by omega)).trans (hB.rest q hq)⟩
  have HG := Aside0.mk hG
  clear hw hG hcl hB
  simp [Leaves, settle, results, Try.results14, go_sem, hc0, hc1, hc2, hk0, Result.andThen]
  exact HG.out
set_option maxRecDepth 100000 in
set_option maxHeartbeats 4000000 in
theorem ask_none2 (s : ByteArray) (w : World) (hs : s.size ≤ 9223372036854775807) (o : Int) (s1 : ByteArray) (hp0 : pLen s = some (o, s1)) (hs0 : s1.size ≤ 9223372036854775807) (hp1 : pText s1 = none) :
    Calls Try.prog 14 #[.string s] w fun e w' => e = .returned (.tuple #[.agg #[.string ⟨#[]⟩, .int .i64 0, .nilIface], .bool false]) ∧ w.grownBy w' none := by
  have hmf : ∀ (fn : Fn) (first cap : Array Value) (w : World), (Instr.makeFunc fn first cap).run Try.prog w = .ok (.func fn first cap) w := fun _ _ _ _ => rfl
  have hC0 := fun W g (h : Left W g s) => length_calls g s W h hs
  simp only [hp0] at hC0
  have HC0 := Aside0.mk hC0
  clear hC0 hp0
  have hC1 := fun W g (h : Left W g s1) => text_calls g s1 W h hs0
  simp only [hp1] at hC1
  have HC1 := Aside0.mk hC1
  clear hC1 hp1
  go_enter_defers Try.func14, Try.ntmps14
  go_wp2_with (first
    | (go_at_call 35; refine (HC0.out _ _ ?_).mono ?_; exact left_new _ _ _ _; rintro e w0 ⟨rfl, hg, hl⟩; have HB0 := Aside0.mk (begun w w0 _ _ 35 s hg); have HL0 := Aside0.mk hl; clear hg hl)
    | (go_at_call 36; refine (HC1.out _ _ HL0.out).mono ?_; rintro e w1 ⟨rfl, hg⟩; have HB1 := Aside0.mk (begun_grown HB0.out hg); clear hg))
  have hB := HB1.out
  refine leaves_cons (f := 49) (args := #[.pointer (some ⟨w.heap.size, 0, none⟩), .pointer (some ⟨w.heap.size + 1, 0, none⟩)]) (by simp) (by simp [go_sem]) ?_
  refine (ask_panicking w.heap.size (w.heap.size + 1) _ _ _ _ _ hB.res hB.ok).mono ?_
  rintro e u' w'' ⟨rfl, rfl, hw⟩
  have hcl : Cleared w1 w'' w.heap.size (w.heap.size + 1) := by rw [hw]; exact cleared _ _ _ _ _ _ _ hB.res hB.ok (by omega)
  have hc0 : w''.cell? ⟨w.heap.size, 0, none⟩ = some (.string ⟨#[]⟩) := (blk_cell hcl.res 0).trans rfl
  have hc1 : w''.cell? ⟨w.heap.size, 1, none⟩ = some (.int .i64 0) := (blk_cell hcl.res 1).trans rfl
  have hc2 : w''.cell? ⟨w.heap.size, 2, none⟩ = some .nilIface := (blk_cell hcl.res 2).trans rfl
  have hk0 : w''.cell? ⟨w.heap.size + 1, 0, none⟩ = some (.bool false) := (blk_cell hcl.ok 0).trans rfl
  have hG : w.grownBy w'' none := ⟨hcl.os.trans hB.os, hcl.tape.trans hB.tape, hcl.output.trans hB.output, by have := hB.size; have := hcl.size; omega, fun q hq _ => (hcl.rest q (by have := hB.size; omega) (by omega) (by omega)).trans (hB.rest q hq)⟩
  have HG := Aside0.mk hG
  clear hw hG hcl hB
  simp [Leaves, settle, results, Try.results14, go_sem, hc0, hc1, hc2, hk0, Result.andThen]
  exact HG.out
set_option maxRecDepth 100000 in
set_option maxHeartbeats 4000000 in
theorem ask_none3 (s : ByteArray) (w : World) (hs : s.size ≤ 9223372036854775807) (o : Int) (s1 : ByteArray) (hp0 : pLen s = some (o, s1)) (hs0 : s1.size ≤ 9223372036854775807) (t : ByteArray) (s2 : ByteArray) (hp1 : pText s1 = some (t, s2)) (hs1 : s2.size ≤ 9223372036854775807) (hp2 : pNum s2 = none) :
    Calls Try.prog 14 #[.string s] w fun e w' => e = .returned (.tuple #[.agg #[.string ⟨#[]⟩, .int .i64 0, .nilIface], .bool false]) ∧ w.grownBy w' none := by
  have hmf : ∀ (fn : Fn) (first cap : Array Value) (w : World), (Instr.makeFunc fn first cap).run Try.prog w = .ok (.func fn first cap) w := fun _ _ _ _ => rfl
  have hC0 := fun W g (h : Left W g s) => length_calls g s W h hs
  simp only [hp0] at hC0
  have HC0 := Aside0.mk hC0
  clear hC0 hp0
  have hC1 := fun W g (h : Left W g s1) => text_calls g s1 W h hs0
  simp only [hp1] at hC1
  have HC1 := Aside0.mk hC1
  clear hC1 hp1
  have hC2 := fun W g (h : Left W g s2) => num_calls g s2 W h hs1
  simp only [hp2] at hC2
  have HC2 := Aside0.mk hC2
  clear hC2 hp2
  go_enter_defers Try.func14, Try.ntmps14
  go_wp2_with (first
    | (go_at_call 35; refine (HC0.out _ _ ?_).mono ?_; exact left_new _ _ _ _; rintro e w0 ⟨rfl, hg, hl⟩; have HB0 := Aside0.mk (begun w w0 _ _ 35 s hg); have HL0 := Aside0.mk hl; clear hg hl)
    | (go_at_call 36; refine (HC1.out _ _ HL0.out).mono ?_; rintro e w1 ⟨rfl, hg, hl⟩; have HB1 := Aside0.mk (begun_grown HB0.out hg); have HL1 := Aside0.mk hl; have hc1 : w1.cell? ⟨w.heap.size, 0, none⟩ = some (.string ⟨#[]⟩) := (blk_cell HB1.out.res 0).trans rfl; have hf1 := blk_frozen HB1.out.res 0; clear hg hl)
    | (go_at_call 37; refine (HC2.out _ _ (left_setc HL1.out (by omega))).mono ?_; rintro e w2 ⟨rfl, hg⟩; have HB2 := Aside0.mk (begun_grown (begun_set HB1.out 0 _) hg); clear hg))
  have hB := HB2.out
  refine leaves_cons (f := 49) (args := #[.pointer (some ⟨w.heap.size, 0, none⟩), .pointer (some ⟨w.heap.size + 1, 0, none⟩)]) (by simp) (by simp [go_sem]) ?_
  refine (ask_panicking w.heap.size (w.heap.size + 1) _ _ _ _ _ hB.res hB.ok).mono ?_
  rintro e u' w'' ⟨rfl, rfl, hw⟩
  have hcl : Cleared w2 w'' w.heap.size (w.heap.size + 1) := by rw [hw]; exact cleared _ _ _ _ _ _ _ hB.res hB.ok (by omega)
  have hc0 : w''.cell? ⟨w.heap.size, 0, none⟩ = some (.string ⟨#[]⟩) := (blk_cell hcl.res 0).trans rfl
  have hc1 : w''.cell? ⟨w.heap.size, 1, none⟩ = some (.int .i64 0) := (blk_cell hcl.res 1).trans rfl
  have hc2 : w''.cell? ⟨w.heap.size, 2, none⟩ = some .nilIface := (blk_cell hcl.res 2).trans rfl
  have hk0 : w''.cell? ⟨w.heap.size + 1, 0, none⟩ = some (.bool false) := (blk_cell hcl.ok 0).trans rfl
  have hG : w.grownBy w'' none := ⟨hcl.os.trans hB.os, hcl.tape.trans hB.tape, hcl.output.trans hB.output, by have := hB.size; have := hcl.size; omega, fun q hq _ => (hcl.rest q (by have := hB.size; omega) (by omega) (by omega)).trans (hB.rest q hq)⟩
  have HG := Aside0.mk hG
  clear hw hG hcl hB
  simp [Leaves, settle, results, Try.results14, go_sem, hc0, hc1, hc2, hk0, Result.andThen]
  exact HG.out
set_option maxRecDepth 100000 in
set_option maxHeartbeats 4000000 in
theorem ask_none4 (s : ByteArray) (w : World) (hs : s.size ≤ 9223372036854775807) (o : Int) (s1 : ByteArray) (hp0 : pLen s = some (o, s1)) (hs0 : s1.size ≤ 9223372036854775807) (t : ByteArray) (s2 : ByteArray) (hp1 : pText s1 = some (t, s2)) (hs1 : s2.size ≤ 9223372036854775807) (n : Int) (s3 : ByteArray) (hp2 : pNum s2 = some (n, s3)) (hs2 : s3.size ≤ 9223372036854775807) (hp3 : pFields o s3 = none) :
    Calls Try.prog 14 #[.string s] w fun e w' => e = .returned (.tuple #[.agg #[.string ⟨#[]⟩, .int .i64 0, .nilIface], .bool false]) ∧ w.grownBy w' none := by
  have hmf : ∀ (fn : Fn) (first cap : Array Value) (w : World), (Instr.makeFunc fn first cap).run Try.prog w = .ok (.func fn first cap) w := fun _ _ _ _ => rfl
  have hC0 := fun W g (h : Left W g s) => length_calls g s W h hs
  simp only [hp0] at hC0
  have HC0 := Aside0.mk hC0
  clear hC0 hp0
  have hC1 := fun W g (h : Left W g s1) => text_calls g s1 W h hs0
  simp only [hp1] at hC1
  have HC1 := Aside0.mk hC1
  clear hC1 hp1
  have hC2 := fun W g (h : Left W g s2) => num_calls g s2 W h hs1
  simp only [hp2] at hC2
  have HC2 := Aside0.mk hC2
  clear hC2 hp2
  have hC3 := fun W g (h : Left W g s3) => fields_all g s3 o W h hs2
  unfold SaidF at hC3
  simp only [hp3] at hC3
  have HC3 := Aside0.mk hC3
  clear hC3 hp3
  go_enter_defers Try.func14, Try.ntmps14
  go_wp2_with (first
    | (go_at_call 35; refine (HC0.out _ _ ?_).mono ?_; exact left_new _ _ _ _; rintro e w0 ⟨rfl, hg, hl⟩; have HB0 := Aside0.mk (begun w w0 _ _ 35 s hg); have HL0 := Aside0.mk hl; clear hg hl)
    | (go_at_call 36; refine (HC1.out _ _ HL0.out).mono ?_; rintro e w1 ⟨rfl, hg, hl⟩; have HB1 := Aside0.mk (begun_grown HB0.out hg); have HL1 := Aside0.mk hl; have hc1 : w1.cell? ⟨w.heap.size, 0, none⟩ = some (.string ⟨#[]⟩) := (blk_cell HB1.out.res 0).trans rfl; have hf1 := blk_frozen HB1.out.res 0; clear hg hl)
    | (go_at_call 37; refine (HC2.out _ _ (left_setc HL1.out (by omega))).mono ?_; rintro e w2 ⟨rfl, hg, hl⟩; have HB2 := Aside0.mk (begun_grown (begun_set HB1.out 0 _) hg); have HL2 := Aside0.mk hl; have hc2 : w2.cell? ⟨w.heap.size, 1, none⟩ = some (.int .i64 0) := (blk_cell HB2.out.res 1).trans rfl; have hf2 := blk_frozen HB2.out.res 1; clear hg hl)
    | (go_at_call 50; refine (HC3.out _ _ (left_setc HL2.out (by omega))).mono ?_; rintro e w3 ⟨rfl, hg⟩; have HB3 := Aside0.mk (begun_grown (begun_set HB2.out 1 _) hg); clear hg))
  have hB := HB3.out
  refine leaves_cons (f := 49) (args := #[.pointer (some ⟨w.heap.size, 0, none⟩), .pointer (some ⟨w.heap.size + 1, 0, none⟩)]) (by simp) (by simp [go_sem]) ?_
  refine (ask_panicking w.heap.size (w.heap.size + 1) _ _ _ _ _ hB.res hB.ok).mono ?_
  rintro e u' w'' ⟨rfl, rfl, hw⟩
  have hcl : Cleared w3 w'' w.heap.size (w.heap.size + 1) := by rw [hw]; exact cleared _ _ _ _ _ _ _ hB.res hB.ok (by omega)
  have hc0 : w''.cell? ⟨w.heap.size, 0, none⟩ = some (.string ⟨#[]⟩) := (blk_cell hcl.res 0).trans rfl
  have hc1 : w''.cell? ⟨w.heap.size, 1, none⟩ = some (.int .i64 0) := (blk_cell hcl.res 1).trans rfl
  have hc2 : w''.cell? ⟨w.heap.size, 2, none⟩ = some .nilIface := (blk_cell hcl.res 2).trans rfl
  have hk0 : w''.cell? ⟨w.heap.size + 1, 0, none⟩ = some (.bool false) := (blk_cell hcl.ok 0).trans rfl
  have hG : w.grownBy w'' none := ⟨hcl.os.trans hB.os, hcl.tape.trans hB.tape, hcl.output.trans hB.output, by have := hB.size; have := hcl.size; omega, fun q hq _ => (hcl.rest q (by have := hB.size; omega) (by omega) (by omega)).trans (hB.rest q hq)⟩
  have HG := Aside0.mk hG
  clear hw hG hcl hB
  simp [Leaves, settle, results, Try.results14, go_sem, hc0, hc1, hc2, hk0, Result.andThen]
  exact HG.out
set_option maxRecDepth 100000 in
set_option maxHeartbeats 4000000 in
theorem ask_none5 (s : ByteArray) (w : World) (hs : s.size ≤ 9223372036854775807) (o : Int) (s1 : ByteArray) (hp0 : pLen s = some (o, s1)) (hs0 : s1.size ≤ 9223372036854775807) (t : ByteArray) (s2 : ByteArray) (hp1 : pText s1 = some (t, s2)) (hs1 : s2.size ≤ 9223372036854775807) (n : Int) (s3 : ByteArray) (hp2 : pNum s2 = some (n, s3)) (hs2 : s3.size ≤ 9223372036854775807) (a : Asked) (s4 : ByteArray) (hp3 : pFields o s3 = some (a, s4)) (hs3 : s4.size ≤ 9223372036854775807) (hp4 : s4.size ≠ 0) :
    Calls Try.prog 14 #[.string s] w fun e w' => e = .returned (.tuple #[.agg #[.string ⟨#[]⟩, .int .i64 0, .nilIface], .bool false]) ∧ w.grownBy w' none := by
  have hmf : ∀ (fn : Fn) (first cap : Array Value) (w : World), (Instr.makeFunc fn first cap).run Try.prog w = .ok (.func fn first cap) w := fun _ _ _ _ => rfl
  have hC0 := fun W g (h : Left W g s) => length_calls g s W h hs
  simp only [hp0] at hC0
  have HC0 := Aside0.mk hC0
  clear hC0 hp0
  have hC1 := fun W g (h : Left W g s1) => text_calls g s1 W h hs0
  simp only [hp1] at hC1
  have HC1 := Aside0.mk hC1
  clear hC1 hp1
  have hC2 := fun W g (h : Left W g s2) => num_calls g s2 W h hs1
  simp only [hp2] at hC2
  have HC2 := Aside0.mk hC2
  clear hC2 hp2
  have hC3 := fun W g (h : Left W g s3) => fields_all g s3 o W h hs2
  unfold SaidF at hC3
  simp only [hp3] at hC3
  obtain ⟨ty, cs, hv⟩ := askV_shape a
  simp only [Option.map_some, hv] at hC3
  clear hv
  have HC3 := Aside0.mk hC3
  clear hC3 hp3
  have hC4 := fun W g (h : Left W g s4) => end_calls g s4 W h
  simp only [hp4, if_false] at hC4
  have HC4 := Aside0.mk hC4
  clear hC4 hp4
  go_enter_defers Try.func14, Try.ntmps14
  go_wp2_with (first
    | (go_at_call 35; refine (HC0.out _ _ ?_).mono ?_; exact left_new _ _ _ _; rintro e w0 ⟨rfl, hg, hl⟩; have HB0 := Aside0.mk (begun w w0 _ _ 35 s hg); have HL0 := Aside0.mk hl; clear hg hl)
    | (go_at_call 36; refine (HC1.out _ _ HL0.out).mono ?_; rintro e w1 ⟨rfl, hg, hl⟩; have HB1 := Aside0.mk (begun_grown HB0.out hg); have HL1 := Aside0.mk hl; have hc1 : w1.cell? ⟨w.heap.size, 0, none⟩ = some (.string ⟨#[]⟩) := (blk_cell HB1.out.res 0).trans rfl; have hf1 := blk_frozen HB1.out.res 0; clear hg hl)
    | (go_at_call 37; refine (HC2.out _ _ (left_setc HL1.out (by omega))).mono ?_; rintro e w2 ⟨rfl, hg, hl⟩; have HB2 := Aside0.mk (begun_grown (begun_set HB1.out 0 _) hg); have HL2 := Aside0.mk hl; have hc2 : w2.cell? ⟨w.heap.size, 1, none⟩ = some (.int .i64 0) := (blk_cell HB2.out.res 1).trans rfl; have hf2 := blk_frozen HB2.out.res 1; clear hg hl)
    | (go_at_call 50; refine (HC3.out _ _ (left_setc HL2.out (by omega))).mono ?_; rintro e w3 ⟨rfl, hg, hl⟩; have HB3 := Aside0.mk (begun_grown (begun_set HB2.out 1 _) hg); have HL3 := Aside0.mk hl; have hc3 : w3.cell? ⟨w.heap.size, 2, none⟩ = some (.nilIface) := (blk_cell HB3.out.res 2).trans rfl; have hf3 := blk_frozen HB3.out.res 2; clear hg hl)
    | (go_at_call 40; refine (HC4.out _ _ (left_setc HL3.out (by omega))).mono ?_; rintro e w4 ⟨rfl, hg⟩; have HB4 := Aside0.mk (begun_grown (begun_set HB3.out 2 _) hg); clear hg))
  have hB := HB4.out
  refine leaves_cons (f := 49) (args := #[.pointer (some ⟨w.heap.size, 0, none⟩), .pointer (some ⟨w.heap.size + 1, 0, none⟩)]) (by simp) (by simp [go_sem]) ?_
  refine (ask_panicking w.heap.size (w.heap.size + 1) _ _ _ _ _ hB.res hB.ok).mono ?_
  rintro e u' w'' ⟨rfl, rfl, hw⟩
  have hcl : Cleared w4 w'' w.heap.size (w.heap.size + 1) := by rw [hw]; exact cleared _ _ _ _ _ _ _ hB.res hB.ok (by omega)
  have hc0 : w''.cell? ⟨w.heap.size, 0, none⟩ = some (.string ⟨#[]⟩) := (blk_cell hcl.res 0).trans rfl
  have hc1 : w''.cell? ⟨w.heap.size, 1, none⟩ = some (.int .i64 0) := (blk_cell hcl.res 1).trans rfl
  have hc2 : w''.cell? ⟨w.heap.size, 2, none⟩ = some .nilIface := (blk_cell hcl.res 2).trans rfl
  have hk0 : w''.cell? ⟨w.heap.size + 1, 0, none⟩ = some (.bool false) := (blk_cell hcl.ok 0).trans rfl
  have hG : w.grownBy w'' none := ⟨hcl.os.trans hB.os, hcl.tape.trans hB.tape, hcl.output.trans hB.output, by have := hB.size; have := hcl.size; omega, fun q hq _ => (hcl.rest q (by have := hB.size; omega) (by omega) (by omega)).trans (hB.rest q hq)⟩
  have HG := Aside0.mk hG
  clear hw hG hcl hB
  simp [Leaves, settle, results, Try.results14, go_sem, hc0, hc1, hc2, hk0, Result.andThen]
  exact HG.out
set_option maxRecDepth 100000 in
set_option maxHeartbeats 4000000 in
theorem ask_some (s : ByteArray) (w : World) (hs : s.size ≤ 9223372036854775807) (o : Int) (s1 : ByteArray) (hp0 : pLen s = some (o, s1)) (hs0 : s1.size ≤ 9223372036854775807) (t : ByteArray) (s2 : ByteArray) (hp1 : pText s1 = some (t, s2)) (hs1 : s2.size ≤ 9223372036854775807) (n : Int) (s3 : ByteArray) (hp2 : pNum s2 = some (n, s3)) (hs2 : s3.size ≤ 9223372036854775807) (a : Asked) (s4 : ByteArray) (hp3 : pFields o s3 = some (a, s4)) (hs3 : s4.size ≤ 9223372036854775807) (hp4 : s4.size = 0) :
    Calls Try.prog 14 #[.string s] w fun e w' => e = .returned (.tuple #[.agg #[.string t, .int .i64 n, askV a], .bool true]) ∧ w.grownBy w' none := by
  have hmf : ∀ (fn : Fn) (first cap : Array Value) (w : World), (Instr.makeFunc fn first cap).run Try.prog w = .ok (.func fn first cap) w := fun _ _ _ _ => rfl
  have hC0 := fun W g (h : Left W g s) => length_calls g s W h hs
  simp only [hp0] at hC0
  have HC0 := Aside0.mk hC0
  clear hC0 hp0
  have hC1 := fun W g (h : Left W g s1) => text_calls g s1 W h hs0
  simp only [hp1] at hC1
  have HC1 := Aside0.mk hC1
  clear hC1 hp1
  have hC2 := fun W g (h : Left W g s2) => num_calls g s2 W h hs1
  simp only [hp2] at hC2
  have HC2 := Aside0.mk hC2
  clear hC2 hp2
  have hC3 := fun W g (h : Left W g s3) => fields_all g s3 o W h hs2
  unfold SaidF at hC3
  simp only [hp3] at hC3
  obtain ⟨ty, cs, hv⟩ := askV_shape a
  simp only [Option.map_some, hv] at hC3
  rw [hv]
  clear hv
  have HC3 := Aside0.mk hC3
  clear hC3 hp3
  have hC4 := fun W g (h : Left W g s4) => end_calls g s4 W h
  simp only [hp4, if_true] at hC4
  have HC4 := Aside0.mk hC4
  clear hC4 hp4
  go_enter_defers Try.func14, Try.ntmps14
  go_wp2_with (first
    | (go_at_call 35; refine (HC0.out _ _ ?_).mono ?_; exact left_new _ _ _ _; rintro e w0 ⟨rfl, hg, hl⟩; have HB0 := Aside0.mk (begun w w0 _ _ 35 s hg); have HL0 := Aside0.mk hl; clear hg hl)
    | (go_at_call 36; refine (HC1.out _ _ HL0.out).mono ?_; rintro e w1 ⟨rfl, hg, hl⟩; have HB1 := Aside0.mk (begun_grown HB0.out hg); have HL1 := Aside0.mk hl; have hc1 : w1.cell? ⟨w.heap.size, 0, none⟩ = some (.string ⟨#[]⟩) := (blk_cell HB1.out.res 0).trans rfl; have hf1 := blk_frozen HB1.out.res 0; clear hg hl)
    | (go_at_call 37; refine (HC2.out _ _ (left_setc HL1.out (by omega))).mono ?_; rintro e w2 ⟨rfl, hg, hl⟩; have HB2 := Aside0.mk (begun_grown (begun_set HB1.out 0 _) hg); have HL2 := Aside0.mk hl; have hc2 : w2.cell? ⟨w.heap.size, 1, none⟩ = some (.int .i64 0) := (blk_cell HB2.out.res 1).trans rfl; have hf2 := blk_frozen HB2.out.res 1; clear hg hl)
    | (go_at_call 50; refine (HC3.out _ _ (left_setc HL2.out (by omega))).mono ?_; rintro e w3 ⟨rfl, hg, hl⟩; have HB3 := Aside0.mk (begun_grown (begun_set HB2.out 1 _) hg); have HL3 := Aside0.mk hl; have hc3 : w3.cell? ⟨w.heap.size, 2, none⟩ = some (.nilIface) := (blk_cell HB3.out.res 2).trans rfl; have hf3 := blk_frozen HB3.out.res 2; clear hg hl)
    | (go_at_call 40; refine (HC4.out _ _ (left_setc HL3.out (by omega))).mono ?_; rintro e w4 ⟨rfl, hg, hl⟩; have HB4 := Aside0.mk (begun_grown (begun_set HB3.out 2 _) hg); have HL4 := Aside0.mk hl; have hx0 : w4.cell? ⟨w.heap.size, 0, none⟩ = some (.string t) := (blk_cell HB4.out.res 0).trans rfl; have hx1 : w4.cell? ⟨w.heap.size, 1, none⟩ = some (.int .i64 n) := (blk_cell HB4.out.res 1).trans rfl; have hx2 : w4.cell? ⟨w.heap.size, 2, none⟩ = some (.iface ty (.agg cs)) := (blk_cell HB4.out.res 2).trans rfl; have hy0 := blk_frozen HB4.out.res 0; have hy1 := blk_frozen HB4.out.res 1; have hy2 := blk_frozen HB4.out.res 2; have hz0 : w4.cell? ⟨w.heap.size + 1, 0, none⟩ = some (.bool false) := (blk_cell HB4.out.ok 0).trans rfl; have hz1 := blk_frozen HB4.out.ok 0; clear hg hl))
  have hB := begun_setok (begun_set (begun_set (begun_set HB4.out 0 (.string t)) 1 (.int .i64 n)) 2 (.iface ty (.agg cs))) 0 (.bool true)
  refine leaves_cons (f := 49) (args := #[.pointer (some ⟨w.heap.size, 0, none⟩), .pointer (some ⟨w.heap.size + 1, 0, none⟩)]) (by simp) (by simp [go_sem]) ?_
  refine (ask_idle ⟨w.heap.size, 0, none⟩ ⟨w.heap.size + 1, 0, none⟩ _).mono ?_
  rintro e u' w'' ⟨rfl, rfl, hw⟩
  rw [← hw] at hB
  have hc0 : w''.cell? ⟨w.heap.size, 0, none⟩ = some (.string t) := (blk_cell hB.res 0).trans rfl
  have hc1 : w''.cell? ⟨w.heap.size, 1, none⟩ = some (.int .i64 n) := (blk_cell hB.res 1).trans rfl
  have hc2 : w''.cell? ⟨w.heap.size, 2, none⟩ = some (.iface ty (.agg cs)) := (blk_cell hB.res 2).trans rfl
  have hk0 : w''.cell? ⟨w.heap.size + 1, 0, none⟩ = some (.bool true) := (blk_cell hB.ok 0).trans rfl
  have HG := begun_all hB
  clear hw hB hx0 hx1 hx2 hy0 hy1 hy2 hz0 hz1 HC0 HC1 HC2 HC3 HC4
  simp [Leaves, settle, results, Try.results14, go_sem, hc0, hc1, hc2, hk0, Result.andThen]
  exact HG
theorem pNums_size : ∀ (k : Nat) {s t : ByteArray} {xs : List Int}, pNums k s = some (xs, t) → t.size ≤ s.size ∧ xs.length = k
  | 0, s, t, xs, h => by
    unfold pNums at h
    injection h with h
    injection h with h1 h2
    subst h1; subst h2
    exact ⟨Nat.le_refl _, rfl⟩
  | k + 1, s, t, xs, h => by
    unfold pNums at h
    cases hp : pNum s with
    | none => rw [hp] at h; cases h
    | some a =>
      rw [hp, Option.bind_some] at h
      cases hq : pNums k a.2 with
      | none => rw [hq] at h; cases h
      | some b =>
        rw [hq] at h
        simp only [Option.map_some, Option.some.injEq, Prod.mk.injEq] at h
        have e1 := pNum_size (y := a.1) (t := a.2) hp
        have e2 := pNums_size k (xs := b.1) (t := b.2) hq
        rw [← h.1, ← h.2]
        exact ⟨Nat.le_trans e2.1 e1, by simp [e2.2]⟩
theorem pExtra_size {op : Int} {xs : List Int} {s t : ByteArray} {x : Asked} (h : pExtra op xs s = some (x, t)) : t.size ≤ s.size := by
  unfold pExtra at h
  split at h
  · cases hp : pText s with
    | none => rw [hp] at h; cases h
    | some a =>
      rw [hp, Option.bind_some] at h
      cases hq : pText a.2 with
      | none => rw [hq] at h; cases h
      | some b =>
        rw [hq] at h
        simp only [Option.map_some, Option.some.injEq, Prod.mk.injEq] at h
        rw [← h.2]
        exact Nat.le_trans (pText_size (y := b.1) hq) (pText_size (y := a.1) hp)
  · split at h
    · cases hp : pText s with
      | none => rw [hp] at h; cases h
      | some a =>
        rw [hp] at h
        simp only [Option.map_some, Option.some.injEq, Prod.mk.injEq] at h
        rw [← h.2]
        exact pText_size (y := a.1) hp
    · split at h
      · cases hp : pFlag s with
        | none => rw [hp] at h; cases h
        | some a =>
          rw [hp, Option.bind_some] at h
          cases hq : pFlag a.2 with
          | none => rw [hq] at h; cases h
          | some b =>
            rw [hq] at h
            simp only [Option.map_some, Option.some.injEq, Prod.mk.injEq] at h
            rw [← h.2]
            exact Nat.le_trans (pFlag_size (y := b.1) hq) (pFlag_size (y := a.1) hp)
      · simp only [Option.some.injEq, Prod.mk.injEq] at h
        rw [← h.2]
        exact Nat.le_refl _
theorem pFields_size {op : Int} {s t : ByteArray} {x : Asked} (h : pFields op s = some (x, t)) : t.size ≤ s.size := by
  unfold pFields at h
  split at h
  · cases hp : pNums (cnt op) s with
    | none => rw [hp] at h; cases h
    | some a =>
      rw [hp, Option.bind_some] at h
      exact Nat.le_trans (pExtra_size h) (pNums_size _ (xs := a.1) hp).1
  · cases h
/-- What Ask answers. -/
def askR : Option ((Int × ByteArray × Int × Asked) × ByteArray) → Value
  | some (x, _) => .tuple #[.agg #[.string x.2.1, .int .i64 x.2.2.1, askV x.2.2.2], .bool true]
  | none => .tuple #[.agg #[.string ⟨#[]⟩, .int .i64 0, .nilIface], .bool false]
theorem ask_calls (s : ByteArray) (w : World) (hs : s.size ≤ 9223372036854775807) :
    Calls Try.prog 14 #[.string s] w fun e w' => e = .returned (askR (pAsk s)) ∧ w.grownBy w' none := by
  unfold pAsk
  cases hp0 : pLen s with
  | none => exact ask_none1 s w hs hp0
  | some x0 =>
    obtain ⟨o, s1⟩ := x0
    have hs0 : s1.size ≤ 9223372036854775807 := Nat.le_trans (pLen_range hp0).2.2 hs
    simp only [Option.bind_some]
    cases hp1 : pText s1 with
    | none => exact ask_none2 s w hs o s1 hp0 hs0 hp1
    | some x1 =>
      obtain ⟨t, s2⟩ := x1
      have hs1 : s2.size ≤ 9223372036854775807 := Nat.le_trans (pText_size hp1) hs0
      simp only [Option.bind_some]
      cases hp2 : pNum s2 with
      | none => exact ask_none3 s w hs o s1 hp0 hs0 t s2 hp1 hs1 hp2
      | some x2 =>
        obtain ⟨n, s3⟩ := x2
        have hs2 : s3.size ≤ 9223372036854775807 := Nat.le_trans (pNum_size hp2) hs1
        simp only [Option.bind_some]
        cases hp3 : pFields o s3 with
        | none => exact ask_none4 s w hs o s1 hp0 hs0 t s2 hp1 hs1 n s3 hp2 hs2 hp3
        | some x3 =>
          obtain ⟨a, s4⟩ := x3
          have hs3 : s4.size ≤ 9223372036854775807 := Nat.le_trans (pFields_size hp3) hs2
          simp only [Option.bind_some]
          by_cases hp4 : s4.size = 0
          · rw [if_pos hp4]; exact ask_some s w hs o s1 hp0 hs0 t s2 hp1 hs1 n s3 hp2 hs2 a s4 hp3 hs3 hp4
          · rw [if_neg hp4]; exact ask_none5 s w hs o s1 hp0 hs0 t s2 hp1 hs1 n s3 hp2 hs2 a s4 hp3 hs3 hp4
end Go.Proofs.Ytibfbdfoiboanaa.Rd
