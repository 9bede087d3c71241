/- words.Call: what it answers: the call's bytes, or that there are none. Over the program alone. -/
import Derived.Test.YtibfbdfoiboanaaWf
namespace Go.Proofs.Ytibfbdfoiboanaa.Rd
open Go.RowKit Go.Proofs.YtibfbdfoiboanaaW.PrintWords Go.Proofs.YtibfbdfoiboanaaW.PrintMore
set_option linter.unusedVariables false
set_option linter.unusedSimpArgs false
theorem call_idle (p q : Addr) (w : World) :
    CallsD Try.prog 51 #[.pointer (some p), .pointer (some q)] .returning w fun e u' w' => e = .returned (.tuple #[]) ∧ u' = .returning ∧ w' = w := by
  refine callsD_of_wpS Try.func51 rfl fun c₀ cs hu => ?_
  apply wpS_seq
  apply wpS_region
  simp [wpOpsS, go_sem, recoverD, hu, Try.ntmps51, Exit.thenS]
  apply wpS_seq
  apply wpS_region
  simp [wpOpsS, go_sem, Exit.thenS]
  refine wpS_cond (t := false) (by simp [Act.eval, Array.replicate]) ?_
  simp only [Bool.false_eq_true, if_false]
  refine wpS_of_wp (wp_skip ?_)
  cases c₀
  simp_all [bodyPostS, results, Try.results51]
set_option maxRecDepth 100000 in
set_option maxHeartbeats 2000000 in
theorem call_panicking (b k : Nat) (u0 v : Value) (w : World) (hb : w.heap[b]? = some (.cells #[u0] 9 (0, 0))) (hk : w.heap[k]? = some (.cells #[v] 4 (0, 0))) :
    CallsD Try.prog 51 #[.pointer (some ⟨b, 0, none⟩), .pointer (some ⟨k, 0, none⟩)] (.panicking [badP]) w fun e u' w' =>
      e = .returned (.tuple #[]) ∧ u' = .panicking [{ badP with recovered := true }] ∧ w' = ((w.setCell ⟨b, 0, none⟩ (.string ⟨#[]⟩)).setCell ⟨k, 0, none⟩ (.bool false)).alloc (.cells #[] 54) := by
  refine callsD_of_wpS Try.func51 rfl fun c₀ cs hu => ?_
  apply wpS_seq
  apply wpS_region
  simp [wpOpsS, go_sem, recoverD, hu, Try.ntmps51, Exit.thenS, badP]
  apply wpS_seq
  apply wpS_region
  simp [wpOpsS, go_sem, Exit.thenS]
  refine wpS_cond (t := true) (by simp [Act.eval, Array.replicate]) ?_
  simp only [if_true]
  refine wpS_of_wp ?_
  have hs : w.frozen? ⟨b, 0, none⟩ = false := blk_frozen hb 0
  have hc0 : w.cell? ⟨b, 0, none⟩ = some u0 := (blk_cell hb 0).trans rfl
  have hk0 : w.cell? ⟨k, 0, none⟩ = some v := (blk_cell hk 0).trans rfl
  have hkf : w.frozen? ⟨k, 0, none⟩ = false := blk_frozen hk 0
  have hbl : b < w.heap.size := blk_lt hb
  have hkl : k < w.heap.size := blk_lt hk
  have hbk : b ≠ k := fun e => by rw [e, hk] at hb; cases hb
  have hkb : k ≠ b := fun e => hbk e.symm
  have hta : ∀ W, (Instr.typeAssert (.iface 54 (.agg #[])) 20 54 true).run Try.prog W = .ok (.tuple #[.agg #[], .bool true]) W := fun W => by simp [Instr.typeAssert, run_underlying Try.underlying54, go_sem, Result.andThen]
  simp [Array.replicate]
  go_wp2
  cases c₀
  simp_all [bodyPostS, results, Try.results51, badP]
structure BegunC (w w2 : World) (C : Array Value) (tc : TypeId) (s b : Value) : Prop where
  box : w2.heap[w.heap.size]? = some (.cells C tc (0, 0))
  res : w2.heap[w.heap.size + 1]? = some (.cells #[s] 9 (0, 0))
  ok : w2.heap[w.heap.size + 1 + 1]? = some (.cells #[b] 4 (0, 0))
  rest : ∀ q, q < w.heap.size → w2.heap[q]? = w.heap[q]?
  os : w2.os = w.os
  tape : w2.tape = w.tape
  output : w2.output = w.output
  size : w.heap.size + 3 ≤ w2.heap.size
theorem begunC (w : World) (C : Array Value) (tc : TypeId) (s b : Value) : BegunC w (((w.alloc (.cells C tc)).alloc (.cells #[s] 9)).alloc (.cells #[b] 4)) C tc s b := by
  have hH : (((w.alloc (.cells C tc)).alloc (.cells #[s] 9)).alloc (.cells #[b] 4)).heap = ((w.heap.push (.cells C tc (0, 0))).push (.cells #[s] 9 (0, 0))).push (.cells #[b] 4 (0, 0)) := rfl
  refine ⟨?_, ?_, ?_, fun q hq => ?_, rfl, rfl, rfl, by rw [hH]; simp⟩
  · rw [hH, Array.getElem?_push, if_neg (by simp; omega), Array.getElem?_push, if_neg (by simp), Array.getElem?_push, if_pos rfl]
  · rw [hH, Array.getElem?_push, if_neg (by simp), Array.getElem?_push, if_pos (by simp)]
  · rw [hH, Array.getElem?_push, if_pos (by simp)]
  · rw [hH, Array.getElem?_push, if_neg (by simp; omega), Array.getElem?_push, if_neg (by simp; omega), Array.getElem?_push, if_neg (by omega)]
theorem begunC_grown {w w2 w3 : World} {C : Array Value} {tc : TypeId} {s b : Value} (h : BegunC w w2 C tc s b) (k : w2.grownBy w3 none) : BegunC w w3 C tc s b := by
  have hs := h.size
  exact ⟨(k.block _ (by omega) (by simp)).trans h.box, (k.block _ (by omega) (by simp)).trans h.res, (k.block _ (by omega) (by simp)).trans h.ok, fun q hq => (k.block q (by omega) (by simp)).trans (h.rest q hq), k.os.trans h.os, k.tape.trans h.tape, k.output.trans h.output, Nat.le_trans hs k.size⟩
theorem begunC_below {w w2 w3 : World} {C : Array Value} {tc : TypeId} {s b : Value} (h : BegunC w w2 C tc s b) (k : Below w2.heap.size w2 w3) : BegunC w w3 C tc s b := begunC_grown h ⟨k.os, k.tape, k.output, k.size, fun q hq _ => k.block q hq⟩
theorem begunC_wrote {w w2 w3 : World} {C : Array Value} {tc : TypeId} {s b : Value} {g base : Nat} (h : BegunC w w2 C tc s b) (k : Wrote w2 w3 g base) (hg : w.heap.size + 3 ≤ g) (hb : w.heap.size + 3 ≤ base) : BegunC w w3 C tc s b := by
  have hs := h.size
  exact ⟨(k.old _ (by omega) (by omega) (by omega)).trans h.box, (k.old _ (by omega) (by omega) (by omega)).trans h.res, (k.old _ (by omega) (by omega) (by omega)).trans h.ok, fun q hq => (k.old q (by omega) (by omega) (by omega)).trans (h.rest q hq), k.os.trans h.os, k.tape.trans h.tape, k.output.trans h.output, Nat.le_trans hs k.size⟩
theorem begunC_res {w w2 : World} {C : Array Value} {tc : TypeId} {s b : Value} (h : BegunC w w2 C tc s b) (u : Value) : BegunC w (w2.setCell ⟨w.heap.size + 1, 0, none⟩ u) C tc u b :=
  ⟨(Below.heap_setCell w2 _ u _ (by simp)).trans h.box, (blk_set h.res 0 u).trans rfl, (Below.heap_setCell w2 _ u _ (by simp)).trans h.ok, fun q hq => (Below.heap_setCell w2 _ u q (by simp; omega)).trans (h.rest q hq), h.os, h.tape, h.output, by simpa [World.setCell] using h.size⟩
theorem begunC_ok {w w2 : World} {C : Array Value} {tc : TypeId} {s b : Value} (h : BegunC w w2 C tc s b) (u : Value) : BegunC w (w2.setCell ⟨w.heap.size + 1 + 1, 0, none⟩ u) C tc s u :=
  ⟨(Below.heap_setCell w2 _ u _ (by simp; omega)).trans h.box, (Below.heap_setCell w2 _ u _ (by simp)).trans h.res, (blk_set h.ok 0 u).trans rfl, fun q hq => (Below.heap_setCell w2 _ u q (by simp; omega)).trans (h.rest q hq), h.os, h.tape, h.output, by simpa [World.setCell] using h.size⟩
theorem begunC_all {w w2 : World} {C : Array Value} {tc : TypeId} {s b : Value} (h : BegunC w w2 C tc s b) : w.grownBy w2 none := ⟨h.os, h.tape, h.output, by have := h.size; omega, fun q hq _ => h.rest q hq⟩
/-- The writer's first state: one byte. -/
theorem wr_start (W : World) (b : Int) : Wr ((W.alloc (.cells #[.int .u8 b] 5)).alloc (.cells #[.slice (some ⟨W.heap.size, 0, none⟩) 1 1] 58)) (W.heap.size + 1) W.heap.size [b] := by
  have ho := World.ownsRow_lit (base := W.heap.size) (e := 5) (size := 1) W #[.int .u8 b] 1 (Nat.le_refl _) (by decide) (by simp)
  have hR : Kd.R (Kd.int .u8) 5 (W.alloc (.cells #[.int .u8 b] 5)) W.heap.size (fun _ => True) (.slice (some ⟨W.heap.size, 0, none⟩) 1 1) [b] := Kd.R_of_own (by simpa [encs] using ho) (fun _ _ => trivial)
  refine ⟨⟨_, ?_, Kd.R_alloc hR _⟩, ?_⟩
  · have h := heap_alloc_new (W.alloc (.cells #[.int .u8 b] 5)) (.cells #[.slice (some ⟨W.heap.size, 0, none⟩) 1 1] 58)
    rw [alloc_size] at h
    exact h
  · rw [alloc_size, alloc_size]; omega
set_option maxRecDepth 100000 in
set_option maxHeartbeats 4000000 in
theorem call_op0_nil (tok : ByteArray) (seq : Int) (w : World) (hO : ∀ W, Calls Try.prog 18 #[.nilIface] W fun e w' => e = .returned (.int .i64 0) ∧ W.grownBy w' none) :
    Calls Try.prog 15 #[.agg #[.string tok, .int .i64 seq, .nilIface]] w fun e w' => e = .returned (.tuple #[.string ⟨#[]⟩, .bool false]) ∧ w.grownBy w' none := by
  have hmf : ∀ (fn : Fn) (first cap : Array Value) (w : World), (Instr.makeFunc fn first cap).run Try.prog w = .ok (.func fn first cap) w := fun _ _ _ _ => rfl
  have HO := Aside0.mk hO
  clear hO
  go_enter_defers Try.func15, Try.ntmps15
  go_wp2_with (go_at_call 18; refine (HO.out _).mono ?_; rintro e w4 ⟨rfl, hg⟩; have HB4 := Aside0.mk (begunC_grown (begunC w _ _ _ _) hg); have hc := (blk_cell HB4.out.res 0).trans rfl; have hf := blk_frozen HB4.out.res 0; have hk := (blk_cell HB4.out.ok 0).trans rfl; have hkf := blk_frozen HB4.out.ok 0; clear hg)
  refine leaves_cons (f := 51) (args := #[.pointer (some ⟨w.heap.size + 1, 0, none⟩), .pointer (some ⟨w.heap.size + 1 + 1, 0, none⟩)]) (by simp) (by simp [go_sem]) ?_
  refine (call_idle ⟨w.heap.size + 1, 0, none⟩ ⟨w.heap.size + 1 + 1, 0, none⟩ _).mono ?_
  rintro e u' w'' ⟨rfl, rfl, hw⟩
  have hB := begunC_ok (begunC_res HB4.out (.string ⟨#[]⟩)) (.bool false)
  rw [← hw] at hB
  have hc0 : w''.cell? ⟨w.heap.size + 1, 0, none⟩ = some (.string ⟨#[]⟩) := (blk_cell hB.res 0).trans rfl
  have hk0 : w''.cell? ⟨w.heap.size + 1 + 1, 0, none⟩ = some (.bool false) := (blk_cell hB.ok 0).trans rfl
  have HG := begunC_all hB
  clear hw hB hc hf hk hkf
  simp [Leaves, settle, results, Try.results15, go_sem, hc0, hk0, Result.andThen]
  exact HG
set_option maxRecDepth 100000 in
set_option maxHeartbeats 4000000 in
theorem call_op0_iface (tok : ByteArray) (seq : Int) (T : Nat) (u : Value) (w : World) (hO : ∀ W, Calls Try.prog 18 #[.iface T u] W fun e w' => e = .returned (.int .i64 0) ∧ W.grownBy w' none) :
    Calls Try.prog 15 #[.agg #[.string tok, .int .i64 seq, .iface T u]] w fun e w' => e = .returned (.tuple #[.string ⟨#[]⟩, .bool false]) ∧ w.grownBy w' none := by
  have hmf : ∀ (fn : Fn) (first cap : Array Value) (w : World), (Instr.makeFunc fn first cap).run Try.prog w = .ok (.func fn first cap) w := fun _ _ _ _ => rfl
  have HO := Aside0.mk hO
  clear hO
  go_enter_defers Try.func15, Try.ntmps15
  go_wp2_with (go_at_call 18; refine (HO.out _).mono ?_; rintro e w4 ⟨rfl, hg⟩; have HB4 := Aside0.mk (begunC_grown (begunC w _ _ _ _) hg); have hc := (blk_cell HB4.out.res 0).trans rfl; have hf := blk_frozen HB4.out.res 0; have hk := (blk_cell HB4.out.ok 0).trans rfl; have hkf := blk_frozen HB4.out.ok 0; clear hg)
  refine leaves_cons (f := 51) (args := #[.pointer (some ⟨w.heap.size + 1, 0, none⟩), .pointer (some ⟨w.heap.size + 1 + 1, 0, none⟩)]) (by simp) (by simp [go_sem]) ?_
  refine (call_idle ⟨w.heap.size + 1, 0, none⟩ ⟨w.heap.size + 1 + 1, 0, none⟩ _).mono ?_
  rintro e u' w'' ⟨rfl, rfl, hw⟩
  have hB := begunC_ok (begunC_res HB4.out (.string ⟨#[]⟩)) (.bool false)
  rw [← hw] at hB
  have hc0 : w''.cell? ⟨w.heap.size + 1, 0, none⟩ = some (.string ⟨#[]⟩) := (blk_cell hB.res 0).trans rfl
  have hk0 : w''.cell? ⟨w.heap.size + 1 + 1, 0, none⟩ = some (.bool false) := (blk_cell hB.ok 0).trans rfl
  have HG := begunC_all hB
  clear hw hB hc hf hk hkf
  simp [Leaves, settle, results, Try.results15, go_sem, hc0, hk0, Result.andThen]
  exact HG
/-- The call's bytes; none: a text is too long. -/
def callB (tok : ByteArray) (seq : Int) (x : Asked) : Option (List Int) :=
  if tok.size ≤ 65535 then (fieldsB x).map fun ys => [x.op] ++ textB tok ++ numsB [seq] ++ ys else none
def callR : Option (List Int) → Value
  | some l => .tuple #[.string (strOfNums l), .bool true]
  | none => .tuple #[.string ⟨#[]⟩, .bool false]
set_option maxRecDepth 100000 in
set_option maxHeartbeats 4000000 in
theorem call_tok (tok : ByteArray) (seq op : Int) (ty : Nat) (cs : Array Value) (w : World) (hO : ∀ W, Calls Try.prog 18 #[.iface ty (.agg cs)] W fun e w' => e = .returned (.int .i64 op) ∧ W.grownBy w' none) (h1 : 1 ≤ op) (h2 : op ≤ 15) (hl : tok.size ≤ 140000) (ht : ¬ tok.size ≤ 65535) :
    Calls Try.prog 15 #[.agg #[.string tok, .int .i64 seq, .iface ty (.agg cs)]] w fun e w' => e = .returned (.tuple #[.string ⟨#[]⟩, .bool false]) ∧ w.grownBy w' none := by
  have hmf : ∀ (fn : Fn) (first cap : Array Value) (w : World), (Instr.makeFunc fn first cap).run Try.prog w = .ok (.func fn first cap) w := fun _ _ _ _ => rfl
  have HO := Aside0.mk hO
  have b1 : (op == 0) = false := by simp; omega
  have hm : op % 256 = op := by omega
  clear hO h1 h2
  go_enter_defers Try.func15, Try.ntmps15
  go_wp2_with (first
    | (go_at_call 18; refine (HO.out _).mono ?_; rintro e w4 ⟨rfl, hg⟩; have HB4 := Aside0.mk (begunC_grown (begunC w _ _ _ _) hg); have hx0 : w4.cell? ⟨w.heap.size, 0, none⟩ = some (.string tok) := (blk_cell HB4.out.box 0).trans rfl; have hs4 := HB4.out.size; have hlt4 : w.heap.size < w4.heap.size := (by omega); clear hg)
    | (go_at_call 25; (with_reducible refine (text_writes (w4.heap.size + 1) w4.heap.size [op] tok _ ?_ ?_).mono ?_); exact wr_start w4 op; (simp; omega); rintro e w5 h9; rw [if_neg ht] at h9; obtain ⟨rfl, hg9⟩ := h9; have HB5 := Aside0.mk (begunC_grown (begunC_below HB4.out (below_alloc (below_alloc (Below.refl _ _) _) _)) hg9); clear hg9))
  refine leaves_cons (f := 51) (args := #[.pointer (some ⟨w.heap.size + 1, 0, none⟩), .pointer (some ⟨w.heap.size + 1 + 1, 0, none⟩)]) (by simp) (by simp [go_sem]) ?_
  have hB0 := HB5.out
  refine (call_panicking (w.heap.size + 1) (w.heap.size + 1 + 1) _ _ _ hB0.res hB0.ok).mono ?_
  rintro e u' w'' ⟨rfl, rfl, hw⟩
  have hB1 := begunC_below (begunC_ok (begunC_res hB0 (.string ⟨#[]⟩)) (.bool false)) (below_alloc (Below.refl _ _) (.cells #[] 54))
  have hB := hB1
  rw [← hw] at hB
  have hc0 : w''.cell? ⟨w.heap.size + 1, 0, none⟩ = some (.string ⟨#[]⟩) := (blk_cell hB.res 0).trans rfl
  have hk0 : w''.cell? ⟨w.heap.size + 1 + 1, 0, none⟩ = some (.bool false) := (blk_cell hB.ok 0).trans rfl
  have HG := begunC_all hB
  clear hw hB hB1 hB0 HO
  simp [Leaves, settle, results, Try.results15, go_sem, hc0, hk0, Result.andThen]
  exact HG
set_option maxRecDepth 100000 in
set_option maxHeartbeats 4000000 in
theorem call_bad (tok : ByteArray) (seq op : Int) (ty : Nat) (cs : Array Value) (w : World) (hO : ∀ W, Calls Try.prog 18 #[.iface ty (.agg cs)] W fun e w' => e = .returned (.int .i64 op) ∧ W.grownBy w' none) (h1 : 1 ≤ op) (h2 : op ≤ 15) (hl : tok.size ≤ 140000) (ht : tok.size ≤ 65535) (hF : ∀ W g base xs, Wr W g base xs → xs.length < 100000 → Calls Try.prog 52 #[.pointer (some ⟨g, 0, none⟩), .iface ty (.agg cs)] W fun e w' => Fielded W g base xs (none) e w') :
    Calls Try.prog 15 #[.agg #[.string tok, .int .i64 seq, .iface ty (.agg cs)]] w fun e w' => e = .returned (.tuple #[.string ⟨#[]⟩, .bool false]) ∧ w.grownBy w' none := by
  have hmf : ∀ (fn : Fn) (first cap : Array Value) (w : World), (Instr.makeFunc fn first cap).run Try.prog w = .ok (.func fn first cap) w := fun _ _ _ _ => rfl
  have HO := Aside0.mk hO
  have b1 : (op == 0) = false := by simp; omega
  have hm : op % 256 = op := by omega
  clear hO h1 h2
  have HF := Aside0.mk hF
  clear hF
  go_enter_defers Try.func15, Try.ntmps15
  go_wp2_with (first
    | (go_at_call 18; refine (HO.out _).mono ?_; rintro e w4 ⟨rfl, hg⟩; have HB4 := Aside0.mk (begunC_grown (begunC w _ _ _ _) hg); have hx0 : w4.cell? ⟨w.heap.size, 0, none⟩ = some (.string tok) := (blk_cell HB4.out.box 0).trans rfl; have hs4 := HB4.out.size; have hlt4 : w.heap.size < w4.heap.size := (by omega); clear hg)
    | (go_at_call 25; (with_reducible refine (text_writes (w4.heap.size + 1) w4.heap.size [op] tok _ ?_ ?_).mono ?_); exact wr_start w4 op; (simp; omega); rintro e w5 h9; rw [if_pos ht] at h9; obtain ⟨rfl, hw9, ho9⟩ := h9; have HW5 := Aside0.mk hw9; have HB5 := Aside0.mk (begunC_wrote (begunC_below HB4.out (below_alloc (below_alloc (Below.refl _ _) _) _)) ho9 (by omega) (by omega)); have hx1 : w5.cell? ⟨w.heap.size, 1, none⟩ = some (.int .i64 seq) := (blk_cell HB5.out.box 1).trans rfl; have hs5 := wr_lt hw9; clear hw9 ho9)
    | (go_at_call 26; refine (num_writes (w4.heap.size + 1) w4.heap.size _ [seq] (some ⟨w5.heap.size, 0, none⟩) 1 _ (wr_below HW5.out (below_alloc (Below.refl _ _) _)) (lit_reads (lit_new _ _ _ _ rfl rfl) (by omega) (by simp)) (by simp [textB, bytesOf_length]; omega)).mono ?_; rintro e w6 ⟨rfl, hw9, ho9⟩; have HW6 := Aside0.mk hw9; have HB6 := Aside0.mk (begunC_wrote (begunC_below HB5.out (below_alloc (Below.refl _ _) _)) ho9 (by omega) (by omega)); have hx2 : w6.cell? ⟨w.heap.size, 2, none⟩ = some (.iface ty (.agg cs)) := (blk_cell HB6.out.box 2).trans rfl; clear hw9 ho9)
    | (go_at_call 52; refine (HF.out w6 (w4.heap.size + 1) w4.heap.size _ HW6.out (by simp [textB, bytesOf_length, numsB, numB]; omega)).mono ?_; rintro e w7 ⟨rfl, ho9⟩; have HB7 := Aside0.mk (begunC_wrote HB6.out ho9 (by omega) (by omega)); clear ho9))
  refine leaves_cons (f := 51) (args := #[.pointer (some ⟨w.heap.size + 1, 0, none⟩), .pointer (some ⟨w.heap.size + 1 + 1, 0, none⟩)]) (by simp) (by simp [go_sem]) ?_
  have hB0 := HB7.out
  refine (call_panicking (w.heap.size + 1) (w.heap.size + 1 + 1) _ _ _ hB0.res hB0.ok).mono ?_
  rintro e u' w'' ⟨rfl, rfl, hw⟩
  have hB1 := begunC_below (begunC_ok (begunC_res hB0 (.string ⟨#[]⟩)) (.bool false)) (below_alloc (Below.refl _ _) (.cells #[] 54))
  have hB := hB1
  rw [← hw] at hB
  have hc0 : w''.cell? ⟨w.heap.size + 1, 0, none⟩ = some (.string ⟨#[]⟩) := (blk_cell hB.res 0).trans rfl
  have hk0 : w''.cell? ⟨w.heap.size + 1 + 1, 0, none⟩ = some (.bool false) := (blk_cell hB.ok 0).trans rfl
  have HG := begunC_all hB
  clear hw hB hB1 hB0 HO
  simp [Leaves, settle, results, Try.results15, go_sem, hc0, hk0, Result.andThen]
  exact HG
set_option maxRecDepth 100000 in
set_option maxHeartbeats 4000000 in
theorem call_good (tok : ByteArray) (seq op : Int) (ty : Nat) (cs : Array Value) (w : World) (hO : ∀ W, Calls Try.prog 18 #[.iface ty (.agg cs)] W fun e w' => e = .returned (.int .i64 op) ∧ W.grownBy w' none) (h1 : 1 ≤ op) (h2 : op ≤ 15) (hl : tok.size ≤ 140000) (ht : tok.size ≤ 65535) (ys : List Int) (hF : ∀ W g base xs, Wr W g base xs → xs.length < 100000 → Calls Try.prog 52 #[.pointer (some ⟨g, 0, none⟩), .iface ty (.agg cs)] W fun e w' => Fielded W g base xs (some ys) e w') :
    Calls Try.prog 15 #[.agg #[.string tok, .int .i64 seq, .iface ty (.agg cs)]] w fun e w' => e = .returned (.tuple #[.string (strOfNums ([op] ++ textB tok ++ numsB [seq] ++ ys)), .bool true]) ∧ w.grownBy w' none := by
  have hmf : ∀ (fn : Fn) (first cap : Array Value) (w : World), (Instr.makeFunc fn first cap).run Try.prog w = .ok (.func fn first cap) w := fun _ _ _ _ => rfl
  have HO := Aside0.mk hO
  have b1 : (op == 0) = false := by simp; omega
  have hm : op % 256 = op := by omega
  clear hO h1 h2
  have HF := Aside0.mk hF
  clear hF
  obtain ⟨L, hL⟩ : ∃ L, L = [op] ++ textB tok ++ numsB [seq] ++ ys := ⟨_, rfl⟩
  rw [← hL]
  have HLL := Aside0.mk hL
  clear hL
  go_enter_defers Try.func15, Try.ntmps15
  go_wp2_with (first
    | (go_at_call 18; refine (HO.out _).mono ?_; rintro e w4 ⟨rfl, hg⟩; have HB4 := Aside0.mk (begunC_grown (begunC w _ _ _ _) hg); have hx0 : w4.cell? ⟨w.heap.size, 0, none⟩ = some (.string tok) := (blk_cell HB4.out.box 0).trans rfl; have hs4 := HB4.out.size; have hlt4 : w.heap.size < w4.heap.size := (by omega); clear hg)
    | (go_at_call 25; (with_reducible refine (text_writes (w4.heap.size + 1) w4.heap.size [op] tok _ ?_ ?_).mono ?_); exact wr_start w4 op; (simp; omega); rintro e w5 h9; rw [if_pos ht] at h9; obtain ⟨rfl, hw9, ho9⟩ := h9; have HW5 := Aside0.mk hw9; have HB5 := Aside0.mk (begunC_wrote (begunC_below HB4.out (below_alloc (below_alloc (Below.refl _ _) _) _)) ho9 (by omega) (by omega)); have hx1 : w5.cell? ⟨w.heap.size, 1, none⟩ = some (.int .i64 seq) := (blk_cell HB5.out.box 1).trans rfl; have hs5 := wr_lt hw9; clear hw9 ho9)
    | (go_at_call 26; refine (num_writes (w4.heap.size + 1) w4.heap.size _ [seq] (some ⟨w5.heap.size, 0, none⟩) 1 _ (wr_below HW5.out (below_alloc (Below.refl _ _) _)) (lit_reads (lit_new _ _ _ _ rfl rfl) (by omega) (by simp)) (by simp [textB, bytesOf_length]; omega)).mono ?_; rintro e w6 ⟨rfl, hw9, ho9⟩; have HW6 := Aside0.mk hw9; have HB6 := Aside0.mk (begunC_wrote (begunC_below HB5.out (below_alloc (Below.refl _ _) _)) ho9 (by omega) (by omega)); have hx2 : w6.cell? ⟨w.heap.size, 2, none⟩ = some (.iface ty (.agg cs)) := (blk_cell HB6.out.box 2).trans rfl; clear hw9 ho9)
    | (go_at_call 52; refine (HF.out w6 (w4.heap.size + 1) w4.heap.size _ HW6.out (by simp [textB, bytesOf_length, numsB, numB]; omega)).mono ?_; rintro e w7 ⟨rfl, hw9, ho9⟩; have HW7 := Aside0.mk hw9; have HB7 := Aside0.mk (begunC_wrote HB6.out ho9 (by omega) (by omega)); obtain ⟨⟨v9, hb9, hR9⟩, hs9⟩ := hw9; rw [← HLL.out] at hR9; obtain ⟨A9, n9, c9, rfl⟩ := R_shape hR9; have hcv := own_string (P := Try.prog) Try.underlying32 Try.underlying5 Try.underlying9 (Kd.own_of_R hR9); have hc9 : w7.cell? ⟨w4.heap.size + 1, 0, none⟩ = some (.slice A9 n9 c9) := (blk_cell hb9 0).trans rfl; have hu58 := Try.underlying58; have hd0 := (blk_cell HB7.out.res 0).trans rfl; have hd1 := blk_frozen HB7.out.res 0; have hd2 := (blk_cell HB7.out.ok 0).trans rfl; have hd3 := blk_frozen HB7.out.ok 0; clear hb9 hR9 hs9 ho9))
  refine leaves_cons (f := 51) (args := #[.pointer (some ⟨w.heap.size + 1, 0, none⟩), .pointer (some ⟨w.heap.size + 1 + 1, 0, none⟩)]) (by simp) (by simp [go_sem]) ?_
  refine (call_idle ⟨w.heap.size + 1, 0, none⟩ ⟨w.heap.size + 1 + 1, 0, none⟩ _).mono ?_
  rintro e u' w'' ⟨rfl, rfl, hw⟩
  have hB := begunC_ok (begunC_res HB7.out (.string (strOfNums L))) (.bool true)
  rw [← hw] at hB
  have hc0 : w''.cell? ⟨w.heap.size + 1, 0, none⟩ = some (.string (strOfNums L)) := (blk_cell hB.res 0).trans rfl
  have hk0 : w''.cell? ⟨w.heap.size + 1 + 1, 0, none⟩ = some (.bool true) := (blk_cell hB.ok 0).trans rfl
  have HG := begunC_all hB
  clear hw hB HO HF
  simp [Leaves, settle, results, Try.results15, go_sem, hc0, hk0, Result.andThen]
  exact HG
theorem call_calls (tok : ByteArray) (seq : Int) (x : Asked) (w : World) (h1 : 1 ≤ x.op) (h2 : x.op ≤ 15) (hl : tok.size ≤ 140000) (hl2 : x.u.size + x.m.size ≤ 140000) :
    Calls Try.prog 15 #[.agg #[.string tok, .int .i64 seq, askV x]] w fun e w' => e = .returned (callR (callB tok seq x)) ∧ w.grownBy w' none := by
  have hO := fun W => op_calls x W h1 h2
  have hF := fun W g base xs hW (hx : xs.length < 100000) => fields_writes g base xs x W hW h1 h2 (by omega)
  obtain ⟨ty, cs, hv⟩ := askV_shape x
  rw [hv] at hO hF ⊢
  unfold callB
  by_cases ht : tok.size ≤ 65535
  · rw [if_pos ht]
    cases hfb : fieldsB x with
    | none => rw [hfb] at hF; exact call_bad tok seq x.op ty cs w hO h1 h2 hl ht hF
    | some ys => rw [hfb] at hF; exact call_good tok seq x.op ty cs w hO h1 h2 hl ht ys hF
  · rw [if_neg ht]; exact call_tok tok seq x.op ty cs w hO h1 h2 hl ht
theorem call_nil (tok : ByteArray) (seq : Int) (w : World) :
    Calls Try.prog 15 #[.agg #[.string tok, .int .i64 seq, .nilIface]] w fun e w' => e = .returned (callR none) ∧ w.grownBy w' none := call_op0_nil tok seq w op_nil
/-- What is no kind of call's asking. -/
def NoKind (T : Nat) : Prop := T ≠ 88 ∧ T ≠ 44 ∧ T ≠ 90 ∧ T ≠ 92 ∧ T ≠ 94 ∧ T ≠ 96 ∧ T ≠ 98 ∧ T ≠ 100 ∧ T ≠ 101 ∧ T ≠ 102 ∧ T ≠ 104 ∧ T ≠ 106 ∧ T ≠ 108 ∧ T ≠ 110 ∧ T ≠ 112
theorem op_nokind (T : Nat) (h : NoKind T) (u : Value) (w : World) : Calls Try.prog 18 #[.iface T u] w fun e w' => e = .returned (.int .i64 0) ∧ w.grownBy w' none := by
  obtain ⟨a1, a2, a3, a4, a5, a6, a7, a8, a9, a10, a11, a12, a13, a14, a15⟩ := h
  exact op_other T u a1 a2 a3 a4 a5 a6 a7 a8 a9 a10 a11 a12 a13 a14 a15 w
theorem call_nokind (tok : ByteArray) (seq : Int) (T : Nat) (h : NoKind T) (u : Value) (w : World) :
    Calls Try.prog 15 #[.agg #[.string tok, .int .i64 seq, .iface T u]] w fun e w' => e = .returned (callR none) ∧ w.grownBy w' none := call_op0_iface tok seq T u w (fun W => op_nokind T h u W)
end Go.Proofs.Ytibfbdfoiboanaa.Rd
