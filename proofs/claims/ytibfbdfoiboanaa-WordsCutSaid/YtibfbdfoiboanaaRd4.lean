/- words' reader, fourth part: fields at every byte; the closures that Ask and Told put off. Over the program alone. -/
import Derived.Test.YtibfbdfoiboanaaRd3
namespace Go.Proofs.Ytibfbdfoiboanaa.Rd
open Go.RowKit Go.Proofs.YtibfbdfoiboanaaW.PrintWords Go.Proofs.YtibfbdfoiboanaaW.PrintMore
set_option linter.unusedVariables false
set_option maxRecDepth 100000 in
set_option maxHeartbeats 8000000 in
theorem fields_bad (g : Nat) (s : ByteArray) (op : Int) (w : World) (h : ¬ (1 ≤ op ∧ op ≤ 15)) :
    Calls Try.prog 50 #[.pointer (some ⟨g, 0, none⟩), .int .i64 op] w fun e w' => e = .panicked [badP] ∧ w.grownBy w' (some g) := by
  by_cases h1 : op < 1
  · have b1 : decide (op < 1) = true := decide_eq_true h1
    clear h h1
    go_enter Try.func50, Try.ntmps50
    go_wp2
    exact bodyPost_bad rfl ⟨rfl, fieldsWorld_grown w _⟩
  · have b1 : decide (op < 1) = false := decide_eq_false h1
    have b2 : decide (15 < op) = true := decide_eq_true (by omega)
    clear h h1
    go_enter Try.func50, Try.ntmps50
    go_wp2
    exact bodyPost_bad rfl ⟨rfl, fieldsWorld_grown w _⟩
theorem fields_all (g : Nat) (s : ByteArray) (op : Int) (w : World) (hL : Left w g s) (hs : s.size ≤ 9223372036854775807) :
    Calls Try.prog 50 #[.pointer (some ⟨g, 0, none⟩), .int .i64 op] w fun e w' => SaidF w g (pFields op s) e w' := by
  unfold pFields
  by_cases h : 1 ≤ op ∧ op ≤ 15
  · rw [if_pos h]; exact fields_calls g s op w hL hs h.1 h.2
  · rw [if_neg h]; exact fields_bad g s op w h
theorem ask_idle (p q : Addr) (w : World) :
    CallsD Try.prog 49 #[.pointer (some p), .pointer (some q)] .returning w fun e u' w' => e = .returned (.tuple #[]) ∧ u' = .returning ∧ w' = w := by
  refine callsD_of_wpS Try.func49 rfl fun c₀ cs hu => ?_
  apply wpS_seq
  apply wpS_region
  simp [wpOpsS, go_sem, recoverD, hu, Try.ntmps49, Exit.thenS]
  apply wpS_seq
  apply wpS_region
  simp [wpOpsS, go_sem, Exit.thenS]
  refine wpS_cond (t := false) (by simp [Act.eval, Array.replicate]) ?_
  simp only [Bool.false_eq_true, if_false]
  refine wpS_of_wp (wp_skip ?_)
  cases c₀
  simp_all [bodyPostS, results, Try.results49]
set_option maxRecDepth 100000 in
set_option maxHeartbeats 2000000 in
theorem ask_panicking (b k : Nat) (u0 u1 u2 v : Value) (w : World) (hb : w.heap[b]? = some (.cells #[u0, u1, u2] 35 (0, 0))) (hk : w.heap[k]? = some (.cells #[v] 4 (0, 0))) :
    CallsD Try.prog 49 #[.pointer (some ⟨b, 0, none⟩), .pointer (some ⟨k, 0, none⟩)] (.panicking [badP]) w fun e u' w' =>
      e = .returned (.tuple #[]) ∧ u' = .panicking [{ badP with recovered := true }] ∧ w' = ((((w.setCell ⟨b, 0, none⟩ (.string ⟨#[]⟩)).setCell ⟨b, 1, none⟩ (.int .i64 0)).setCell ⟨b, 2, none⟩ .nilIface).setCell ⟨k, 0, none⟩ (.bool false)).alloc (.cells #[] 54) := by
  refine callsD_of_wpS Try.func49 rfl fun c₀ cs hu => ?_
  apply wpS_seq
  apply wpS_region
  simp [wpOpsS, go_sem, recoverD, hu, Try.ntmps49, Exit.thenS, badP]
  apply wpS_seq
  apply wpS_region
  simp [wpOpsS, go_sem, Exit.thenS]
  refine wpS_cond (t := true) (by simp [Act.eval, Array.replicate]) ?_
  simp only [if_true]
  refine wpS_of_wp ?_
  have hs : w.frozen? ⟨b, 0, none⟩ = false := blk_frozen hb 0
  have hs1 : w.frozen? ⟨b, 1, none⟩ = false := blk_frozen hb 1
  have hs2 : w.frozen? ⟨b, 2, none⟩ = false := blk_frozen hb 2
  have hc0 : w.cell? ⟨b, 0, none⟩ = some u0 := (blk_cell hb 0).trans rfl
  have hc1 : w.cell? ⟨b, 1, none⟩ = some u1 := (blk_cell hb 1).trans rfl
  have hc2 : w.cell? ⟨b, 2, none⟩ = some u2 := (blk_cell hb 2).trans rfl
  have hk0 : w.cell? ⟨k, 0, none⟩ = some v := (blk_cell hk 0).trans rfl
  have hkf : w.frozen? ⟨k, 0, none⟩ = false := blk_frozen hk 0
  have hbl : b < w.heap.size := blk_lt hb
  have hkl : k < w.heap.size := blk_lt hk
  have hbk : b ≠ k := fun e => by rw [e, hk] at hb; cases hb
  have hkb : k ≠ b := fun e => hbk e.symm
  have hta : ∀ W, (Instr.typeAssert (.iface 54 (.agg #[])) 20 54 true).run Try.prog W = .ok (.tuple #[.agg #[], .bool true]) W := fun W => by simp [Instr.typeAssert, run_underlying Try.underlying54, go_sem, Result.andThen]
  simp [Array.replicate]
  go_wp2
  cases c₀
  simp_all [bodyPostS, results, Try.results49, badP]
end Go.Proofs.Ytibfbdfoiboanaa.Rd
