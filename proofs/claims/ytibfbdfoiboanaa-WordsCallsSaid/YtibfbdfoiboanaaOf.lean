/- words: Of, the law WordsCalls' own: which call plain values are. Over the program alone. -/
import Derived.Test.YtibfbdfoiboanaaRb
namespace Go.Proofs.Ytibfbdfoiboanaa.Rd
open Go.RowKit Go.Proofs.YtibfbdfoiboanaaW.PrintWords Go.Proofs.YtibfbdfoiboanaaW.PrintMore Go.Proofs.YtibfbdfoiboanaaW.PrintLast Go.Proofs.Ytibfbdfoiboanaa.PWordsAsks
set_option linter.unusedVariables false
set_option linter.unusedSimpArgs false
theorem four_at1 (w : World) (A B D : Obj) (cs : Array Value) (T : TypeId) : ((((w.alloc A).alloc (.cells cs T)).alloc B).alloc D).heap[w.heap.size + 1]? = some (.cells cs T (0, 0)) := by
  have b1 := below_alloc (Below.refl _ ((w.alloc A).alloc (.cells cs T))) B
  have b2 := below_alloc b1 D
  have e : ((w.alloc A).alloc (.cells cs T)).heap.size = w.heap.size + 1 + 1 := by rw [alloc_size, alloc_size]
  exact (b2.block _ (by rw [e]; omega)).trans (two_new w A cs T)
theorem grown4 (w : World) (A B C D : Obj) : w.grownBy ((((w.alloc A).alloc B).alloc C).alloc D) none := grown_of_below (below_alloc (below_alloc (below_alloc (below_alloc (Below.refl _ w) A) B) C) D) none
theorem grown5 (w : World) (A B C D E : Obj) : w.grownBy (((((w.alloc A).alloc B).alloc C).alloc D).alloc E) none := grown_of_below (below_alloc (below_alloc (below_alloc (below_alloc (below_alloc (Below.refl _ w) A) B) C) D) E) none
theorem five_at1 (w : World) (A B D E : Obj) (cs : Array Value) (T : TypeId) : (((((w.alloc A).alloc (.cells cs T)).alloc B).alloc D).alloc E).heap[w.heap.size + 1]? = some (.cells cs T (0, 0)) := by
  have h := four_at1 w A B D cs T
  exact ((below_alloc (Below.refl _ ((((w.alloc A).alloc (.cells cs T)).alloc B).alloc D)) E).block _ (blk_lt h)).trans h
theorem info35 : (Try.prog.info? 35).map (·.size) = some 3 := by kernel_rfl
set_option maxRecDepth 100000 in
set_option maxHeartbeats 8000000 in
theorem of_1 (tok : ByteArray) (q m0 m1 m2 m3 m4 m5 : Int) (u m : ByteArray) (a b : Bool) (w : World) : Calls Try.prog 16 #[.agg #[.int .i64 1, .string tok, .int .i64 q, .int .i64 m0, .int .i64 m1, .int .i64 m2, .int .i64 m3, .int .i64 m4, .int .i64 m5, .string u, .string m, .bool a, .bool b]] w fun e w' => e = .returned (.agg #[.string tok, .int .i64 q, .iface 88 (.agg #[.string u, .string m])]) ∧ w.grownBy w' none := by
  go_enter Try.func16, Try.ntmps16
  go_wp2
  refine bodyPost_ret (results_cell_row Try.results16 _ _ (w.heap.size + 1) 35 _ (0, 0) _ rfl (four_at1 w _ _ _ _ _) Try.underlying35 rfl info35) rfl ?_
  exact ⟨rfl, grown4 w _ _ _ _⟩
set_option maxRecDepth 100000 in
set_option maxHeartbeats 8000000 in
theorem of_2 (tok : ByteArray) (q m0 m1 m2 m3 m4 m5 : Int) (u m : ByteArray) (a b : Bool) (w : World) : Calls Try.prog 16 #[.agg #[.int .i64 2, .string tok, .int .i64 q, .int .i64 m0, .int .i64 m1, .int .i64 m2, .int .i64 m3, .int .i64 m4, .int .i64 m5, .string u, .string m, .bool a, .bool b]] w fun e w' => e = .returned (.agg #[.string tok, .int .i64 q, .iface 44 (.agg #[])]) ∧ w.grownBy w' none := by
  go_enter Try.func16, Try.ntmps16
  go_wp2
  refine bodyPost_ret (results_cell_row Try.results16 _ _ (w.heap.size + 1) 35 _ (0, 0) _ rfl (four_at1 w _ _ _ _ _) Try.underlying35 rfl info35) rfl ?_
  exact ⟨rfl, grown4 w _ _ _ _⟩
set_option maxRecDepth 100000 in
set_option maxHeartbeats 8000000 in
theorem of_3 (tok : ByteArray) (q m0 m1 m2 m3 m4 m5 : Int) (u m : ByteArray) (a b : Bool) (w : World) : Calls Try.prog 16 #[.agg #[.int .i64 3, .string tok, .int .i64 q, .int .i64 m0, .int .i64 m1, .int .i64 m2, .int .i64 m3, .int .i64 m4, .int .i64 m5, .string u, .string m, .bool a, .bool b]] w fun e w' => e = .returned (.agg #[.string tok, .int .i64 q, .iface 90 (.agg #[.int .i64 m0])]) ∧ w.grownBy w' none := by
  go_enter Try.func16, Try.ntmps16
  go_wp2
  refine bodyPost_ret (results_cell_row Try.results16 _ _ (w.heap.size + 1) 35 _ (0, 0) _ rfl (four_at1 w _ _ _ _ _) Try.underlying35 rfl info35) rfl ?_
  exact ⟨rfl, grown4 w _ _ _ _⟩
set_option maxRecDepth 100000 in
set_option maxHeartbeats 8000000 in
theorem of_4 (tok : ByteArray) (q m0 m1 m2 m3 m4 m5 : Int) (u m : ByteArray) (a b : Bool) (w : World) : Calls Try.prog 16 #[.agg #[.int .i64 4, .string tok, .int .i64 q, .int .i64 m0, .int .i64 m1, .int .i64 m2, .int .i64 m3, .int .i64 m4, .int .i64 m5, .string u, .string m, .bool a, .bool b]] w fun e w' => e = .returned (.agg #[.string tok, .int .i64 q, .iface 92 (.agg #[.int .i64 m0, .int .i64 m1, .int .i64 m2, .string u])]) ∧ w.grownBy w' none := by
  go_enter Try.func16, Try.ntmps16
  go_wp2
  refine bodyPost_ret (results_cell_row Try.results16 _ _ (w.heap.size + 1) 35 _ (0, 0) _ rfl (four_at1 w _ _ _ _ _) Try.underlying35 rfl info35) rfl ?_
  exact ⟨rfl, grown4 w _ _ _ _⟩
set_option maxRecDepth 100000 in
set_option maxHeartbeats 8000000 in
theorem of_5 (tok : ByteArray) (q m0 m1 m2 m3 m4 m5 : Int) (u m : ByteArray) (a b : Bool) (w : World) : Calls Try.prog 16 #[.agg #[.int .i64 5, .string tok, .int .i64 q, .int .i64 m0, .int .i64 m1, .int .i64 m2, .int .i64 m3, .int .i64 m4, .int .i64 m5, .string u, .string m, .bool a, .bool b]] w fun e w' => e = .returned (.agg #[.string tok, .int .i64 q, .iface 94 (.agg #[.int .i64 m0, .int .i64 m1, .int .i64 m2, .int .i64 m3])]) ∧ w.grownBy w' none := by
  go_enter Try.func16, Try.ntmps16
  go_wp2
  refine bodyPost_ret (results_cell_row Try.results16 _ _ (w.heap.size + 1) 35 _ (0, 0) _ rfl (four_at1 w _ _ _ _ _) Try.underlying35 rfl info35) rfl ?_
  exact ⟨rfl, grown4 w _ _ _ _⟩
set_option maxRecDepth 100000 in
set_option maxHeartbeats 8000000 in
theorem of_6 (tok : ByteArray) (q m0 m1 m2 m3 m4 m5 : Int) (u m : ByteArray) (a b : Bool) (w : World) : Calls Try.prog 16 #[.agg #[.int .i64 6, .string tok, .int .i64 q, .int .i64 m0, .int .i64 m1, .int .i64 m2, .int .i64 m3, .int .i64 m4, .int .i64 m5, .string u, .string m, .bool a, .bool b]] w fun e w' => e = .returned (.agg #[.string tok, .int .i64 q, .iface 96 (.agg #[.int .i64 m0, .int .i64 m1, .int .i64 m2, .int .i64 m3, .int .i64 m4])]) ∧ w.grownBy w' none := by
  go_enter Try.func16, Try.ntmps16
  go_wp2
  refine bodyPost_ret (results_cell_row Try.results16 _ _ (w.heap.size + 1) 35 _ (0, 0) _ rfl (four_at1 w _ _ _ _ _) Try.underlying35 rfl info35) rfl ?_
  exact ⟨rfl, grown4 w _ _ _ _⟩
set_option maxRecDepth 100000 in
set_option maxHeartbeats 8000000 in
theorem of_7 (tok : ByteArray) (q m0 m1 m2 m3 m4 m5 : Int) (u m : ByteArray) (a b : Bool) (w : World) : Calls Try.prog 16 #[.agg #[.int .i64 7, .string tok, .int .i64 q, .int .i64 m0, .int .i64 m1, .int .i64 m2, .int .i64 m3, .int .i64 m4, .int .i64 m5, .string u, .string m, .bool a, .bool b]] w fun e w' => e = .returned (.agg #[.string tok, .int .i64 q, .iface 98 (.agg #[.int .i64 m0, .int .i64 m1, .int .i64 m2, .int .i64 m3, .int .i64 m4, .int .i64 m5])]) ∧ w.grownBy w' none := by
  go_enter Try.func16, Try.ntmps16
  go_wp2
  refine bodyPost_ret (results_cell_row Try.results16 _ _ (w.heap.size + 1) 35 _ (0, 0) _ rfl (four_at1 w _ _ _ _ _) Try.underlying35 rfl info35) rfl ?_
  exact ⟨rfl, grown4 w _ _ _ _⟩
set_option maxRecDepth 100000 in
set_option maxHeartbeats 8000000 in
theorem of_8 (tok : ByteArray) (q m0 m1 m2 m3 m4 m5 : Int) (u m : ByteArray) (a b : Bool) (w : World) : Calls Try.prog 16 #[.agg #[.int .i64 8, .string tok, .int .i64 q, .int .i64 m0, .int .i64 m1, .int .i64 m2, .int .i64 m3, .int .i64 m4, .int .i64 m5, .string u, .string m, .bool a, .bool b]] w fun e w' => e = .returned (.agg #[.string tok, .int .i64 q, .iface 100 (.agg #[.int .i64 m0])]) ∧ w.grownBy w' none := by
  go_enter Try.func16, Try.ntmps16
  go_wp2
  refine bodyPost_ret (results_cell_row Try.results16 _ _ (w.heap.size + 1) 35 _ (0, 0) _ rfl (four_at1 w _ _ _ _ _) Try.underlying35 rfl info35) rfl ?_
  exact ⟨rfl, grown4 w _ _ _ _⟩
set_option maxRecDepth 100000 in
set_option maxHeartbeats 8000000 in
theorem of_9 (tok : ByteArray) (q m0 m1 m2 m3 m4 m5 : Int) (u m : ByteArray) (a b : Bool) (w : World) : Calls Try.prog 16 #[.agg #[.int .i64 9, .string tok, .int .i64 q, .int .i64 m0, .int .i64 m1, .int .i64 m2, .int .i64 m3, .int .i64 m4, .int .i64 m5, .string u, .string m, .bool a, .bool b]] w fun e w' => e = .returned (.agg #[.string tok, .int .i64 q, .iface 101 (.agg #[.int .i64 m0])]) ∧ w.grownBy w' none := by
  go_enter Try.func16, Try.ntmps16
  go_wp2
  refine bodyPost_ret (results_cell_row Try.results16 _ _ (w.heap.size + 1) 35 _ (0, 0) _ rfl (four_at1 w _ _ _ _ _) Try.underlying35 rfl info35) rfl ?_
  exact ⟨rfl, grown4 w _ _ _ _⟩
set_option maxRecDepth 100000 in
set_option maxHeartbeats 8000000 in
theorem of_10 (tok : ByteArray) (q m0 m1 m2 m3 m4 m5 : Int) (u m : ByteArray) (a b : Bool) (w : World) : Calls Try.prog 16 #[.agg #[.int .i64 10, .string tok, .int .i64 q, .int .i64 m0, .int .i64 m1, .int .i64 m2, .int .i64 m3, .int .i64 m4, .int .i64 m5, .string u, .string m, .bool a, .bool b]] w fun e w' => e = .returned (.agg #[.string tok, .int .i64 q, .iface 102 (.agg #[.int .i64 m0])]) ∧ w.grownBy w' none := by
  go_enter Try.func16, Try.ntmps16
  go_wp2
  refine bodyPost_ret (results_cell_row Try.results16 _ _ (w.heap.size + 1) 35 _ (0, 0) _ rfl (four_at1 w _ _ _ _ _) Try.underlying35 rfl info35) rfl ?_
  exact ⟨rfl, grown4 w _ _ _ _⟩
set_option maxRecDepth 100000 in
set_option maxHeartbeats 8000000 in
theorem of_11 (tok : ByteArray) (q m0 m1 m2 m3 m4 m5 : Int) (u m : ByteArray) (a b : Bool) (w : World) : Calls Try.prog 16 #[.agg #[.int .i64 11, .string tok, .int .i64 q, .int .i64 m0, .int .i64 m1, .int .i64 m2, .int .i64 m3, .int .i64 m4, .int .i64 m5, .string u, .string m, .bool a, .bool b]] w fun e w' => e = .returned (.agg #[.string tok, .int .i64 q, .iface 104 (.agg #[.int .i64 m0, .int .i64 m1, .int .i64 m2])]) ∧ w.grownBy w' none := by
  go_enter Try.func16, Try.ntmps16
  go_wp2
  refine bodyPost_ret (results_cell_row Try.results16 _ _ (w.heap.size + 1) 35 _ (0, 0) _ rfl (four_at1 w _ _ _ _ _) Try.underlying35 rfl info35) rfl ?_
  exact ⟨rfl, grown4 w _ _ _ _⟩
set_option maxRecDepth 100000 in
set_option maxHeartbeats 8000000 in
theorem of_12 (tok : ByteArray) (q m0 m1 m2 m3 m4 m5 : Int) (u m : ByteArray) (a b : Bool) (w : World) : Calls Try.prog 16 #[.agg #[.int .i64 12, .string tok, .int .i64 q, .int .i64 m0, .int .i64 m1, .int .i64 m2, .int .i64 m3, .int .i64 m4, .int .i64 m5, .string u, .string m, .bool a, .bool b]] w fun e w' => e = .returned (.agg #[.string tok, .int .i64 q, .iface 106 (.agg #[.int .i64 m0, .int .i64 m1])]) ∧ w.grownBy w' none := by
  go_enter Try.func16, Try.ntmps16
  go_wp2
  refine bodyPost_ret (results_cell_row Try.results16 _ _ (w.heap.size + 1) 35 _ (0, 0) _ rfl (four_at1 w _ _ _ _ _) Try.underlying35 rfl info35) rfl ?_
  exact ⟨rfl, grown4 w _ _ _ _⟩
set_option maxRecDepth 100000 in
set_option maxHeartbeats 8000000 in
theorem of_13 (tok : ByteArray) (q m0 m1 m2 m3 m4 m5 : Int) (u m : ByteArray) (a b : Bool) (w : World) : Calls Try.prog 16 #[.agg #[.int .i64 13, .string tok, .int .i64 q, .int .i64 m0, .int .i64 m1, .int .i64 m2, .int .i64 m3, .int .i64 m4, .int .i64 m5, .string u, .string m, .bool a, .bool b]] w fun e w' => e = .returned (.agg #[.string tok, .int .i64 q, .iface 108 (.agg #[.int .i64 m0, .int .i64 m1, .int .i64 m2])]) ∧ w.grownBy w' none := by
  go_enter Try.func16, Try.ntmps16
  go_wp2
  refine bodyPost_ret (results_cell_row Try.results16 _ _ (w.heap.size + 1) 35 _ (0, 0) _ rfl (four_at1 w _ _ _ _ _) Try.underlying35 rfl info35) rfl ?_
  exact ⟨rfl, grown4 w _ _ _ _⟩
set_option maxRecDepth 100000 in
set_option maxHeartbeats 8000000 in
theorem of_14 (tok : ByteArray) (q m0 m1 m2 m3 m4 m5 : Int) (u m : ByteArray) (a b : Bool) (w : World) : Calls Try.prog 16 #[.agg #[.int .i64 14, .string tok, .int .i64 q, .int .i64 m0, .int .i64 m1, .int .i64 m2, .int .i64 m3, .int .i64 m4, .int .i64 m5, .string u, .string m, .bool a, .bool b]] w fun e w' => e = .returned (.agg #[.string tok, .int .i64 q, .iface 110 (.agg #[.int .i64 m0, .int .i64 m1, .bool a, .bool b])]) ∧ w.grownBy w' none := by
  go_enter Try.func16, Try.ntmps16
  go_wp2
  refine bodyPost_ret (results_cell_row Try.results16 _ _ (w.heap.size + 1) 35 _ (0, 0) _ rfl (four_at1 w _ _ _ _ _) Try.underlying35 rfl info35) rfl ?_
  exact ⟨rfl, grown4 w _ _ _ _⟩
set_option maxRecDepth 100000 in
set_option maxHeartbeats 8000000 in
theorem of_15 (tok : ByteArray) (q m0 m1 m2 m3 m4 m5 : Int) (u m : ByteArray) (a b : Bool) (w : World) : Calls Try.prog 16 #[.agg #[.int .i64 15, .string tok, .int .i64 q, .int .i64 m0, .int .i64 m1, .int .i64 m2, .int .i64 m3, .int .i64 m4, .int .i64 m5, .string u, .string m, .bool a, .bool b]] w fun e w' => e = .returned (.agg #[.string tok, .int .i64 q, .iface 112 (.agg #[.int .i64 m0, .int .i64 m1])]) ∧ w.grownBy w' none := by
  go_enter Try.func16, Try.ntmps16
  go_wp2
  refine bodyPost_ret (results_cell_row Try.results16 _ _ (w.heap.size + 1) 35 _ (0, 0) _ rfl (four_at1 w _ _ _ _ _) Try.underlying35 rfl info35) rfl ?_
  exact ⟨rfl, grown4 w _ _ _ _⟩
set_option maxRecDepth 100000 in
set_option maxHeartbeats 8000000 in
theorem of_17 (tok : ByteArray) (q m0 m1 m2 m3 m4 m5 : Int) (u m : ByteArray) (a b : Bool) (w : World) : Calls Try.prog 16 #[.agg #[.int .i64 17, .string tok, .int .i64 q, .int .i64 m0, .int .i64 m1, .int .i64 m2, .int .i64 m3, .int .i64 m4, .int .i64 m5, .string u, .string m, .bool a, .bool b]] w fun e w' => e = .returned (.agg #[.string tok, .int .i64 q, .iface 9 (.string u)]) ∧ w.grownBy w' none := by
  go_enter Try.func16, Try.ntmps16
  go_wp2
  refine bodyPost_ret (results_cell_row Try.results16 _ _ (w.heap.size + 1) 35 _ (0, 0) _ rfl (four_at1 w _ _ _ _ _) Try.underlying35 rfl info35) rfl ?_
  exact ⟨rfl, grown4 w _ _ _ _⟩
set_option maxRecDepth 100000 in
set_option maxHeartbeats 8000000 in
theorem of_no (op : Int) (k1 : op ≠ 1) (k2 : op ≠ 2) (k3 : op ≠ 3) (k4 : op ≠ 4) (k5 : op ≠ 5) (k6 : op ≠ 6) (k7 : op ≠ 7) (k8 : op ≠ 8) (k9 : op ≠ 9) (k10 : op ≠ 10) (k11 : op ≠ 11) (k12 : op ≠ 12) (k13 : op ≠ 13) (k14 : op ≠ 14) (k15 : op ≠ 15) (k16 : op ≠ 16) (k17 : op ≠ 17) (tok : ByteArray) (q m0 m1 m2 m3 m4 m5 : Int) (u m : ByteArray) (a b : Bool) (w : World) : Calls Try.prog 16 #[.agg #[.int .i64 op, .string tok, .int .i64 q, .int .i64 m0, .int .i64 m1, .int .i64 m2, .int .i64 m3, .int .i64 m4, .int .i64 m5, .string u, .string m, .bool a, .bool b]] w fun e w' => e = .returned (.agg #[.string tok, .int .i64 q, .nilIface]) ∧ w.grownBy w' none := by
  have h1 : (op == 1) = false := by simp [k1]
  have h2 : (op == 2) = false := by simp [k2]
  have h3 : (op == 3) = false := by simp [k3]
  have h4 : (op == 4) = false := by simp [k4]
  have h5 : (op == 5) = false := by simp [k5]
  have h6 : (op == 6) = false := by simp [k6]
  have h7 : (op == 7) = false := by simp [k7]
  have h8 : (op == 8) = false := by simp [k8]
  have h9 : (op == 9) = false := by simp [k9]
  have h10 : (op == 10) = false := by simp [k10]
  have h11 : (op == 11) = false := by simp [k11]
  have h12 : (op == 12) = false := by simp [k12]
  have h13 : (op == 13) = false := by simp [k13]
  have h14 : (op == 14) = false := by simp [k14]
  have h15 : (op == 15) = false := by simp [k15]
  have h16 : (op == 16) = false := by simp [k16]
  have h17 : (op == 17) = false := by simp [k17]
  clear k1 k2 k3 k4 k5 k6 k7 k8 k9 k10 k11 k12 k13 k14 k15 k16 k17
  go_enter Try.func16, Try.ntmps16
  go_wp2
  refine bodyPost_ret (results_cell_row Try.results16 _ _ (w.heap.size + 1) 35 _ (0, 0) _ rfl (four_at1 w _ _ _ _ _) Try.underlying35 rfl info35) rfl ?_
  exact ⟨rfl, grown4 w _ _ _ _⟩
set_option maxRecDepth 100000 in
set_option maxHeartbeats 8000000 in
theorem of_16 (tok : ByteArray) (q m0 m1 m2 m3 m4 m5 : Int) (u m : ByteArray) (a b : Bool) (w : World) : Calls Try.prog 16 #[.agg #[.int .i64 16, .string tok, .int .i64 q, .int .i64 m0, .int .i64 m1, .int .i64 m2, .int .i64 m3, .int .i64 m4, .int .i64 m5, .string u, .string m, .bool a, .bool b]] w fun e w' => (∃ v, e = .returned (.agg #[.string tok, .int .i64 q, .iface 113 v])) ∧ w.grownBy w' none := by
  go_enter Try.func16, Try.ntmps16
  go_wp2
  refine bodyPost_ret (results_cell_row Try.results16 _ _ (w.heap.size + 1) 35 _ (0, 0) _ rfl (five_at1 w _ _ _ _ _ _) Try.underlying35 rfl info35) rfl ?_
  exact ⟨⟨_, rfl⟩, grown5 w _ _ _ _ _⟩
end Go.Proofs.Ytibfbdfoiboanaa.Rd
