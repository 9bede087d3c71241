/- the reference's calls, second part. Over the program alone. -/
import Derived.Test.YtibfbdfoiboanaaRc
namespace Go.Proofs.Ytibfbdfoiboanaa.Rd
open Go.RowKit Go.Proofs.YtibfbdfoiboanaaW.PrintWords Go.Proofs.YtibfbdfoiboanaaW.PrintMore Go.Proofs.YtibfbdfoiboanaaW.PrintLast Go.Proofs.Ytibfbdfoiboanaa.PWordsAsks
set_option linter.unusedVariables false
set_option linter.unusedSimpArgs false
set_option maxRecDepth 100000 in
set_option maxHeartbeats 8000000 in
theorem refcall_no (tok : ByteArray) (seq : Int) (x : Asked) (w : World) (h : ¬ ((1 ≤ x.op ∧ x.op ≤ 15) ∧ tok.size ≤ 65535)) :
    Calls Try.prog 17 #[pV tok seq x] w fun e w' => e = .returned (callR none) ∧ w.grownBy w' none := by
  have hop := Aside0.mk (fun W => (refop tok seq x W))
  unfold pV pC at hop ⊢
  generalize x.n.getD 0 0 = n0 at hop ⊢
  generalize x.n.getD 1 0 = n1 at hop ⊢
  generalize x.n.getD 2 0 = n2 at hop ⊢
  generalize x.n.getD 3 0 = n3 at hop ⊢
  generalize x.n.getD 4 0 = n4 at hop ⊢
  generalize x.n.getD 5 0 = n5 at hop ⊢
  obtain ⟨C, hC⟩ : ∃ C : Array Value, C = #[.int .i64 x.op, .string tok, .int .i64 seq, .int .i64 n0, .int .i64 n1, .int .i64 n2, .int .i64 n3, .int .i64 n4, .int .i64 n5, .string x.u, .string x.m, .bool x.a, .bool x.b] := ⟨_, rfl⟩
  have k1 : C[1]? = some (.string tok) := by rw [hC]; rfl
  by_cases h1 : 1 ≤ x.op ∧ x.op ≤ 15
  · simp only [h1, and_self, if_true] at hop
    have hb0 : (x.op == 0) = false := by simp; omega
    have ht : 65535 < tok.size := by
      by_cases hh : tok.size ≤ 65535
      · exact absurd ⟨h1, hh⟩ h
      · omega
    have b2 : decide (65535 < (tok.size : Int)) = true := decide_eq_true (by omega)
    have b3 : decide (65535 < tok.size) = true := decide_eq_true ht
    clear h h1 ht
    go_enter Try.func17, Try.ntmps17
    go_wp2_with (go_at_call 19; refine (hop.out _).mono ?_; rintro e w1 ⟨rfl, hg⟩; have HB1 := Aside0.mk (boxd_grown (boxd_new w _) hg); rw [← hC] at HB1; have hx1 : w1.cell? ⟨w.heap.size, 1, none⟩ = some (.string tok) := (blk_cell HB1.out.blk 1).trans k1; clear hg)
    go_ret2
    exact ⟨rfl, HB1.out.grown⟩
  · simp only [h1, if_false] at hop
    clear h h1
    go_enter Try.func17, Try.ntmps17
    go_wp2_with (go_at_call 19; refine (hop.out _).mono ?_; rintro e w1 ⟨rfl, hg⟩; have HB1 := Aside0.mk (boxd_grown (boxd_new w _) hg); clear hg)
    go_ret2
    exact ⟨rfl, HB1.out.grown⟩
theorem refcall (tok : ByteArray) (seq : Int) (x : Asked) (w : World) :
    Calls Try.prog 17 #[pV tok seq x] w fun e w' => e = .returned (callR (if (1 ≤ x.op ∧ x.op ≤ 15) ∧ tok.size ≤ 65535 then callB tok seq x else none)) ∧ w.grownBy w' none := by
  by_cases h : (1 ≤ x.op ∧ x.op ≤ 15) ∧ tok.size ≤ 65535
  · rw [if_pos h]; exact refcall_ok tok seq x w h.1.1 h.1.2 h.2
  · rw [if_neg h]; exact refcall_no tok seq x w h
theorem two_new (w : World) (A : Obj) (C : Array Value) (T : TypeId) : ((w.alloc A).alloc (.cells C T)).heap[w.heap.size + 1]? = some (.cells C T (0, 0)) := by
  have h := heap_alloc_new (w.alloc A) (.cells C T)
  rw [alloc_size] at h
  exact h
/-- Alike, at two that have bytes, the same. -/
theorem alike_ok (tok : ByteArray) (seq : Int) (x : Asked) (tok2 : ByteArray) (seq2 : Int) (x2 : Asked) (w : World) (l : List Int) (h1 : ((1 ≤ x.op ∧ x.op ≤ 15) ∧ tok.size ≤ 65535) ∧ callB tok seq x = some l) (h2 : ((1 ≤ x2.op ∧ x2.op ≤ 15) ∧ tok2.size ≤ 65535) ∧ callB tok2 seq2 x2 = some l) :
    Calls Try.prog 20 #[pV tok seq x, pV tok2 seq2 x2] w fun e w' => e = .returned (.bool true) ∧ w.grownBy w' none := by
  have c1 := fun W => refcall tok seq x W
  have c2 := fun W => refcall tok2 seq2 x2 W
  simp only [h1.1, h2.1, and_self, if_true, h1.2, h2.2, callR] at c1 c2
  unfold pV pC at c1 c2 ⊢
  generalize x.n.getD 0 0 = n0 at c1 ⊢
  generalize x.n.getD 1 0 = n1 at c1 ⊢
  generalize x.n.getD 2 0 = n2 at c1 ⊢
  generalize x.n.getD 3 0 = n3 at c1 ⊢
  generalize x.n.getD 4 0 = n4 at c1 ⊢
  generalize x.n.getD 5 0 = n5 at c1 ⊢
  generalize x2.n.getD 0 0 = m0 at c2 ⊢
  generalize x2.n.getD 1 0 = m1 at c2 ⊢
  generalize x2.n.getD 2 0 = m2 at c2 ⊢
  generalize x2.n.getD 3 0 = m3 at c2 ⊢
  generalize x2.n.getD 4 0 = m4 at c2 ⊢
  generalize x2.n.getD 5 0 = m5 at c2 ⊢
  generalize strOfNums l = s at c1 c2
  have hbs : (s.toList == s.toList) = true := by simp
  have H1 := Aside0.mk c1
  have H2 := Aside0.mk c2
  clear c1 c2 h1 h2
  go_enter Try.func20, Try.ntmps20
  go_wp2_with (first
    | (go_at_call 17; (with_reducible refine (H2.out _).mono ?_); rintro e w2 ⟨rfl, hg⟩; have HG2 := Aside0.mk hg; clear hg)
    | (go_at_call 17; (with_reducible refine (H1.out _).mono ?_); rintro e w1 ⟨rfl, hg⟩; have HG1 := Aside0.mk hg; have hb2 := (hg.block (w.heap.size + 1) (by rw [alloc_size, alloc_size]; omega) (by simp)).trans (two_new w _ _ _); have hx0 : w1.cell? ⟨w.heap.size + 1, 0, none⟩ = some (.int .i64 x2.op) := (blk_cell hb2 0).trans rfl; have hx1 : w1.cell? ⟨w.heap.size + 1, 1, none⟩ = some (.string tok2) := (blk_cell hb2 1).trans rfl; have hx2 : w1.cell? ⟨w.heap.size + 1, 2, none⟩ = some (.int .i64 seq2) := (blk_cell hb2 2).trans rfl; have hx3 : w1.cell? ⟨w.heap.size + 1, 3, none⟩ = some (.int .i64 m0) := (blk_cell hb2 3).trans rfl; have hx4 : w1.cell? ⟨w.heap.size + 1, 4, none⟩ = some (.int .i64 m1) := (blk_cell hb2 4).trans rfl; have hx5 : w1.cell? ⟨w.heap.size + 1, 5, none⟩ = some (.int .i64 m2) := (blk_cell hb2 5).trans rfl; have hx6 : w1.cell? ⟨w.heap.size + 1, 6, none⟩ = some (.int .i64 m3) := (blk_cell hb2 6).trans rfl; have hx7 : w1.cell? ⟨w.heap.size + 1, 7, none⟩ = some (.int .i64 m4) := (blk_cell hb2 7).trans rfl; have hx8 : w1.cell? ⟨w.heap.size + 1, 8, none⟩ = some (.int .i64 m5) := (blk_cell hb2 8).trans rfl; have hx9 : w1.cell? ⟨w.heap.size + 1, 9, none⟩ = some (.string x2.u) := (blk_cell hb2 9).trans rfl; have hx10 : w1.cell? ⟨w.heap.size + 1, 10, none⟩ = some (.string x2.m) := (blk_cell hb2 10).trans rfl; have hx11 : w1.cell? ⟨w.heap.size + 1, 11, none⟩ = some (.bool x2.a) := (blk_cell hb2 11).trans rfl; have hx12 : w1.cell? ⟨w.heap.size + 1, 12, none⟩ = some (.bool x2.b) := (blk_cell hb2 12).trans rfl; clear hg hb2))
  go_ret
  exact ⟨rfl, grown_trans (grown_trans (grown_of_below (below_alloc (below_alloc (Below.refl _ _) _) _) none) HG1.out) HG2.out⟩
structure Backed (w W : World) (C : Array Value) : Prop where
  p : W.heap[w.heap.size + 1 + 1]? = some (.cells C 41 (0, 0))
  r : W.heap[w.heap.size + 1]? = some (.cells #[.int .i64 0, .string ⟨#[]⟩, .int .i64 0, .int .i64 0, .int .i64 0, .int .i64 0, .int .i64 0, .int .i64 0, .int .i64 0, .string ⟨#[]⟩, .string ⟨#[]⟩, .bool false, .bool false] 41 (0, 0))
  grown : w.grownBy W none
theorem backed_new (w : World) (A D : Obj) (C : Array Value) : Backed w ((((w.alloc A).alloc (.cells #[.int .i64 0, .string ⟨#[]⟩, .int .i64 0, .int .i64 0, .int .i64 0, .int .i64 0, .int .i64 0, .int .i64 0, .int .i64 0, .string ⟨#[]⟩, .string ⟨#[]⟩, .bool false, .bool false] 41)).alloc (.cells C 41)).alloc D) C := by
  have b1 := below_alloc (Below.refl _ (((w.alloc A).alloc (.cells #[.int .i64 0, .string ⟨#[]⟩, .int .i64 0, .int .i64 0, .int .i64 0, .int .i64 0, .int .i64 0, .int .i64 0, .int .i64 0, .string ⟨#[]⟩, .string ⟨#[]⟩, .bool false, .bool false] 41)).alloc (.cells C 41))) D
  have e3 : (((w.alloc A).alloc (.cells #[.int .i64 0, .string ⟨#[]⟩, .int .i64 0, .int .i64 0, .int .i64 0, .int .i64 0, .int .i64 0, .int .i64 0, .int .i64 0, .string ⟨#[]⟩, .string ⟨#[]⟩, .bool false, .bool false] 41)).alloc (.cells C 41)).heap.size = w.heap.size + 1 + 1 + 1 := by rw [alloc_size, alloc_size, alloc_size]
  have b2 := below_alloc (Below.refl _ ((w.alloc A).alloc (.cells #[.int .i64 0, .string ⟨#[]⟩, .int .i64 0, .int .i64 0, .int .i64 0, .int .i64 0, .int .i64 0, .int .i64 0, .int .i64 0, .string ⟨#[]⟩, .string ⟨#[]⟩, .bool false, .bool false] 41))) (.cells C 41)
  have e2 : ((w.alloc A).alloc (.cells #[.int .i64 0, .string ⟨#[]⟩, .int .i64 0, .int .i64 0, .int .i64 0, .int .i64 0, .int .i64 0, .int .i64 0, .int .i64 0, .string ⟨#[]⟩, .string ⟨#[]⟩, .bool false, .bool false] 41)).heap.size = w.heap.size + 1 + 1 := by rw [alloc_size, alloc_size]
  refine ⟨?_, ?_, grown_of_below (below_alloc (below_alloc (below_alloc (below_alloc (Below.refl _ _) _) _) _) _) none⟩
  · refine (b1.block _ (by rw [e3]; omega)).trans ?_
    have h := heap_alloc_new ((w.alloc A).alloc (.cells #[.int .i64 0, .string ⟨#[]⟩, .int .i64 0, .int .i64 0, .int .i64 0, .int .i64 0, .int .i64 0, .int .i64 0, .int .i64 0, .string ⟨#[]⟩, .string ⟨#[]⟩, .bool false, .bool false] 41)) (.cells C 41)
    rw [e2] at h
    exact h
  · refine (b1.block _ (by rw [e3]; omega)).trans ((b2.block _ (by rw [e2]; omega)).trans ?_)
    exact two_new w A _ 41
theorem backed_d (w : World) (A B C : Obj) (D : Array Value) (T : TypeId) : ((((w.alloc A).alloc B).alloc C).alloc (.cells D T)).heap[w.heap.size + 1 + 1 + 1]? = some (.cells D T (0, 0)) := by
  have h := heap_alloc_new (((w.alloc A).alloc B).alloc C) (.cells D T)
  rw [alloc_size, alloc_size, alloc_size] at h
  exact h
theorem info41 : (Try.prog.info? 41).map (·.size) = some 13 := by kernel_rfl
theorem grown_setRow {w W : World} {g : Nat} (h : w.grownBy W none) (hg : w.heap.size ≤ g) (cs : Array Value) : w.grownBy (W.setRow g cs) none :=
  ⟨h.os, h.tape, h.output, by simpa using h.size, fun q hq hr => (setRow_other W g q cs (by omega)).trans (h.block q hq hr)⟩
theorem backed_drew {w W : World} {C : Array Value} (h : Backed w W C) : Backed w W.drew C := ⟨h.p, h.r, grown_trans h.grown (grown_of_below (below_drew (Below.refl _ _)) none)⟩
theorem backed_set {w W : World} {C : Array Value} (h : Backed w W C) (j : Nat) (u : Value) : Backed w (W.setCell ⟨w.heap.size + 1 + 1, j, none⟩ u) (C.setIfInBounds j u) :=
  ⟨blk_set h.p j u, (Below.heap_setCell W ⟨w.heap.size + 1 + 1, j, none⟩ u _ (by simp)).trans h.r, ⟨h.grown.os, h.grown.tape, h.grown.output, by simpa [World.setCell] using h.grown.size, fun q hq hr => (Below.heap_setCell W ⟨w.heap.size + 1 + 1, j, none⟩ u q (by simp; omega)).trans (h.grown.block q hq hr)⟩⟩
set_option maxRecDepth 100000 in
set_option maxHeartbeats 8000000 in
theorem back_1 (tok : ByteArray) (seq : Int) (u m : ByteArray) (w : World) :
    Calls Try.prog 21 #[.agg #[.string tok, .int .i64 seq, .iface 88 (.agg #[.string u, .string m])]] w fun e w' => e = .returned (.agg #[.int .i64 1, .string tok, .int .i64 seq, .int .i64 0, .int .i64 0, .int .i64 0, .int .i64 0, .int .i64 0, .int .i64 0, .string u, .string m, .bool false, .bool false]) ∧ w.grownBy w' none := by
  have h1 := te1 (.agg #[.string u, .string m])
  go_enter Try.func21, Try.ntmps21
  go_upto_region 5 with (fail)
  obtain ⟨W, hW⟩ : ∃ W, W = (((w.alloc (.cells #[.string tok, .int .i64 seq, .iface 88 (.agg #[.string u, .string m])] 35)).alloc (.cells #[.int .i64 0, .string ⟨#[]⟩, .int .i64 0, .int .i64 0, .int .i64 0, .int .i64 0, .int .i64 0, .int .i64 0, .int .i64 0, .string ⟨#[]⟩, .string ⟨#[]⟩, .bool false, .bool false] 41)).alloc (.cells #[.int .i64 0, .string tok, .int .i64 seq, .int .i64 0, .int .i64 0, .int .i64 0, .int .i64 0, .int .i64 0, .int .i64 0, .string ⟨#[]⟩, .string ⟨#[]⟩, .bool false, .bool false] 41)).alloc (.cells #[.string u, .string m] 88) := ⟨_, rfl⟩
  rw [← hW]
  have HB0 := Aside0.mk (show Backed w W #[.int .i64 0, .string tok, .int .i64 seq, .int .i64 0, .int .i64 0, .int .i64 0, .int .i64 0, .int .i64 0, .int .i64 0, .string ⟨#[]⟩, .string ⟨#[]⟩, .bool false, .bool false] by rw [hW]; exact backed_new w _ _ _)
  have hd : W.heap[w.heap.size + 1 + 1 + 1]? = some (.cells #[.string u, .string m] 88 (0, 0)) := by rw [hW]; exact backed_d w _ _ _ _ _
  have hd0 : W.cell? ⟨w.heap.size + 1 + 1 + 1, 0, none⟩ = some (.string u) := (blk_cell hd 0).trans rfl
  have hd1 : W.cell? ⟨w.heap.size + 1 + 1 + 1, 1, none⟩ = some (.string m) := (blk_cell hd 1).trans rfl
  have hp0 : W.cell? ⟨w.heap.size + 1 + 1, 0, none⟩ = some (.int .i64 0) := (blk_cell HB0.out.p 0).trans rfl
  have hq0 := blk_frozen HB0.out.p 0
  have hp1 : W.cell? ⟨w.heap.size + 1 + 1, 1, none⟩ = some (.string tok) := (blk_cell HB0.out.p 1).trans rfl
  have hq1 := blk_frozen HB0.out.p 1
  have hp2 : W.cell? ⟨w.heap.size + 1 + 1, 2, none⟩ = some (.int .i64 seq) := (blk_cell HB0.out.p 2).trans rfl
  have hq2 := blk_frozen HB0.out.p 2
  have hp3 : W.cell? ⟨w.heap.size + 1 + 1, 3, none⟩ = some (.int .i64 0) := (blk_cell HB0.out.p 3).trans rfl
  have hq3 := blk_frozen HB0.out.p 3
  have hp4 : W.cell? ⟨w.heap.size + 1 + 1, 4, none⟩ = some (.int .i64 0) := (blk_cell HB0.out.p 4).trans rfl
  have hq4 := blk_frozen HB0.out.p 4
  have hp5 : W.cell? ⟨w.heap.size + 1 + 1, 5, none⟩ = some (.int .i64 0) := (blk_cell HB0.out.p 5).trans rfl
  have hq5 := blk_frozen HB0.out.p 5
  have hp6 : W.cell? ⟨w.heap.size + 1 + 1, 6, none⟩ = some (.int .i64 0) := (blk_cell HB0.out.p 6).trans rfl
  have hq6 := blk_frozen HB0.out.p 6
  have hp7 : W.cell? ⟨w.heap.size + 1 + 1, 7, none⟩ = some (.int .i64 0) := (blk_cell HB0.out.p 7).trans rfl
  have hq7 := blk_frozen HB0.out.p 7
  have hp8 : W.cell? ⟨w.heap.size + 1 + 1, 8, none⟩ = some (.int .i64 0) := (blk_cell HB0.out.p 8).trans rfl
  have hq8 := blk_frozen HB0.out.p 8
  have hp9 : W.cell? ⟨w.heap.size + 1 + 1, 9, none⟩ = some (.string ⟨#[]⟩) := (blk_cell HB0.out.p 9).trans rfl
  have hq9 := blk_frozen HB0.out.p 9
  have hp10 : W.cell? ⟨w.heap.size + 1 + 1, 10, none⟩ = some (.string ⟨#[]⟩) := (blk_cell HB0.out.p 10).trans rfl
  have hq10 := blk_frozen HB0.out.p 10
  have hp11 : W.cell? ⟨w.heap.size + 1 + 1, 11, none⟩ = some (.bool false) := (blk_cell HB0.out.p 11).trans rfl
  have hq11 := blk_frozen HB0.out.p 11
  have hp12 : W.cell? ⟨w.heap.size + 1 + 1, 12, none⟩ = some (.bool false) := (blk_cell HB0.out.p 12).trans rfl
  have hq12 := blk_frozen HB0.out.p 12
  clear hW hd h1
  go_region_held3 (fun w' => w'.cell? ⟨w.heap.size + 1 + 1 + 1, 0, none⟩ = some (.string u) ∧ w'.cell? ⟨w.heap.size + 1 + 1 + 1, 1, none⟩ = some (.string m)) (go_keep) (first | fail)
  go_upto_region 48 with (fail)
  obtain ⟨W2, hW2⟩ : ∃ W2, W2 = (((W.setCell ⟨w.heap.size + 1 + 1, 0, none⟩ (.int .i64 1)).setCell ⟨w.heap.size + 1 + 1, 9, none⟩ (.string u)).setCell ⟨w.heap.size + 1 + 1, 10, none⟩ (.string m)).drew := ⟨_, rfl⟩
  rw [← hW2]
  have HB9 := Aside0.mk (show Backed w W2 #[.int .i64 1, .string tok, .int .i64 seq, .int .i64 0, .int .i64 0, .int .i64 0, .int .i64 0, .int .i64 0, .int .i64 0, .string u, .string m, .bool false, .bool false] by
    rw [hW2]
    have h9 := backed_drew (backed_set (backed_set (backed_set HB0.out 0 (.int .i64 1)) 9 (.string u)) 10 (.string m))
    simp only [List.setIfInBounds_toArray, List.set_cons_zero, List.set_cons_succ] at h9
    exact h9)
  clear hW2 HB0 hp0 hq0 hp1 hq1 hp2 hq2 hp3 hq3 hp4 hq4 hp5 hq5 hp6 hq6 hp7 hq7 hp8 hq8 hp9 hq9 hp10 hq10 hp11 hq11 hp12 hq12 hd0 hd1
  have HP := HB9.out.p
  have HR := HB9.out.r
  refine wp_region_lit ?_
  refine wpList_load_row rfl 41 (.tmp 3) rfl (w.heap.size + 1 + 1) rfl 41 #[.int .i64 1, .string tok, .int .i64 seq, .int .i64 0, .int .i64 0, .int .i64 0, .int .i64 0, .int .i64 0, .int .i64 0, .string u, .string m, .bool false, .bool false] (0, 0) _ HP Try.underlying41 rfl info41 ?_
  refine wpList_store_row rfl 41 (.tmp 2) (.tmp 195) rfl (w.heap.size + 1) #[.int .i64 1, .string tok, .int .i64 seq, .int .i64 0, .int .i64 0, .int .i64 0, .int .i64 0, .int .i64 0, .int .i64 0, .string u, .string m, .bool false, .bool false] rfl rfl 41 #[.int .i64 0, .string ⟨#[]⟩, .int .i64 0, .int .i64 0, .int .i64 0, .int .i64 0, .int .i64 0, .int .i64 0, .int .i64 0, .string ⟨#[]⟩, .string ⟨#[]⟩, .bool false, .bool false] HR info41 rfl (by simp [Value.oneCell']) ?_
  go_wp2
  refine bodyPost_ret (results_cell_row Try.results21 _ _ (w.heap.size + 1) 41 #[.int .i64 1, .string tok, .int .i64 seq, .int .i64 0, .int .i64 0, .int .i64 0, .int .i64 0, .int .i64 0, .int .i64 0, .string u, .string m, .bool false, .bool false] (0, 0) _ rfl (setRow_heap _ _ _ _ _ _ HR) Try.underlying41 rfl info41) rfl ?_
  exact ⟨rfl, grown_setRow HB9.out.grown (by omega) _⟩
set_option maxRecDepth 100000 in
set_option maxHeartbeats 8000000 in
theorem back_2 (tok : ByteArray) (seq : Int) (w : World) :
    Calls Try.prog 21 #[.agg #[.string tok, .int .i64 seq, .iface 44 (.agg #[])]] w fun e w' => e = .returned (.agg #[.int .i64 2, .string tok, .int .i64 seq, .int .i64 0, .int .i64 0, .int .i64 0, .int .i64 0, .int .i64 0, .int .i64 0, .string ⟨#[]⟩, .string ⟨#[]⟩, .bool false, .bool false]) ∧ w.grownBy w' none := by
  have h1 := fun W => ta1 44 (.agg #[]) W (by decide)
  have h2 := te2 (.agg #[])
  go_enter Try.func21, Try.ntmps21
  go_upto_region 8 with (fail)
  obtain ⟨W, hW⟩ : ∃ W, W = (((w.alloc (.cells #[.string tok, .int .i64 seq, .iface 44 (.agg #[])] 35)).alloc (.cells #[.int .i64 0, .string ⟨#[]⟩, .int .i64 0, .int .i64 0, .int .i64 0, .int .i64 0, .int .i64 0, .int .i64 0, .int .i64 0, .string ⟨#[]⟩, .string ⟨#[]⟩, .bool false, .bool false] 41)).alloc (.cells #[.int .i64 0, .string tok, .int .i64 seq, .int .i64 0, .int .i64 0, .int .i64 0, .int .i64 0, .int .i64 0, .int .i64 0, .string ⟨#[]⟩, .string ⟨#[]⟩, .bool false, .bool false] 41)).alloc (.cells #[] 44) := ⟨_, rfl⟩
  rw [← hW]
  have HB0 := Aside0.mk (show Backed w W #[.int .i64 0, .string tok, .int .i64 seq, .int .i64 0, .int .i64 0, .int .i64 0, .int .i64 0, .int .i64 0, .int .i64 0, .string ⟨#[]⟩, .string ⟨#[]⟩, .bool false, .bool false] by rw [hW]; exact backed_new w _ _ _)
  have hd : W.heap[w.heap.size + 1 + 1 + 1]? = some (.cells #[] 44 (0, 0)) := by rw [hW]; exact backed_d w _ _ _ _ _
  have hp0 : W.cell? ⟨w.heap.size + 1 + 1, 0, none⟩ = some (.int .i64 0) := (blk_cell HB0.out.p 0).trans rfl
  have hq0 := blk_frozen HB0.out.p 0
  have hp1 : W.cell? ⟨w.heap.size + 1 + 1, 1, none⟩ = some (.string tok) := (blk_cell HB0.out.p 1).trans rfl
  have hq1 := blk_frozen HB0.out.p 1
  have hp2 : W.cell? ⟨w.heap.size + 1 + 1, 2, none⟩ = some (.int .i64 seq) := (blk_cell HB0.out.p 2).trans rfl
  have hq2 := blk_frozen HB0.out.p 2
  have hp3 : W.cell? ⟨w.heap.size + 1 + 1, 3, none⟩ = some (.int .i64 0) := (blk_cell HB0.out.p 3).trans rfl
  have hq3 := blk_frozen HB0.out.p 3
  have hp4 : W.cell? ⟨w.heap.size + 1 + 1, 4, none⟩ = some (.int .i64 0) := (blk_cell HB0.out.p 4).trans rfl
  have hq4 := blk_frozen HB0.out.p 4
  have hp5 : W.cell? ⟨w.heap.size + 1 + 1, 5, none⟩ = some (.int .i64 0) := (blk_cell HB0.out.p 5).trans rfl
  have hq5 := blk_frozen HB0.out.p 5
  have hp6 : W.cell? ⟨w.heap.size + 1 + 1, 6, none⟩ = some (.int .i64 0) := (blk_cell HB0.out.p 6).trans rfl
  have hq6 := blk_frozen HB0.out.p 6
  have hp7 : W.cell? ⟨w.heap.size + 1 + 1, 7, none⟩ = some (.int .i64 0) := (blk_cell HB0.out.p 7).trans rfl
  have hq7 := blk_frozen HB0.out.p 7
  have hp8 : W.cell? ⟨w.heap.size + 1 + 1, 8, none⟩ = some (.int .i64 0) := (blk_cell HB0.out.p 8).trans rfl
  have hq8 := blk_frozen HB0.out.p 8
  have hp9 : W.cell? ⟨w.heap.size + 1 + 1, 9, none⟩ = some (.string ⟨#[]⟩) := (blk_cell HB0.out.p 9).trans rfl
  have hq9 := blk_frozen HB0.out.p 9
  have hp10 : W.cell? ⟨w.heap.size + 1 + 1, 10, none⟩ = some (.string ⟨#[]⟩) := (blk_cell HB0.out.p 10).trans rfl
  have hq10 := blk_frozen HB0.out.p 10
  have hp11 : W.cell? ⟨w.heap.size + 1 + 1, 11, none⟩ = some (.bool false) := (blk_cell HB0.out.p 11).trans rfl
  have hq11 := blk_frozen HB0.out.p 11
  have hp12 : W.cell? ⟨w.heap.size + 1 + 1, 12, none⟩ = some (.bool false) := (blk_cell HB0.out.p 12).trans rfl
  have hq12 := blk_frozen HB0.out.p 12
  clear hW hd h1 h2
  go_upto_region 48 with (fail)
  obtain ⟨W2, hW2⟩ : ∃ W2, W2 = (W.setCell ⟨w.heap.size + 1 + 1, 0, none⟩ (.int .i64 2)) := ⟨_, rfl⟩
  rw [← hW2]
  have HB9 := Aside0.mk (show Backed w W2 #[.int .i64 2, .string tok, .int .i64 seq, .int .i64 0, .int .i64 0, .int .i64 0, .int .i64 0, .int .i64 0, .int .i64 0, .string ⟨#[]⟩, .string ⟨#[]⟩, .bool false, .bool false] by
    rw [hW2]
    have h9 := (backed_set HB0.out 0 (.int .i64 2))
    simp only [List.setIfInBounds_toArray, List.set_cons_zero, List.set_cons_succ] at h9
    exact h9)
  clear hW2 HB0 hp0 hq0 hp1 hq1 hp2 hq2 hp3 hq3 hp4 hq4 hp5 hq5 hp6 hq6 hp7 hq7 hp8 hq8 hp9 hq9 hp10 hq10 hp11 hq11 hp12 hq12 
  have HP := HB9.out.p
  have HR := HB9.out.r
  refine wp_region_lit ?_
  refine wpList_load_row rfl 41 (.tmp 3) rfl (w.heap.size + 1 + 1) rfl 41 #[.int .i64 2, .string tok, .int .i64 seq, .int .i64 0, .int .i64 0, .int .i64 0, .int .i64 0, .int .i64 0, .int .i64 0, .string ⟨#[]⟩, .string ⟨#[]⟩, .bool false, .bool false] (0, 0) _ HP Try.underlying41 rfl info41 ?_
  refine wpList_store_row rfl 41 (.tmp 2) (.tmp 195) rfl (w.heap.size + 1) #[.int .i64 2, .string tok, .int .i64 seq, .int .i64 0, .int .i64 0, .int .i64 0, .int .i64 0, .int .i64 0, .int .i64 0, .string ⟨#[]⟩, .string ⟨#[]⟩, .bool false, .bool false] rfl rfl 41 #[.int .i64 0, .string ⟨#[]⟩, .int .i64 0, .int .i64 0, .int .i64 0, .int .i64 0, .int .i64 0, .int .i64 0, .int .i64 0, .string ⟨#[]⟩, .string ⟨#[]⟩, .bool false, .bool false] HR info41 rfl (by simp [Value.oneCell']) ?_
  go_wp2
  refine bodyPost_ret (results_cell_row Try.results21 _ _ (w.heap.size + 1) 41 #[.int .i64 2, .string tok, .int .i64 seq, .int .i64 0, .int .i64 0, .int .i64 0, .int .i64 0, .int .i64 0, .int .i64 0, .string ⟨#[]⟩, .string ⟨#[]⟩, .bool false, .bool false] (0, 0) _ rfl (setRow_heap _ _ _ _ _ _ HR) Try.underlying41 rfl info41) rfl ?_
  exact ⟨rfl, grown_setRow HB9.out.grown (by omega) _⟩
set_option maxRecDepth 100000 in
set_option maxHeartbeats 8000000 in
theorem back_3 (tok : ByteArray) (seq : Int) (n0 : Int) (w : World) :
    Calls Try.prog 21 #[.agg #[.string tok, .int .i64 seq, .iface 90 (.agg #[.int .i64 n0])]] w fun e w' => e = .returned (.agg #[.int .i64 3, .string tok, .int .i64 seq, .int .i64 n0, .int .i64 0, .int .i64 0, .int .i64 0, .int .i64 0, .int .i64 0, .string ⟨#[]⟩, .string ⟨#[]⟩, .bool false, .bool false]) ∧ w.grownBy w' none := by
  have h1 := fun W => ta1 90 (.agg #[.int .i64 n0]) W (by decide)
  have h2 := fun W => ta2 90 (.agg #[.int .i64 n0]) W (by decide)
  have h3 := te3 (.agg #[.int .i64 n0])
  go_enter Try.func21, Try.ntmps21
  go_upto_region 11 with (fail)
  obtain ⟨W, hW⟩ : ∃ W, W = (((w.alloc (.cells #[.string tok, .int .i64 seq, .iface 90 (.agg #[.int .i64 n0])] 35)).alloc (.cells #[.int .i64 0, .string ⟨#[]⟩, .int .i64 0, .int .i64 0, .int .i64 0, .int .i64 0, .int .i64 0, .int .i64 0, .int .i64 0, .string ⟨#[]⟩, .string ⟨#[]⟩, .bool false, .bool false] 41)).alloc (.cells #[.int .i64 0, .string tok, .int .i64 seq, .int .i64 0, .int .i64 0, .int .i64 0, .int .i64 0, .int .i64 0, .int .i64 0, .string ⟨#[]⟩, .string ⟨#[]⟩, .bool false, .bool false] 41)).alloc (.cells #[.int .i64 n0] 90) := ⟨_, rfl⟩
  rw [← hW]
  have HB0 := Aside0.mk (show Backed w W #[.int .i64 0, .string tok, .int .i64 seq, .int .i64 0, .int .i64 0, .int .i64 0, .int .i64 0, .int .i64 0, .int .i64 0, .string ⟨#[]⟩, .string ⟨#[]⟩, .bool false, .bool false] by rw [hW]; exact backed_new w _ _ _)
  have hd : W.heap[w.heap.size + 1 + 1 + 1]? = some (.cells #[.int .i64 n0] 90 (0, 0)) := by rw [hW]; exact backed_d w _ _ _ _ _
  have hd0 : W.cell? ⟨w.heap.size + 1 + 1 + 1, 0, none⟩ = some (.int .i64 n0) := (blk_cell hd 0).trans rfl
  have hp0 : W.cell? ⟨w.heap.size + 1 + 1, 0, none⟩ = some (.int .i64 0) := (blk_cell HB0.out.p 0).trans rfl
  have hq0 := blk_frozen HB0.out.p 0
  have hp1 : W.cell? ⟨w.heap.size + 1 + 1, 1, none⟩ = some (.string tok) := (blk_cell HB0.out.p 1).trans rfl
  have hq1 := blk_frozen HB0.out.p 1
  have hp2 : W.cell? ⟨w.heap.size + 1 + 1, 2, none⟩ = some (.int .i64 seq) := (blk_cell HB0.out.p 2).trans rfl
  have hq2 := blk_frozen HB0.out.p 2
  have hp3 : W.cell? ⟨w.heap.size + 1 + 1, 3, none⟩ = some (.int .i64 0) := (blk_cell HB0.out.p 3).trans rfl
  have hq3 := blk_frozen HB0.out.p 3
  have hp4 : W.cell? ⟨w.heap.size + 1 + 1, 4, none⟩ = some (.int .i64 0) := (blk_cell HB0.out.p 4).trans rfl
  have hq4 := blk_frozen HB0.out.p 4
  have hp5 : W.cell? ⟨w.heap.size + 1 + 1, 5, none⟩ = some (.int .i64 0) := (blk_cell HB0.out.p 5).trans rfl
  have hq5 := blk_frozen HB0.out.p 5
  have hp6 : W.cell? ⟨w.heap.size + 1 + 1, 6, none⟩ = some (.int .i64 0) := (blk_cell HB0.out.p 6).trans rfl
  have hq6 := blk_frozen HB0.out.p 6
  have hp7 : W.cell? ⟨w.heap.size + 1 + 1, 7, none⟩ = some (.int .i64 0) := (blk_cell HB0.out.p 7).trans rfl
  have hq7 := blk_frozen HB0.out.p 7
  have hp8 : W.cell? ⟨w.heap.size + 1 + 1, 8, none⟩ = some (.int .i64 0) := (blk_cell HB0.out.p 8).trans rfl
  have hq8 := blk_frozen HB0.out.p 8
  have hp9 : W.cell? ⟨w.heap.size + 1 + 1, 9, none⟩ = some (.string ⟨#[]⟩) := (blk_cell HB0.out.p 9).trans rfl
  have hq9 := blk_frozen HB0.out.p 9
  have hp10 : W.cell? ⟨w.heap.size + 1 + 1, 10, none⟩ = some (.string ⟨#[]⟩) := (blk_cell HB0.out.p 10).trans rfl
  have hq10 := blk_frozen HB0.out.p 10
  have hp11 : W.cell? ⟨w.heap.size + 1 + 1, 11, none⟩ = some (.bool false) := (blk_cell HB0.out.p 11).trans rfl
  have hq11 := blk_frozen HB0.out.p 11
  have hp12 : W.cell? ⟨w.heap.size + 1 + 1, 12, none⟩ = some (.bool false) := (blk_cell HB0.out.p 12).trans rfl
  have hq12 := blk_frozen HB0.out.p 12
  clear hW hd h1 h2 h3
  go_region_held3 (fun w' => w'.cell? ⟨w.heap.size + 1 + 1 + 1, 0, none⟩ = some (.int .i64 n0)) (go_keep) (first | fail)
  go_upto_region 48 with (fail)
  obtain ⟨W2, hW2⟩ : ∃ W2, W2 = (((((((W.setCell ⟨w.heap.size + 1 + 1, 0, none⟩ (.int .i64 3)).setCell ⟨w.heap.size + 1 + 1, 3, none⟩ (.int .i64 n0)).setCell ⟨w.heap.size + 1 + 1, 4, none⟩ (.int .i64 0)).setCell ⟨w.heap.size + 1 + 1, 5, none⟩ (.int .i64 0)).setCell ⟨w.heap.size + 1 + 1, 6, none⟩ (.int .i64 0)).setCell ⟨w.heap.size + 1 + 1, 7, none⟩ (.int .i64 0)).setCell ⟨w.heap.size + 1 + 1, 8, none⟩ (.int .i64 0)).drew := ⟨_, rfl⟩
  rw [← hW2]
  have HB9 := Aside0.mk (show Backed w W2 #[.int .i64 3, .string tok, .int .i64 seq, .int .i64 n0, .int .i64 0, .int .i64 0, .int .i64 0, .int .i64 0, .int .i64 0, .string ⟨#[]⟩, .string ⟨#[]⟩, .bool false, .bool false] by
    rw [hW2]
    have h9 := backed_drew (backed_set (backed_set (backed_set (backed_set (backed_set (backed_set (backed_set HB0.out 0 (.int .i64 3)) 3 (.int .i64 n0)) 4 (.int .i64 0)) 5 (.int .i64 0)) 6 (.int .i64 0)) 7 (.int .i64 0)) 8 (.int .i64 0))
    simp only [List.setIfInBounds_toArray, List.set_cons_zero, List.set_cons_succ] at h9
    exact h9)
  clear hW2 HB0 hp0 hq0 hp1 hq1 hp2 hq2 hp3 hq3 hp4 hq4 hp5 hq5 hp6 hq6 hp7 hq7 hp8 hq8 hp9 hq9 hp10 hq10 hp11 hq11 hp12 hq12 hd0
  have HP := HB9.out.p
  have HR := HB9.out.r
  refine wp_region_lit ?_
  refine wpList_load_row rfl 41 (.tmp 3) rfl (w.heap.size + 1 + 1) rfl 41 #[.int .i64 3, .string tok, .int .i64 seq, .int .i64 n0, .int .i64 0, .int .i64 0, .int .i64 0, .int .i64 0, .int .i64 0, .string ⟨#[]⟩, .string ⟨#[]⟩, .bool false, .bool false] (0, 0) _ HP Try.underlying41 rfl info41 ?_
  refine wpList_store_row rfl 41 (.tmp 2) (.tmp 195) rfl (w.heap.size + 1) #[.int .i64 3, .string tok, .int .i64 seq, .int .i64 n0, .int .i64 0, .int .i64 0, .int .i64 0, .int .i64 0, .int .i64 0, .string ⟨#[]⟩, .string ⟨#[]⟩, .bool false, .bool false] rfl rfl 41 #[.int .i64 0, .string ⟨#[]⟩, .int .i64 0, .int .i64 0, .int .i64 0, .int .i64 0, .int .i64 0, .int .i64 0, .int .i64 0, .string ⟨#[]⟩, .string ⟨#[]⟩, .bool false, .bool false] HR info41 rfl (by simp [Value.oneCell']) ?_
  go_wp2
  refine bodyPost_ret (results_cell_row Try.results21 _ _ (w.heap.size + 1) 41 #[.int .i64 3, .string tok, .int .i64 seq, .int .i64 n0, .int .i64 0, .int .i64 0, .int .i64 0, .int .i64 0, .int .i64 0, .string ⟨#[]⟩, .string ⟨#[]⟩, .bool false, .bool false] (0, 0) _ rfl (setRow_heap _ _ _ _ _ _ HR) Try.underlying41 rfl info41) rfl ?_
  exact ⟨rfl, grown_setRow HB9.out.grown (by omega) _⟩
set_option maxRecDepth 100000 in
set_option maxHeartbeats 8000000 in
theorem back_4 (tok : ByteArray) (seq : Int) (n0 n1 n2 : Int) (u : ByteArray) (w : World) :
    Calls Try.prog 21 #[.agg #[.string tok, .int .i64 seq, .iface 92 (.agg #[.int .i64 n0, .int .i64 n1, .int .i64 n2, .string u])]] w fun e w' => e = .returned (.agg #[.int .i64 4, .string tok, .int .i64 seq, .int .i64 n0, .int .i64 n1, .int .i64 n2, .int .i64 0, .int .i64 0, .int .i64 0, .string u, .string ⟨#[]⟩, .bool false, .bool false]) ∧ w.grownBy w' none := by
  have h1 := fun W => ta1 92 (.agg #[.int .i64 n0, .int .i64 n1, .int .i64 n2, .string u]) W (by decide)
  have h2 := fun W => ta2 92 (.agg #[.int .i64 n0, .int .i64 n1, .int .i64 n2, .string u]) W (by decide)
  have h3 := fun W => ta3 92 (.agg #[.int .i64 n0, .int .i64 n1, .int .i64 n2, .string u]) W (by decide)
  have h4 := te4 (.agg #[.int .i64 n0, .int .i64 n1, .int .i64 n2, .string u])
  go_enter Try.func21, Try.ntmps21
  go_upto_region 14 with (fail)
  obtain ⟨W, hW⟩ : ∃ W, W = (((w.alloc (.cells #[.string tok, .int .i64 seq, .iface 92 (.agg #[.int .i64 n0, .int .i64 n1, .int .i64 n2, .string u])] 35)).alloc (.cells #[.int .i64 0, .string ⟨#[]⟩, .int .i64 0, .int .i64 0, .int .i64 0, .int .i64 0, .int .i64 0, .int .i64 0, .int .i64 0, .string ⟨#[]⟩, .string ⟨#[]⟩, .bool false, .bool false] 41)).alloc (.cells #[.int .i64 0, .string tok, .int .i64 seq, .int .i64 0, .int .i64 0, .int .i64 0, .int .i64 0, .int .i64 0, .int .i64 0, .string ⟨#[]⟩, .string ⟨#[]⟩, .bool false, .bool false] 41)).alloc (.cells #[.int .i64 n0, .int .i64 n1, .int .i64 n2, .string u] 92) := ⟨_, rfl⟩
  rw [← hW]
  have HB0 := Aside0.mk (show Backed w W #[.int .i64 0, .string tok, .int .i64 seq, .int .i64 0, .int .i64 0, .int .i64 0, .int .i64 0, .int .i64 0, .int .i64 0, .string ⟨#[]⟩, .string ⟨#[]⟩, .bool false, .bool false] by rw [hW]; exact backed_new w _ _ _)
  have hd : W.heap[w.heap.size + 1 + 1 + 1]? = some (.cells #[.int .i64 n0, .int .i64 n1, .int .i64 n2, .string u] 92 (0, 0)) := by rw [hW]; exact backed_d w _ _ _ _ _
  have hd0 : W.cell? ⟨w.heap.size + 1 + 1 + 1, 0, none⟩ = some (.int .i64 n0) := (blk_cell hd 0).trans rfl
  have hd1 : W.cell? ⟨w.heap.size + 1 + 1 + 1, 1, none⟩ = some (.int .i64 n1) := (blk_cell hd 1).trans rfl
  have hd2 : W.cell? ⟨w.heap.size + 1 + 1 + 1, 2, none⟩ = some (.int .i64 n2) := (blk_cell hd 2).trans rfl
  have hd3 : W.cell? ⟨w.heap.size + 1 + 1 + 1, 3, none⟩ = some (.string u) := (blk_cell hd 3).trans rfl
  have hp0 : W.cell? ⟨w.heap.size + 1 + 1, 0, none⟩ = some (.int .i64 0) := (blk_cell HB0.out.p 0).trans rfl
  have hq0 := blk_frozen HB0.out.p 0
  have hp1 : W.cell? ⟨w.heap.size + 1 + 1, 1, none⟩ = some (.string tok) := (blk_cell HB0.out.p 1).trans rfl
  have hq1 := blk_frozen HB0.out.p 1
  have hp2 : W.cell? ⟨w.heap.size + 1 + 1, 2, none⟩ = some (.int .i64 seq) := (blk_cell HB0.out.p 2).trans rfl
  have hq2 := blk_frozen HB0.out.p 2
  have hp3 : W.cell? ⟨w.heap.size + 1 + 1, 3, none⟩ = some (.int .i64 0) := (blk_cell HB0.out.p 3).trans rfl
  have hq3 := blk_frozen HB0.out.p 3
  have hp4 : W.cell? ⟨w.heap.size + 1 + 1, 4, none⟩ = some (.int .i64 0) := (blk_cell HB0.out.p 4).trans rfl
  have hq4 := blk_frozen HB0.out.p 4
  have hp5 : W.cell? ⟨w.heap.size + 1 + 1, 5, none⟩ = some (.int .i64 0) := (blk_cell HB0.out.p 5).trans rfl
  have hq5 := blk_frozen HB0.out.p 5
  have hp6 : W.cell? ⟨w.heap.size + 1 + 1, 6, none⟩ = some (.int .i64 0) := (blk_cell HB0.out.p 6).trans rfl
  have hq6 := blk_frozen HB0.out.p 6
  have hp7 : W.cell? ⟨w.heap.size + 1 + 1, 7, none⟩ = some (.int .i64 0) := (blk_cell HB0.out.p 7).trans rfl
  have hq7 := blk_frozen HB0.out.p 7
  have hp8 : W.cell? ⟨w.heap.size + 1 + 1, 8, none⟩ = some (.int .i64 0) := (blk_cell HB0.out.p 8).trans rfl
  have hq8 := blk_frozen HB0.out.p 8
  have hp9 : W.cell? ⟨w.heap.size + 1 + 1, 9, none⟩ = some (.string ⟨#[]⟩) := (blk_cell HB0.out.p 9).trans rfl
  have hq9 := blk_frozen HB0.out.p 9
  have hp10 : W.cell? ⟨w.heap.size + 1 + 1, 10, none⟩ = some (.string ⟨#[]⟩) := (blk_cell HB0.out.p 10).trans rfl
  have hq10 := blk_frozen HB0.out.p 10
  have hp11 : W.cell? ⟨w.heap.size + 1 + 1, 11, none⟩ = some (.bool false) := (blk_cell HB0.out.p 11).trans rfl
  have hq11 := blk_frozen HB0.out.p 11
  have hp12 : W.cell? ⟨w.heap.size + 1 + 1, 12, none⟩ = some (.bool false) := (blk_cell HB0.out.p 12).trans rfl
  have hq12 := blk_frozen HB0.out.p 12
  clear hW hd h1 h2 h3 h4
  go_region_held3 (fun w' => w'.cell? ⟨w.heap.size + 1 + 1 + 1, 0, none⟩ = some (.int .i64 n0) ∧ w'.cell? ⟨w.heap.size + 1 + 1 + 1, 1, none⟩ = some (.int .i64 n1) ∧ w'.cell? ⟨w.heap.size + 1 + 1 + 1, 2, none⟩ = some (.int .i64 n2) ∧ w'.cell? ⟨w.heap.size + 1 + 1 + 1, 3, none⟩ = some (.string u)) (go_keep) (first | fail)
  go_upto_region 48 with (fail)
  obtain ⟨W2, hW2⟩ : ∃ W2, W2 = ((((((((W.setCell ⟨w.heap.size + 1 + 1, 0, none⟩ (.int .i64 4)).setCell ⟨w.heap.size + 1 + 1, 3, none⟩ (.int .i64 n0)).setCell ⟨w.heap.size + 1 + 1, 4, none⟩ (.int .i64 n1)).setCell ⟨w.heap.size + 1 + 1, 5, none⟩ (.int .i64 n2)).setCell ⟨w.heap.size + 1 + 1, 6, none⟩ (.int .i64 0)).setCell ⟨w.heap.size + 1 + 1, 7, none⟩ (.int .i64 0)).setCell ⟨w.heap.size + 1 + 1, 8, none⟩ (.int .i64 0)).setCell ⟨w.heap.size + 1 + 1, 9, none⟩ (.string u)).drew := ⟨_, rfl⟩
  rw [← hW2]
  have HB9 := Aside0.mk (show Backed w W2 #[.int .i64 4, .string tok, .int .i64 seq, .int .i64 n0, .int .i64 n1, .int .i64 n2, .int .i64 0, .int .i64 0, .int .i64 0, .string u, .string ⟨#[]⟩, .bool false, .bool false] by
    rw [hW2]
    have h9 := backed_drew (backed_set (backed_set (backed_set (backed_set (backed_set (backed_set (backed_set (backed_set HB0.out 0 (.int .i64 4)) 3 (.int .i64 n0)) 4 (.int .i64 n1)) 5 (.int .i64 n2)) 6 (.int .i64 0)) 7 (.int .i64 0)) 8 (.int .i64 0)) 9 (.string u))
    simp only [List.setIfInBounds_toArray, List.set_cons_zero, List.set_cons_succ] at h9
    exact h9)
  clear hW2 HB0 hp0 hq0 hp1 hq1 hp2 hq2 hp3 hq3 hp4 hq4 hp5 hq5 hp6 hq6 hp7 hq7 hp8 hq8 hp9 hq9 hp10 hq10 hp11 hq11 hp12 hq12 hd0 hd1 hd2 hd3
  have HP := HB9.out.p
  have HR := HB9.out.r
  refine wp_region_lit ?_
  refine wpList_load_row rfl 41 (.tmp 3) rfl (w.heap.size + 1 + 1) rfl 41 #[.int .i64 4, .string tok, .int .i64 seq, .int .i64 n0, .int .i64 n1, .int .i64 n2, .int .i64 0, .int .i64 0, .int .i64 0, .string u, .string ⟨#[]⟩, .bool false, .bool false] (0, 0) _ HP Try.underlying41 rfl info41 ?_
  refine wpList_store_row rfl 41 (.tmp 2) (.tmp 195) rfl (w.heap.size + 1) #[.int .i64 4, .string tok, .int .i64 seq, .int .i64 n0, .int .i64 n1, .int .i64 n2, .int .i64 0, .int .i64 0, .int .i64 0, .string u, .string ⟨#[]⟩, .bool false, .bool false] rfl rfl 41 #[.int .i64 0, .string ⟨#[]⟩, .int .i64 0, .int .i64 0, .int .i64 0, .int .i64 0, .int .i64 0, .int .i64 0, .int .i64 0, .string ⟨#[]⟩, .string ⟨#[]⟩, .bool false, .bool false] HR info41 rfl (by simp [Value.oneCell']) ?_
  go_wp2
  refine bodyPost_ret (results_cell_row Try.results21 _ _ (w.heap.size + 1) 41 #[.int .i64 4, .string tok, .int .i64 seq, .int .i64 n0, .int .i64 n1, .int .i64 n2, .int .i64 0, .int .i64 0, .int .i64 0, .string u, .string ⟨#[]⟩, .bool false, .bool false] (0, 0) _ rfl (setRow_heap _ _ _ _ _ _ HR) Try.underlying41 rfl info41) rfl ?_
  exact ⟨rfl, grown_setRow HB9.out.grown (by omega) _⟩
set_option maxRecDepth 100000 in
set_option maxHeartbeats 8000000 in
theorem back_5 (tok : ByteArray) (seq : Int) (n0 n1 n2 n3 : Int) (w : World) :
    Calls Try.prog 21 #[.agg #[.string tok, .int .i64 seq, .iface 94 (.agg #[.int .i64 n0, .int .i64 n1, .int .i64 n2, .int .i64 n3])]] w fun e w' => e = .returned (.agg #[.int .i64 5, .string tok, .int .i64 seq, .int .i64 n0, .int .i64 n1, .int .i64 n2, .int .i64 n3, .int .i64 0, .int .i64 0, .string ⟨#[]⟩, .string ⟨#[]⟩, .bool false, .bool false]) ∧ w.grownBy w' none := by
  have h1 := fun W => ta1 94 (.agg #[.int .i64 n0, .int .i64 n1, .int .i64 n2, .int .i64 n3]) W (by decide)
  have h2 := fun W => ta2 94 (.agg #[.int .i64 n0, .int .i64 n1, .int .i64 n2, .int .i64 n3]) W (by decide)
  have h3 := fun W => ta3 94 (.agg #[.int .i64 n0, .int .i64 n1, .int .i64 n2, .int .i64 n3]) W (by decide)
  have h4 := fun W => ta4 94 (.agg #[.int .i64 n0, .int .i64 n1, .int .i64 n2, .int .i64 n3]) W (by decide)
  have h5 := te5 (.agg #[.int .i64 n0, .int .i64 n1, .int .i64 n2, .int .i64 n3])
  go_enter Try.func21, Try.ntmps21
  go_upto_region 17 with (fail)
  obtain ⟨W, hW⟩ : ∃ W, W = (((w.alloc (.cells #[.string tok, .int .i64 seq, .iface 94 (.agg #[.int .i64 n0, .int .i64 n1, .int .i64 n2, .int .i64 n3])] 35)).alloc (.cells #[.int .i64 0, .string ⟨#[]⟩, .int .i64 0, .int .i64 0, .int .i64 0, .int .i64 0, .int .i64 0, .int .i64 0, .int .i64 0, .string ⟨#[]⟩, .string ⟨#[]⟩, .bool false, .bool false] 41)).alloc (.cells #[.int .i64 0, .string tok, .int .i64 seq, .int .i64 0, .int .i64 0, .int .i64 0, .int .i64 0, .int .i64 0, .int .i64 0, .string ⟨#[]⟩, .string ⟨#[]⟩, .bool false, .bool false] 41)).alloc (.cells #[.int .i64 n0, .int .i64 n1, .int .i64 n2, .int .i64 n3] 94) := ⟨_, rfl⟩
  rw [← hW]
  have HB0 := Aside0.mk (show Backed w W #[.int .i64 0, .string tok, .int .i64 seq, .int .i64 0, .int .i64 0, .int .i64 0, .int .i64 0, .int .i64 0, .int .i64 0, .string ⟨#[]⟩, .string ⟨#[]⟩, .bool false, .bool false] by rw [hW]; exact backed_new w _ _ _)
  have hd : W.heap[w.heap.size + 1 + 1 + 1]? = some (.cells #[.int .i64 n0, .int .i64 n1, .int .i64 n2, .int .i64 n3] 94 (0, 0)) := by rw [hW]; exact backed_d w _ _ _ _ _
  have hd0 : W.cell? ⟨w.heap.size + 1 + 1 + 1, 0, none⟩ = some (.int .i64 n0) := (blk_cell hd 0).trans rfl
  have hd1 : W.cell? ⟨w.heap.size + 1 + 1 + 1, 1, none⟩ = some (.int .i64 n1) := (blk_cell hd 1).trans rfl
  have hd2 : W.cell? ⟨w.heap.size + 1 + 1 + 1, 2, none⟩ = some (.int .i64 n2) := (blk_cell hd 2).trans rfl
  have hd3 : W.cell? ⟨w.heap.size + 1 + 1 + 1, 3, none⟩ = some (.int .i64 n3) := (blk_cell hd 3).trans rfl
  have hp0 : W.cell? ⟨w.heap.size + 1 + 1, 0, none⟩ = some (.int .i64 0) := (blk_cell HB0.out.p 0).trans rfl
  have hq0 := blk_frozen HB0.out.p 0
  have hp1 : W.cell? ⟨w.heap.size + 1 + 1, 1, none⟩ = some (.string tok) := (blk_cell HB0.out.p 1).trans rfl
  have hq1 := blk_frozen HB0.out.p 1
  have hp2 : W.cell? ⟨w.heap.size + 1 + 1, 2, none⟩ = some (.int .i64 seq) := (blk_cell HB0.out.p 2).trans rfl
  have hq2 := blk_frozen HB0.out.p 2
  have hp3 : W.cell? ⟨w.heap.size + 1 + 1, 3, none⟩ = some (.int .i64 0) := (blk_cell HB0.out.p 3).trans rfl
  have hq3 := blk_frozen HB0.out.p 3
  have hp4 : W.cell? ⟨w.heap.size + 1 + 1, 4, none⟩ = some (.int .i64 0) := (blk_cell HB0.out.p 4).trans rfl
  have hq4 := blk_frozen HB0.out.p 4
  have hp5 : W.cell? ⟨w.heap.size + 1 + 1, 5, none⟩ = some (.int .i64 0) := (blk_cell HB0.out.p 5).trans rfl
  have hq5 := blk_frozen HB0.out.p 5
  have hp6 : W.cell? ⟨w.heap.size + 1 + 1, 6, none⟩ = some (.int .i64 0) := (blk_cell HB0.out.p 6).trans rfl
  have hq6 := blk_frozen HB0.out.p 6
  have hp7 : W.cell? ⟨w.heap.size + 1 + 1, 7, none⟩ = some (.int .i64 0) := (blk_cell HB0.out.p 7).trans rfl
  have hq7 := blk_frozen HB0.out.p 7
  have hp8 : W.cell? ⟨w.heap.size + 1 + 1, 8, none⟩ = some (.int .i64 0) := (blk_cell HB0.out.p 8).trans rfl
  have hq8 := blk_frozen HB0.out.p 8
  have hp9 : W.cell? ⟨w.heap.size + 1 + 1, 9, none⟩ = some (.string ⟨#[]⟩) := (blk_cell HB0.out.p 9).trans rfl
  have hq9 := blk_frozen HB0.out.p 9
  have hp10 : W.cell? ⟨w.heap.size + 1 + 1, 10, none⟩ = some (.string ⟨#[]⟩) := (blk_cell HB0.out.p 10).trans rfl
  have hq10 := blk_frozen HB0.out.p 10
  have hp11 : W.cell? ⟨w.heap.size + 1 + 1, 11, none⟩ = some (.bool false) := (blk_cell HB0.out.p 11).trans rfl
  have hq11 := blk_frozen HB0.out.p 11
  have hp12 : W.cell? ⟨w.heap.size + 1 + 1, 12, none⟩ = some (.bool false) := (blk_cell HB0.out.p 12).trans rfl
  have hq12 := blk_frozen HB0.out.p 12
  clear hW hd h1 h2 h3 h4 h5
  go_region_held3 (fun w' => w'.cell? ⟨w.heap.size + 1 + 1 + 1, 0, none⟩ = some (.int .i64 n0) ∧ w'.cell? ⟨w.heap.size + 1 + 1 + 1, 1, none⟩ = some (.int .i64 n1) ∧ w'.cell? ⟨w.heap.size + 1 + 1 + 1, 2, none⟩ = some (.int .i64 n2) ∧ w'.cell? ⟨w.heap.size + 1 + 1 + 1, 3, none⟩ = some (.int .i64 n3)) (go_keep) (first | fail)
  go_upto_region 48 with (fail)
  obtain ⟨W2, hW2⟩ : ∃ W2, W2 = (((((((W.setCell ⟨w.heap.size + 1 + 1, 0, none⟩ (.int .i64 5)).setCell ⟨w.heap.size + 1 + 1, 3, none⟩ (.int .i64 n0)).setCell ⟨w.heap.size + 1 + 1, 4, none⟩ (.int .i64 n1)).setCell ⟨w.heap.size + 1 + 1, 5, none⟩ (.int .i64 n2)).setCell ⟨w.heap.size + 1 + 1, 6, none⟩ (.int .i64 n3)).setCell ⟨w.heap.size + 1 + 1, 7, none⟩ (.int .i64 0)).setCell ⟨w.heap.size + 1 + 1, 8, none⟩ (.int .i64 0)).drew := ⟨_, rfl⟩
  rw [← hW2]
  have HB9 := Aside0.mk (show Backed w W2 #[.int .i64 5, .string tok, .int .i64 seq, .int .i64 n0, .int .i64 n1, .int .i64 n2, .int .i64 n3, .int .i64 0, .int .i64 0, .string ⟨#[]⟩, .string ⟨#[]⟩, .bool false, .bool false] by
    rw [hW2]
    have h9 := backed_drew (backed_set (backed_set (backed_set (backed_set (backed_set (backed_set (backed_set HB0.out 0 (.int .i64 5)) 3 (.int .i64 n0)) 4 (.int .i64 n1)) 5 (.int .i64 n2)) 6 (.int .i64 n3)) 7 (.int .i64 0)) 8 (.int .i64 0))
    simp only [List.setIfInBounds_toArray, List.set_cons_zero, List.set_cons_succ] at h9
    exact h9)
  clear hW2 HB0 hp0 hq0 hp1 hq1 hp2 hq2 hp3 hq3 hp4 hq4 hp5 hq5 hp6 hq6 hp7 hq7 hp8 hq8 hp9 hq9 hp10 hq10 hp11 hq11 hp12 hq12 hd0 hd1 hd2 hd3
  have HP := HB9.out.p
  have HR := HB9.out.r
  refine wp_region_lit ?_
  refine wpList_load_row rfl 41 (.tmp 3) rfl (w.heap.size + 1 + 1) rfl 41 #[.int .i64 5, .string tok, .int .i64 seq, .int .i64 n0, .int .i64 n1, .int .i64 n2, .int .i64 n3, .int .i64 0, .int .i64 0, .string ⟨#[]⟩, .string ⟨#[]⟩, .bool false, .bool false] (0, 0) _ HP Try.underlying41 rfl info41 ?_
  refine wpList_store_row rfl 41 (.tmp 2) (.tmp 195) rfl (w.heap.size + 1) #[.int .i64 5, .string tok, .int .i64 seq, .int .i64 n0, .int .i64 n1, .int .i64 n2, .int .i64 n3, .int .i64 0, .int .i64 0, .string ⟨#[]⟩, .string ⟨#[]⟩, .bool false, .bool false] rfl rfl 41 #[.int .i64 0, .string ⟨#[]⟩, .int .i64 0, .int .i64 0, .int .i64 0, .int .i64 0, .int .i64 0, .int .i64 0, .int .i64 0, .string ⟨#[]⟩, .string ⟨#[]⟩, .bool false, .bool false] HR info41 rfl (by simp [Value.oneCell']) ?_
  go_wp2
  refine bodyPost_ret (results_cell_row Try.results21 _ _ (w.heap.size + 1) 41 #[.int .i64 5, .string tok, .int .i64 seq, .int .i64 n0, .int .i64 n1, .int .i64 n2, .int .i64 n3, .int .i64 0, .int .i64 0, .string ⟨#[]⟩, .string ⟨#[]⟩, .bool false, .bool false] (0, 0) _ rfl (setRow_heap _ _ _ _ _ _ HR) Try.underlying41 rfl info41) rfl ?_
  exact ⟨rfl, grown_setRow HB9.out.grown (by omega) _⟩
set_option maxRecDepth 100000 in
set_option maxHeartbeats 8000000 in
theorem back_6 (tok : ByteArray) (seq : Int) (n0 n1 n2 n3 n4 : Int) (w : World) :
    Calls Try.prog 21 #[.agg #[.string tok, .int .i64 seq, .iface 96 (.agg #[.int .i64 n0, .int .i64 n1, .int .i64 n2, .int .i64 n3, .int .i64 n4])]] w fun e w' => e = .returned (.agg #[.int .i64 6, .string tok, .int .i64 seq, .int .i64 n0, .int .i64 n1, .int .i64 n2, .int .i64 n3, .int .i64 n4, .int .i64 0, .string ⟨#[]⟩, .string ⟨#[]⟩, .bool false, .bool false]) ∧ w.grownBy w' none := by
  have h1 := fun W => ta1 96 (.agg #[.int .i64 n0, .int .i64 n1, .int .i64 n2, .int .i64 n3, .int .i64 n4]) W (by decide)
  have h2 := fun W => ta2 96 (.agg #[.int .i64 n0, .int .i64 n1, .int .i64 n2, .int .i64 n3, .int .i64 n4]) W (by decide)
  have h3 := fun W => ta3 96 (.agg #[.int .i64 n0, .int .i64 n1, .int .i64 n2, .int .i64 n3, .int .i64 n4]) W (by decide)
  have h4 := fun W => ta4 96 (.agg #[.int .i64 n0, .int .i64 n1, .int .i64 n2, .int .i64 n3, .int .i64 n4]) W (by decide)
  have h5 := fun W => ta5 96 (.agg #[.int .i64 n0, .int .i64 n1, .int .i64 n2, .int .i64 n3, .int .i64 n4]) W (by decide)
  have h6 := te6 (.agg #[.int .i64 n0, .int .i64 n1, .int .i64 n2, .int .i64 n3, .int .i64 n4])
  go_enter Try.func21, Try.ntmps21
  go_upto_region 20 with (fail)
  obtain ⟨W, hW⟩ : ∃ W, W = (((w.alloc (.cells #[.string tok, .int .i64 seq, .iface 96 (.agg #[.int .i64 n0, .int .i64 n1, .int .i64 n2, .int .i64 n3, .int .i64 n4])] 35)).alloc (.cells #[.int .i64 0, .string ⟨#[]⟩, .int .i64 0, .int .i64 0, .int .i64 0, .int .i64 0, .int .i64 0, .int .i64 0, .int .i64 0, .string ⟨#[]⟩, .string ⟨#[]⟩, .bool false, .bool false] 41)).alloc (.cells #[.int .i64 0, .string tok, .int .i64 seq, .int .i64 0, .int .i64 0, .int .i64 0, .int .i64 0, .int .i64 0, .int .i64 0, .string ⟨#[]⟩, .string ⟨#[]⟩, .bool false, .bool false] 41)).alloc (.cells #[.int .i64 n0, .int .i64 n1, .int .i64 n2, .int .i64 n3, .int .i64 n4] 96) := ⟨_, rfl⟩
  rw [← hW]
  have HB0 := Aside0.mk (show Backed w W #[.int .i64 0, .string tok, .int .i64 seq, .int .i64 0, .int .i64 0, .int .i64 0, .int .i64 0, .int .i64 0, .int .i64 0, .string ⟨#[]⟩, .string ⟨#[]⟩, .bool false, .bool false] by rw [hW]; exact backed_new w _ _ _)
  have hd : W.heap[w.heap.size + 1 + 1 + 1]? = some (.cells #[.int .i64 n0, .int .i64 n1, .int .i64 n2, .int .i64 n3, .int .i64 n4] 96 (0, 0)) := by rw [hW]; exact backed_d w _ _ _ _ _
  have hd0 : W.cell? ⟨w.heap.size + 1 + 1 + 1, 0, none⟩ = some (.int .i64 n0) := (blk_cell hd 0).trans rfl
  have hd1 : W.cell? ⟨w.heap.size + 1 + 1 + 1, 1, none⟩ = some (.int .i64 n1) := (blk_cell hd 1).trans rfl
  have hd2 : W.cell? ⟨w.heap.size + 1 + 1 + 1, 2, none⟩ = some (.int .i64 n2) := (blk_cell hd 2).trans rfl
  have hd3 : W.cell? ⟨w.heap.size + 1 + 1 + 1, 3, none⟩ = some (.int .i64 n3) := (blk_cell hd 3).trans rfl
  have hd4 : W.cell? ⟨w.heap.size + 1 + 1 + 1, 4, none⟩ = some (.int .i64 n4) := (blk_cell hd 4).trans rfl
  have hp0 : W.cell? ⟨w.heap.size + 1 + 1, 0, none⟩ = some (.int .i64 0) := (blk_cell HB0.out.p 0).trans rfl
  have hq0 := blk_frozen HB0.out.p 0
  have hp1 : W.cell? ⟨w.heap.size + 1 + 1, 1, none⟩ = some (.string tok) := (blk_cell HB0.out.p 1).trans rfl
  have hq1 := blk_frozen HB0.out.p 1
  have hp2 : W.cell? ⟨w.heap.size + 1 + 1, 2, none⟩ = some (.int .i64 seq) := (blk_cell HB0.out.p 2).trans rfl
  have hq2 := blk_frozen HB0.out.p 2
  have hp3 : W.cell? ⟨w.heap.size + 1 + 1, 3, none⟩ = some (.int .i64 0) := (blk_cell HB0.out.p 3).trans rfl
  have hq3 := blk_frozen HB0.out.p 3
  have hp4 : W.cell? ⟨w.heap.size + 1 + 1, 4, none⟩ = some (.int .i64 0) := (blk_cell HB0.out.p 4).trans rfl
  have hq4 := blk_frozen HB0.out.p 4
  have hp5 : W.cell? ⟨w.heap.size + 1 + 1, 5, none⟩ = some (.int .i64 0) := (blk_cell HB0.out.p 5).trans rfl
  have hq5 := blk_frozen HB0.out.p 5
  have hp6 : W.cell? ⟨w.heap.size + 1 + 1, 6, none⟩ = some (.int .i64 0) := (blk_cell HB0.out.p 6).trans rfl
  have hq6 := blk_frozen HB0.out.p 6
  have hp7 : W.cell? ⟨w.heap.size + 1 + 1, 7, none⟩ = some (.int .i64 0) := (blk_cell HB0.out.p 7).trans rfl
  have hq7 := blk_frozen HB0.out.p 7
  have hp8 : W.cell? ⟨w.heap.size + 1 + 1, 8, none⟩ = some (.int .i64 0) := (blk_cell HB0.out.p 8).trans rfl
  have hq8 := blk_frozen HB0.out.p 8
  have hp9 : W.cell? ⟨w.heap.size + 1 + 1, 9, none⟩ = some (.string ⟨#[]⟩) := (blk_cell HB0.out.p 9).trans rfl
  have hq9 := blk_frozen HB0.out.p 9
  have hp10 : W.cell? ⟨w.heap.size + 1 + 1, 10, none⟩ = some (.string ⟨#[]⟩) := (blk_cell HB0.out.p 10).trans rfl
  have hq10 := blk_frozen HB0.out.p 10
  have hp11 : W.cell? ⟨w.heap.size + 1 + 1, 11, none⟩ = some (.bool false) := (blk_cell HB0.out.p 11).trans rfl
  have hq11 := blk_frozen HB0.out.p 11
  have hp12 : W.cell? ⟨w.heap.size + 1 + 1, 12, none⟩ = some (.bool false) := (blk_cell HB0.out.p 12).trans rfl
  have hq12 := blk_frozen HB0.out.p 12
  clear hW hd h1 h2 h3 h4 h5 h6
  go_region_held3 (fun w' => w'.cell? ⟨w.heap.size + 1 + 1 + 1, 0, none⟩ = some (.int .i64 n0) ∧ w'.cell? ⟨w.heap.size + 1 + 1 + 1, 1, none⟩ = some (.int .i64 n1) ∧ w'.cell? ⟨w.heap.size + 1 + 1 + 1, 2, none⟩ = some (.int .i64 n2) ∧ w'.cell? ⟨w.heap.size + 1 + 1 + 1, 3, none⟩ = some (.int .i64 n3) ∧ w'.cell? ⟨w.heap.size + 1 + 1 + 1, 4, none⟩ = some (.int .i64 n4)) (go_keep) (first | fail)
  go_upto_region 48 with (fail)
  obtain ⟨W2, hW2⟩ : ∃ W2, W2 = (((((((W.setCell ⟨w.heap.size + 1 + 1, 0, none⟩ (.int .i64 6)).setCell ⟨w.heap.size + 1 + 1, 3, none⟩ (.int .i64 n0)).setCell ⟨w.heap.size + 1 + 1, 4, none⟩ (.int .i64 n1)).setCell ⟨w.heap.size + 1 + 1, 5, none⟩ (.int .i64 n2)).setCell ⟨w.heap.size + 1 + 1, 6, none⟩ (.int .i64 n3)).setCell ⟨w.heap.size + 1 + 1, 7, none⟩ (.int .i64 n4)).setCell ⟨w.heap.size + 1 + 1, 8, none⟩ (.int .i64 0)).drew := ⟨_, rfl⟩
  rw [← hW2]
  have HB9 := Aside0.mk (show Backed w W2 #[.int .i64 6, .string tok, .int .i64 seq, .int .i64 n0, .int .i64 n1, .int .i64 n2, .int .i64 n3, .int .i64 n4, .int .i64 0, .string ⟨#[]⟩, .string ⟨#[]⟩, .bool false, .bool false] by
    rw [hW2]
    have h9 := backed_drew (backed_set (backed_set (backed_set (backed_set (backed_set (backed_set (backed_set HB0.out 0 (.int .i64 6)) 3 (.int .i64 n0)) 4 (.int .i64 n1)) 5 (.int .i64 n2)) 6 (.int .i64 n3)) 7 (.int .i64 n4)) 8 (.int .i64 0))
    simp only [List.setIfInBounds_toArray, List.set_cons_zero, List.set_cons_succ] at h9
    exact h9)
  clear hW2 HB0 hp0 hq0 hp1 hq1 hp2 hq2 hp3 hq3 hp4 hq4 hp5 hq5 hp6 hq6 hp7 hq7 hp8 hq8 hp9 hq9 hp10 hq10 hp11 hq11 hp12 hq12 hd0 hd1 hd2 hd3 hd4
  have HP := HB9.out.p
  have HR := HB9.out.r
  refine wp_region_lit ?_
  refine wpList_load_row rfl 41 (.tmp 3) rfl (w.heap.size + 1 + 1) rfl 41 #[.int .i64 6, .string tok, .int .i64 seq, .int .i64 n0, .int .i64 n1, .int .i64 n2, .int .i64 n3, .int .i64 n4, .int .i64 0, .string ⟨#[]⟩, .string ⟨#[]⟩, .bool false, .bool false] (0, 0) _ HP Try.underlying41 rfl info41 ?_
  refine wpList_store_row rfl 41 (.tmp 2) (.tmp 195) rfl (w.heap.size + 1) #[.int .i64 6, .string tok, .int .i64 seq, .int .i64 n0, .int .i64 n1, .int .i64 n2, .int .i64 n3, .int .i64 n4, .int .i64 0, .string ⟨#[]⟩, .string ⟨#[]⟩, .bool false, .bool false] rfl rfl 41 #[.int .i64 0, .string ⟨#[]⟩, .int .i64 0, .int .i64 0, .int .i64 0, .int .i64 0, .int .i64 0, .int .i64 0, .int .i64 0, .string ⟨#[]⟩, .string ⟨#[]⟩, .bool false, .bool false] HR info41 rfl (by simp [Value.oneCell']) ?_
  go_wp2
  refine bodyPost_ret (results_cell_row Try.results21 _ _ (w.heap.size + 1) 41 #[.int .i64 6, .string tok, .int .i64 seq, .int .i64 n0, .int .i64 n1, .int .i64 n2, .int .i64 n3, .int .i64 n4, .int .i64 0, .string ⟨#[]⟩, .string ⟨#[]⟩, .bool false, .bool false] (0, 0) _ rfl (setRow_heap _ _ _ _ _ _ HR) Try.underlying41 rfl info41) rfl ?_
  exact ⟨rfl, grown_setRow HB9.out.grown (by omega) _⟩
set_option maxRecDepth 100000 in
set_option maxHeartbeats 8000000 in
theorem back_7 (tok : ByteArray) (seq : Int) (n0 n1 n2 n3 n4 n5 : Int) (w : World) :
    Calls Try.prog 21 #[.agg #[.string tok, .int .i64 seq, .iface 98 (.agg #[.int .i64 n0, .int .i64 n1, .int .i64 n2, .int .i64 n3, .int .i64 n4, .int .i64 n5])]] w fun e w' => e = .returned (.agg #[.int .i64 7, .string tok, .int .i64 seq, .int .i64 n0, .int .i64 n1, .int .i64 n2, .int .i64 n3, .int .i64 n4, .int .i64 n5, .string ⟨#[]⟩, .string ⟨#[]⟩, .bool false, .bool false]) ∧ w.grownBy w' none := by
  have h1 := fun W => ta1 98 (.agg #[.int .i64 n0, .int .i64 n1, .int .i64 n2, .int .i64 n3, .int .i64 n4, .int .i64 n5]) W (by decide)
  have h2 := fun W => ta2 98 (.agg #[.int .i64 n0, .int .i64 n1, .int .i64 n2, .int .i64 n3, .int .i64 n4, .int .i64 n5]) W (by decide)
  have h3 := fun W => ta3 98 (.agg #[.int .i64 n0, .int .i64 n1, .int .i64 n2, .int .i64 n3, .int .i64 n4, .int .i64 n5]) W (by decide)
  have h4 := fun W => ta4 98 (.agg #[.int .i64 n0, .int .i64 n1, .int .i64 n2, .int .i64 n3, .int .i64 n4, .int .i64 n5]) W (by decide)
  have h5 := fun W => ta5 98 (.agg #[.int .i64 n0, .int .i64 n1, .int .i64 n2, .int .i64 n3, .int .i64 n4, .int .i64 n5]) W (by decide)
  have h6 := fun W => ta6 98 (.agg #[.int .i64 n0, .int .i64 n1, .int .i64 n2, .int .i64 n3, .int .i64 n4, .int .i64 n5]) W (by decide)
  have h7 := te7 (.agg #[.int .i64 n0, .int .i64 n1, .int .i64 n2, .int .i64 n3, .int .i64 n4, .int .i64 n5])
  go_enter Try.func21, Try.ntmps21
  go_upto_region 23 with (fail)
  obtain ⟨W, hW⟩ : ∃ W, W = (((w.alloc (.cells #[.string tok, .int .i64 seq, .iface 98 (.agg #[.int .i64 n0, .int .i64 n1, .int .i64 n2, .int .i64 n3, .int .i64 n4, .int .i64 n5])] 35)).alloc (.cells #[.int .i64 0, .string ⟨#[]⟩, .int .i64 0, .int .i64 0, .int .i64 0, .int .i64 0, .int .i64 0, .int .i64 0, .int .i64 0, .string ⟨#[]⟩, .string ⟨#[]⟩, .bool false, .bool false] 41)).alloc (.cells #[.int .i64 0, .string tok, .int .i64 seq, .int .i64 0, .int .i64 0, .int .i64 0, .int .i64 0, .int .i64 0, .int .i64 0, .string ⟨#[]⟩, .string ⟨#[]⟩, .bool false, .bool false] 41)).alloc (.cells #[.int .i64 n0, .int .i64 n1, .int .i64 n2, .int .i64 n3, .int .i64 n4, .int .i64 n5] 98) := ⟨_, rfl⟩
  rw [← hW]
  have HB0 := Aside0.mk (show Backed w W #[.int .i64 0, .string tok, .int .i64 seq, .int .i64 0, .int .i64 0, .int .i64 0, .int .i64 0, .int .i64 0, .int .i64 0, .string ⟨#[]⟩, .string ⟨#[]⟩, .bool false, .bool false] by rw [hW]; exact backed_new w _ _ _)
  have hd : W.heap[w.heap.size + 1 + 1 + 1]? = some (.cells #[.int .i64 n0, .int .i64 n1, .int .i64 n2, .int .i64 n3, .int .i64 n4, .int .i64 n5] 98 (0, 0)) := by rw [hW]; exact backed_d w _ _ _ _ _
  have hd0 : W.cell? ⟨w.heap.size + 1 + 1 + 1, 0, none⟩ = some (.int .i64 n0) := (blk_cell hd 0).trans rfl
  have hd1 : W.cell? ⟨w.heap.size + 1 + 1 + 1, 1, none⟩ = some (.int .i64 n1) := (blk_cell hd 1).trans rfl
  have hd2 : W.cell? ⟨w.heap.size + 1 + 1 + 1, 2, none⟩ = some (.int .i64 n2) := (blk_cell hd 2).trans rfl
  have hd3 : W.cell? ⟨w.heap.size + 1 + 1 + 1, 3, none⟩ = some (.int .i64 n3) := (blk_cell hd 3).trans rfl
  have hd4 : W.cell? ⟨w.heap.size + 1 + 1 + 1, 4, none⟩ = some (.int .i64 n4) := (blk_cell hd 4).trans rfl
  have hd5 : W.cell? ⟨w.heap.size + 1 + 1 + 1, 5, none⟩ = some (.int .i64 n5) := (blk_cell hd 5).trans rfl
  have hp0 : W.cell? ⟨w.heap.size + 1 + 1, 0, none⟩ = some (.int .i64 0) := (blk_cell HB0.out.p 0).trans rfl
  have hq0 := blk_frozen HB0.out.p 0
  have hp1 : W.cell? ⟨w.heap.size + 1 + 1, 1, none⟩ = some (.string tok) := (blk_cell HB0.out.p 1).trans rfl
  have hq1 := blk_frozen HB0.out.p 1
  have hp2 : W.cell? ⟨w.heap.size + 1 + 1, 2, none⟩ = some (.int .i64 seq) := (blk_cell HB0.out.p 2).trans rfl
  have hq2 := blk_frozen HB0.out.p 2
  have hp3 : W.cell? ⟨w.heap.size + 1 + 1, 3, none⟩ = some (.int .i64 0) := (blk_cell HB0.out.p 3).trans rfl
  have hq3 := blk_frozen HB0.out.p 3
  have hp4 : W.cell? ⟨w.heap.size + 1 + 1, 4, none⟩ = some (.int .i64 0) := (blk_cell HB0.out.p 4).trans rfl
  have hq4 := blk_frozen HB0.out.p 4
  have hp5 : W.cell? ⟨w.heap.size + 1 + 1, 5, none⟩ = some (.int .i64 0) := (blk_cell HB0.out.p 5).trans rfl
  have hq5 := blk_frozen HB0.out.p 5
  have hp6 : W.cell? ⟨w.heap.size + 1 + 1, 6, none⟩ = some (.int .i64 0) := (blk_cell HB0.out.p 6).trans rfl
  have hq6 := blk_frozen HB0.out.p 6
  have hp7 : W.cell? ⟨w.heap.size + 1 + 1, 7, none⟩ = some (.int .i64 0) := (blk_cell HB0.out.p 7).trans rfl
  have hq7 := blk_frozen HB0.out.p 7
  have hp8 : W.cell? ⟨w.heap.size + 1 + 1, 8, none⟩ = some (.int .i64 0) := (blk_cell HB0.out.p 8).trans rfl
  have hq8 := blk_frozen HB0.out.p 8
  have hp9 : W.cell? ⟨w.heap.size + 1 + 1, 9, none⟩ = some (.string ⟨#[]⟩) := (blk_cell HB0.out.p 9).trans rfl
  have hq9 := blk_frozen HB0.out.p 9
  have hp10 : W.cell? ⟨w.heap.size + 1 + 1, 10, none⟩ = some (.string ⟨#[]⟩) := (blk_cell HB0.out.p 10).trans rfl
  have hq10 := blk_frozen HB0.out.p 10
  have hp11 : W.cell? ⟨w.heap.size + 1 + 1, 11, none⟩ = some (.bool false) := (blk_cell HB0.out.p 11).trans rfl
  have hq11 := blk_frozen HB0.out.p 11
  have hp12 : W.cell? ⟨w.heap.size + 1 + 1, 12, none⟩ = some (.bool false) := (blk_cell HB0.out.p 12).trans rfl
  have hq12 := blk_frozen HB0.out.p 12
  clear hW hd h1 h2 h3 h4 h5 h6 h7
  go_region_held3 (fun w' => w'.cell? ⟨w.heap.size + 1 + 1 + 1, 0, none⟩ = some (.int .i64 n0) ∧ w'.cell? ⟨w.heap.size + 1 + 1 + 1, 1, none⟩ = some (.int .i64 n1) ∧ w'.cell? ⟨w.heap.size + 1 + 1 + 1, 2, none⟩ = some (.int .i64 n2) ∧ w'.cell? ⟨w.heap.size + 1 + 1 + 1, 3, none⟩ = some (.int .i64 n3) ∧ w'.cell? ⟨w.heap.size + 1 + 1 + 1, 4, none⟩ = some (.int .i64 n4) ∧ w'.cell? ⟨w.heap.size + 1 + 1 + 1, 5, none⟩ = some (.int .i64 n5)) (go_keep) (first | fail)
  go_upto_region 48 with (fail)
  obtain ⟨W2, hW2⟩ : ∃ W2, W2 = (((((((W.setCell ⟨w.heap.size + 1 + 1, 0, none⟩ (.int .i64 7)).setCell ⟨w.heap.size + 1 + 1, 3, none⟩ (.int .i64 n0)).setCell ⟨w.heap.size + 1 + 1, 4, none⟩ (.int .i64 n1)).setCell ⟨w.heap.size + 1 + 1, 5, none⟩ (.int .i64 n2)).setCell ⟨w.heap.size + 1 + 1, 6, none⟩ (.int .i64 n3)).setCell ⟨w.heap.size + 1 + 1, 7, none⟩ (.int .i64 n4)).setCell ⟨w.heap.size + 1 + 1, 8, none⟩ (.int .i64 n5)).drew := ⟨_, rfl⟩
  rw [← hW2]
  have HB9 := Aside0.mk (show Backed w W2 #[.int .i64 7, .string tok, .int .i64 seq, .int .i64 n0, .int .i64 n1, .int .i64 n2, .int .i64 n3, .int .i64 n4, .int .i64 n5, .string ⟨#[]⟩, .string ⟨#[]⟩, .bool false, .bool false] by
    rw [hW2]
    have h9 := backed_drew (backed_set (backed_set (backed_set (backed_set (backed_set (backed_set (backed_set HB0.out 0 (.int .i64 7)) 3 (.int .i64 n0)) 4 (.int .i64 n1)) 5 (.int .i64 n2)) 6 (.int .i64 n3)) 7 (.int .i64 n4)) 8 (.int .i64 n5))
    simp only [List.setIfInBounds_toArray, List.set_cons_zero, List.set_cons_succ] at h9
    exact h9)
  clear hW2 HB0 hp0 hq0 hp1 hq1 hp2 hq2 hp3 hq3 hp4 hq4 hp5 hq5 hp6 hq6 hp7 hq7 hp8 hq8 hp9 hq9 hp10 hq10 hp11 hq11 hp12 hq12 hd0 hd1 hd2 hd3 hd4 hd5
  have HP := HB9.out.p
  have HR := HB9.out.r
  refine wp_region_lit ?_
  refine wpList_load_row rfl 41 (.tmp 3) rfl (w.heap.size + 1 + 1) rfl 41 #[.int .i64 7, .string tok, .int .i64 seq, .int .i64 n0, .int .i64 n1, .int .i64 n2, .int .i64 n3, .int .i64 n4, .int .i64 n5, .string ⟨#[]⟩, .string ⟨#[]⟩, .bool false, .bool false] (0, 0) _ HP Try.underlying41 rfl info41 ?_
  refine wpList_store_row rfl 41 (.tmp 2) (.tmp 195) rfl (w.heap.size + 1) #[.int .i64 7, .string tok, .int .i64 seq, .int .i64 n0, .int .i64 n1, .int .i64 n2, .int .i64 n3, .int .i64 n4, .int .i64 n5, .string ⟨#[]⟩, .string ⟨#[]⟩, .bool false, .bool false] rfl rfl 41 #[.int .i64 0, .string ⟨#[]⟩, .int .i64 0, .int .i64 0, .int .i64 0, .int .i64 0, .int .i64 0, .int .i64 0, .int .i64 0, .string ⟨#[]⟩, .string ⟨#[]⟩, .bool false, .bool false] HR info41 rfl (by simp [Value.oneCell']) ?_
  go_wp2
  refine bodyPost_ret (results_cell_row Try.results21 _ _ (w.heap.size + 1) 41 #[.int .i64 7, .string tok, .int .i64 seq, .int .i64 n0, .int .i64 n1, .int .i64 n2, .int .i64 n3, .int .i64 n4, .int .i64 n5, .string ⟨#[]⟩, .string ⟨#[]⟩, .bool false, .bool false] (0, 0) _ rfl (setRow_heap _ _ _ _ _ _ HR) Try.underlying41 rfl info41) rfl ?_
  exact ⟨rfl, grown_setRow HB9.out.grown (by omega) _⟩
set_option maxRecDepth 100000 in
set_option maxHeartbeats 8000000 in
theorem back_8 (tok : ByteArray) (seq : Int) (n0 : Int) (w : World) :
    Calls Try.prog 21 #[.agg #[.string tok, .int .i64 seq, .iface 100 (.agg #[.int .i64 n0])]] w fun e w' => e = .returned (.agg #[.int .i64 8, .string tok, .int .i64 seq, .int .i64 n0, .int .i64 0, .int .i64 0, .int .i64 0, .int .i64 0, .int .i64 0, .string ⟨#[]⟩, .string ⟨#[]⟩, .bool false, .bool false]) ∧ w.grownBy w' none := by
  have h1 := fun W => ta1 100 (.agg #[.int .i64 n0]) W (by decide)
  have h2 := fun W => ta2 100 (.agg #[.int .i64 n0]) W (by decide)
  have h3 := fun W => ta3 100 (.agg #[.int .i64 n0]) W (by decide)
  have h4 := fun W => ta4 100 (.agg #[.int .i64 n0]) W (by decide)
  have h5 := fun W => ta5 100 (.agg #[.int .i64 n0]) W (by decide)
  have h6 := fun W => ta6 100 (.agg #[.int .i64 n0]) W (by decide)
  have h7 := fun W => ta7 100 (.agg #[.int .i64 n0]) W (by decide)
  have h8 := te8 (.agg #[.int .i64 n0])
  go_enter Try.func21, Try.ntmps21
  go_upto_region 26 with (fail)
  obtain ⟨W, hW⟩ : ∃ W, W = (((w.alloc (.cells #[.string tok, .int .i64 seq, .iface 100 (.agg #[.int .i64 n0])] 35)).alloc (.cells #[.int .i64 0, .string ⟨#[]⟩, .int .i64 0, .int .i64 0, .int .i64 0, .int .i64 0, .int .i64 0, .int .i64 0, .int .i64 0, .string ⟨#[]⟩, .string ⟨#[]⟩, .bool false, .bool false] 41)).alloc (.cells #[.int .i64 0, .string tok, .int .i64 seq, .int .i64 0, .int .i64 0, .int .i64 0, .int .i64 0, .int .i64 0, .int .i64 0, .string ⟨#[]⟩, .string ⟨#[]⟩, .bool false, .bool false] 41)).alloc (.cells #[.int .i64 n0] 100) := ⟨_, rfl⟩
  rw [← hW]
  have HB0 := Aside0.mk (show Backed w W #[.int .i64 0, .string tok, .int .i64 seq, .int .i64 0, .int .i64 0, .int .i64 0, .int .i64 0, .int .i64 0, .int .i64 0, .string ⟨#[]⟩, .string ⟨#[]⟩, .bool false, .bool false] by rw [hW]; exact backed_new w _ _ _)
  have hd : W.heap[w.heap.size + 1 + 1 + 1]? = some (.cells #[.int .i64 n0] 100 (0, 0)) := by rw [hW]; exact backed_d w _ _ _ _ _
  have hd0 : W.cell? ⟨w.heap.size + 1 + 1 + 1, 0, none⟩ = some (.int .i64 n0) := (blk_cell hd 0).trans rfl
  have hp0 : W.cell? ⟨w.heap.size + 1 + 1, 0, none⟩ = some (.int .i64 0) := (blk_cell HB0.out.p 0).trans rfl
  have hq0 := blk_frozen HB0.out.p 0
  have hp1 : W.cell? ⟨w.heap.size + 1 + 1, 1, none⟩ = some (.string tok) := (blk_cell HB0.out.p 1).trans rfl
  have hq1 := blk_frozen HB0.out.p 1
  have hp2 : W.cell? ⟨w.heap.size + 1 + 1, 2, none⟩ = some (.int .i64 seq) := (blk_cell HB0.out.p 2).trans rfl
  have hq2 := blk_frozen HB0.out.p 2
  have hp3 : W.cell? ⟨w.heap.size + 1 + 1, 3, none⟩ = some (.int .i64 0) := (blk_cell HB0.out.p 3).trans rfl
  have hq3 := blk_frozen HB0.out.p 3
  have hp4 : W.cell? ⟨w.heap.size + 1 + 1, 4, none⟩ = some (.int .i64 0) := (blk_cell HB0.out.p 4).trans rfl
  have hq4 := blk_frozen HB0.out.p 4
  have hp5 : W.cell? ⟨w.heap.size + 1 + 1, 5, none⟩ = some (.int .i64 0) := (blk_cell HB0.out.p 5).trans rfl
  have hq5 := blk_frozen HB0.out.p 5
  have hp6 : W.cell? ⟨w.heap.size + 1 + 1, 6, none⟩ = some (.int .i64 0) := (blk_cell HB0.out.p 6).trans rfl
  have hq6 := blk_frozen HB0.out.p 6
  have hp7 : W.cell? ⟨w.heap.size + 1 + 1, 7, none⟩ = some (.int .i64 0) := (blk_cell HB0.out.p 7).trans rfl
  have hq7 := blk_frozen HB0.out.p 7
  have hp8 : W.cell? ⟨w.heap.size + 1 + 1, 8, none⟩ = some (.int .i64 0) := (blk_cell HB0.out.p 8).trans rfl
  have hq8 := blk_frozen HB0.out.p 8
  have hp9 : W.cell? ⟨w.heap.size + 1 + 1, 9, none⟩ = some (.string ⟨#[]⟩) := (blk_cell HB0.out.p 9).trans rfl
  have hq9 := blk_frozen HB0.out.p 9
  have hp10 : W.cell? ⟨w.heap.size + 1 + 1, 10, none⟩ = some (.string ⟨#[]⟩) := (blk_cell HB0.out.p 10).trans rfl
  have hq10 := blk_frozen HB0.out.p 10
  have hp11 : W.cell? ⟨w.heap.size + 1 + 1, 11, none⟩ = some (.bool false) := (blk_cell HB0.out.p 11).trans rfl
  have hq11 := blk_frozen HB0.out.p 11
  have hp12 : W.cell? ⟨w.heap.size + 1 + 1, 12, none⟩ = some (.bool false) := (blk_cell HB0.out.p 12).trans rfl
  have hq12 := blk_frozen HB0.out.p 12
  clear hW hd h1 h2 h3 h4 h5 h6 h7 h8
  go_region_held3 (fun w' => w'.cell? ⟨w.heap.size + 1 + 1 + 1, 0, none⟩ = some (.int .i64 n0)) (go_keep) (first | fail)
  go_upto_region 48 with (fail)
  obtain ⟨W2, hW2⟩ : ∃ W2, W2 = (((((((W.setCell ⟨w.heap.size + 1 + 1, 0, none⟩ (.int .i64 8)).setCell ⟨w.heap.size + 1 + 1, 3, none⟩ (.int .i64 n0)).setCell ⟨w.heap.size + 1 + 1, 4, none⟩ (.int .i64 0)).setCell ⟨w.heap.size + 1 + 1, 5, none⟩ (.int .i64 0)).setCell ⟨w.heap.size + 1 + 1, 6, none⟩ (.int .i64 0)).setCell ⟨w.heap.size + 1 + 1, 7, none⟩ (.int .i64 0)).setCell ⟨w.heap.size + 1 + 1, 8, none⟩ (.int .i64 0)).drew := ⟨_, rfl⟩
  rw [← hW2]
  have HB9 := Aside0.mk (show Backed w W2 #[.int .i64 8, .string tok, .int .i64 seq, .int .i64 n0, .int .i64 0, .int .i64 0, .int .i64 0, .int .i64 0, .int .i64 0, .string ⟨#[]⟩, .string ⟨#[]⟩, .bool false, .bool false] by
    rw [hW2]
    have h9 := backed_drew (backed_set (backed_set (backed_set (backed_set (backed_set (backed_set (backed_set HB0.out 0 (.int .i64 8)) 3 (.int .i64 n0)) 4 (.int .i64 0)) 5 (.int .i64 0)) 6 (.int .i64 0)) 7 (.int .i64 0)) 8 (.int .i64 0))
    simp only [List.setIfInBounds_toArray, List.set_cons_zero, List.set_cons_succ] at h9
    exact h9)
  clear hW2 HB0 hp0 hq0 hp1 hq1 hp2 hq2 hp3 hq3 hp4 hq4 hp5 hq5 hp6 hq6 hp7 hq7 hp8 hq8 hp9 hq9 hp10 hq10 hp11 hq11 hp12 hq12 hd0
  have HP := HB9.out.p
  have HR := HB9.out.r
  refine wp_region_lit ?_
  refine wpList_load_row rfl 41 (.tmp 3) rfl (w.heap.size + 1 + 1) rfl 41 #[.int .i64 8, .string tok, .int .i64 seq, .int .i64 n0, .int .i64 0, .int .i64 0, .int .i64 0, .int .i64 0, .int .i64 0, .string ⟨#[]⟩, .string ⟨#[]⟩, .bool false, .bool false] (0, 0) _ HP Try.underlying41 rfl info41 ?_
  refine wpList_store_row rfl 41 (.tmp 2) (.tmp 195) rfl (w.heap.size + 1) #[.int .i64 8, .string tok, .int .i64 seq, .int .i64 n0, .int .i64 0, .int .i64 0, .int .i64 0, .int .i64 0, .int .i64 0, .string ⟨#[]⟩, .string ⟨#[]⟩, .bool false, .bool false] rfl rfl 41 #[.int .i64 0, .string ⟨#[]⟩, .int .i64 0, .int .i64 0, .int .i64 0, .int .i64 0, .int .i64 0, .int .i64 0, .int .i64 0, .string ⟨#[]⟩, .string ⟨#[]⟩, .bool false, .bool false] HR info41 rfl (by simp [Value.oneCell']) ?_
  go_wp2
  refine bodyPost_ret (results_cell_row Try.results21 _ _ (w.heap.size + 1) 41 #[.int .i64 8, .string tok, .int .i64 seq, .int .i64 n0, .int .i64 0, .int .i64 0, .int .i64 0, .int .i64 0, .int .i64 0, .string ⟨#[]⟩, .string ⟨#[]⟩, .bool false, .bool false] (0, 0) _ rfl (setRow_heap _ _ _ _ _ _ HR) Try.underlying41 rfl info41) rfl ?_
  exact ⟨rfl, grown_setRow HB9.out.grown (by omega) _⟩
set_option maxRecDepth 100000 in
set_option maxHeartbeats 8000000 in
theorem back_9 (tok : ByteArray) (seq : Int) (n0 : Int) (w : World) :
    Calls Try.prog 21 #[.agg #[.string tok, .int .i64 seq, .iface 101 (.agg #[.int .i64 n0])]] w fun e w' => e = .returned (.agg #[.int .i64 9, .string tok, .int .i64 seq, .int .i64 n0, .int .i64 0, .int .i64 0, .int .i64 0, .int .i64 0, .int .i64 0, .string ⟨#[]⟩, .string ⟨#[]⟩, .bool false, .bool false]) ∧ w.grownBy w' none := by
  have h1 := fun W => ta1 101 (.agg #[.int .i64 n0]) W (by decide)
  have h2 := fun W => ta2 101 (.agg #[.int .i64 n0]) W (by decide)
  have h3 := fun W => ta3 101 (.agg #[.int .i64 n0]) W (by decide)
  have h4 := fun W => ta4 101 (.agg #[.int .i64 n0]) W (by decide)
  have h5 := fun W => ta5 101 (.agg #[.int .i64 n0]) W (by decide)
  have h6 := fun W => ta6 101 (.agg #[.int .i64 n0]) W (by decide)
  have h7 := fun W => ta7 101 (.agg #[.int .i64 n0]) W (by decide)
  have h8 := fun W => ta8 101 (.agg #[.int .i64 n0]) W (by decide)
  have h9 := te9 (.agg #[.int .i64 n0])
  go_enter Try.func21, Try.ntmps21
  go_upto_region 29 with (fail)
  obtain ⟨W, hW⟩ : ∃ W, W = (((w.alloc (.cells #[.string tok, .int .i64 seq, .iface 101 (.agg #[.int .i64 n0])] 35)).alloc (.cells #[.int .i64 0, .string ⟨#[]⟩, .int .i64 0, .int .i64 0, .int .i64 0, .int .i64 0, .int .i64 0, .int .i64 0, .int .i64 0, .string ⟨#[]⟩, .string ⟨#[]⟩, .bool false, .bool false] 41)).alloc (.cells #[.int .i64 0, .string tok, .int .i64 seq, .int .i64 0, .int .i64 0, .int .i64 0, .int .i64 0, .int .i64 0, .int .i64 0, .string ⟨#[]⟩, .string ⟨#[]⟩, .bool false, .bool false] 41)).alloc (.cells #[.int .i64 n0] 101) := ⟨_, rfl⟩
  rw [← hW]
  have HB0 := Aside0.mk (show Backed w W #[.int .i64 0, .string tok, .int .i64 seq, .int .i64 0, .int .i64 0, .int .i64 0, .int .i64 0, .int .i64 0, .int .i64 0, .string ⟨#[]⟩, .string ⟨#[]⟩, .bool false, .bool false] by rw [hW]; exact backed_new w _ _ _)
  have hd : W.heap[w.heap.size + 1 + 1 + 1]? = some (.cells #[.int .i64 n0] 101 (0, 0)) := by rw [hW]; exact backed_d w _ _ _ _ _
  have hd0 : W.cell? ⟨w.heap.size + 1 + 1 + 1, 0, none⟩ = some (.int .i64 n0) := (blk_cell hd 0).trans rfl
  have hp0 : W.cell? ⟨w.heap.size + 1 + 1, 0, none⟩ = some (.int .i64 0) := (blk_cell HB0.out.p 0).trans rfl
  have hq0 := blk_frozen HB0.out.p 0
  have hp1 : W.cell? ⟨w.heap.size + 1 + 1, 1, none⟩ = some (.string tok) := (blk_cell HB0.out.p 1).trans rfl
  have hq1 := blk_frozen HB0.out.p 1
  have hp2 : W.cell? ⟨w.heap.size + 1 + 1, 2, none⟩ = some (.int .i64 seq) := (blk_cell HB0.out.p 2).trans rfl
  have hq2 := blk_frozen HB0.out.p 2
  have hp3 : W.cell? ⟨w.heap.size + 1 + 1, 3, none⟩ = some (.int .i64 0) := (blk_cell HB0.out.p 3).trans rfl
  have hq3 := blk_frozen HB0.out.p 3
  have hp4 : W.cell? ⟨w.heap.size + 1 + 1, 4, none⟩ = some (.int .i64 0) := (blk_cell HB0.out.p 4).trans rfl
  have hq4 := blk_frozen HB0.out.p 4
  have hp5 : W.cell? ⟨w.heap.size + 1 + 1, 5, none⟩ = some (.int .i64 0) := (blk_cell HB0.out.p 5).trans rfl
  have hq5 := blk_frozen HB0.out.p 5
  have hp6 : W.cell? ⟨w.heap.size + 1 + 1, 6, none⟩ = some (.int .i64 0) := (blk_cell HB0.out.p 6).trans rfl
  have hq6 := blk_frozen HB0.out.p 6
  have hp7 : W.cell? ⟨w.heap.size + 1 + 1, 7, none⟩ = some (.int .i64 0) := (blk_cell HB0.out.p 7).trans rfl
  have hq7 := blk_frozen HB0.out.p 7
  have hp8 : W.cell? ⟨w.heap.size + 1 + 1, 8, none⟩ = some (.int .i64 0) := (blk_cell HB0.out.p 8).trans rfl
  have hq8 := blk_frozen HB0.out.p 8
  have hp9 : W.cell? ⟨w.heap.size + 1 + 1, 9, none⟩ = some (.string ⟨#[]⟩) := (blk_cell HB0.out.p 9).trans rfl
  have hq9 := blk_frozen HB0.out.p 9
  have hp10 : W.cell? ⟨w.heap.size + 1 + 1, 10, none⟩ = some (.string ⟨#[]⟩) := (blk_cell HB0.out.p 10).trans rfl
  have hq10 := blk_frozen HB0.out.p 10
  have hp11 : W.cell? ⟨w.heap.size + 1 + 1, 11, none⟩ = some (.bool false) := (blk_cell HB0.out.p 11).trans rfl
  have hq11 := blk_frozen HB0.out.p 11
  have hp12 : W.cell? ⟨w.heap.size + 1 + 1, 12, none⟩ = some (.bool false) := (blk_cell HB0.out.p 12).trans rfl
  have hq12 := blk_frozen HB0.out.p 12
  clear hW hd h1 h2 h3 h4 h5 h6 h7 h8 h9
  go_region_held3 (fun w' => w'.cell? ⟨w.heap.size + 1 + 1 + 1, 0, none⟩ = some (.int .i64 n0)) (go_keep) (first | fail)
  go_upto_region 48 with (fail)
  obtain ⟨W2, hW2⟩ : ∃ W2, W2 = (((((((W.setCell ⟨w.heap.size + 1 + 1, 0, none⟩ (.int .i64 9)).setCell ⟨w.heap.size + 1 + 1, 3, none⟩ (.int .i64 n0)).setCell ⟨w.heap.size + 1 + 1, 4, none⟩ (.int .i64 0)).setCell ⟨w.heap.size + 1 + 1, 5, none⟩ (.int .i64 0)).setCell ⟨w.heap.size + 1 + 1, 6, none⟩ (.int .i64 0)).setCell ⟨w.heap.size + 1 + 1, 7, none⟩ (.int .i64 0)).setCell ⟨w.heap.size + 1 + 1, 8, none⟩ (.int .i64 0)).drew := ⟨_, rfl⟩
  rw [← hW2]
  have HB9 := Aside0.mk (show Backed w W2 #[.int .i64 9, .string tok, .int .i64 seq, .int .i64 n0, .int .i64 0, .int .i64 0, .int .i64 0, .int .i64 0, .int .i64 0, .string ⟨#[]⟩, .string ⟨#[]⟩, .bool false, .bool false] by
    rw [hW2]
    have h9 := backed_drew (backed_set (backed_set (backed_set (backed_set (backed_set (backed_set (backed_set HB0.out 0 (.int .i64 9)) 3 (.int .i64 n0)) 4 (.int .i64 0)) 5 (.int .i64 0)) 6 (.int .i64 0)) 7 (.int .i64 0)) 8 (.int .i64 0))
    simp only [List.setIfInBounds_toArray, List.set_cons_zero, List.set_cons_succ] at h9
    exact h9)
  clear hW2 HB0 hp0 hq0 hp1 hq1 hp2 hq2 hp3 hq3 hp4 hq4 hp5 hq5 hp6 hq6 hp7 hq7 hp8 hq8 hp9 hq9 hp10 hq10 hp11 hq11 hp12 hq12 hd0
  have HP := HB9.out.p
  have HR := HB9.out.r
  refine wp_region_lit ?_
  refine wpList_load_row rfl 41 (.tmp 3) rfl (w.heap.size + 1 + 1) rfl 41 #[.int .i64 9, .string tok, .int .i64 seq, .int .i64 n0, .int .i64 0, .int .i64 0, .int .i64 0, .int .i64 0, .int .i64 0, .string ⟨#[]⟩, .string ⟨#[]⟩, .bool false, .bool false] (0, 0) _ HP Try.underlying41 rfl info41 ?_
  refine wpList_store_row rfl 41 (.tmp 2) (.tmp 195) rfl (w.heap.size + 1) #[.int .i64 9, .string tok, .int .i64 seq, .int .i64 n0, .int .i64 0, .int .i64 0, .int .i64 0, .int .i64 0, .int .i64 0, .string ⟨#[]⟩, .string ⟨#[]⟩, .bool false, .bool false] rfl rfl 41 #[.int .i64 0, .string ⟨#[]⟩, .int .i64 0, .int .i64 0, .int .i64 0, .int .i64 0, .int .i64 0, .int .i64 0, .int .i64 0, .string ⟨#[]⟩, .string ⟨#[]⟩, .bool false, .bool false] HR info41 rfl (by simp [Value.oneCell']) ?_
  go_wp2
  refine bodyPost_ret (results_cell_row Try.results21 _ _ (w.heap.size + 1) 41 #[.int .i64 9, .string tok, .int .i64 seq, .int .i64 n0, .int .i64 0, .int .i64 0, .int .i64 0, .int .i64 0, .int .i64 0, .string ⟨#[]⟩, .string ⟨#[]⟩, .bool false, .bool false] (0, 0) _ rfl (setRow_heap _ _ _ _ _ _ HR) Try.underlying41 rfl info41) rfl ?_
  exact ⟨rfl, grown_setRow HB9.out.grown (by omega) _⟩
set_option maxRecDepth 100000 in
set_option maxHeartbeats 8000000 in
theorem back_10 (tok : ByteArray) (seq : Int) (n0 : Int) (w : World) :
    Calls Try.prog 21 #[.agg #[.string tok, .int .i64 seq, .iface 102 (.agg #[.int .i64 n0])]] w fun e w' => e = .returned (.agg #[.int .i64 10, .string tok, .int .i64 seq, .int .i64 n0, .int .i64 0, .int .i64 0, .int .i64 0, .int .i64 0, .int .i64 0, .string ⟨#[]⟩, .string ⟨#[]⟩, .bool false, .bool false]) ∧ w.grownBy w' none := by
  have h1 := fun W => ta1 102 (.agg #[.int .i64 n0]) W (by decide)
  have h2 := fun W => ta2 102 (.agg #[.int .i64 n0]) W (by decide)
  have h3 := fun W => ta3 102 (.agg #[.int .i64 n0]) W (by decide)
  have h4 := fun W => ta4 102 (.agg #[.int .i64 n0]) W (by decide)
  have h5 := fun W => ta5 102 (.agg #[.int .i64 n0]) W (by decide)
  have h6 := fun W => ta6 102 (.agg #[.int .i64 n0]) W (by decide)
  have h7 := fun W => ta7 102 (.agg #[.int .i64 n0]) W (by decide)
  have h8 := fun W => ta8 102 (.agg #[.int .i64 n0]) W (by decide)
  have h9 := fun W => ta9 102 (.agg #[.int .i64 n0]) W (by decide)
  have h10 := te10 (.agg #[.int .i64 n0])
  go_enter Try.func21, Try.ntmps21
  go_upto_region 32 with (fail)
  obtain ⟨W, hW⟩ : ∃ W, W = (((w.alloc (.cells #[.string tok, .int .i64 seq, .iface 102 (.agg #[.int .i64 n0])] 35)).alloc (.cells #[.int .i64 0, .string ⟨#[]⟩, .int .i64 0, .int .i64 0, .int .i64 0, .int .i64 0, .int .i64 0, .int .i64 0, .int .i64 0, .string ⟨#[]⟩, .string ⟨#[]⟩, .bool false, .bool false] 41)).alloc (.cells #[.int .i64 0, .string tok, .int .i64 seq, .int .i64 0, .int .i64 0, .int .i64 0, .int .i64 0, .int .i64 0, .int .i64 0, .string ⟨#[]⟩, .string ⟨#[]⟩, .bool false, .bool false] 41)).alloc (.cells #[.int .i64 n0] 102) := ⟨_, rfl⟩
  rw [← hW]
  have HB0 := Aside0.mk (show Backed w W #[.int .i64 0, .string tok, .int .i64 seq, .int .i64 0, .int .i64 0, .int .i64 0, .int .i64 0, .int .i64 0, .int .i64 0, .string ⟨#[]⟩, .string ⟨#[]⟩, .bool false, .bool false] by rw [hW]; exact backed_new w _ _ _)
  have hd : W.heap[w.heap.size + 1 + 1 + 1]? = some (.cells #[.int .i64 n0] 102 (0, 0)) := by rw [hW]; exact backed_d w _ _ _ _ _
  have hd0 : W.cell? ⟨w.heap.size + 1 + 1 + 1, 0, none⟩ = some (.int .i64 n0) := (blk_cell hd 0).trans rfl
  have hp0 : W.cell? ⟨w.heap.size + 1 + 1, 0, none⟩ = some (.int .i64 0) := (blk_cell HB0.out.p 0).trans rfl
  have hq0 := blk_frozen HB0.out.p 0
  have hp1 : W.cell? ⟨w.heap.size + 1 + 1, 1, none⟩ = some (.string tok) := (blk_cell HB0.out.p 1).trans rfl
  have hq1 := blk_frozen HB0.out.p 1
  have hp2 : W.cell? ⟨w.heap.size + 1 + 1, 2, none⟩ = some (.int .i64 seq) := (blk_cell HB0.out.p 2).trans rfl
  have hq2 := blk_frozen HB0.out.p 2
  have hp3 : W.cell? ⟨w.heap.size + 1 + 1, 3, none⟩ = some (.int .i64 0) := (blk_cell HB0.out.p 3).trans rfl
  have hq3 := blk_frozen HB0.out.p 3
  have hp4 : W.cell? ⟨w.heap.size + 1 + 1, 4, none⟩ = some (.int .i64 0) := (blk_cell HB0.out.p 4).trans rfl
  have hq4 := blk_frozen HB0.out.p 4
  have hp5 : W.cell? ⟨w.heap.size + 1 + 1, 5, none⟩ = some (.int .i64 0) := (blk_cell HB0.out.p 5).trans rfl
  have hq5 := blk_frozen HB0.out.p 5
  have hp6 : W.cell? ⟨w.heap.size + 1 + 1, 6, none⟩ = some (.int .i64 0) := (blk_cell HB0.out.p 6).trans rfl
  have hq6 := blk_frozen HB0.out.p 6
  have hp7 : W.cell? ⟨w.heap.size + 1 + 1, 7, none⟩ = some (.int .i64 0) := (blk_cell HB0.out.p 7).trans rfl
  have hq7 := blk_frozen HB0.out.p 7
  have hp8 : W.cell? ⟨w.heap.size + 1 + 1, 8, none⟩ = some (.int .i64 0) := (blk_cell HB0.out.p 8).trans rfl
  have hq8 := blk_frozen HB0.out.p 8
  have hp9 : W.cell? ⟨w.heap.size + 1 + 1, 9, none⟩ = some (.string ⟨#[]⟩) := (blk_cell HB0.out.p 9).trans rfl
  have hq9 := blk_frozen HB0.out.p 9
  have hp10 : W.cell? ⟨w.heap.size + 1 + 1, 10, none⟩ = some (.string ⟨#[]⟩) := (blk_cell HB0.out.p 10).trans rfl
  have hq10 := blk_frozen HB0.out.p 10
  have hp11 : W.cell? ⟨w.heap.size + 1 + 1, 11, none⟩ = some (.bool false) := (blk_cell HB0.out.p 11).trans rfl
  have hq11 := blk_frozen HB0.out.p 11
  have hp12 : W.cell? ⟨w.heap.size + 1 + 1, 12, none⟩ = some (.bool false) := (blk_cell HB0.out.p 12).trans rfl
  have hq12 := blk_frozen HB0.out.p 12
  clear hW hd h1 h2 h3 h4 h5 h6 h7 h8 h9 h10
  go_region_held3 (fun w' => w'.cell? ⟨w.heap.size + 1 + 1 + 1, 0, none⟩ = some (.int .i64 n0)) (go_keep) (first | fail)
  go_upto_region 48 with (fail)
  obtain ⟨W2, hW2⟩ : ∃ W2, W2 = (((((((W.setCell ⟨w.heap.size + 1 + 1, 0, none⟩ (.int .i64 10)).setCell ⟨w.heap.size + 1 + 1, 3, none⟩ (.int .i64 n0)).setCell ⟨w.heap.size + 1 + 1, 4, none⟩ (.int .i64 0)).setCell ⟨w.heap.size + 1 + 1, 5, none⟩ (.int .i64 0)).setCell ⟨w.heap.size + 1 + 1, 6, none⟩ (.int .i64 0)).setCell ⟨w.heap.size + 1 + 1, 7, none⟩ (.int .i64 0)).setCell ⟨w.heap.size + 1 + 1, 8, none⟩ (.int .i64 0)).drew := ⟨_, rfl⟩
  rw [← hW2]
  have HB9 := Aside0.mk (show Backed w W2 #[.int .i64 10, .string tok, .int .i64 seq, .int .i64 n0, .int .i64 0, .int .i64 0, .int .i64 0, .int .i64 0, .int .i64 0, .string ⟨#[]⟩, .string ⟨#[]⟩, .bool false, .bool false] by
    rw [hW2]
    have h9 := backed_drew (backed_set (backed_set (backed_set (backed_set (backed_set (backed_set (backed_set HB0.out 0 (.int .i64 10)) 3 (.int .i64 n0)) 4 (.int .i64 0)) 5 (.int .i64 0)) 6 (.int .i64 0)) 7 (.int .i64 0)) 8 (.int .i64 0))
    simp only [List.setIfInBounds_toArray, List.set_cons_zero, List.set_cons_succ] at h9
    exact h9)
  clear hW2 HB0 hp0 hq0 hp1 hq1 hp2 hq2 hp3 hq3 hp4 hq4 hp5 hq5 hp6 hq6 hp7 hq7 hp8 hq8 hp9 hq9 hp10 hq10 hp11 hq11 hp12 hq12 hd0
  have HP := HB9.out.p
  have HR := HB9.out.r
  refine wp_region_lit ?_
  refine wpList_load_row rfl 41 (.tmp 3) rfl (w.heap.size + 1 + 1) rfl 41 #[.int .i64 10, .string tok, .int .i64 seq, .int .i64 n0, .int .i64 0, .int .i64 0, .int .i64 0, .int .i64 0, .int .i64 0, .string ⟨#[]⟩, .string ⟨#[]⟩, .bool false, .bool false] (0, 0) _ HP Try.underlying41 rfl info41 ?_
  refine wpList_store_row rfl 41 (.tmp 2) (.tmp 195) rfl (w.heap.size + 1) #[.int .i64 10, .string tok, .int .i64 seq, .int .i64 n0, .int .i64 0, .int .i64 0, .int .i64 0, .int .i64 0, .int .i64 0, .string ⟨#[]⟩, .string ⟨#[]⟩, .bool false, .bool false] rfl rfl 41 #[.int .i64 0, .string ⟨#[]⟩, .int .i64 0, .int .i64 0, .int .i64 0, .int .i64 0, .int .i64 0, .int .i64 0, .int .i64 0, .string ⟨#[]⟩, .string ⟨#[]⟩, .bool false, .bool false] HR info41 rfl (by simp [Value.oneCell']) ?_
  go_wp2
  refine bodyPost_ret (results_cell_row Try.results21 _ _ (w.heap.size + 1) 41 #[.int .i64 10, .string tok, .int .i64 seq, .int .i64 n0, .int .i64 0, .int .i64 0, .int .i64 0, .int .i64 0, .int .i64 0, .string ⟨#[]⟩, .string ⟨#[]⟩, .bool false, .bool false] (0, 0) _ rfl (setRow_heap _ _ _ _ _ _ HR) Try.underlying41 rfl info41) rfl ?_
  exact ⟨rfl, grown_setRow HB9.out.grown (by omega) _⟩
set_option maxRecDepth 100000 in
set_option maxHeartbeats 8000000 in
theorem back_11 (tok : ByteArray) (seq : Int) (n0 n1 n2 : Int) (w : World) :
    Calls Try.prog 21 #[.agg #[.string tok, .int .i64 seq, .iface 104 (.agg #[.int .i64 n0, .int .i64 n1, .int .i64 n2])]] w fun e w' => e = .returned (.agg #[.int .i64 11, .string tok, .int .i64 seq, .int .i64 n0, .int .i64 n1, .int .i64 n2, .int .i64 0, .int .i64 0, .int .i64 0, .string ⟨#[]⟩, .string ⟨#[]⟩, .bool false, .bool false]) ∧ w.grownBy w' none := by
  have h1 := fun W => ta1 104 (.agg #[.int .i64 n0, .int .i64 n1, .int .i64 n2]) W (by decide)
  have h2 := fun W => ta2 104 (.agg #[.int .i64 n0, .int .i64 n1, .int .i64 n2]) W (by decide)
  have h3 := fun W => ta3 104 (.agg #[.int .i64 n0, .int .i64 n1, .int .i64 n2]) W (by decide)
  have h4 := fun W => ta4 104 (.agg #[.int .i64 n0, .int .i64 n1, .int .i64 n2]) W (by decide)
  have h5 := fun W => ta5 104 (.agg #[.int .i64 n0, .int .i64 n1, .int .i64 n2]) W (by decide)
  have h6 := fun W => ta6 104 (.agg #[.int .i64 n0, .int .i64 n1, .int .i64 n2]) W (by decide)
  have h7 := fun W => ta7 104 (.agg #[.int .i64 n0, .int .i64 n1, .int .i64 n2]) W (by decide)
  have h8 := fun W => ta8 104 (.agg #[.int .i64 n0, .int .i64 n1, .int .i64 n2]) W (by decide)
  have h9 := fun W => ta9 104 (.agg #[.int .i64 n0, .int .i64 n1, .int .i64 n2]) W (by decide)
  have h10 := fun W => ta10 104 (.agg #[.int .i64 n0, .int .i64 n1, .int .i64 n2]) W (by decide)
  have h11 := te11 (.agg #[.int .i64 n0, .int .i64 n1, .int .i64 n2])
  go_enter Try.func21, Try.ntmps21
  go_upto_region 35 with (fail)
  obtain ⟨W, hW⟩ : ∃ W, W = (((w.alloc (.cells #[.string tok, .int .i64 seq, .iface 104 (.agg #[.int .i64 n0, .int .i64 n1, .int .i64 n2])] 35)).alloc (.cells #[.int .i64 0, .string ⟨#[]⟩, .int .i64 0, .int .i64 0, .int .i64 0, .int .i64 0, .int .i64 0, .int .i64 0, .int .i64 0, .string ⟨#[]⟩, .string ⟨#[]⟩, .bool false, .bool false] 41)).alloc (.cells #[.int .i64 0, .string tok, .int .i64 seq, .int .i64 0, .int .i64 0, .int .i64 0, .int .i64 0, .int .i64 0, .int .i64 0, .string ⟨#[]⟩, .string ⟨#[]⟩, .bool false, .bool false] 41)).alloc (.cells #[.int .i64 n0, .int .i64 n1, .int .i64 n2] 104) := ⟨_, rfl⟩
  rw [← hW]
  have HB0 := Aside0.mk (show Backed w W #[.int .i64 0, .string tok, .int .i64 seq, .int .i64 0, .int .i64 0, .int .i64 0, .int .i64 0, .int .i64 0, .int .i64 0, .string ⟨#[]⟩, .string ⟨#[]⟩, .bool false, .bool false] by rw [hW]; exact backed_new w _ _ _)
  have hd : W.heap[w.heap.size + 1 + 1 + 1]? = some (.cells #[.int .i64 n0, .int .i64 n1, .int .i64 n2] 104 (0, 0)) := by rw [hW]; exact backed_d w _ _ _ _ _
  have hd0 : W.cell? ⟨w.heap.size + 1 + 1 + 1, 0, none⟩ = some (.int .i64 n0) := (blk_cell hd 0).trans rfl
  have hd1 : W.cell? ⟨w.heap.size + 1 + 1 + 1, 1, none⟩ = some (.int .i64 n1) := (blk_cell hd 1).trans rfl
  have hd2 : W.cell? ⟨w.heap.size + 1 + 1 + 1, 2, none⟩ = some (.int .i64 n2) := (blk_cell hd 2).trans rfl
  have hp0 : W.cell? ⟨w.heap.size + 1 + 1, 0, none⟩ = some (.int .i64 0) := (blk_cell HB0.out.p 0).trans rfl
  have hq0 := blk_frozen HB0.out.p 0
  have hp1 : W.cell? ⟨w.heap.size + 1 + 1, 1, none⟩ = some (.string tok) := (blk_cell HB0.out.p 1).trans rfl
  have hq1 := blk_frozen HB0.out.p 1
  have hp2 : W.cell? ⟨w.heap.size + 1 + 1, 2, none⟩ = some (.int .i64 seq) := (blk_cell HB0.out.p 2).trans rfl
  have hq2 := blk_frozen HB0.out.p 2
  have hp3 : W.cell? ⟨w.heap.size + 1 + 1, 3, none⟩ = some (.int .i64 0) := (blk_cell HB0.out.p 3).trans rfl
  have hq3 := blk_frozen HB0.out.p 3
  have hp4 : W.cell? ⟨w.heap.size + 1 + 1, 4, none⟩ = some (.int .i64 0) := (blk_cell HB0.out.p 4).trans rfl
  have hq4 := blk_frozen HB0.out.p 4
  have hp5 : W.cell? ⟨w.heap.size + 1 + 1, 5, none⟩ = some (.int .i64 0) := (blk_cell HB0.out.p 5).trans rfl
  have hq5 := blk_frozen HB0.out.p 5
  have hp6 : W.cell? ⟨w.heap.size + 1 + 1, 6, none⟩ = some (.int .i64 0) := (blk_cell HB0.out.p 6).trans rfl
  have hq6 := blk_frozen HB0.out.p 6
  have hp7 : W.cell? ⟨w.heap.size + 1 + 1, 7, none⟩ = some (.int .i64 0) := (blk_cell HB0.out.p 7).trans rfl
  have hq7 := blk_frozen HB0.out.p 7
  have hp8 : W.cell? ⟨w.heap.size + 1 + 1, 8, none⟩ = some (.int .i64 0) := (blk_cell HB0.out.p 8).trans rfl
  have hq8 := blk_frozen HB0.out.p 8
  have hp9 : W.cell? ⟨w.heap.size + 1 + 1, 9, none⟩ = some (.string ⟨#[]⟩) := (blk_cell HB0.out.p 9).trans rfl
  have hq9 := blk_frozen HB0.out.p 9
  have hp10 : W.cell? ⟨w.heap.size + 1 + 1, 10, none⟩ = some (.string ⟨#[]⟩) := (blk_cell HB0.out.p 10).trans rfl
  have hq10 := blk_frozen HB0.out.p 10
  have hp11 : W.cell? ⟨w.heap.size + 1 + 1, 11, none⟩ = some (.bool false) := (blk_cell HB0.out.p 11).trans rfl
  have hq11 := blk_frozen HB0.out.p 11
  have hp12 : W.cell? ⟨w.heap.size + 1 + 1, 12, none⟩ = some (.bool false) := (blk_cell HB0.out.p 12).trans rfl
  have hq12 := blk_frozen HB0.out.p 12
  clear hW hd h1 h2 h3 h4 h5 h6 h7 h8 h9 h10 h11
  go_region_held3 (fun w' => w'.cell? ⟨w.heap.size + 1 + 1 + 1, 0, none⟩ = some (.int .i64 n0) ∧ w'.cell? ⟨w.heap.size + 1 + 1 + 1, 1, none⟩ = some (.int .i64 n1) ∧ w'.cell? ⟨w.heap.size + 1 + 1 + 1, 2, none⟩ = some (.int .i64 n2)) (go_keep) (first | fail)
  go_upto_region 48 with (fail)
  obtain ⟨W2, hW2⟩ : ∃ W2, W2 = (((((((W.setCell ⟨w.heap.size + 1 + 1, 0, none⟩ (.int .i64 11)).setCell ⟨w.heap.size + 1 + 1, 3, none⟩ (.int .i64 n0)).setCell ⟨w.heap.size + 1 + 1, 4, none⟩ (.int .i64 n1)).setCell ⟨w.heap.size + 1 + 1, 5, none⟩ (.int .i64 n2)).setCell ⟨w.heap.size + 1 + 1, 6, none⟩ (.int .i64 0)).setCell ⟨w.heap.size + 1 + 1, 7, none⟩ (.int .i64 0)).setCell ⟨w.heap.size + 1 + 1, 8, none⟩ (.int .i64 0)).drew := ⟨_, rfl⟩
  rw [← hW2]
  have HB9 := Aside0.mk (show Backed w W2 #[.int .i64 11, .string tok, .int .i64 seq, .int .i64 n0, .int .i64 n1, .int .i64 n2, .int .i64 0, .int .i64 0, .int .i64 0, .string ⟨#[]⟩, .string ⟨#[]⟩, .bool false, .bool false] by
    rw [hW2]
    have h9 := backed_drew (backed_set (backed_set (backed_set (backed_set (backed_set (backed_set (backed_set HB0.out 0 (.int .i64 11)) 3 (.int .i64 n0)) 4 (.int .i64 n1)) 5 (.int .i64 n2)) 6 (.int .i64 0)) 7 (.int .i64 0)) 8 (.int .i64 0))
    simp only [List.setIfInBounds_toArray, List.set_cons_zero, List.set_cons_succ] at h9
    exact h9)
  clear hW2 HB0 hp0 hq0 hp1 hq1 hp2 hq2 hp3 hq3 hp4 hq4 hp5 hq5 hp6 hq6 hp7 hq7 hp8 hq8 hp9 hq9 hp10 hq10 hp11 hq11 hp12 hq12 hd0 hd1 hd2
  have HP := HB9.out.p
  have HR := HB9.out.r
  refine wp_region_lit ?_
  refine wpList_load_row rfl 41 (.tmp 3) rfl (w.heap.size + 1 + 1) rfl 41 #[.int .i64 11, .string tok, .int .i64 seq, .int .i64 n0, .int .i64 n1, .int .i64 n2, .int .i64 0, .int .i64 0, .int .i64 0, .string ⟨#[]⟩, .string ⟨#[]⟩, .bool false, .bool false] (0, 0) _ HP Try.underlying41 rfl info41 ?_
  refine wpList_store_row rfl 41 (.tmp 2) (.tmp 195) rfl (w.heap.size + 1) #[.int .i64 11, .string tok, .int .i64 seq, .int .i64 n0, .int .i64 n1, .int .i64 n2, .int .i64 0, .int .i64 0, .int .i64 0, .string ⟨#[]⟩, .string ⟨#[]⟩, .bool false, .bool false] rfl rfl 41 #[.int .i64 0, .string ⟨#[]⟩, .int .i64 0, .int .i64 0, .int .i64 0, .int .i64 0, .int .i64 0, .int .i64 0, .int .i64 0, .string ⟨#[]⟩, .string ⟨#[]⟩, .bool false, .bool false] HR info41 rfl (by simp [Value.oneCell']) ?_
  go_wp2
  refine bodyPost_ret (results_cell_row Try.results21 _ _ (w.heap.size + 1) 41 #[.int .i64 11, .string tok, .int .i64 seq, .int .i64 n0, .int .i64 n1, .int .i64 n2, .int .i64 0, .int .i64 0, .int .i64 0, .string ⟨#[]⟩, .string ⟨#[]⟩, .bool false, .bool false] (0, 0) _ rfl (setRow_heap _ _ _ _ _ _ HR) Try.underlying41 rfl info41) rfl ?_
  exact ⟨rfl, grown_setRow HB9.out.grown (by omega) _⟩
set_option maxRecDepth 100000 in
set_option maxHeartbeats 8000000 in
theorem back_12 (tok : ByteArray) (seq : Int) (n0 n1 : Int) (w : World) :
    Calls Try.prog 21 #[.agg #[.string tok, .int .i64 seq, .iface 106 (.agg #[.int .i64 n0, .int .i64 n1])]] w fun e w' => e = .returned (.agg #[.int .i64 12, .string tok, .int .i64 seq, .int .i64 n0, .int .i64 n1, .int .i64 0, .int .i64 0, .int .i64 0, .int .i64 0, .string ⟨#[]⟩, .string ⟨#[]⟩, .bool false, .bool false]) ∧ w.grownBy w' none := by
  have h1 := fun W => ta1 106 (.agg #[.int .i64 n0, .int .i64 n1]) W (by decide)
  have h2 := fun W => ta2 106 (.agg #[.int .i64 n0, .int .i64 n1]) W (by decide)
  have h3 := fun W => ta3 106 (.agg #[.int .i64 n0, .int .i64 n1]) W (by decide)
  have h4 := fun W => ta4 106 (.agg #[.int .i64 n0, .int .i64 n1]) W (by decide)
  have h5 := fun W => ta5 106 (.agg #[.int .i64 n0, .int .i64 n1]) W (by decide)
  have h6 := fun W => ta6 106 (.agg #[.int .i64 n0, .int .i64 n1]) W (by decide)
  have h7 := fun W => ta7 106 (.agg #[.int .i64 n0, .int .i64 n1]) W (by decide)
  have h8 := fun W => ta8 106 (.agg #[.int .i64 n0, .int .i64 n1]) W (by decide)
  have h9 := fun W => ta9 106 (.agg #[.int .i64 n0, .int .i64 n1]) W (by decide)
  have h10 := fun W => ta10 106 (.agg #[.int .i64 n0, .int .i64 n1]) W (by decide)
  have h11 := fun W => ta11 106 (.agg #[.int .i64 n0, .int .i64 n1]) W (by decide)
  have h12 := te12 (.agg #[.int .i64 n0, .int .i64 n1])
  go_enter Try.func21, Try.ntmps21
  go_upto_region 38 with (fail)
  obtain ⟨W, hW⟩ : ∃ W, W = (((w.alloc (.cells #[.string tok, .int .i64 seq, .iface 106 (.agg #[.int .i64 n0, .int .i64 n1])] 35)).alloc (.cells #[.int .i64 0, .string ⟨#[]⟩, .int .i64 0, .int .i64 0, .int .i64 0, .int .i64 0, .int .i64 0, .int .i64 0, .int .i64 0, .string ⟨#[]⟩, .string ⟨#[]⟩, .bool false, .bool false] 41)).alloc (.cells #[.int .i64 0, .string tok, .int .i64 seq, .int .i64 0, .int .i64 0, .int .i64 0, .int .i64 0, .int .i64 0, .int .i64 0, .string ⟨#[]⟩, .string ⟨#[]⟩, .bool false, .bool false] 41)).alloc (.cells #[.int .i64 n0, .int .i64 n1] 106) := ⟨_, rfl⟩
  rw [← hW]
  have HB0 := Aside0.mk (show Backed w W #[.int .i64 0, .string tok, .int .i64 seq, .int .i64 0, .int .i64 0, .int .i64 0, .int .i64 0, .int .i64 0, .int .i64 0, .string ⟨#[]⟩, .string ⟨#[]⟩, .bool false, .bool false] by rw [hW]; exact backed_new w _ _ _)
  have hd : W.heap[w.heap.size + 1 + 1 + 1]? = some (.cells #[.int .i64 n0, .int .i64 n1] 106 (0, 0)) := by rw [hW]; exact backed_d w _ _ _ _ _
  have hd0 : W.cell? ⟨w.heap.size + 1 + 1 + 1, 0, none⟩ = some (.int .i64 n0) := (blk_cell hd 0).trans rfl
  have hd1 : W.cell? ⟨w.heap.size + 1 + 1 + 1, 1, none⟩ = some (.int .i64 n1) := (blk_cell hd 1).trans rfl
  have hp0 : W.cell? ⟨w.heap.size + 1 + 1, 0, none⟩ = some (.int .i64 0) := (blk_cell HB0.out.p 0).trans rfl
  have hq0 := blk_frozen HB0.out.p 0
  have hp1 : W.cell? ⟨w.heap.size + 1 + 1, 1, none⟩ = some (.string tok) := (blk_cell HB0.out.p 1).trans rfl
  have hq1 := blk_frozen HB0.out.p 1
  have hp2 : W.cell? ⟨w.heap.size + 1 + 1, 2, none⟩ = some (.int .i64 seq) := (blk_cell HB0.out.p 2).trans rfl
  have hq2 := blk_frozen HB0.out.p 2
  have hp3 : W.cell? ⟨w.heap.size + 1 + 1, 3, none⟩ = some (.int .i64 0) := (blk_cell HB0.out.p 3).trans rfl
  have hq3 := blk_frozen HB0.out.p 3
  have hp4 : W.cell? ⟨w.heap.size + 1 + 1, 4, none⟩ = some (.int .i64 0) := (blk_cell HB0.out.p 4).trans rfl
  have hq4 := blk_frozen HB0.out.p 4
  have hp5 : W.cell? ⟨w.heap.size + 1 + 1, 5, none⟩ = some (.int .i64 0) := (blk_cell HB0.out.p 5).trans rfl
  have hq5 := blk_frozen HB0.out.p 5
  have hp6 : W.cell? ⟨w.heap.size + 1 + 1, 6, none⟩ = some (.int .i64 0) := (blk_cell HB0.out.p 6).trans rfl
  have hq6 := blk_frozen HB0.out.p 6
  have hp7 : W.cell? ⟨w.heap.size + 1 + 1, 7, none⟩ = some (.int .i64 0) := (blk_cell HB0.out.p 7).trans rfl
  have hq7 := blk_frozen HB0.out.p 7
  have hp8 : W.cell? ⟨w.heap.size + 1 + 1, 8, none⟩ = some (.int .i64 0) := (blk_cell HB0.out.p 8).trans rfl
  have hq8 := blk_frozen HB0.out.p 8
  have hp9 : W.cell? ⟨w.heap.size + 1 + 1, 9, none⟩ = some (.string ⟨#[]⟩) := (blk_cell HB0.out.p 9).trans rfl
  have hq9 := blk_frozen HB0.out.p 9
  have hp10 : W.cell? ⟨w.heap.size + 1 + 1, 10, none⟩ = some (.string ⟨#[]⟩) := (blk_cell HB0.out.p 10).trans rfl
  have hq10 := blk_frozen HB0.out.p 10
  have hp11 : W.cell? ⟨w.heap.size + 1 + 1, 11, none⟩ = some (.bool false) := (blk_cell HB0.out.p 11).trans rfl
  have hq11 := blk_frozen HB0.out.p 11
  have hp12 : W.cell? ⟨w.heap.size + 1 + 1, 12, none⟩ = some (.bool false) := (blk_cell HB0.out.p 12).trans rfl
  have hq12 := blk_frozen HB0.out.p 12
  clear hW hd h1 h2 h3 h4 h5 h6 h7 h8 h9 h10 h11 h12
  go_region_held3 (fun w' => w'.cell? ⟨w.heap.size + 1 + 1 + 1, 0, none⟩ = some (.int .i64 n0) ∧ w'.cell? ⟨w.heap.size + 1 + 1 + 1, 1, none⟩ = some (.int .i64 n1)) (go_keep) (first | fail)
  go_upto_region 48 with (fail)
  obtain ⟨W2, hW2⟩ : ∃ W2, W2 = (((((((W.setCell ⟨w.heap.size + 1 + 1, 0, none⟩ (.int .i64 12)).setCell ⟨w.heap.size + 1 + 1, 3, none⟩ (.int .i64 n0)).setCell ⟨w.heap.size + 1 + 1, 4, none⟩ (.int .i64 n1)).setCell ⟨w.heap.size + 1 + 1, 5, none⟩ (.int .i64 0)).setCell ⟨w.heap.size + 1 + 1, 6, none⟩ (.int .i64 0)).setCell ⟨w.heap.size + 1 + 1, 7, none⟩ (.int .i64 0)).setCell ⟨w.heap.size + 1 + 1, 8, none⟩ (.int .i64 0)).drew := ⟨_, rfl⟩
  rw [← hW2]
  have HB9 := Aside0.mk (show Backed w W2 #[.int .i64 12, .string tok, .int .i64 seq, .int .i64 n0, .int .i64 n1, .int .i64 0, .int .i64 0, .int .i64 0, .int .i64 0, .string ⟨#[]⟩, .string ⟨#[]⟩, .bool false, .bool false] by
    rw [hW2]
    have h9 := backed_drew (backed_set (backed_set (backed_set (backed_set (backed_set (backed_set (backed_set HB0.out 0 (.int .i64 12)) 3 (.int .i64 n0)) 4 (.int .i64 n1)) 5 (.int .i64 0)) 6 (.int .i64 0)) 7 (.int .i64 0)) 8 (.int .i64 0))
    simp only [List.setIfInBounds_toArray, List.set_cons_zero, List.set_cons_succ] at h9
    exact h9)
  clear hW2 HB0 hp0 hq0 hp1 hq1 hp2 hq2 hp3 hq3 hp4 hq4 hp5 hq5 hp6 hq6 hp7 hq7 hp8 hq8 hp9 hq9 hp10 hq10 hp11 hq11 hp12 hq12 hd0 hd1
  have HP := HB9.out.p
  have HR := HB9.out.r
  refine wp_region_lit ?_
  refine wpList_load_row rfl 41 (.tmp 3) rfl (w.heap.size + 1 + 1) rfl 41 #[.int .i64 12, .string tok, .int .i64 seq, .int .i64 n0, .int .i64 n1, .int .i64 0, .int .i64 0, .int .i64 0, .int .i64 0, .string ⟨#[]⟩, .string ⟨#[]⟩, .bool false, .bool false] (0, 0) _ HP Try.underlying41 rfl info41 ?_
  refine wpList_store_row rfl 41 (.tmp 2) (.tmp 195) rfl (w.heap.size + 1) #[.int .i64 12, .string tok, .int .i64 seq, .int .i64 n0, .int .i64 n1, .int .i64 0, .int .i64 0, .int .i64 0, .int .i64 0, .string ⟨#[]⟩, .string ⟨#[]⟩, .bool false, .bool false] rfl rfl 41 #[.int .i64 0, .string ⟨#[]⟩, .int .i64 0, .int .i64 0, .int .i64 0, .int .i64 0, .int .i64 0, .int .i64 0, .int .i64 0, .string ⟨#[]⟩, .string ⟨#[]⟩, .bool false, .bool false] HR info41 rfl (by simp [Value.oneCell']) ?_
  go_wp2
  refine bodyPost_ret (results_cell_row Try.results21 _ _ (w.heap.size + 1) 41 #[.int .i64 12, .string tok, .int .i64 seq, .int .i64 n0, .int .i64 n1, .int .i64 0, .int .i64 0, .int .i64 0, .int .i64 0, .string ⟨#[]⟩, .string ⟨#[]⟩, .bool false, .bool false] (0, 0) _ rfl (setRow_heap _ _ _ _ _ _ HR) Try.underlying41 rfl info41) rfl ?_
  exact ⟨rfl, grown_setRow HB9.out.grown (by omega) _⟩
set_option maxRecDepth 100000 in
set_option maxHeartbeats 8000000 in
theorem back_13 (tok : ByteArray) (seq : Int) (n0 n1 n2 : Int) (w : World) :
    Calls Try.prog 21 #[.agg #[.string tok, .int .i64 seq, .iface 108 (.agg #[.int .i64 n0, .int .i64 n1, .int .i64 n2])]] w fun e w' => e = .returned (.agg #[.int .i64 13, .string tok, .int .i64 seq, .int .i64 n0, .int .i64 n1, .int .i64 n2, .int .i64 0, .int .i64 0, .int .i64 0, .string ⟨#[]⟩, .string ⟨#[]⟩, .bool false, .bool false]) ∧ w.grownBy w' none := by
  have h1 := fun W => ta1 108 (.agg #[.int .i64 n0, .int .i64 n1, .int .i64 n2]) W (by decide)
  have h2 := fun W => ta2 108 (.agg #[.int .i64 n0, .int .i64 n1, .int .i64 n2]) W (by decide)
  have h3 := fun W => ta3 108 (.agg #[.int .i64 n0, .int .i64 n1, .int .i64 n2]) W (by decide)
  have h4 := fun W => ta4 108 (.agg #[.int .i64 n0, .int .i64 n1, .int .i64 n2]) W (by decide)
  have h5 := fun W => ta5 108 (.agg #[.int .i64 n0, .int .i64 n1, .int .i64 n2]) W (by decide)
  have h6 := fun W => ta6 108 (.agg #[.int .i64 n0, .int .i64 n1, .int .i64 n2]) W (by decide)
  have h7 := fun W => ta7 108 (.agg #[.int .i64 n0, .int .i64 n1, .int .i64 n2]) W (by decide)
  have h8 := fun W => ta8 108 (.agg #[.int .i64 n0, .int .i64 n1, .int .i64 n2]) W (by decide)
  have h9 := fun W => ta9 108 (.agg #[.int .i64 n0, .int .i64 n1, .int .i64 n2]) W (by decide)
  have h10 := fun W => ta10 108 (.agg #[.int .i64 n0, .int .i64 n1, .int .i64 n2]) W (by decide)
  have h11 := fun W => ta11 108 (.agg #[.int .i64 n0, .int .i64 n1, .int .i64 n2]) W (by decide)
  have h12 := fun W => ta12 108 (.agg #[.int .i64 n0, .int .i64 n1, .int .i64 n2]) W (by decide)
  have h13 := te13 (.agg #[.int .i64 n0, .int .i64 n1, .int .i64 n2])
  go_enter Try.func21, Try.ntmps21
  go_upto_region 41 with (fail)
  obtain ⟨W, hW⟩ : ∃ W, W = (((w.alloc (.cells #[.string tok, .int .i64 seq, .iface 108 (.agg #[.int .i64 n0, .int .i64 n1, .int .i64 n2])] 35)).alloc (.cells #[.int .i64 0, .string ⟨#[]⟩, .int .i64 0, .int .i64 0, .int .i64 0, .int .i64 0, .int .i64 0, .int .i64 0, .int .i64 0, .string ⟨#[]⟩, .string ⟨#[]⟩, .bool false, .bool false] 41)).alloc (.cells #[.int .i64 0, .string tok, .int .i64 seq, .int .i64 0, .int .i64 0, .int .i64 0, .int .i64 0, .int .i64 0, .int .i64 0, .string ⟨#[]⟩, .string ⟨#[]⟩, .bool false, .bool false] 41)).alloc (.cells #[.int .i64 n0, .int .i64 n1, .int .i64 n2] 108) := ⟨_, rfl⟩
  rw [← hW]
  have HB0 := Aside0.mk (show Backed w W #[.int .i64 0, .string tok, .int .i64 seq, .int .i64 0, .int .i64 0, .int .i64 0, .int .i64 0, .int .i64 0, .int .i64 0, .string ⟨#[]⟩, .string ⟨#[]⟩, .bool false, .bool false] by rw [hW]; exact backed_new w _ _ _)
  have hd : W.heap[w.heap.size + 1 + 1 + 1]? = some (.cells #[.int .i64 n0, .int .i64 n1, .int .i64 n2] 108 (0, 0)) := by rw [hW]; exact backed_d w _ _ _ _ _
  have hd0 : W.cell? ⟨w.heap.size + 1 + 1 + 1, 0, none⟩ = some (.int .i64 n0) := (blk_cell hd 0).trans rfl
  have hd1 : W.cell? ⟨w.heap.size + 1 + 1 + 1, 1, none⟩ = some (.int .i64 n1) := (blk_cell hd 1).trans rfl
  have hd2 : W.cell? ⟨w.heap.size + 1 + 1 + 1, 2, none⟩ = some (.int .i64 n2) := (blk_cell hd 2).trans rfl
  have hp0 : W.cell? ⟨w.heap.size + 1 + 1, 0, none⟩ = some (.int .i64 0) := (blk_cell HB0.out.p 0).trans rfl
  have hq0 := blk_frozen HB0.out.p 0
  have hp1 : W.cell? ⟨w.heap.size + 1 + 1, 1, none⟩ = some (.string tok) := (blk_cell HB0.out.p 1).trans rfl
  have hq1 := blk_frozen HB0.out.p 1
  have hp2 : W.cell? ⟨w.heap.size + 1 + 1, 2, none⟩ = some (.int .i64 seq) := (blk_cell HB0.out.p 2).trans rfl
  have hq2 := blk_frozen HB0.out.p 2
  have hp3 : W.cell? ⟨w.heap.size + 1 + 1, 3, none⟩ = some (.int .i64 0) := (blk_cell HB0.out.p 3).trans rfl
  have hq3 := blk_frozen HB0.out.p 3
  have hp4 : W.cell? ⟨w.heap.size + 1 + 1, 4, none⟩ = some (.int .i64 0) := (blk_cell HB0.out.p 4).trans rfl
  have hq4 := blk_frozen HB0.out.p 4
  have hp5 : W.cell? ⟨w.heap.size + 1 + 1, 5, none⟩ = some (.int .i64 0) := (blk_cell HB0.out.p 5).trans rfl
  have hq5 := blk_frozen HB0.out.p 5
  have hp6 : W.cell? ⟨w.heap.size + 1 + 1, 6, none⟩ = some (.int .i64 0) := (blk_cell HB0.out.p 6).trans rfl
  have hq6 := blk_frozen HB0.out.p 6
  have hp7 : W.cell? ⟨w.heap.size + 1 + 1, 7, none⟩ = some (.int .i64 0) := (blk_cell HB0.out.p 7).trans rfl
  have hq7 := blk_frozen HB0.out.p 7
  have hp8 : W.cell? ⟨w.heap.size + 1 + 1, 8, none⟩ = some (.int .i64 0) := (blk_cell HB0.out.p 8).trans rfl
  have hq8 := blk_frozen HB0.out.p 8
  have hp9 : W.cell? ⟨w.heap.size + 1 + 1, 9, none⟩ = some (.string ⟨#[]⟩) := (blk_cell HB0.out.p 9).trans rfl
  have hq9 := blk_frozen HB0.out.p 9
  have hp10 : W.cell? ⟨w.heap.size + 1 + 1, 10, none⟩ = some (.string ⟨#[]⟩) := (blk_cell HB0.out.p 10).trans rfl
  have hq10 := blk_frozen HB0.out.p 10
  have hp11 : W.cell? ⟨w.heap.size + 1 + 1, 11, none⟩ = some (.bool false) := (blk_cell HB0.out.p 11).trans rfl
  have hq11 := blk_frozen HB0.out.p 11
  have hp12 : W.cell? ⟨w.heap.size + 1 + 1, 12, none⟩ = some (.bool false) := (blk_cell HB0.out.p 12).trans rfl
  have hq12 := blk_frozen HB0.out.p 12
  clear hW hd h1 h2 h3 h4 h5 h6 h7 h8 h9 h10 h11 h12 h13
  go_region_held3 (fun w' => w'.cell? ⟨w.heap.size + 1 + 1 + 1, 0, none⟩ = some (.int .i64 n0) ∧ w'.cell? ⟨w.heap.size + 1 + 1 + 1, 1, none⟩ = some (.int .i64 n1) ∧ w'.cell? ⟨w.heap.size + 1 + 1 + 1, 2, none⟩ = some (.int .i64 n2)) (go_keep) (first | fail)
  go_upto_region 48 with (fail)
  obtain ⟨W2, hW2⟩ : ∃ W2, W2 = (((((((W.setCell ⟨w.heap.size + 1 + 1, 0, none⟩ (.int .i64 13)).setCell ⟨w.heap.size + 1 + 1, 3, none⟩ (.int .i64 n0)).setCell ⟨w.heap.size + 1 + 1, 4, none⟩ (.int .i64 n1)).setCell ⟨w.heap.size + 1 + 1, 5, none⟩ (.int .i64 n2)).setCell ⟨w.heap.size + 1 + 1, 6, none⟩ (.int .i64 0)).setCell ⟨w.heap.size + 1 + 1, 7, none⟩ (.int .i64 0)).setCell ⟨w.heap.size + 1 + 1, 8, none⟩ (.int .i64 0)).drew := ⟨_, rfl⟩
  rw [← hW2]
  have HB9 := Aside0.mk (show Backed w W2 #[.int .i64 13, .string tok, .int .i64 seq, .int .i64 n0, .int .i64 n1, .int .i64 n2, .int .i64 0, .int .i64 0, .int .i64 0, .string ⟨#[]⟩, .string ⟨#[]⟩, .bool false, .bool false] by
    rw [hW2]
    have h9 := backed_drew (backed_set (backed_set (backed_set (backed_set (backed_set (backed_set (backed_set HB0.out 0 (.int .i64 13)) 3 (.int .i64 n0)) 4 (.int .i64 n1)) 5 (.int .i64 n2)) 6 (.int .i64 0)) 7 (.int .i64 0)) 8 (.int .i64 0))
    simp only [List.setIfInBounds_toArray, List.set_cons_zero, List.set_cons_succ] at h9
    exact h9)
  clear hW2 HB0 hp0 hq0 hp1 hq1 hp2 hq2 hp3 hq3 hp4 hq4 hp5 hq5 hp6 hq6 hp7 hq7 hp8 hq8 hp9 hq9 hp10 hq10 hp11 hq11 hp12 hq12 hd0 hd1 hd2
  have HP := HB9.out.p
  have HR := HB9.out.r
  refine wp_region_lit ?_
  refine wpList_load_row rfl 41 (.tmp 3) rfl (w.heap.size + 1 + 1) rfl 41 #[.int .i64 13, .string tok, .int .i64 seq, .int .i64 n0, .int .i64 n1, .int .i64 n2, .int .i64 0, .int .i64 0, .int .i64 0, .string ⟨#[]⟩, .string ⟨#[]⟩, .bool false, .bool false] (0, 0) _ HP Try.underlying41 rfl info41 ?_
  refine wpList_store_row rfl 41 (.tmp 2) (.tmp 195) rfl (w.heap.size + 1) #[.int .i64 13, .string tok, .int .i64 seq, .int .i64 n0, .int .i64 n1, .int .i64 n2, .int .i64 0, .int .i64 0, .int .i64 0, .string ⟨#[]⟩, .string ⟨#[]⟩, .bool false, .bool false] rfl rfl 41 #[.int .i64 0, .string ⟨#[]⟩, .int .i64 0, .int .i64 0, .int .i64 0, .int .i64 0, .int .i64 0, .int .i64 0, .int .i64 0, .string ⟨#[]⟩, .string ⟨#[]⟩, .bool false, .bool false] HR info41 rfl (by simp [Value.oneCell']) ?_
  go_wp2
  refine bodyPost_ret (results_cell_row Try.results21 _ _ (w.heap.size + 1) 41 #[.int .i64 13, .string tok, .int .i64 seq, .int .i64 n0, .int .i64 n1, .int .i64 n2, .int .i64 0, .int .i64 0, .int .i64 0, .string ⟨#[]⟩, .string ⟨#[]⟩, .bool false, .bool false] (0, 0) _ rfl (setRow_heap _ _ _ _ _ _ HR) Try.underlying41 rfl info41) rfl ?_
  exact ⟨rfl, grown_setRow HB9.out.grown (by omega) _⟩
set_option maxRecDepth 100000 in
set_option maxHeartbeats 8000000 in
theorem back_14 (tok : ByteArray) (seq : Int) (n0 n1 : Int) (a b : Bool) (w : World) :
    Calls Try.prog 21 #[.agg #[.string tok, .int .i64 seq, .iface 110 (.agg #[.int .i64 n0, .int .i64 n1, .bool a, .bool b])]] w fun e w' => e = .returned (.agg #[.int .i64 14, .string tok, .int .i64 seq, .int .i64 n0, .int .i64 n1, .int .i64 0, .int .i64 0, .int .i64 0, .int .i64 0, .string ⟨#[]⟩, .string ⟨#[]⟩, .bool a, .bool b]) ∧ w.grownBy w' none := by
  have h1 := fun W => ta1 110 (.agg #[.int .i64 n0, .int .i64 n1, .bool a, .bool b]) W (by decide)
  have h2 := fun W => ta2 110 (.agg #[.int .i64 n0, .int .i64 n1, .bool a, .bool b]) W (by decide)
  have h3 := fun W => ta3 110 (.agg #[.int .i64 n0, .int .i64 n1, .bool a, .bool b]) W (by decide)
  have h4 := fun W => ta4 110 (.agg #[.int .i64 n0, .int .i64 n1, .bool a, .bool b]) W (by decide)
  have h5 := fun W => ta5 110 (.agg #[.int .i64 n0, .int .i64 n1, .bool a, .bool b]) W (by decide)
  have h6 := fun W => ta6 110 (.agg #[.int .i64 n0, .int .i64 n1, .bool a, .bool b]) W (by decide)
  have h7 := fun W => ta7 110 (.agg #[.int .i64 n0, .int .i64 n1, .bool a, .bool b]) W (by decide)
  have h8 := fun W => ta8 110 (.agg #[.int .i64 n0, .int .i64 n1, .bool a, .bool b]) W (by decide)
  have h9 := fun W => ta9 110 (.agg #[.int .i64 n0, .int .i64 n1, .bool a, .bool b]) W (by decide)
  have h10 := fun W => ta10 110 (.agg #[.int .i64 n0, .int .i64 n1, .bool a, .bool b]) W (by decide)
  have h11 := fun W => ta11 110 (.agg #[.int .i64 n0, .int .i64 n1, .bool a, .bool b]) W (by decide)
  have h12 := fun W => ta12 110 (.agg #[.int .i64 n0, .int .i64 n1, .bool a, .bool b]) W (by decide)
  have h13 := fun W => ta13 110 (.agg #[.int .i64 n0, .int .i64 n1, .bool a, .bool b]) W (by decide)
  have h14 := te14 (.agg #[.int .i64 n0, .int .i64 n1, .bool a, .bool b])
  go_enter Try.func21, Try.ntmps21
  go_upto_region 44 with (fail)
  obtain ⟨W, hW⟩ : ∃ W, W = (((w.alloc (.cells #[.string tok, .int .i64 seq, .iface 110 (.agg #[.int .i64 n0, .int .i64 n1, .bool a, .bool b])] 35)).alloc (.cells #[.int .i64 0, .string ⟨#[]⟩, .int .i64 0, .int .i64 0, .int .i64 0, .int .i64 0, .int .i64 0, .int .i64 0, .int .i64 0, .string ⟨#[]⟩, .string ⟨#[]⟩, .bool false, .bool false] 41)).alloc (.cells #[.int .i64 0, .string tok, .int .i64 seq, .int .i64 0, .int .i64 0, .int .i64 0, .int .i64 0, .int .i64 0, .int .i64 0, .string ⟨#[]⟩, .string ⟨#[]⟩, .bool false, .bool false] 41)).alloc (.cells #[.int .i64 n0, .int .i64 n1, .bool a, .bool b] 110) := ⟨_, rfl⟩
  rw [← hW]
  have HB0 := Aside0.mk (show Backed w W #[.int .i64 0, .string tok, .int .i64 seq, .int .i64 0, .int .i64 0, .int .i64 0, .int .i64 0, .int .i64 0, .int .i64 0, .string ⟨#[]⟩, .string ⟨#[]⟩, .bool false, .bool false] by rw [hW]; exact backed_new w _ _ _)
  have hd : W.heap[w.heap.size + 1 + 1 + 1]? = some (.cells #[.int .i64 n0, .int .i64 n1, .bool a, .bool b] 110 (0, 0)) := by rw [hW]; exact backed_d w _ _ _ _ _
  have hd0 : W.cell? ⟨w.heap.size + 1 + 1 + 1, 0, none⟩ = some (.int .i64 n0) := (blk_cell hd 0).trans rfl
  have hd1 : W.cell? ⟨w.heap.size + 1 + 1 + 1, 1, none⟩ = some (.int .i64 n1) := (blk_cell hd 1).trans rfl
  have hd2 : W.cell? ⟨w.heap.size + 1 + 1 + 1, 2, none⟩ = some (.bool a) := (blk_cell hd 2).trans rfl
  have hd3 : W.cell? ⟨w.heap.size + 1 + 1 + 1, 3, none⟩ = some (.bool b) := (blk_cell hd 3).trans rfl
  have hp0 : W.cell? ⟨w.heap.size + 1 + 1, 0, none⟩ = some (.int .i64 0) := (blk_cell HB0.out.p 0).trans rfl
  have hq0 := blk_frozen HB0.out.p 0
  have hp1 : W.cell? ⟨w.heap.size + 1 + 1, 1, none⟩ = some (.string tok) := (blk_cell HB0.out.p 1).trans rfl
  have hq1 := blk_frozen HB0.out.p 1
  have hp2 : W.cell? ⟨w.heap.size + 1 + 1, 2, none⟩ = some (.int .i64 seq) := (blk_cell HB0.out.p 2).trans rfl
  have hq2 := blk_frozen HB0.out.p 2
  have hp3 : W.cell? ⟨w.heap.size + 1 + 1, 3, none⟩ = some (.int .i64 0) := (blk_cell HB0.out.p 3).trans rfl
  have hq3 := blk_frozen HB0.out.p 3
  have hp4 : W.cell? ⟨w.heap.size + 1 + 1, 4, none⟩ = some (.int .i64 0) := (blk_cell HB0.out.p 4).trans rfl
  have hq4 := blk_frozen HB0.out.p 4
  have hp5 : W.cell? ⟨w.heap.size + 1 + 1, 5, none⟩ = some (.int .i64 0) := (blk_cell HB0.out.p 5).trans rfl
  have hq5 := blk_frozen HB0.out.p 5
  have hp6 : W.cell? ⟨w.heap.size + 1 + 1, 6, none⟩ = some (.int .i64 0) := (blk_cell HB0.out.p 6).trans rfl
  have hq6 := blk_frozen HB0.out.p 6
  have hp7 : W.cell? ⟨w.heap.size + 1 + 1, 7, none⟩ = some (.int .i64 0) := (blk_cell HB0.out.p 7).trans rfl
  have hq7 := blk_frozen HB0.out.p 7
  have hp8 : W.cell? ⟨w.heap.size + 1 + 1, 8, none⟩ = some (.int .i64 0) := (blk_cell HB0.out.p 8).trans rfl
  have hq8 := blk_frozen HB0.out.p 8
  have hp9 : W.cell? ⟨w.heap.size + 1 + 1, 9, none⟩ = some (.string ⟨#[]⟩) := (blk_cell HB0.out.p 9).trans rfl
  have hq9 := blk_frozen HB0.out.p 9
  have hp10 : W.cell? ⟨w.heap.size + 1 + 1, 10, none⟩ = some (.string ⟨#[]⟩) := (blk_cell HB0.out.p 10).trans rfl
  have hq10 := blk_frozen HB0.out.p 10
  have hp11 : W.cell? ⟨w.heap.size + 1 + 1, 11, none⟩ = some (.bool false) := (blk_cell HB0.out.p 11).trans rfl
  have hq11 := blk_frozen HB0.out.p 11
  have hp12 : W.cell? ⟨w.heap.size + 1 + 1, 12, none⟩ = some (.bool false) := (blk_cell HB0.out.p 12).trans rfl
  have hq12 := blk_frozen HB0.out.p 12
  clear hW hd h1 h2 h3 h4 h5 h6 h7 h8 h9 h10 h11 h12 h13 h14
  go_region_held3 (fun w' => w'.cell? ⟨w.heap.size + 1 + 1 + 1, 0, none⟩ = some (.int .i64 n0) ∧ w'.cell? ⟨w.heap.size + 1 + 1 + 1, 1, none⟩ = some (.int .i64 n1) ∧ w'.cell? ⟨w.heap.size + 1 + 1 + 1, 2, none⟩ = some (.bool a) ∧ w'.cell? ⟨w.heap.size + 1 + 1 + 1, 3, none⟩ = some (.bool b)) (go_keep) (first | fail)
  go_upto_region 48 with (fail)
  obtain ⟨W2, hW2⟩ : ∃ W2, W2 = (((((((((W.setCell ⟨w.heap.size + 1 + 1, 0, none⟩ (.int .i64 14)).setCell ⟨w.heap.size + 1 + 1, 3, none⟩ (.int .i64 n0)).setCell ⟨w.heap.size + 1 + 1, 4, none⟩ (.int .i64 n1)).setCell ⟨w.heap.size + 1 + 1, 5, none⟩ (.int .i64 0)).setCell ⟨w.heap.size + 1 + 1, 6, none⟩ (.int .i64 0)).setCell ⟨w.heap.size + 1 + 1, 7, none⟩ (.int .i64 0)).setCell ⟨w.heap.size + 1 + 1, 8, none⟩ (.int .i64 0)).setCell ⟨w.heap.size + 1 + 1, 11, none⟩ (.bool a)).setCell ⟨w.heap.size + 1 + 1, 12, none⟩ (.bool b)).drew := ⟨_, rfl⟩
  rw [← hW2]
  have HB9 := Aside0.mk (show Backed w W2 #[.int .i64 14, .string tok, .int .i64 seq, .int .i64 n0, .int .i64 n1, .int .i64 0, .int .i64 0, .int .i64 0, .int .i64 0, .string ⟨#[]⟩, .string ⟨#[]⟩, .bool a, .bool b] by
    rw [hW2]
    have h9 := backed_drew (backed_set (backed_set (backed_set (backed_set (backed_set (backed_set (backed_set (backed_set (backed_set HB0.out 0 (.int .i64 14)) 3 (.int .i64 n0)) 4 (.int .i64 n1)) 5 (.int .i64 0)) 6 (.int .i64 0)) 7 (.int .i64 0)) 8 (.int .i64 0)) 11 (.bool a)) 12 (.bool b))
    simp only [List.setIfInBounds_toArray, List.set_cons_zero, List.set_cons_succ] at h9
    exact h9)
  clear hW2 HB0 hp0 hq0 hp1 hq1 hp2 hq2 hp3 hq3 hp4 hq4 hp5 hq5 hp6 hq6 hp7 hq7 hp8 hq8 hp9 hq9 hp10 hq10 hp11 hq11 hp12 hq12 hd0 hd1 hd2 hd3
  have HP := HB9.out.p
  have HR := HB9.out.r
  refine wp_region_lit ?_
  refine wpList_load_row rfl 41 (.tmp 3) rfl (w.heap.size + 1 + 1) rfl 41 #[.int .i64 14, .string tok, .int .i64 seq, .int .i64 n0, .int .i64 n1, .int .i64 0, .int .i64 0, .int .i64 0, .int .i64 0, .string ⟨#[]⟩, .string ⟨#[]⟩, .bool a, .bool b] (0, 0) _ HP Try.underlying41 rfl info41 ?_
  refine wpList_store_row rfl 41 (.tmp 2) (.tmp 195) rfl (w.heap.size + 1) #[.int .i64 14, .string tok, .int .i64 seq, .int .i64 n0, .int .i64 n1, .int .i64 0, .int .i64 0, .int .i64 0, .int .i64 0, .string ⟨#[]⟩, .string ⟨#[]⟩, .bool a, .bool b] rfl rfl 41 #[.int .i64 0, .string ⟨#[]⟩, .int .i64 0, .int .i64 0, .int .i64 0, .int .i64 0, .int .i64 0, .int .i64 0, .int .i64 0, .string ⟨#[]⟩, .string ⟨#[]⟩, .bool false, .bool false] HR info41 rfl (by simp [Value.oneCell']) ?_
  go_wp2
  refine bodyPost_ret (results_cell_row Try.results21 _ _ (w.heap.size + 1) 41 #[.int .i64 14, .string tok, .int .i64 seq, .int .i64 n0, .int .i64 n1, .int .i64 0, .int .i64 0, .int .i64 0, .int .i64 0, .string ⟨#[]⟩, .string ⟨#[]⟩, .bool a, .bool b] (0, 0) _ rfl (setRow_heap _ _ _ _ _ _ HR) Try.underlying41 rfl info41) rfl ?_
  exact ⟨rfl, grown_setRow HB9.out.grown (by omega) _⟩
set_option maxRecDepth 100000 in
set_option maxHeartbeats 8000000 in
theorem back_15 (tok : ByteArray) (seq : Int) (n0 n1 : Int) (w : World) :
    Calls Try.prog 21 #[.agg #[.string tok, .int .i64 seq, .iface 112 (.agg #[.int .i64 n0, .int .i64 n1])]] w fun e w' => e = .returned (.agg #[.int .i64 15, .string tok, .int .i64 seq, .int .i64 n0, .int .i64 n1, .int .i64 0, .int .i64 0, .int .i64 0, .int .i64 0, .string ⟨#[]⟩, .string ⟨#[]⟩, .bool false, .bool false]) ∧ w.grownBy w' none := by
  have h1 := fun W => ta1 112 (.agg #[.int .i64 n0, .int .i64 n1]) W (by decide)
  have h2 := fun W => ta2 112 (.agg #[.int .i64 n0, .int .i64 n1]) W (by decide)
  have h3 := fun W => ta3 112 (.agg #[.int .i64 n0, .int .i64 n1]) W (by decide)
  have h4 := fun W => ta4 112 (.agg #[.int .i64 n0, .int .i64 n1]) W (by decide)
  have h5 := fun W => ta5 112 (.agg #[.int .i64 n0, .int .i64 n1]) W (by decide)
  have h6 := fun W => ta6 112 (.agg #[.int .i64 n0, .int .i64 n1]) W (by decide)
  have h7 := fun W => ta7 112 (.agg #[.int .i64 n0, .int .i64 n1]) W (by decide)
  have h8 := fun W => ta8 112 (.agg #[.int .i64 n0, .int .i64 n1]) W (by decide)
  have h9 := fun W => ta9 112 (.agg #[.int .i64 n0, .int .i64 n1]) W (by decide)
  have h10 := fun W => ta10 112 (.agg #[.int .i64 n0, .int .i64 n1]) W (by decide)
  have h11 := fun W => ta11 112 (.agg #[.int .i64 n0, .int .i64 n1]) W (by decide)
  have h12 := fun W => ta12 112 (.agg #[.int .i64 n0, .int .i64 n1]) W (by decide)
  have h13 := fun W => ta13 112 (.agg #[.int .i64 n0, .int .i64 n1]) W (by decide)
  have h14 := fun W => ta14 112 (.agg #[.int .i64 n0, .int .i64 n1]) W (by decide)
  have h15 := te15 (.agg #[.int .i64 n0, .int .i64 n1])
  go_enter Try.func21, Try.ntmps21
  go_upto_region 47 with (fail)
  obtain ⟨W, hW⟩ : ∃ W, W = (((w.alloc (.cells #[.string tok, .int .i64 seq, .iface 112 (.agg #[.int .i64 n0, .int .i64 n1])] 35)).alloc (.cells #[.int .i64 0, .string ⟨#[]⟩, .int .i64 0, .int .i64 0, .int .i64 0, .int .i64 0, .int .i64 0, .int .i64 0, .int .i64 0, .string ⟨#[]⟩, .string ⟨#[]⟩, .bool false, .bool false] 41)).alloc (.cells #[.int .i64 0, .string tok, .int .i64 seq, .int .i64 0, .int .i64 0, .int .i64 0, .int .i64 0, .int .i64 0, .int .i64 0, .string ⟨#[]⟩, .string ⟨#[]⟩, .bool false, .bool false] 41)).alloc (.cells #[.int .i64 n0, .int .i64 n1] 112) := ⟨_, rfl⟩
  rw [← hW]
  have HB0 := Aside0.mk (show Backed w W #[.int .i64 0, .string tok, .int .i64 seq, .int .i64 0, .int .i64 0, .int .i64 0, .int .i64 0, .int .i64 0, .int .i64 0, .string ⟨#[]⟩, .string ⟨#[]⟩, .bool false, .bool false] by rw [hW]; exact backed_new w _ _ _)
  have hd : W.heap[w.heap.size + 1 + 1 + 1]? = some (.cells #[.int .i64 n0, .int .i64 n1] 112 (0, 0)) := by rw [hW]; exact backed_d w _ _ _ _ _
  have hd0 : W.cell? ⟨w.heap.size + 1 + 1 + 1, 0, none⟩ = some (.int .i64 n0) := (blk_cell hd 0).trans rfl
  have hd1 : W.cell? ⟨w.heap.size + 1 + 1 + 1, 1, none⟩ = some (.int .i64 n1) := (blk_cell hd 1).trans rfl
  have hp0 : W.cell? ⟨w.heap.size + 1 + 1, 0, none⟩ = some (.int .i64 0) := (blk_cell HB0.out.p 0).trans rfl
  have hq0 := blk_frozen HB0.out.p 0
  have hp1 : W.cell? ⟨w.heap.size + 1 + 1, 1, none⟩ = some (.string tok) := (blk_cell HB0.out.p 1).trans rfl
  have hq1 := blk_frozen HB0.out.p 1
  have hp2 : W.cell? ⟨w.heap.size + 1 + 1, 2, none⟩ = some (.int .i64 seq) := (blk_cell HB0.out.p 2).trans rfl
  have hq2 := blk_frozen HB0.out.p 2
  have hp3 : W.cell? ⟨w.heap.size + 1 + 1, 3, none⟩ = some (.int .i64 0) := (blk_cell HB0.out.p 3).trans rfl
  have hq3 := blk_frozen HB0.out.p 3
  have hp4 : W.cell? ⟨w.heap.size + 1 + 1, 4, none⟩ = some (.int .i64 0) := (blk_cell HB0.out.p 4).trans rfl
  have hq4 := blk_frozen HB0.out.p 4
  have hp5 : W.cell? ⟨w.heap.size + 1 + 1, 5, none⟩ = some (.int .i64 0) := (blk_cell HB0.out.p 5).trans rfl
  have hq5 := blk_frozen HB0.out.p 5
  have hp6 : W.cell? ⟨w.heap.size + 1 + 1, 6, none⟩ = some (.int .i64 0) := (blk_cell HB0.out.p 6).trans rfl
  have hq6 := blk_frozen HB0.out.p 6
  have hp7 : W.cell? ⟨w.heap.size + 1 + 1, 7, none⟩ = some (.int .i64 0) := (blk_cell HB0.out.p 7).trans rfl
  have hq7 := blk_frozen HB0.out.p 7
  have hp8 : W.cell? ⟨w.heap.size + 1 + 1, 8, none⟩ = some (.int .i64 0) := (blk_cell HB0.out.p 8).trans rfl
  have hq8 := blk_frozen HB0.out.p 8
  have hp9 : W.cell? ⟨w.heap.size + 1 + 1, 9, none⟩ = some (.string ⟨#[]⟩) := (blk_cell HB0.out.p 9).trans rfl
  have hq9 := blk_frozen HB0.out.p 9
  have hp10 : W.cell? ⟨w.heap.size + 1 + 1, 10, none⟩ = some (.string ⟨#[]⟩) := (blk_cell HB0.out.p 10).trans rfl
  have hq10 := blk_frozen HB0.out.p 10
  have hp11 : W.cell? ⟨w.heap.size + 1 + 1, 11, none⟩ = some (.bool false) := (blk_cell HB0.out.p 11).trans rfl
  have hq11 := blk_frozen HB0.out.p 11
  have hp12 : W.cell? ⟨w.heap.size + 1 + 1, 12, none⟩ = some (.bool false) := (blk_cell HB0.out.p 12).trans rfl
  have hq12 := blk_frozen HB0.out.p 12
  clear hW hd h1 h2 h3 h4 h5 h6 h7 h8 h9 h10 h11 h12 h13 h14 h15
  go_region_held3 (fun w' => w'.cell? ⟨w.heap.size + 1 + 1 + 1, 0, none⟩ = some (.int .i64 n0) ∧ w'.cell? ⟨w.heap.size + 1 + 1 + 1, 1, none⟩ = some (.int .i64 n1)) (go_keep) (first | fail)
  go_upto_region 48 with (fail)
  obtain ⟨W2, hW2⟩ : ∃ W2, W2 = (((((((W.setCell ⟨w.heap.size + 1 + 1, 0, none⟩ (.int .i64 15)).setCell ⟨w.heap.size + 1 + 1, 3, none⟩ (.int .i64 n0)).setCell ⟨w.heap.size + 1 + 1, 4, none⟩ (.int .i64 n1)).setCell ⟨w.heap.size + 1 + 1, 5, none⟩ (.int .i64 0)).setCell ⟨w.heap.size + 1 + 1, 6, none⟩ (.int .i64 0)).setCell ⟨w.heap.size + 1 + 1, 7, none⟩ (.int .i64 0)).setCell ⟨w.heap.size + 1 + 1, 8, none⟩ (.int .i64 0)).drew := ⟨_, rfl⟩
  rw [← hW2]
  have HB9 := Aside0.mk (show Backed w W2 #[.int .i64 15, .string tok, .int .i64 seq, .int .i64 n0, .int .i64 n1, .int .i64 0, .int .i64 0, .int .i64 0, .int .i64 0, .string ⟨#[]⟩, .string ⟨#[]⟩, .bool false, .bool false] by
    rw [hW2]
    have h9 := backed_drew (backed_set (backed_set (backed_set (backed_set (backed_set (backed_set (backed_set HB0.out 0 (.int .i64 15)) 3 (.int .i64 n0)) 4 (.int .i64 n1)) 5 (.int .i64 0)) 6 (.int .i64 0)) 7 (.int .i64 0)) 8 (.int .i64 0))
    simp only [List.setIfInBounds_toArray, List.set_cons_zero, List.set_cons_succ] at h9
    exact h9)
  clear hW2 HB0 hp0 hq0 hp1 hq1 hp2 hq2 hp3 hq3 hp4 hq4 hp5 hq5 hp6 hq6 hp7 hq7 hp8 hq8 hp9 hq9 hp10 hq10 hp11 hq11 hp12 hq12 hd0 hd1
  have HP := HB9.out.p
  have HR := HB9.out.r
  refine wp_region_lit ?_
  refine wpList_load_row rfl 41 (.tmp 3) rfl (w.heap.size + 1 + 1) rfl 41 #[.int .i64 15, .string tok, .int .i64 seq, .int .i64 n0, .int .i64 n1, .int .i64 0, .int .i64 0, .int .i64 0, .int .i64 0, .string ⟨#[]⟩, .string ⟨#[]⟩, .bool false, .bool false] (0, 0) _ HP Try.underlying41 rfl info41 ?_
  refine wpList_store_row rfl 41 (.tmp 2) (.tmp 195) rfl (w.heap.size + 1) #[.int .i64 15, .string tok, .int .i64 seq, .int .i64 n0, .int .i64 n1, .int .i64 0, .int .i64 0, .int .i64 0, .int .i64 0, .string ⟨#[]⟩, .string ⟨#[]⟩, .bool false, .bool false] rfl rfl 41 #[.int .i64 0, .string ⟨#[]⟩, .int .i64 0, .int .i64 0, .int .i64 0, .int .i64 0, .int .i64 0, .int .i64 0, .int .i64 0, .string ⟨#[]⟩, .string ⟨#[]⟩, .bool false, .bool false] HR info41 rfl (by simp [Value.oneCell']) ?_
  go_wp2
  refine bodyPost_ret (results_cell_row Try.results21 _ _ (w.heap.size + 1) 41 #[.int .i64 15, .string tok, .int .i64 seq, .int .i64 n0, .int .i64 n1, .int .i64 0, .int .i64 0, .int .i64 0, .int .i64 0, .string ⟨#[]⟩, .string ⟨#[]⟩, .bool false, .bool false] (0, 0) _ rfl (setRow_heap _ _ _ _ _ _ HR) Try.underlying41 rfl info41) rfl ?_
  exact ⟨rfl, grown_setRow HB9.out.grown (by omega) _⟩
/-- What is asked, with nothing beside what its kind has. -/
structure Norm (x : Asked) : Prop where
  lo : 1 ≤ x.op
  hi : x.op ≤ 15
  len : x.n.length = cnt x.op
  u : x.op ≠ 1 → x.op ≠ 4 → x.u = ⟨#[]⟩
  m : x.op ≠ 1 → x.m = ⟨#[]⟩
  a : x.op ≠ 14 → x.a = false
  b : x.op ≠ 14 → x.b = false
theorem back_calls (tok : ByteArray) (seq : Int) (x : Asked) (w : World) (h : Norm x) :
    Calls Try.prog 21 #[.agg #[.string tok, .int .i64 seq, askV x]] w fun e w' => e = .returned (pV tok seq x) ∧ w.grownBy w' none := by
  obtain ⟨h1, h2, hl, hu, hm, ha, hb⟩ := h
  obtain ⟨op, n, u, m, a, b⟩ := x
  simp only at h1 h2 hl hu hm ha hb
  have z : ∀ j, cnt op ≤ j → n.getD j 0 = 0 := fun j hj => by rw [List.getD_eq_getElem?_getD, List.getElem?_eq_none (by omega)]; rfl
  rcases (show op = 1 ∨ op = 2 ∨ op = 3 ∨ op = 4 ∨ op = 5 ∨ op = 6 ∨ op = 7 ∨ op = 8 ∨ op = 9 ∨ op = 10 ∨ op = 11 ∨ op = 12 ∨ op = 13 ∨ op = 14 ∨ op = 15 by omega) with rfl | rfl | rfl | rfl | rfl | rfl | rfl | rfl | rfl | rfl | rfl | rfl | rfl | rfl | rfl
  · simp only [pV, pC, z 0 (by decide), z 1 (by decide), z 2 (by decide), z 3 (by decide), z 4 (by decide), z 5 (by decide), ha (by decide), hb (by decide)]
    exact back_1 tok seq _ _ w
  · simp only [pV, pC, z 0 (by decide), z 1 (by decide), z 2 (by decide), z 3 (by decide), z 4 (by decide), z 5 (by decide), hu (by decide) (by decide), hm (by decide), ha (by decide), hb (by decide)]
    exact back_2 tok seq w
  · simp only [pV, pC, z 1 (by decide), z 2 (by decide), z 3 (by decide), z 4 (by decide), z 5 (by decide), hu (by decide) (by decide), hm (by decide), ha (by decide), hb (by decide)]
    exact back_3 tok seq _ w
  · simp only [pV, pC, z 3 (by decide), z 4 (by decide), z 5 (by decide), hm (by decide), ha (by decide), hb (by decide)]
    exact back_4 tok seq _ _ _ _ w
  · simp only [pV, pC, z 4 (by decide), z 5 (by decide), hu (by decide) (by decide), hm (by decide), ha (by decide), hb (by decide)]
    exact back_5 tok seq _ _ _ _ w
  · simp only [pV, pC, z 5 (by decide), hu (by decide) (by decide), hm (by decide), ha (by decide), hb (by decide)]
    exact back_6 tok seq _ _ _ _ _ w
  · simp only [pV, pC, hu (by decide) (by decide), hm (by decide), ha (by decide), hb (by decide)]
    exact back_7 tok seq _ _ _ _ _ _ w
  · simp only [pV, pC, z 1 (by decide), z 2 (by decide), z 3 (by decide), z 4 (by decide), z 5 (by decide), hu (by decide) (by decide), hm (by decide), ha (by decide), hb (by decide)]
    exact back_8 tok seq _ w
  · simp only [pV, pC, z 1 (by decide), z 2 (by decide), z 3 (by decide), z 4 (by decide), z 5 (by decide), hu (by decide) (by decide), hm (by decide), ha (by decide), hb (by decide)]
    exact back_9 tok seq _ w
  · simp only [pV, pC, z 1 (by decide), z 2 (by decide), z 3 (by decide), z 4 (by decide), z 5 (by decide), hu (by decide) (by decide), hm (by decide), ha (by decide), hb (by decide)]
    exact back_10 tok seq _ w
  · simp only [pV, pC, z 3 (by decide), z 4 (by decide), z 5 (by decide), hu (by decide) (by decide), hm (by decide), ha (by decide), hb (by decide)]
    exact back_11 tok seq _ _ _ w
  · simp only [pV, pC, z 2 (by decide), z 3 (by decide), z 4 (by decide), z 5 (by decide), hu (by decide) (by decide), hm (by decide), ha (by decide), hb (by decide)]
    exact back_12 tok seq _ _ w
  · simp only [pV, pC, z 3 (by decide), z 4 (by decide), z 5 (by decide), hu (by decide) (by decide), hm (by decide), ha (by decide), hb (by decide)]
    exact back_13 tok seq _ _ _ w
  · simp only [pV, pC, z 2 (by decide), z 3 (by decide), z 4 (by decide), z 5 (by decide), hu (by decide) (by decide), hm (by decide)]
    exact back_14 tok seq _ _ _ _ w
  · simp only [pV, pC, z 2 (by decide), z 3 (by decide), z 4 (by decide), z 5 (by decide), hu (by decide) (by decide), hm (by decide), ha (by decide), hb (by decide)]
    exact back_15 tok seq _ _ w
end Go.Proofs.Ytibfbdfoiboanaa.Rd
