/- words: the law WordsAsks, walked. Over the program alone. -/
import Derived.Test.YtibfbdfoiboanaaPa
namespace Go.Proofs.Ytibfbdfoiboanaa.Rd
open Go.RowKit Go.Proofs.YtibfbdfoiboanaaW.PrintWords Go.Proofs.YtibfbdfoiboanaaW.PrintMore Go.Proofs.YtibfbdfoiboanaaW.PrintLast Go.Proofs.Ytibfbdfoiboanaa.PWordsAsks
set_option linter.unusedVariables false
set_option linter.unusedSimpArgs false
def known : ByteArray := ⟨#[2, 0, 1, 116, 0, 0, 0, 0, 0, 0, 0, 1]⟩
theorem pAsk_known : pAsk known = some ((2, ⟨#[116]⟩, 1, ⟨2, [], ⟨#[]⟩, ⟨#[]⟩, false, false⟩), ⟨#[]⟩) := by kernel_rfl
theorem ask_known (w : World) : Calls Try.prog 14 #[.string ⟨#[2, 0, 1, 116, 0, 0, 0, 0, 0, 0, 0, 1]⟩] w fun e w' => e = .returned (.tuple #[.agg #[.string ⟨#[116]⟩, .int .i64 1, .iface 44 (.agg #[])], .bool true]) ∧ w.grownBy w' none := by
  have h := ask_calls known w (by decide)
  rw [pAsk_known] at h
  exact h
structure Blk2 (w W : World) (b : Nat) (cs : Array Value) (T : TypeId) : Prop where
  blk : W.heap[b]? = some (.cells cs T (0, 0))
  below : Below w.heap.size w W
theorem grown_step {w W W' : World} (h : Below w.heap.size w W) (k : W.grownBy W' none) : Below w.heap.size w W' :=
  ⟨k.os.trans h.os, k.tape.trans h.tape, k.output.trans h.output, Nat.le_trans h.size k.size, fun q hq => (k.block q (Nat.lt_of_lt_of_le hq h.size) (by simp)).trans (h.block q hq)⟩
theorem blk_keep {W W' : World} {b : Nat} {o : Obj} (h : W.heap[b]? = some o) (k : W.grownBy W' none) : W'.heap[b]? = some o := (k.block b (blk_lt h) (by simp)).trans h
set_option maxRecDepth 100000 in
set_option maxHeartbeats 8000000 in
theorem asks_long (s : ByteArray) (w : World) (h : 5000 < s.size) : Calls Try.prog 7 #[.string s] w fun e w' => e = .returned (.bool true) ∧ Below w.heap.size w w' := by
  have d1 : decide (5000 < (s.size : Int)) = true := decide_eq_true (by omega)
  have d2 : decide (5000 < s.size) = true := decide_eq_true h
  clear h
  go_enter Try.func7, Try.ntmps7
  go_wp2_with (first
    | (go_at_call 14; (with_reducible refine (ask_known _).mono ?_); rintro e w1 ⟨rfl, hg⟩; have HB1 := Aside0.mk (grown_step (Below.refl _ w) hg); clear hg)
    | (go_at_call 18; refine (op_2 (.agg #[]) _).mono ?_; rintro e w2 ⟨rfl, hg⟩; have HB2 := Aside0.mk (grown_step (below_alloc HB1.out _) hg); clear hg))
  go_ret
  exact ⟨rfl, HB2.out⟩
set_option maxRecDepth 100000 in
set_option maxHeartbeats 8000000 in
theorem asks_none (s : ByteArray) (w : World) (h : ¬ 5000 < s.size) (hp : pAsk s = none) : Calls Try.prog 7 #[.string s] w fun e w' => e = .returned (.bool true) ∧ Below w.heap.size w w' := by
  have d1 : decide (5000 < (s.size : Int)) = false := decide_eq_false (by omega)
  have d2 : decide (5000 < s.size) = false := decide_eq_false h
  have hA := fun W => ask_calls s W (by omega)
  have hR := fun W => refask s W
  rw [hp] at hA hR
  have HA := Aside0.mk hA
  have HR := Aside0.mk hR
  clear h hA hR hp
  simp only [askR, refR] at HA HR
  go_enter Try.func7, Try.ntmps7
  go_wp2_with (first
    | (go_at_call 22; (with_reducible refine (HR.out _).mono ?_); rintro e w4 ⟨rfl, hg⟩; have HB4 := Aside0.mk (grown_step (below_alloc HB3.out _) hg); have hb4 := blk_keep (heap_alloc_new w3 _) hg; have hc0 : w4.cell? ⟨w3.heap.size, 0, none⟩ = some (.string ⟨#[]⟩) := (blk_cell hb4 0).trans rfl; have hc1 : w4.cell? ⟨w3.heap.size, 1, none⟩ = some (.int .i64 0) := (blk_cell hb4 1).trans rfl; have hc2 : w4.cell? ⟨w3.heap.size, 2, none⟩ = some .nilIface := (blk_cell hb4 2).trans rfl; have hlt4 := blk_lt hb4; clear hg hb4)
    | (go_at_call 14; (with_reducible refine (HA.out _).mono ?_); rintro e w3 ⟨rfl, hg⟩; have HB3 := Aside0.mk (grown_step HB2.out hg); clear hg)
    | (go_at_call 14; (with_reducible refine (ask_known _).mono ?_); rintro e w1 ⟨rfl, hg⟩; have HB1 := Aside0.mk (grown_step (Below.refl _ w) hg); clear hg)
    | (go_at_call 18; refine (op_2 (.agg #[]) _).mono ?_; rintro e w2 ⟨rfl, hg⟩; have HB2 := Aside0.mk (grown_step (below_alloc HB1.out _) hg); clear hg))
  go_ret
  exact ⟨rfl, below_alloc HB4.out _⟩
set_option maxRecDepth 100000 in
set_option maxHeartbeats 16000000 in
theorem asks_some_ (s : ByteArray) (w : World) (h : ¬ 5000 < s.size) (op : Int) (tok : ByteArray) (q : Int) (ty : Nat) (cs : Array Value) (m0 m1 m2 m3 m4 m5 : Int) (u m : ByteArray) (a b : Bool)
    (hA : ∀ W, Calls Try.prog 14 #[.string s] W fun e w' => e = .returned (.tuple #[.agg #[.string tok, .int .i64 q, .iface ty (.agg cs)], .bool true]) ∧ W.grownBy w' none)
    (hR : ∀ W, Calls Try.prog 22 #[.string s] W fun e w' => e = .returned (.tuple #[.agg #[.int .i64 op, .string tok, .int .i64 q, .int .i64 m0, .int .i64 m1, .int .i64 m2, .int .i64 m3, .int .i64 m4, .int .i64 m5, .string u, .string m, .bool a, .bool b], .bool true]) ∧ W.grownBy w' none)
    (hC : ∀ W, Calls Try.prog 15 #[.agg #[.string tok, .int .i64 q, .iface ty (.agg cs)]] W fun e w' => e = .returned (.tuple #[.string s, .bool true]) ∧ W.grownBy w' none)
    (hB : ∀ W, Calls Try.prog 21 #[.agg #[.string tok, .int .i64 q, .iface ty (.agg cs)]] W fun e w' => e = .returned (.agg #[.int .i64 op, .string tok, .int .i64 q, .int .i64 m0, .int .i64 m1, .int .i64 m2, .int .i64 m3, .int .i64 m4, .int .i64 m5, .string u, .string m, .bool a, .bool b]) ∧ W.grownBy w' none)
    (hL : ∀ W, Calls Try.prog 20 #[.agg #[.int .i64 op, .string tok, .int .i64 q, .int .i64 m0, .int .i64 m1, .int .i64 m2, .int .i64 m3, .int .i64 m4, .int .i64 m5, .string u, .string m, .bool a, .bool b], .agg #[.int .i64 op, .string tok, .int .i64 q, .int .i64 m0, .int .i64 m1, .int .i64 m2, .int .i64 m3, .int .i64 m4, .int .i64 m5, .string u, .string m, .bool a, .bool b]] W fun e w' => e = .returned (.bool true) ∧ W.grownBy w' none) :
    Calls Try.prog 7 #[.string s] w fun e w' => e = .returned (.bool true) ∧ Below w.heap.size w w' := by
  have d1 : decide (5000 < (s.size : Int)) = false := decide_eq_false (by omega)
  have d2 : decide (5000 < s.size) = false := decide_eq_false h
  have HA := Aside0.mk hA
  have HR := Aside0.mk hR
  have HC := Aside0.mk hC
  have HB := Aside0.mk hB
  have HL := Aside0.mk hL
  clear h hA hR hC hB hL
  go_enter Try.func7, Try.ntmps7
  go_upto_region 13 with (first
    | (go_at_call 15; (with_reducible refine (HC.out _).mono ?_); rintro e w5 ⟨rfl, hg⟩; have HB5 := Aside0.mk (grown_step (below_alloc HB4.out _) hg); have hb5 := blk_keep (blk_keep (heap_alloc_new w3 _) (grown_trans HG4.out (grown_of_below (below_alloc (Below.refl _ _) _) none))) hg; have hd5 := blk_keep (heap_alloc_new w4 _) hg; have f0 : w5.cell? ⟨w3.heap.size, 0, none⟩ = some (.string tok) := (blk_cell hb5 0).trans rfl; have f1 : w5.cell? ⟨w3.heap.size, 1, none⟩ = some (.int .i64 q) := (blk_cell hb5 1).trans rfl; have f2 : w5.cell? ⟨w3.heap.size, 2, none⟩ = some (.iface ty (.agg cs)) := (blk_cell hb5 2).trans rfl; have g0 : w5.cell? ⟨w4.heap.size, 0, none⟩ = some (.int .i64 op) := (blk_cell hd5 0).trans rfl; have g1 : w5.cell? ⟨w4.heap.size, 1, none⟩ = some (.string tok) := (blk_cell hd5 1).trans rfl; have g2 : w5.cell? ⟨w4.heap.size, 2, none⟩ = some (.int .i64 q) := (blk_cell hd5 2).trans rfl; have g3 : w5.cell? ⟨w4.heap.size, 3, none⟩ = some (.int .i64 m0) := (blk_cell hd5 3).trans rfl; have g4 : w5.cell? ⟨w4.heap.size, 4, none⟩ = some (.int .i64 m1) := (blk_cell hd5 4).trans rfl; have g5 : w5.cell? ⟨w4.heap.size, 5, none⟩ = some (.int .i64 m2) := (blk_cell hd5 5).trans rfl; have g6 : w5.cell? ⟨w4.heap.size, 6, none⟩ = some (.int .i64 m3) := (blk_cell hd5 6).trans rfl; have g7 : w5.cell? ⟨w4.heap.size, 7, none⟩ = some (.int .i64 m4) := (blk_cell hd5 7).trans rfl; have g8 : w5.cell? ⟨w4.heap.size, 8, none⟩ = some (.int .i64 m5) := (blk_cell hd5 8).trans rfl; have g9 : w5.cell? ⟨w4.heap.size, 9, none⟩ = some (.string u) := (blk_cell hd5 9).trans rfl; have g10 : w5.cell? ⟨w4.heap.size, 10, none⟩ = some (.string m) := (blk_cell hd5 10).trans rfl; have g11 : w5.cell? ⟨w4.heap.size, 11, none⟩ = some (.bool a) := (blk_cell hd5 11).trans rfl; have g12 : w5.cell? ⟨w4.heap.size, 12, none⟩ = some (.bool b) := (blk_cell hd5 12).trans rfl; have HBB := Aside0.mk hb5; have HDD := Aside0.mk hd5; clear hg hb5 hd5)
    | (go_at_call 22; (with_reducible refine (HR.out _).mono ?_); rintro e w4 ⟨rfl, hg⟩; have HG4 := Aside0.mk hg; have HB4 := Aside0.mk (grown_step (below_alloc HB3.out _) hg); have hb4 := blk_keep (heap_alloc_new w3 _) hg; have c0 : w4.cell? ⟨w3.heap.size, 0, none⟩ = some (.string tok) := (blk_cell hb4 0).trans rfl; have c1 : w4.cell? ⟨w3.heap.size, 1, none⟩ = some (.int .i64 q) := (blk_cell hb4 1).trans rfl; have c2 : w4.cell? ⟨w3.heap.size, 2, none⟩ = some (.iface ty (.agg cs)) := (blk_cell hb4 2).trans rfl; have hlt4 := blk_lt hb4; clear hg hb4)
    | (go_at_call 14; (with_reducible refine (HA.out _).mono ?_); rintro e w3 ⟨rfl, hg⟩; have HB3 := Aside0.mk (grown_step HB2.out hg); clear hg)
    | (go_at_call 14; (with_reducible refine (ask_known _).mono ?_); rintro e w1 ⟨rfl, hg⟩; have HB1 := Aside0.mk (grown_step (Below.refl _ w) hg); clear hg)
    | (go_at_call 18; refine (op_2 (.agg #[]) _).mono ?_; rintro e w2 ⟨rfl, hg⟩; have HB2 := Aside0.mk (grown_step (below_alloc HB1.out _) hg); clear hg))
  have hss : (s.toList == s.toList) = true := by simp
  go_region_held3 (fun w' => w'.cell? ⟨w3.heap.size, 0, none⟩ = some (.string tok) ∧ w'.cell? ⟨w3.heap.size, 1, none⟩ = some (.int .i64 q) ∧ w'.cell? ⟨w3.heap.size, 2, none⟩ = some (.iface ty (.agg cs)) ∧ w'.cell? ⟨w4.heap.size, 0, none⟩ = some (.int .i64 op) ∧ w'.cell? ⟨w4.heap.size, 1, none⟩ = some (.string tok) ∧ w'.cell? ⟨w4.heap.size, 2, none⟩ = some (.int .i64 q) ∧ w'.cell? ⟨w4.heap.size, 3, none⟩ = some (.int .i64 m0) ∧ w'.cell? ⟨w4.heap.size, 4, none⟩ = some (.int .i64 m1) ∧ w'.cell? ⟨w4.heap.size, 5, none⟩ = some (.int .i64 m2) ∧ w'.cell? ⟨w4.heap.size, 6, none⟩ = some (.int .i64 m3) ∧ w'.cell? ⟨w4.heap.size, 7, none⟩ = some (.int .i64 m4) ∧ w'.cell? ⟨w4.heap.size, 8, none⟩ = some (.int .i64 m5) ∧ w'.cell? ⟨w4.heap.size, 9, none⟩ = some (.string u) ∧ w'.cell? ⟨w4.heap.size, 10, none⟩ = some (.string m) ∧ w'.cell? ⟨w4.heap.size, 11, none⟩ = some (.bool a) ∧ w'.cell? ⟨w4.heap.size, 12, none⟩ = some (.bool b)) (first | exact ⟨f0, f1, f2, g0, g1, g2, g3, g4, g5, g6, g7, g8, g9, g10, g11, g12⟩ | exact ⟨p0, p1, p2, r0, r1, r2, r3, r4, r5, r6, r7, r8, r9, r10, r11, r12⟩ | exact ⟨x0, x1, x2, y0, y1, y2, y3, y4, y5, y6, y7, y8, y9, y10, y11, y12⟩) (first
    | (go_at_call 20; (with_reducible refine (HL.out _).mono ?_); rintro e w7 ⟨rfl, hg⟩; have HB7 := Aside0.mk (grown_step HB6.out hg); have hb7 := blk_keep HBB6.out hg; have hd7 := blk_keep HDD6.out hg; have x0 : w7.cell? ⟨w3.heap.size, 0, none⟩ = some (.string tok) := (blk_cell hb7 0).trans rfl; have x1 : w7.cell? ⟨w3.heap.size, 1, none⟩ = some (.int .i64 q) := (blk_cell hb7 1).trans rfl; have x2 : w7.cell? ⟨w3.heap.size, 2, none⟩ = some (.iface ty (.agg cs)) := (blk_cell hb7 2).trans rfl; have y0 : w7.cell? ⟨w4.heap.size, 0, none⟩ = some (.int .i64 op) := (blk_cell hd7 0).trans rfl; have y1 : w7.cell? ⟨w4.heap.size, 1, none⟩ = some (.string tok) := (blk_cell hd7 1).trans rfl; have y2 : w7.cell? ⟨w4.heap.size, 2, none⟩ = some (.int .i64 q) := (blk_cell hd7 2).trans rfl; have y3 : w7.cell? ⟨w4.heap.size, 3, none⟩ = some (.int .i64 m0) := (blk_cell hd7 3).trans rfl; have y4 : w7.cell? ⟨w4.heap.size, 4, none⟩ = some (.int .i64 m1) := (blk_cell hd7 4).trans rfl; have y5 : w7.cell? ⟨w4.heap.size, 5, none⟩ = some (.int .i64 m2) := (blk_cell hd7 5).trans rfl; have y6 : w7.cell? ⟨w4.heap.size, 6, none⟩ = some (.int .i64 m3) := (blk_cell hd7 6).trans rfl; have y7 : w7.cell? ⟨w4.heap.size, 7, none⟩ = some (.int .i64 m4) := (blk_cell hd7 7).trans rfl; have y8 : w7.cell? ⟨w4.heap.size, 8, none⟩ = some (.int .i64 m5) := (blk_cell hd7 8).trans rfl; have y9 : w7.cell? ⟨w4.heap.size, 9, none⟩ = some (.string u) := (blk_cell hd7 9).trans rfl; have y10 : w7.cell? ⟨w4.heap.size, 10, none⟩ = some (.string m) := (blk_cell hd7 10).trans rfl; have y11 : w7.cell? ⟨w4.heap.size, 11, none⟩ = some (.bool a) := (blk_cell hd7 11).trans rfl; have y12 : w7.cell? ⟨w4.heap.size, 12, none⟩ = some (.bool b) := (blk_cell hd7 12).trans rfl; clear hg hb7 hd7)
    | (go_at_call 21; (with_reducible refine (HB.out _).mono ?_); rintro e w6 ⟨rfl, hg⟩; have HB6 := Aside0.mk (grown_step (below_drew HB5.out) hg); have hb6 := blk_keep (W := w5.drew) HBB.out hg; have hd6 := blk_keep (W := w5.drew) HDD.out hg; have p0 : w6.cell? ⟨w3.heap.size, 0, none⟩ = some (.string tok) := (blk_cell hb6 0).trans rfl; have p1 : w6.cell? ⟨w3.heap.size, 1, none⟩ = some (.int .i64 q) := (blk_cell hb6 1).trans rfl; have p2 : w6.cell? ⟨w3.heap.size, 2, none⟩ = some (.iface ty (.agg cs)) := (blk_cell hb6 2).trans rfl; have r0 : w6.cell? ⟨w4.heap.size, 0, none⟩ = some (.int .i64 op) := (blk_cell hd6 0).trans rfl; have r1 : w6.cell? ⟨w4.heap.size, 1, none⟩ = some (.string tok) := (blk_cell hd6 1).trans rfl; have r2 : w6.cell? ⟨w4.heap.size, 2, none⟩ = some (.int .i64 q) := (blk_cell hd6 2).trans rfl; have r3 : w6.cell? ⟨w4.heap.size, 3, none⟩ = some (.int .i64 m0) := (blk_cell hd6 3).trans rfl; have r4 : w6.cell? ⟨w4.heap.size, 4, none⟩ = some (.int .i64 m1) := (blk_cell hd6 4).trans rfl; have r5 : w6.cell? ⟨w4.heap.size, 5, none⟩ = some (.int .i64 m2) := (blk_cell hd6 5).trans rfl; have r6 : w6.cell? ⟨w4.heap.size, 6, none⟩ = some (.int .i64 m3) := (blk_cell hd6 6).trans rfl; have r7 : w6.cell? ⟨w4.heap.size, 7, none⟩ = some (.int .i64 m4) := (blk_cell hd6 7).trans rfl; have r8 : w6.cell? ⟨w4.heap.size, 8, none⟩ = some (.int .i64 m5) := (blk_cell hd6 8).trans rfl; have r9 : w6.cell? ⟨w4.heap.size, 9, none⟩ = some (.string u) := (blk_cell hd6 9).trans rfl; have r10 : w6.cell? ⟨w4.heap.size, 10, none⟩ = some (.string m) := (blk_cell hd6 10).trans rfl; have r11 : w6.cell? ⟨w4.heap.size, 11, none⟩ = some (.bool a) := (blk_cell hd6 11).trans rfl; have r12 : w6.cell? ⟨w4.heap.size, 12, none⟩ = some (.bool b) := (blk_cell hd6 12).trans rfl; have HBB6 := Aside0.mk hb6; have HDD6 := Aside0.mk hd6; clear hg hb6 hd6))
  go_wp2
  go_ret
  exact ⟨rfl, HB7.out⟩
/-- The law answers true at every text. -/
theorem asks_walk (s : ByteArray) (w : World) : Calls Try.prog 7 #[.string s] w fun e w' => e = .returned (.bool true) ∧ Below w.heap.size w w' := by
  by_cases h : 5000 < s.size
  · exact asks_long s w h
  · cases hp : pAsk s with
    | none => exact asks_none s w h hp
    | some y =>
      obtain ⟨hn, ht, hcb, hu, hm⟩ := ask_written hp
      obtain ⟨⟨o, tok, q, x⟩, rest⟩ := y
      simp only at hn ht hcb hu hm
      have hA := fun W => ask_calls s W (by omega)
      have hR := fun W => refask s W
      have hC := fun W => call_calls tok q x W hn.lo hn.hi (by omega) (by omega)
      have hB := fun W => back_calls tok q x W hn
      have hL := fun W => alike_ok tok q x tok q x W (bytesOf s) ⟨⟨⟨hn.lo, hn.hi⟩, ht⟩, hcb⟩ ⟨⟨⟨hn.lo, hn.hi⟩, ht⟩, hcb⟩
      rw [hp] at hA hR
      rw [hcb] at hC
      simp only [askR, refR, callR, strOf_bytesOf] at hA hR hC
      obtain ⟨ty, cs, hv⟩ := askV_shape x
      rw [hv] at hA hC hB
      exact asks_some_ s w h x.op tok q ty cs _ _ _ _ _ _ x.u x.m x.a x.b hA hR hC hB hL
end Go.Proofs.Ytibfbdfoiboanaa.Rd
