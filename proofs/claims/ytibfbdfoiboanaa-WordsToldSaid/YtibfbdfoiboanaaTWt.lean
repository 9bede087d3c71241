/- words: the law WordsTold, walked. Over the program alone. -/
import Derived.Test.YtibfbdfoiboanaaTPt
import Derived.Laws.MakeOwn
namespace Go.Proofs.Ytibfbdfoiboanaa.Rd
open Go.RowKit Go.Proofs.YtibfbdfoiboanaaW.PrintWords Go.Proofs.YtibfbdfoiboanaaW.PrintMore Go.Proofs.YtibfbdfoiboanaaW.PrintLast Go.Proofs.Ytibfbdfoiboanaa.PWordsAsks
set_option linter.unusedVariables false
set_option linter.unusedSimpArgs false
set_option linter.constructorNameAsVariable false
theorem pTold_known : pToldV (⟨#[3]⟩ ++ strOfNums [0, 0, 0, 0, 0, 0, 0, 0, 0, 0, 0, 0, 0, 0, 0, 0, 0, 0, 0, 0]) = some ⟨3, ⟨#[]⟩, 0, 0, [], []⟩ := by kernel_rfl
theorem told_known (W : World) : Calls Try.prog 11 #[.string (⟨#[3]⟩ ++ strOfNums [0, 0, 0, 0, 0, 0, 0, 0, 0, 0, 0, 0, 0, 0, 0, 0, 0, 0, 0, 0])] W fun e w' => (∃ A c1 B c2, e = .returned (.tuple #[.agg #[.int .i64 3, .string ⟨#[]⟩, .int .i64 0, .int .i64 0, .slice A 0 c1, .slice B 0 c2], .bool true])) ∧ W.grownBy w' none := by
  refine (told_full _ W (by rw [ByteArray.size_append, strOfNums_size]; decide)).mono fun e w' ⟨h, g⟩ => ⟨?_, g⟩
  rw [pTold_known] at h
  obtain ⟨A, c1, B, c2, he, _⟩ := told_shape h
  exact ⟨A, c1, B, c2, he⟩
theorem grown_step' {w W W' : World} (h : Below w.heap.size w W) (k : W.grownBy W' none) : Below w.heap.size w W' :=
  ⟨k.os.trans h.os, k.tape.trans h.tape, k.output.trans h.output, Nat.le_trans h.size k.size, fun q hq => (k.block q (Nat.lt_of_lt_of_le hq h.size) (by simp)).trans (h.block q hq)⟩
theorem blk_keep' {W W' : World} {b : Nat} {o : Obj} (h : W.heap[b]? = some o) (k : W.grownBy W' none) : W'.heap[b]? = some o := (k.block b (blk_lt h) (by simp)).trans h
theorem blk_below' {W W' : World} {b : Nat} {o : Obj} (h : W.heap[b]? = some o) (k : Below W.heap.size W W') : W'.heap[b]? = some o := (k.block b (blk_lt h)).trans h
theorem below_of_grown' {w w1 : World} (h : w.grownBy w1 none) : Below w.heap.size w w1 := ⟨h.os, h.tape, h.output, h.size, fun q hq => h.block q hq (by simp)⟩
/-- What Told answers, by its parts. -/
def TellsA (good : Bool) (st : Int) (tok : ByteArray) (num at_ : Int) (rs : List S63) (es : List S67) (e : Ending) (w' : World) : Prop :=
  ∃ A c1 B c2, e = .returned (.tuple #[.agg #[.int .i64 st, .string tok, .int .i64 num, .int .i64 at_, .slice A rs.length c1, .slice B es.length c2], .bool good]) ∧
    Kd.C k63 w' A rs.length rs ∧ rs.length ≤ c1 ∧ Kd.C k67 w' B es.length es ∧ es.length ≤ c2
set_option maxRecDepth 100000 in
set_option maxHeartbeats 8000000 in
theorem told_long (s : ByteArray) (w : World) (h : 5000 < s.size) : Calls Try.prog 4 #[.string s] w fun e w' => e = .returned (.bool true) ∧ Below w.heap.size w w' := by
  have d1 : decide (5000 < (s.size : Int)) = true := decide_eq_true (by omega)
  have d2 : decide (5000 < s.size) = true := decide_eq_true h
  clear h
  go_enter Try.func4, Try.ntmps4
  go_wp2_with (first
    | ((with_reducible refine gate_dst (N := 12) rfl ?_); (try (refine gate_guard (by rfl) ?_; dsimp only)); refine Kd.R_make (Kd.int .u8) _ 5 rfl (N := 12) rfl 32 _ _ rfl 20 rfl rfl Try.underlying32 (.int .u8 0) 1 info5 rfl (by decide) (by omega) 0 (ok := fun _ => True) (okp := fun _ => True) rfl (fun _ hk => hk) trivial (by omega) (by decide) (Below.refl _ _) (Nat.le_refl _) ?_; intro v1 w1 ho8 hb hg_ hnew_; have HO := Aside0.mk ho8; have HB1 := Aside0.mk hb; have hcv := own_string (P := Try.prog) Try.underlying32 Try.underlying5 Try.underlying9 (Kd.own_of_R HO.out); clear ho8 hb hg_ hnew_)
    | (go_at_call 11; (with_reducible refine (told_known _).mono ?_); rintro e w2 ⟨⟨A, c1, B, c2, rfl⟩, hg⟩; have HB2 := Aside0.mk (grown_step' HB1.out hg); clear hg))
  go_ret
  exact ⟨rfl, below_alloc HB2.out _⟩
set_option maxRecDepth 100000 in
set_option maxHeartbeats 16000000 in
theorem told_law_false (s : ByteArray) (w : World) (h : ¬ 5000 < s.size) (st : Int) (tok : ByteArray) (num at_ : Int) (rs : List S63) (es : List S67)
    (hT : ∀ W, Calls Try.prog 11 #[.string s] W fun e w' => TellsA false st tok num at_ rs es e w' ∧ W.grownBy w' none)
    (hR : ∀ W, Calls Try.prog 13 #[.string s] W fun e w' => TellsA false st tok num at_ rs es e w' ∧ W.grownBy w' none)
    (k : Nat) (hS : chancelref13_Same.f k st tok num at_ rs es st tok num at_ rs es = some true) :
    Calls Try.prog 4 #[.string s] w fun e w' => e = .returned (.bool true) ∧ Below w.heap.size w w' := by
  have d1 : decide (5000 < (s.size : Int)) = false := decide_eq_false (by omega)
  have d2 : decide (5000 < s.size) = false := decide_eq_false h
  have HT := Aside0.mk hT
  have HR := Aside0.mk hR
  have HS := Aside0.mk hS
  clear h hT hR hS
  go_enter Try.func4, Try.ntmps4
  go_upto_region 8 with (first
    | (go_at_call 13; (with_reducible refine (HR.out _).mono ?_); rintro e w4 ⟨⟨A4, c4, B4, k4, rfl, C41, l41, C42, l42⟩, hg⟩; have HB4 := Aside0.mk (grown_step' (below_alloc HB3.out _) hg); have hg3 := grown_step' (below_alloc (Below.refl _ w3) _) hg; have D31 := Aside0.mk (Kd.C_below C31.out hg3); have D32 := Aside0.mk (Kd.C_below C32.out hg3); have E41 := Aside0.mk C41; have E42 := Aside0.mk C42; have hb4 := blk_keep' (heap_alloc_new w3 _) hg; have HK4 := Aside0.mk hb4; have x0 : w4.cell? ⟨w3.heap.size, 0, none⟩ = some (.int .i64 st) := (blk_cell hb4 0).trans rfl; have x1 : w4.cell? ⟨w3.heap.size, 1, none⟩ = some (.string tok) := (blk_cell hb4 1).trans rfl; have x2 : w4.cell? ⟨w3.heap.size, 2, none⟩ = some (.int .i64 num) := (blk_cell hb4 2).trans rfl; have x3 : w4.cell? ⟨w3.heap.size, 3, none⟩ = some (.int .i64 at_) := (blk_cell hb4 3).trans rfl; have x4 : w4.cell? ⟨w3.heap.size, 4, none⟩ = some (.slice A3 rs.length c3) := (blk_cell hb4 4).trans rfl; have x5 : w4.cell? ⟨w3.heap.size, 5, none⟩ = some (.slice B3 es.length k3) := (blk_cell hb4 5).trans rfl; have hlt4 := blk_lt hb4; clear hg hg3 C41 C42 hb4)
    | (go_at_call 11; (with_reducible refine (HT.out _).mono ?_); rintro e w3 ⟨⟨A3, c3, B3, k3, rfl, D1, l31, D2, l32⟩, hg⟩; have HB3 := Aside0.mk (grown_step' (below_alloc HB2.out _) hg); have C31 := Aside0.mk D1; have C32 := Aside0.mk D2; clear hg D1 D2)
    | ((with_reducible refine gate_dst (N := 12) rfl ?_); (try (refine gate_guard (by rfl) ?_; dsimp only)); refine Kd.R_make (Kd.int .u8) _ 5 rfl (N := 12) rfl 32 _ _ rfl 20 rfl rfl Try.underlying32 (.int .u8 0) 1 info5 rfl (by decide) (by omega) 0 (ok := fun _ => True) (okp := fun _ => True) rfl (fun _ hk => hk) trivial (by omega) (by decide) (Below.refl _ _) (Nat.le_refl _) ?_; intro v1 w1 ho8 hb hg_ hnew_; have HO := Aside0.mk ho8; have HB1 := Aside0.mk hb; have hcv := own_string (P := Try.prog) Try.underlying32 Try.underlying5 Try.underlying9 (Kd.own_of_R HO.out); clear ho8 hb hg_ hnew_)
    | (go_at_call 11; (with_reducible refine (told_known _).mono ?_); rintro e w2 ⟨⟨A, c1, B, c2, rfl⟩, hg⟩; have HB2 := Aside0.mk (grown_step' HB1.out hg); clear hg))
  go_wp2_with (go_at_call 12; (with_reducible refine (chancelref13_Same.calls k st tok num at_ A3 c3 rs B3 k3 es st tok num at_ A4 c4 rs B4 k4 es true _ (Kd.C_below D31.out (below_alloc (Below.refl _ _) _)) l31 (Kd.C_below D32.out (below_alloc (Below.refl _ _) _)) l32 (Kd.C_below E41.out (below_alloc (Below.refl _ _) _)) l41 (Kd.C_below E42.out (below_alloc (Below.refl _ _) _)) l42 HS.out).mono ?_); rintro e w5 ⟨rfl, hb⟩; have HB5 := Aside0.mk (below_step (below_alloc HB4.out _) hb); have F31 := Aside0.mk (Kd.C_below (Kd.C_below D31.out (below_alloc (Below.refl _ _) _)) hb); have F32 := Aside0.mk (Kd.C_below (Kd.C_below D32.out (below_alloc (Below.refl _ _) _)) hb); have hb5 := blk_below' (blk_below' HK4.out (below_alloc (Below.refl _ _) _)) hb; have y0 : w5.cell? ⟨w3.heap.size, 0, none⟩ = some (.int .i64 st) := (blk_cell hb5 0).trans rfl; have y1 : w5.cell? ⟨w3.heap.size, 1, none⟩ = some (.string tok) := (blk_cell hb5 1).trans rfl; have y2 : w5.cell? ⟨w3.heap.size, 2, none⟩ = some (.int .i64 num) := (blk_cell hb5 2).trans rfl; have y3 : w5.cell? ⟨w3.heap.size, 3, none⟩ = some (.int .i64 at_) := (blk_cell hb5 3).trans rfl; have y4 : w5.cell? ⟨w3.heap.size, 4, none⟩ = some (.slice A3 rs.length c3) := (blk_cell hb5 4).trans rfl; have y5 : w5.cell? ⟨w3.heap.size, 5, none⟩ = some (.slice B3 es.length k3) := (blk_cell hb5 5).trans rfl; clear hb hb5)
  go_ret
  exact ⟨rfl, HB5.out⟩
set_option maxRecDepth 100000 in
set_option maxHeartbeats 16000000 in
theorem told_law_true (s : ByteArray) (w : World) (h : ¬ 5000 < s.size) (st : Int) (tok : ByteArray) (num at_ : Int) (rs : List S63) (es : List S67)
    (hT : ∀ W, Calls Try.prog 11 #[.string s] W fun e w' => TellsA true st tok num at_ rs es e w' ∧ W.grownBy w' none)
    (hR : ∀ W, Calls Try.prog 13 #[.string s] W fun e w' => TellsA true st tok num at_ rs es e w' ∧ W.grownBy w' none)
    (k : Nat) (hS : chancelref13_Same.f k st tok num at_ rs es st tok num at_ rs es = some true)
    (hA : ∀ W A c1 B c2, Kd.C k63 W A rs.length rs → rs.length ≤ c1 → Kd.C k67 W B es.length es → es.length ≤ c2 → Calls Try.prog 8 #[.agg #[.int .i64 st, .string tok, .int .i64 num, .int .i64 at_, .slice A rs.length c1, .slice B es.length c2]] W fun e w' => e = .returned (.tuple #[.string s, .bool true]) ∧ W.grownBy w' none) :
    Calls Try.prog 4 #[.string s] w fun e w' => e = .returned (.bool true) ∧ Below w.heap.size w w' := by
  have d1 : decide (5000 < (s.size : Int)) = false := decide_eq_false (by omega)
  have d2 : decide (5000 < s.size) = false := decide_eq_false h
  have HT := Aside0.mk hT
  have HR := Aside0.mk hR
  have HS := Aside0.mk hS
  have HA := Aside0.mk hA
  clear h hT hR hS hA
  go_enter Try.func4, Try.ntmps4
  go_upto_region 8 with (first
    | (go_at_call 13; (with_reducible refine (HR.out _).mono ?_); rintro e w4 ⟨⟨A4, c4, B4, k4, rfl, C41, l41, C42, l42⟩, hg⟩; have HB4 := Aside0.mk (grown_step' (below_alloc HB3.out _) hg); have hg3 := grown_step' (below_alloc (Below.refl _ w3) _) hg; have D31 := Aside0.mk (Kd.C_below C31.out hg3); have D32 := Aside0.mk (Kd.C_below C32.out hg3); have E41 := Aside0.mk C41; have E42 := Aside0.mk C42; have hb4 := blk_keep' (heap_alloc_new w3 _) hg; have HK4 := Aside0.mk hb4; have x0 : w4.cell? ⟨w3.heap.size, 0, none⟩ = some (.int .i64 st) := (blk_cell hb4 0).trans rfl; have x1 : w4.cell? ⟨w3.heap.size, 1, none⟩ = some (.string tok) := (blk_cell hb4 1).trans rfl; have x2 : w4.cell? ⟨w3.heap.size, 2, none⟩ = some (.int .i64 num) := (blk_cell hb4 2).trans rfl; have x3 : w4.cell? ⟨w3.heap.size, 3, none⟩ = some (.int .i64 at_) := (blk_cell hb4 3).trans rfl; have x4 : w4.cell? ⟨w3.heap.size, 4, none⟩ = some (.slice A3 rs.length c3) := (blk_cell hb4 4).trans rfl; have x5 : w4.cell? ⟨w3.heap.size, 5, none⟩ = some (.slice B3 es.length k3) := (blk_cell hb4 5).trans rfl; have hlt4 := blk_lt hb4; clear hg hg3 C41 C42 hb4)
    | (go_at_call 11; (with_reducible refine (HT.out _).mono ?_); rintro e w3 ⟨⟨A3, c3, B3, k3, rfl, D1, l31, D2, l32⟩, hg⟩; have HB3 := Aside0.mk (grown_step' (below_alloc HB2.out _) hg); have C31 := Aside0.mk D1; have C32 := Aside0.mk D2; clear hg D1 D2)
    | ((with_reducible refine gate_dst (N := 12) rfl ?_); (try (refine gate_guard (by rfl) ?_; dsimp only)); refine Kd.R_make (Kd.int .u8) _ 5 rfl (N := 12) rfl 32 _ _ rfl 20 rfl rfl Try.underlying32 (.int .u8 0) 1 info5 rfl (by decide) (by omega) 0 (ok := fun _ => True) (okp := fun _ => True) rfl (fun _ hk => hk) trivial (by omega) (by decide) (Below.refl _ _) (Nat.le_refl _) ?_; intro v1 w1 ho8 hb hg_ hnew_; have HO := Aside0.mk ho8; have HB1 := Aside0.mk hb; have hcv := own_string (P := Try.prog) Try.underlying32 Try.underlying5 Try.underlying9 (Kd.own_of_R HO.out); clear ho8 hb hg_ hnew_)
    | (go_at_call 11; (with_reducible refine (told_known _).mono ?_); rintro e w2 ⟨⟨A, c1, B, c2, rfl⟩, hg⟩; have HB2 := Aside0.mk (grown_step' HB1.out hg); clear hg))
  have hss : (s.toList == s.toList) = true := by simp
  go_wp2_with (first
    | (go_at_call 12; (with_reducible refine (chancelref13_Same.calls k st tok num at_ A3 c3 rs B3 k3 es st tok num at_ A4 c4 rs B4 k4 es true _ (Kd.C_below D31.out (below_alloc (Below.refl _ _) _)) l31 (Kd.C_below D32.out (below_alloc (Below.refl _ _) _)) l32 (Kd.C_below E41.out (below_alloc (Below.refl _ _) _)) l41 (Kd.C_below E42.out (below_alloc (Below.refl _ _) _)) l42 HS.out).mono ?_); rintro e w5 ⟨rfl, hb⟩; have HB5 := Aside0.mk (below_step (below_alloc HB4.out _) hb); have F31 := Aside0.mk (Kd.C_below (Kd.C_below D31.out (below_alloc (Below.refl _ _) _)) hb); have F32 := Aside0.mk (Kd.C_below (Kd.C_below D32.out (below_alloc (Below.refl _ _) _)) hb); have hb5 := blk_below' (blk_below' HK4.out (below_alloc (Below.refl _ _) _)) hb; have y0 : w5.cell? ⟨w3.heap.size, 0, none⟩ = some (.int .i64 st) := (blk_cell hb5 0).trans rfl; have y1 : w5.cell? ⟨w3.heap.size, 1, none⟩ = some (.string tok) := (blk_cell hb5 1).trans rfl; have y2 : w5.cell? ⟨w3.heap.size, 2, none⟩ = some (.int .i64 num) := (blk_cell hb5 2).trans rfl; have y3 : w5.cell? ⟨w3.heap.size, 3, none⟩ = some (.int .i64 at_) := (blk_cell hb5 3).trans rfl; have y4 : w5.cell? ⟨w3.heap.size, 4, none⟩ = some (.slice A3 rs.length c3) := (blk_cell hb5 4).trans rfl; have y5 : w5.cell? ⟨w3.heap.size, 5, none⟩ = some (.slice B3 es.length k3) := (blk_cell hb5 5).trans rfl; clear hb hb5)
    | (go_at_call 8; (with_reducible refine (HA.out _ A3 c3 B3 k3 F31.out l31 F32.out l32).mono ?_); rintro e w6 ⟨rfl, hg⟩; have HB6 := Aside0.mk (grown_step' HB5.out hg); clear hg))
  go_ret
  exact ⟨rfl, HB6.out⟩
/-- The law answers true at every text. -/
theorem told_walk (s : ByteArray) (w : World) : Calls Try.prog 4 #[.string s] w fun e w' => e = .returned (.bool true) ∧ Below w.heap.size w w' := by
  by_cases h : 5000 < s.size
  · exact told_long s w h
  · have hT : ∀ W, Calls Try.prog 11 #[.string s] W fun e w' => TellsA (pToldV s).isSome (ansOf (pToldV s)).status (ansOf (pToldV s)).token (ansOf (pToldV s)).num (ansOf (pToldV s)).at_ (rsOf (pToldV s)) (esOf (pToldV s)) e w' ∧ W.grownBy w' none :=
      fun W => (told_full s W (by omega)).mono fun e w' ⟨h, g⟩ => ⟨told_shape h, g⟩
    have hR : ∀ W, Calls Try.prog 13 #[.string s] W fun e w' => TellsA (pToldV s).isSome (ansOf (pToldV s)).status (ansOf (pToldV s)).token (ansOf (pToldV s)).num (ansOf (pToldV s)).at_ (rsOf (pToldV s)) (esOf (pToldV s)) e w' ∧ W.grownBy w' none :=
      fun W => (reftold s W).mono fun e w' ⟨h, g⟩ => ⟨told_shape h, g⟩
    cases hp : pToldV s with
    | none =>
      rw [hp] at hT hR
      exact told_law_false s w h _ _ _ _ _ _ hT hR _ (same_refl _ _ _ _ _ _ 0 (by omega) (by simp [rsOf, ansOf]) (by simp [esOf, ansOf]) (by simp [esOf, ansOf]))
    | some a =>
      have hw := told_written hp
      have hb := ansB_bounds hw
      rw [hp] at hT hR
      refine told_law_true s w h _ _ _ _ _ _ hT hR _ (same_refl _ _ _ _ _ _ 255 (by omega) (Nat.le_trans hb.2.1 (by decide)) (Nat.le_trans hb.2.2.1 (by decide)) hb.2.2.2.2) ?_
      intro W A c1 B c2 C1 l1 C2 l2
      have := ans_calls a.status a.token a.num a.at_ A c1 (a.runs.map s63) B c2 (a.entries.map s67) W C1 l1 C2 l2 (by omega) (fun x hx => by have := hb.2.2.2.1 x hx; omega) (fun x hx => by have := hb.2.2.2.2 x hx; omega)
      rw [hw] at this
      simp only [callR, strOf_bytesOf] at this
      exact this
end Go.Proofs.Ytibfbdfoiboanaa.Rd
