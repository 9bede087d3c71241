/- words: the law WordsAnswers, walked. Over the program alone. -/
import Derived.Test.YtibfbdfoiboanaaTPn
import Derived.Test.YtibfbdfoiboanaaTRn
namespace Go.Proofs.Ytibfbdfoiboanaa.Rd
open Go.RowKit Go.Proofs.YtibfbdfoiboanaaW.PrintWords Go.Proofs.YtibfbdfoiboanaaW.PrintMore Go.Proofs.YtibfbdfoiboanaaW.PrintLast Go.Proofs.Ytibfbdfoiboanaa.PWordsAsks
set_option linter.unusedVariables false
set_option linter.unusedSimpArgs false
set_option linter.constructorNameAsVariable false
theorem ans_three : callR (ansB 3 ⟨#[]⟩ 0 0 [] []) = .tuple #[.string ⟨#[3, 0, 0, 0, 0, 0, 0, 0, 0, 0, 0, 0, 0, 0, 0, 0, 0, 0, 0, 0, 0]⟩, .bool true] := by kernel_rfl
theorem ans_known (W : World) : Calls Try.prog 8 #[.agg #[.int .i64 3, .string ⟨#[]⟩, .int .i64 0, .int .i64 0, .slice none 0 0, .slice none 0 0]] W fun e w' => e = .returned (.tuple #[.string ⟨#[3, 0, 0, 0, 0, 0, 0, 0, 0, 0, 0, 0, 0, 0, 0, 0, 0, 0, 0, 0, 0]⟩, .bool true]) ∧ W.grownBy w' none := by
  have h := ans_calls 3 ⟨#[]⟩ 0 0 none 0 [] none 0 [] W (by refine ⟨rfl, by simp, fun h => absurd h (by simp)⟩) (Nat.le_refl _) (by refine ⟨rfl, by simp, fun h => absurd h (by simp)⟩) (Nat.le_refl _) (by decide) (fun x hx => by cases hx) (fun x hx => by cases hx)
  rw [ans_three] at h
  exact h
theorem grown_stepS {w W W' : World} (h : Below w.heap.size w W) (k : W.grownBy W' none) : Below w.heap.size w W' :=
  ⟨k.os.trans h.os, k.tape.trans h.tape, k.output.trans h.output, Nat.le_trans h.size k.size, fun q hq => (k.block q (Nat.lt_of_lt_of_le hq h.size) (by simp)).trans (h.block q hq)⟩
theorem blk_keepS {W W' : World} {b : Nat} {o : Obj} (h : W.heap[b]? = some o) (k : W.grownBy W' none) : W'.heap[b]? = some o := (k.block b (blk_lt h) (by simp)).trans h
/-- What Told answers, by its parts. -/
def TellsA (good : Bool) (st : Int) (tok : ByteArray) (num at_ : Int) (rs : List S63) (es : List S67) (e : Ending) (w' : World) : Prop :=
  ∃ A c1 B c2, e = .returned (.tuple #[.agg #[.int .i64 st, .string tok, .int .i64 num, .int .i64 at_, .slice A rs.length c1, .slice B es.length c2], .bool good]) ∧
    Kd.C k63 w' A rs.length rs ∧ rs.length ≤ c1 ∧ Kd.C k67 w' B es.length es ∧ es.length ≤ c2
theorem runB_len {x : S63} {l : List Int} (h : runB x = some l) : l.length ≤ 70000 := by
  unfold runB at h
  split at h
  · obtain rfl := Option.some.inj h
    simp [numsB_len2, textB_length]; omega
  · cases h
theorem entB_len {x : S67} {l : List Int} (h : entB x = some l) : l.length ≤ 70000 := by
  unfold entB at h
  split at h
  · split at h
    · obtain rfl := Option.some.inj h
      simp [numsB_len3, numsB_length]; omega
    · cases h
  · cases h
theorem repsB_len {α : Type} {f : α → Option (List Int)} (hf : ∀ x l, f x = some l → l.length ≤ 70000) : ∀ (xs : List α) (l : List Int), repsB f xs = some l → l.length ≤ 70000 * xs.length
  | [], l, h => by obtain rfl := Option.some.inj h; simp
  | x :: xs, l, h => by
    have h : (f x).bind (fun a => (repsB f xs).map fun b => a ++ b) = some l := h
    cases h1 : f x with
    | none => rw [h1] at h; cases h
    | some a =>
      rw [h1, Option.bind_some] at h
      cases h2 : repsB f xs with
      | none => rw [h2] at h; cases h
      | some b =>
        rw [h2, Option.map_some] at h
        obtain rfl := Option.some.inj h
        have := hf x a h1
        have := repsB_len hf xs b h2
        simp only [List.length_append, List.length_cons]
        omega
theorem ansB_len {st : Int} {tok : ByteArray} {num at_ : Int} {rs : List S63} {es : List S67} {l : List Int} (h : ansB st tok num at_ rs es = some l) : l.length ≤ 9223372036854775807 := by
  unfold ansB at h
  split at h
  · split at h
    · split at h
      · cases h4 : repsB runB rs with
        | none => rw [h4] at h; cases h
        | some A =>
          rw [h4, Option.bind_some] at h
          split at h
          · cases h6 : repsB entB es with
            | none => rw [h6] at h; cases h
            | some B =>
              rw [h6, Option.map_some] at h
              obtain rfl := Option.some.inj h
              have := repsB_len (fun x l h => runB_len h) rs A h4
              have := repsB_len (fun x l h => entB_len h) es B h6
              simp [numsB_len2, textB_length]
              omega
          · cases h
      · cases h
    · cases h
  · cases h
theorem blk_belowS {W W' : World} {b : Nat} {o : Obj} (h : W.heap[b]? = some o) (k : Below W.heap.size W W') : W'.heap[b]? = some o := (k.block b (blk_lt h)).trans h
set_option maxRecDepth 100000 in
set_option maxHeartbeats 16000000 in
theorem ans_large (st : Int) (tok : ByteArray) (num at_ : Int) (A0 : Option Addr) (c0 : Nat) (rs : List S63) (A1 : Option Addr) (c1 : Nat) (es : List S67) (w : World) (hr : Kd.C k63 w A0 rs.length rs) (hcr : rs.length ≤ c0) (he : Kd.C k67 w A1 es.length es) (hce : es.length ≤ c1) (k : Nat) (hS : chancellaw13_Small.f k st tok num at_ rs es = some false) :
    Calls Try.prog 3 #[.agg #[.int .i64 st, .string tok, .int .i64 num, .int .i64 at_, .slice A0 rs.length c0, .slice A1 es.length c1]] w fun e w' => e = .returned (.bool true) ∧ Below w.heap.size w w' := by
  have HR := Aside0.mk hr
  have HE := Aside0.mk he
  have HS := Aside0.mk hS
  clear hr he hS
  go_enter Try.func3, Try.ntmps3
  go_wp2_with (first
    | (go_at_call 9; (with_reducible refine (chancellaw13_Small.calls k st tok num at_ A0 c0 rs A1 c1 es false _ (Kd.C_below HR.out HB2.out) hcr (Kd.C_below HE.out HB2.out) hce HS.out).mono ?_); rintro e w3 ⟨rfl, hb⟩; have HB3 := Aside0.mk (below_step HB2.out hb); have hk := blk_belowS HK2.out hb; have HK3 := Aside0.mk hk; have d0 : w3.cell? ⟨w.heap.size, 0, none⟩ = some (.int .i64 st) := (blk_cell hk 0).trans rfl; have d1 : w3.cell? ⟨w.heap.size, 1, none⟩ = some (.string tok) := (blk_cell hk 1).trans rfl; have d2 : w3.cell? ⟨w.heap.size, 2, none⟩ = some (.int .i64 num) := (blk_cell hk 2).trans rfl; have d3 : w3.cell? ⟨w.heap.size, 3, none⟩ = some (.int .i64 at_) := (blk_cell hk 3).trans rfl; have d4 : w3.cell? ⟨w.heap.size, 4, none⟩ = some (.slice A0 rs.length c0) := (blk_cell hk 4).trans rfl; have d5 : w3.cell? ⟨w.heap.size, 5, none⟩ = some (.slice A1 es.length c1) := (blk_cell hk 5).trans rfl; clear hb hk b0 b1 b2 b3 b4 b5)
    | (go_at_call 8; (with_reducible refine (ans_known _).mono ?_); rintro e w2 ⟨rfl, hg⟩; have HB2 := Aside0.mk (grown_stepS (below_alloc (Below.refl _ w) _) hg); have hb := blk_keepS (heap_alloc_new w _) hg; have HK2 := Aside0.mk hb; have b0 : w2.cell? ⟨w.heap.size, 0, none⟩ = some (.int .i64 st) := (blk_cell hb 0).trans rfl; have b1 : w2.cell? ⟨w.heap.size, 1, none⟩ = some (.string tok) := (blk_cell hb 1).trans rfl; have b2 : w2.cell? ⟨w.heap.size, 2, none⟩ = some (.int .i64 num) := (blk_cell hb 2).trans rfl; have b3 : w2.cell? ⟨w.heap.size, 3, none⟩ = some (.int .i64 at_) := (blk_cell hb 3).trans rfl; have b4 : w2.cell? ⟨w.heap.size, 4, none⟩ = some (.slice A0 rs.length c0) := (blk_cell hb 4).trans rfl; have b5 : w2.cell? ⟨w.heap.size, 5, none⟩ = some (.slice A1 es.length c1) := (blk_cell hb 5).trans rfl; clear hg hb))
  go_ret
  exact ⟨rfl, HB3.out⟩
set_option maxRecDepth 100000 in
set_option maxHeartbeats 16000000 in
theorem ans_none (st : Int) (tok : ByteArray) (num at_ : Int) (A0 : Option Addr) (c0 : Nat) (rs : List S63) (A1 : Option Addr) (c1 : Nat) (es : List S67) (w : World) (hr : Kd.C k63 w A0 rs.length rs) (hcr : rs.length ≤ c0) (he : Kd.C k67 w A1 es.length es) (hce : es.length ≤ c1) (k : Nat) (hS : chancellaw13_Small.f k st tok num at_ rs es = some true) (hA : ∀ W, Below w.heap.size w W → Calls Try.prog 8 #[.agg #[.int .i64 st, .string tok, .int .i64 num, .int .i64 at_, .slice A0 rs.length c0, .slice A1 es.length c1]] W fun e w' => e = .returned (.tuple #[.string ⟨#[]⟩, .bool false]) ∧ W.grownBy w' none) (hC : ∀ W, Below w.heap.size w W → Calls Try.prog 10 #[.agg #[.int .i64 st, .string tok, .int .i64 num, .int .i64 at_, .slice A0 rs.length c0, .slice A1 es.length c1]] W fun e w' => e = .returned (.tuple #[.string ⟨#[]⟩, .bool false]) ∧ Below W.heap.size W w') :
    Calls Try.prog 3 #[.agg #[.int .i64 st, .string tok, .int .i64 num, .int .i64 at_, .slice A0 rs.length c0, .slice A1 es.length c1]] w fun e w' => e = .returned (.bool true) ∧ Below w.heap.size w w' := by
  have HR := Aside0.mk hr
  have HE := Aside0.mk he
  have HS := Aside0.mk hS
  have HA := Aside0.mk hA
  have HC := Aside0.mk hC
  clear hr he hS hA hC
  go_enter Try.func3, Try.ntmps3
  go_wp2_with (first
    | (go_at_call 10; (with_reducible refine (HC.out _ HB4.out).mono ?_); rintro e w5 ⟨rfl, hb⟩; have HB5 := Aside0.mk (below_step HB4.out hb); have hk := blk_belowS HK4.out hb; have HK5 := Aside0.mk hk; have g0 : w5.cell? ⟨w.heap.size, 0, none⟩ = some (.int .i64 st) := (blk_cell hk 0).trans rfl; have g1 : w5.cell? ⟨w.heap.size, 1, none⟩ = some (.string tok) := (blk_cell hk 1).trans rfl; have g2 : w5.cell? ⟨w.heap.size, 2, none⟩ = some (.int .i64 num) := (blk_cell hk 2).trans rfl; have g3 : w5.cell? ⟨w.heap.size, 3, none⟩ = some (.int .i64 at_) := (blk_cell hk 3).trans rfl; have g4 : w5.cell? ⟨w.heap.size, 4, none⟩ = some (.slice A0 rs.length c0) := (blk_cell hk 4).trans rfl; have g5 : w5.cell? ⟨w.heap.size, 5, none⟩ = some (.slice A1 es.length c1) := (blk_cell hk 5).trans rfl; clear hb hk f0 f1 f2 f3 f4 f5)
    | (go_at_call 8; (with_reducible refine (HA.out _ HB3.out).mono ?_); rintro e w4 ⟨rfl, hg⟩; have HB4 := Aside0.mk (grown_stepS HB3.out hg); have hk := blk_keepS HK3.out hg; have HK4 := Aside0.mk hk; have f0 : w4.cell? ⟨w.heap.size, 0, none⟩ = some (.int .i64 st) := (blk_cell hk 0).trans rfl; have f1 : w4.cell? ⟨w.heap.size, 1, none⟩ = some (.string tok) := (blk_cell hk 1).trans rfl; have f2 : w4.cell? ⟨w.heap.size, 2, none⟩ = some (.int .i64 num) := (blk_cell hk 2).trans rfl; have f3 : w4.cell? ⟨w.heap.size, 3, none⟩ = some (.int .i64 at_) := (blk_cell hk 3).trans rfl; have f4 : w4.cell? ⟨w.heap.size, 4, none⟩ = some (.slice A0 rs.length c0) := (blk_cell hk 4).trans rfl; have f5 : w4.cell? ⟨w.heap.size, 5, none⟩ = some (.slice A1 es.length c1) := (blk_cell hk 5).trans rfl; clear hg hk d0 d1 d2 d3 d4 d5)
    | (go_at_call 9; (with_reducible refine (chancellaw13_Small.calls k st tok num at_ A0 c0 rs A1 c1 es true _ (Kd.C_below HR.out HB2.out) hcr (Kd.C_below HE.out HB2.out) hce HS.out).mono ?_); rintro e w3 ⟨rfl, hb⟩; have HB3 := Aside0.mk (below_step HB2.out hb); have hk := blk_belowS HK2.out hb; have HK3 := Aside0.mk hk; have d0 : w3.cell? ⟨w.heap.size, 0, none⟩ = some (.int .i64 st) := (blk_cell hk 0).trans rfl; have d1 : w3.cell? ⟨w.heap.size, 1, none⟩ = some (.string tok) := (blk_cell hk 1).trans rfl; have d2 : w3.cell? ⟨w.heap.size, 2, none⟩ = some (.int .i64 num) := (blk_cell hk 2).trans rfl; have d3 : w3.cell? ⟨w.heap.size, 3, none⟩ = some (.int .i64 at_) := (blk_cell hk 3).trans rfl; have d4 : w3.cell? ⟨w.heap.size, 4, none⟩ = some (.slice A0 rs.length c0) := (blk_cell hk 4).trans rfl; have d5 : w3.cell? ⟨w.heap.size, 5, none⟩ = some (.slice A1 es.length c1) := (blk_cell hk 5).trans rfl; clear hb hk b0 b1 b2 b3 b4 b5)
    | (go_at_call 8; (with_reducible refine (ans_known _).mono ?_); rintro e w2 ⟨rfl, hg⟩; have HB2 := Aside0.mk (grown_stepS (below_alloc (Below.refl _ w) _) hg); have hb := blk_keepS (heap_alloc_new w _) hg; have HK2 := Aside0.mk hb; have b0 : w2.cell? ⟨w.heap.size, 0, none⟩ = some (.int .i64 st) := (blk_cell hb 0).trans rfl; have b1 : w2.cell? ⟨w.heap.size, 1, none⟩ = some (.string tok) := (blk_cell hb 1).trans rfl; have b2 : w2.cell? ⟨w.heap.size, 2, none⟩ = some (.int .i64 num) := (blk_cell hb 2).trans rfl; have b3 : w2.cell? ⟨w.heap.size, 3, none⟩ = some (.int .i64 at_) := (blk_cell hb 3).trans rfl; have b4 : w2.cell? ⟨w.heap.size, 4, none⟩ = some (.slice A0 rs.length c0) := (blk_cell hb 4).trans rfl; have b5 : w2.cell? ⟨w.heap.size, 5, none⟩ = some (.slice A1 es.length c1) := (blk_cell hb 5).trans rfl; clear hg hb))
  go_ret
  exact ⟨rfl, HB5.out⟩
set_option maxRecDepth 100000 in
set_option maxHeartbeats 16000000 in
theorem ans_some (st : Int) (tok : ByteArray) (num at_ : Int) (A0 : Option Addr) (c0 : Nat) (rs : List S63) (A1 : Option Addr) (c1 : Nat) (es : List S67) (w : World) (hr : Kd.C k63 w A0 rs.length rs) (hcr : rs.length ≤ c0) (he : Kd.C k67 w A1 es.length es) (hce : es.length ≤ c1) (k : Nat) (hS : chancellaw13_Small.f k st tok num at_ rs es = some true) (L : ByteArray) (hA : ∀ W, Below w.heap.size w W → Calls Try.prog 8 #[.agg #[.int .i64 st, .string tok, .int .i64 num, .int .i64 at_, .slice A0 rs.length c0, .slice A1 es.length c1]] W fun e w' => e = .returned (.tuple #[.string L, .bool true]) ∧ W.grownBy w' none) (hC : ∀ W, Below w.heap.size w W → Calls Try.prog 10 #[.agg #[.int .i64 st, .string tok, .int .i64 num, .int .i64 at_, .slice A0 rs.length c0, .slice A1 es.length c1]] W fun e w' => e = .returned (.tuple #[.string L, .bool true]) ∧ Below W.heap.size W w') (hT : ∀ W, Calls Try.prog 11 #[.string L] W fun e w' => TellsA true st tok num at_ rs es e w' ∧ W.grownBy w' none) (m : Nat) (hM : chancelref13_Same.f m st tok num at_ rs es st tok num at_ rs es = some true) :
    Calls Try.prog 3 #[.agg #[.int .i64 st, .string tok, .int .i64 num, .int .i64 at_, .slice A0 rs.length c0, .slice A1 es.length c1]] w fun e w' => e = .returned (.bool true) ∧ Below w.heap.size w w' := by
  have HR := Aside0.mk hr
  have HE := Aside0.mk he
  have HS := Aside0.mk hS
  have HA := Aside0.mk hA
  have HC := Aside0.mk hC
  have HT := Aside0.mk hT
  have HM := Aside0.mk hM
  have hss : (L.toList == L.toList) = true := by simp
  have hs2 : (L.toList != L.toList) = false := by simp
  clear hr he hS hA hC hT hM
  go_enter Try.func3, Try.ntmps3
  go_upto_region 13 with (first
    | (go_at_call 11; (with_reducible refine (HT.out _).mono ?_); rintro e w6 ⟨⟨A6, c6, B6, k6, rfl, D1, l61, D2, l62⟩, hg⟩; have HB6 := Aside0.mk (grown_stepS HB5.out hg); have hk := blk_keepS HK5.out hg; have HK6 := Aside0.mk hk; have h0 : w6.cell? ⟨w.heap.size, 0, none⟩ = some (.int .i64 st) := (blk_cell hk 0).trans rfl; have h1 : w6.cell? ⟨w.heap.size, 1, none⟩ = some (.string tok) := (blk_cell hk 1).trans rfl; have h2 : w6.cell? ⟨w.heap.size, 2, none⟩ = some (.int .i64 num) := (blk_cell hk 2).trans rfl; have h3 : w6.cell? ⟨w.heap.size, 3, none⟩ = some (.int .i64 at_) := (blk_cell hk 3).trans rfl; have h4 : w6.cell? ⟨w.heap.size, 4, none⟩ = some (.slice A0 rs.length c0) := (blk_cell hk 4).trans rfl; have h5 : w6.cell? ⟨w.heap.size, 5, none⟩ = some (.slice A1 es.length c1) := (blk_cell hk 5).trans rfl; have lt6 := blk_lt hk; have C61 := Aside0.mk D1; have C62 := Aside0.mk D2; clear hg hk D1 D2 g0 g1 g2 g3 g4 g5)
    | (go_at_call 10; (with_reducible refine (HC.out _ HB4.out).mono ?_); rintro e w5 ⟨rfl, hb⟩; have HB5 := Aside0.mk (below_step HB4.out hb); have hk := blk_belowS HK4.out hb; have HK5 := Aside0.mk hk; have g0 : w5.cell? ⟨w.heap.size, 0, none⟩ = some (.int .i64 st) := (blk_cell hk 0).trans rfl; have g1 : w5.cell? ⟨w.heap.size, 1, none⟩ = some (.string tok) := (blk_cell hk 1).trans rfl; have g2 : w5.cell? ⟨w.heap.size, 2, none⟩ = some (.int .i64 num) := (blk_cell hk 2).trans rfl; have g3 : w5.cell? ⟨w.heap.size, 3, none⟩ = some (.int .i64 at_) := (blk_cell hk 3).trans rfl; have g4 : w5.cell? ⟨w.heap.size, 4, none⟩ = some (.slice A0 rs.length c0) := (blk_cell hk 4).trans rfl; have g5 : w5.cell? ⟨w.heap.size, 5, none⟩ = some (.slice A1 es.length c1) := (blk_cell hk 5).trans rfl; clear hb hk f0 f1 f2 f3 f4 f5)
    | (go_at_call 8; (with_reducible refine (HA.out _ HB3.out).mono ?_); rintro e w4 ⟨rfl, hg⟩; have HB4 := Aside0.mk (grown_stepS HB3.out hg); have hk := blk_keepS HK3.out hg; have HK4 := Aside0.mk hk; have f0 : w4.cell? ⟨w.heap.size, 0, none⟩ = some (.int .i64 st) := (blk_cell hk 0).trans rfl; have f1 : w4.cell? ⟨w.heap.size, 1, none⟩ = some (.string tok) := (blk_cell hk 1).trans rfl; have f2 : w4.cell? ⟨w.heap.size, 2, none⟩ = some (.int .i64 num) := (blk_cell hk 2).trans rfl; have f3 : w4.cell? ⟨w.heap.size, 3, none⟩ = some (.int .i64 at_) := (blk_cell hk 3).trans rfl; have f4 : w4.cell? ⟨w.heap.size, 4, none⟩ = some (.slice A0 rs.length c0) := (blk_cell hk 4).trans rfl; have f5 : w4.cell? ⟨w.heap.size, 5, none⟩ = some (.slice A1 es.length c1) := (blk_cell hk 5).trans rfl; clear hg hk d0 d1 d2 d3 d4 d5)
    | (go_at_call 9; (with_reducible refine (chancellaw13_Small.calls k st tok num at_ A0 c0 rs A1 c1 es true _ (Kd.C_below HR.out HB2.out) hcr (Kd.C_below HE.out HB2.out) hce HS.out).mono ?_); rintro e w3 ⟨rfl, hb⟩; have HB3 := Aside0.mk (below_step HB2.out hb); have hk := blk_belowS HK2.out hb; have HK3 := Aside0.mk hk; have d0 : w3.cell? ⟨w.heap.size, 0, none⟩ = some (.int .i64 st) := (blk_cell hk 0).trans rfl; have d1 : w3.cell? ⟨w.heap.size, 1, none⟩ = some (.string tok) := (blk_cell hk 1).trans rfl; have d2 : w3.cell? ⟨w.heap.size, 2, none⟩ = some (.int .i64 num) := (blk_cell hk 2).trans rfl; have d3 : w3.cell? ⟨w.heap.size, 3, none⟩ = some (.int .i64 at_) := (blk_cell hk 3).trans rfl; have d4 : w3.cell? ⟨w.heap.size, 4, none⟩ = some (.slice A0 rs.length c0) := (blk_cell hk 4).trans rfl; have d5 : w3.cell? ⟨w.heap.size, 5, none⟩ = some (.slice A1 es.length c1) := (blk_cell hk 5).trans rfl; clear hb hk b0 b1 b2 b3 b4 b5)
    | (go_at_call 8; (with_reducible refine (ans_known _).mono ?_); rintro e w2 ⟨rfl, hg⟩; have HB2 := Aside0.mk (grown_stepS (below_alloc (Below.refl _ w) _) hg); have hb := blk_keepS (heap_alloc_new w _) hg; have HK2 := Aside0.mk hb; have b0 : w2.cell? ⟨w.heap.size, 0, none⟩ = some (.int .i64 st) := (blk_cell hb 0).trans rfl; have b1 : w2.cell? ⟨w.heap.size, 1, none⟩ = some (.string tok) := (blk_cell hb 1).trans rfl; have b2 : w2.cell? ⟨w.heap.size, 2, none⟩ = some (.int .i64 num) := (blk_cell hb 2).trans rfl; have b3 : w2.cell? ⟨w.heap.size, 3, none⟩ = some (.int .i64 at_) := (blk_cell hb 3).trans rfl; have b4 : w2.cell? ⟨w.heap.size, 4, none⟩ = some (.slice A0 rs.length c0) := (blk_cell hb 4).trans rfl; have b5 : w2.cell? ⟨w.heap.size, 5, none⟩ = some (.slice A1 es.length c1) := (blk_cell hb 5).trans rfl; clear hg hb))
  go_wp2_with (go_at_call 12; (with_reducible refine (chancelref13_Same.calls m st tok num at_ A0 c0 rs A1 c1 es st tok num at_ A6 c6 rs B6 k6 es true _ (Kd.C_below HR.out (below_alloc HB6.out _)) hcr (Kd.C_below HE.out (below_alloc HB6.out _)) hce (Kd.C_below C61.out (below_alloc (Below.refl _ _) _)) l61 (Kd.C_below C62.out (below_alloc (Below.refl _ _) _)) l62 HM.out).mono ?_); rintro e w7 ⟨rfl, hb⟩; have HB7 := Aside0.mk (below_step (below_alloc HB6.out _) hb); clear hb)
  go_ret
  exact ⟨rfl, HB7.out⟩
/-- The law answers true at every answer. -/
theorem answers_walk (st : Int) (tok : ByteArray) (num at_ : Int) (A0 : Option Addr) (c0 : Nat) (rs : List S63) (A1 : Option Addr) (c1 : Nat) (es : List S67) (w : World) (hr : Kd.C k63 w A0 rs.length rs) (hcr : rs.length ≤ c0) (he : Kd.C k67 w A1 es.length es) (hce : es.length ≤ c1)
    (hl1 : rs.length ≤ 9223372036854775807) (hl2 : es.length ≤ 9223372036854775807) (ht : tok.size ≤ 281474976710656) (hx : ∀ x ∈ rs, x.f3.size ≤ 281474976710656) (hy : ∀ x ∈ es, x.f3.length ≤ 281474976710656 ∧ x.f4.length ≤ 281474976710656)
    (wn : Rng num) (wa : Rng at_) (w63 : ∀ x ∈ rs, Wf63 x) (w67 : ∀ x ∈ es, Wf67 x) :
    Calls Try.prog 3 #[.agg #[.int .i64 st, .string tok, .int .i64 num, .int .i64 at_, .slice A0 rs.length c0, .slice A1 es.length c1]] w fun e w' => e = .returned (.bool true) ∧ Below w.heap.size w w' := by
  obtain ⟨k, r, hk, hb⟩ := small_ex st tok num at_ rs es hl1 hl2 ht hx hy
  cases r with
  | false => exact ans_large st tok num at_ A0 c0 rs A1 c1 es w hr hcr he hce k hk
  | true =>
    obtain ⟨b1, b2, b3, b4, b5⟩ := hb rfl
    have hA : ∀ W, Below w.heap.size w W → Calls Try.prog 8 #[.agg #[.int .i64 st, .string tok, .int .i64 num, .int .i64 at_, .slice A0 rs.length c0, .slice A1 es.length c1]] W fun e w' => e = .returned (callR (ansB st tok num at_ rs es)) ∧ W.grownBy w' none := fun W hW =>
      ans_calls st tok num at_ A0 c0 rs A1 c1 es W (Kd.C_below hr hW) hcr (Kd.C_below he hW) hce (by omega) (fun x h => by have := b4 x h; omega) (fun x h => by have := b5 x h; omega)
    have hC : ∀ W, Below w.heap.size w W → Calls Try.prog 10 #[.agg #[.int .i64 st, .string tok, .int .i64 num, .int .i64 at_, .slice A0 rs.length c0, .slice A1 es.length c1]] W fun e w' => e = .returned (callR (ansB st tok num at_ rs es)) ∧ Below W.heap.size W w' := fun W hW =>
      refans st tok num at_ A0 c0 rs A1 c1 es W (Kd.C_below hr hW) hcr (Kd.C_below he hW) hce (fun x h => by have := b4 x h; omega) (fun x h => by have := b5 x h; omega)
    cases hP : ansB st tok num at_ rs es with
    | none =>
      rw [hP] at hA hC
      exact ans_none st tok num at_ A0 c0 rs A1 c1 es w hr hcr he hce k hk hA hC
    | some l =>
      rw [hP] at hA hC
      have hp := told_w st tok num at_ rs es l hP wn wa w63 w67
      have hbd := ansB_bounds hP
      have hsz : (strOfNums l).size ≤ 9223372036854775807 := by rw [strOfNums_size]; exact ansB_len hP
      refine ans_some st tok num at_ A0 c0 rs A1 c1 es w hr hcr he hce k hk (strOfNums l) hA hC (fun W => ?_) _ (same_refl st tok num at_ rs es 255 (by decide) (Nat.le_trans hbd.2.1 (by decide)) (Nat.le_trans hbd.2.2.1 (by decide)) hbd.2.2.2.2)
      refine (told_full _ W hsz).mono fun e w' ⟨h, g⟩ => ⟨?_, g⟩
      rw [hp] at h
      have h2 := told_shape h
      simp only [ansOf, rsOf, esOf, Option.getD_some, Option.isSome_some, su63, su67] at h2
      exact h2
end Go.Proofs.Ytibfbdfoiboanaa.Rd
