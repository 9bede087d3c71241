/- words.Answer: what it answers: the answer's bytes, or that there are none. Over the program alone. -/
import Derived.Test.YtibfbdfoiboanaaTWc
import Derived.Test.YtibfbdfoiboanaaTX0
namespace Go.Proofs.Ytibfbdfoiboanaa.Rd
open Go.RowKit Go.Proofs.YtibfbdfoiboanaaW.PrintWords Go.Proofs.YtibfbdfoiboanaaW.PrintMore Go.Proofs.YtibfbdfoiboanaaW.PrintLast Go.Proofs.Ytibfbdfoiboanaa.PWordsAsks
set_option linter.unusedVariables false
set_option linter.unusedSimpArgs false
/-! The answer's bytes; none: there are none. -/
def runB (x : S63) : Option (List Int) := if x.f3.size ≤ 65535 then some (numsB [x.f0, x.f1] ++ [if x.f2 then 1 else 0] ++ textB x.f3) else none
def entB (x : S67) : Option (List Int) := if x.f3.length ≤ 255 then if x.f4.length ≤ 255 then some (numsB [x.f0, x.f1, x.f2] ++ ((x.f3.length : Int) :: numsB x.f3) ++ ((x.f4.length : Int) :: numsB x.f4)) else none else none
def repsB {α : Type} (f : α → Option (List Int)) : List α → Option (List Int)
  | [] => some []
  | x :: l => (f x).bind fun a => (repsB f l).map fun b => a ++ b
def ansB (st : Int) (tok : ByteArray) (num at_ : Int) (rs : List S63) (es : List S67) : Option (List Int) :=
  if 0 ≤ st ∧ st ≤ 255 then if tok.size ≤ 65535 then if rs.length ≤ 255 then (repsB runB rs).bind fun A => if es.length ≤ 255 then (repsB entB es).map fun B => [st] ++ textB tok ++ numsB [num, at_] ++ [(rs.length : Int)] ++ A ++ [(es.length : Int)] ++ B else none else none else none else none
theorem begunC_is {w w2 : World} {C : Array Value} {tc : TypeId} {s b : Value} (h : BegunC w w2 C tc s b) : Below w.heap.size w w2 := ⟨h.os, h.tape, h.output, by have := h.size; omega, fun q hq => h.rest q hq⟩
theorem wr_empty (W : World) : Wr (W.alloc (.cells #[.slice none 0 0] 58)) W.heap.size W.heap.size [] :=
  ⟨⟨_, heap_alloc_new W _, Kd.R_nil _ _ _ _ _⟩, by rw [alloc_size]; omega⟩
theorem blk_typed {w w1 : World} {g base b t : Nat} {C : Array Value} (h : Wrote w w1 g base) (hb : w.heap[b]? = some (.cells C t (0, 0))) (ht : t ≠ 5) (hn : b ≠ g) : w1.heap[b]? = some (.cells C t (0, 0)) := (h.typed b C t hb ht hn).trans hb
theorem textB_length (s : ByteArray) : (textB s).length = s.size + 2 := by simp [textB, bytesOf_length]
theorem numsB_len2 (a b : Int) : (numsB [a, b]).length = 16 := by rw [numsB_length]; rfl
theorem numsB_len3 (a b c : Int) : (numsB [a, b, c]).length = 24 := by rw [numsB_length]; rfl
theorem repsB_at63 {rs : List S63} {k : Nat} (h : k < rs.length) : rs.drop k = rd_T63 rs (k : Int) :: rs.drop (k + 1) := by
  rw [List.drop_eq_getElem_cons h]
  congr 1
  unfold rd_T63
  rw [Int.toNat_natCast, List.getD_eq_getElem?_getD, List.getElem?_eq_getElem h]
  rfl
theorem repsB_at67 {rs : List S67} {k : Nat} (h : k < rs.length) : rs.drop k = rd_T67 rs (k : Int) :: rs.drop (k + 1) := by
  rw [List.drop_eq_getElem_cons h]
  congr 1
  unfold rd_T67
  rw [Int.toNat_natCast, List.getD_eq_getElem?_getD, List.getElem?_eq_getElem h]
  rfl
theorem mem63 {rs : List S63} {k : Nat} (h : k < rs.length) : rd_T63 rs (k : Int) ∈ rs := by
  unfold rd_T63
  rw [Int.toNat_natCast, List.getD_eq_getElem?_getD, List.getElem?_eq_getElem h]
  exact List.getElem_mem h
theorem mem67 {rs : List S67} {k : Nat} (h : k < rs.length) : rd_T67 rs (k : Int) ∈ rs := by
  unfold rd_T67
  rw [Int.toNat_natCast, List.getD_eq_getElem?_getD, List.getElem?_eq_getElem h]
  exact List.getElem_mem h
theorem ans_idle (p q : Addr) (w : World) :
    CallsD Try.prog 23 #[.pointer (some p), .pointer (some q)] .returning w fun e u' w' => e = .returned (.tuple #[]) ∧ u' = .returning ∧ w' = w := by
  refine callsD_of_wpS Try.func23 rfl fun c₀ cs hu => ?_
  apply wpS_seq
  apply wpS_region
  simp [wpOpsS, go_sem, recoverD, hu, Try.ntmps23, Exit.thenS]
  apply wpS_seq
  apply wpS_region
  simp [wpOpsS, go_sem, Exit.thenS]
  refine wpS_cond (t := false) (by simp [Act.eval, Array.replicate]) ?_
  simp only [Bool.false_eq_true, if_false]
  refine wpS_of_wp (wp_skip ?_)
  cases c₀
  simp_all [bodyPostS, results, Try.results23]
set_option maxRecDepth 100000 in
set_option maxHeartbeats 2000000 in
theorem ans_panicking (b k : Nat) (u0 v : Value) (w : World) (hb : w.heap[b]? = some (.cells #[u0] 9 (0, 0))) (hk : w.heap[k]? = some (.cells #[v] 4 (0, 0))) :
    CallsD Try.prog 23 #[.pointer (some ⟨b, 0, none⟩), .pointer (some ⟨k, 0, none⟩)] (.panicking [badP]) w fun e u' w' =>
      e = .returned (.tuple #[]) ∧ u' = .panicking [{ badP with recovered := true }] ∧ w' = ((w.setCell ⟨b, 0, none⟩ (.string ⟨#[]⟩)).setCell ⟨k, 0, none⟩ (.bool false)).alloc (.cells #[] 54) := by
  refine callsD_of_wpS Try.func23 rfl fun c₀ cs hu => ?_
  apply wpS_seq
  apply wpS_region
  simp [wpOpsS, go_sem, recoverD, hu, Try.ntmps23, Exit.thenS, badP]
  apply wpS_seq
  apply wpS_region
  simp [wpOpsS, go_sem, Exit.thenS]
  refine wpS_cond (t := true) (by simp [Act.eval, Array.replicate]) ?_
  simp only [if_true]
  refine wpS_of_wp ?_
  have hs : w.frozen? ⟨b, 0, none⟩ = false := blk_frozen hb 0
  have hc0 : w.cell? ⟨b, 0, none⟩ = some u0 := (blk_cell hb 0).trans rfl
  have hk0 : w.cell? ⟨k, 0, none⟩ = some v := (blk_cell hk 0).trans rfl
  have hkf : w.frozen? ⟨k, 0, none⟩ = false := blk_frozen hk 0
  have hbl : b < w.heap.size := blk_lt hb
  have hkl : k < w.heap.size := blk_lt hk
  have hbk : b ≠ k := fun e => by rw [e, hk] at hb; cases hb
  have hkb : k ≠ b := fun e => hbk e.symm
  have hta : ∀ W, (Instr.typeAssert (.iface 54 (.agg #[])) 20 54 true).run Try.prog W = .ok (.tuple #[.agg #[], .bool true]) W := fun W => by simp [Instr.typeAssert, run_underlying Try.underlying54, go_sem, Result.andThen]
  simp [Array.replicate]
  go_wp2
  cases c₀
  simp_all [bodyPostS, results, Try.results23, badP]
set_option maxRecDepth 100000 in
set_option maxHeartbeats 64000000 in
theorem ans_calls (st : Int) (tok : ByteArray) (num at_ : Int) (A0 : Option Addr) (c0 : Nat) (rs : List S63) (A1 : Option Addr) (c1 : Nat) (es : List S67) (w : World) (hr : Kd.C k63 w A0 rs.length rs) (hcr : rs.length ≤ c0) (he : Kd.C k67 w A1 es.length es) (hce : es.length ≤ c1) (hl : tok.size ≤ 140000) (htx : ∀ x ∈ rs, x.f3.size ≤ 140000) (hel : ∀ x ∈ es, x.f3.length ≤ 140000 ∧ x.f4.length ≤ 140000) :
    Calls Try.prog 8 #[.agg #[.int .i64 st, .string tok, .int .i64 num, .int .i64 at_, .slice A0 rs.length c0, .slice A1 es.length c1]] w fun e w' => e = .returned (callR (ansB st tok num at_ rs es)) ∧ w.grownBy w' none := by
  have hmf : ∀ (fn : Fn) (first cap : Array Value) (w : World), (Instr.makeFunc fn first cap).run Try.prog w = .ok (.func fn first cap) w := fun _ _ _ _ => rfl
  obtain ⟨P, hP⟩ : ∃ P, P = ansB st tok num at_ rs es := ⟨_, rfl⟩
  rw [← hP]
  have HPP := Aside0.mk hP
  have HRR := Aside0.mk hr
  have HEE := Aside0.mk he
  have HTX := Aside0.mk htx
  have HEL := Aside0.mk hel
  clear hP hr he htx hel
  go_enter_defers Try.func8, Try.ntmps8
  go_upto_region 3 with (fail)
  obtain ⟨W0, hw⟩ : ∃ W, W = (((w.alloc (.cells #[.int .i64 st, .string tok, .int .i64 num, .int .i64 at_, .slice A0 rs.length c0, .slice A1 es.length c1] 25)).alloc (.cells #[.string ⟨#[]⟩] 9)).alloc (.cells #[.bool false] 4)).alloc (.cells #[.slice none 0 0] 58) := ⟨_, rfl⟩
  rw [← hw]
  have HB0 := Aside0.mk (show BegunC w W0 #[.int .i64 st, .string tok, .int .i64 num, .int .i64 at_, .slice A0 rs.length c0, .slice A1 es.length c1] 25 (.string ⟨#[]⟩) (.bool false) by rw [hw]; exact begunC_below (begunC w _ _ _ _) (below_alloc (Below.refl _ _) _))
  have HW0 := Aside0.mk (show Wr W0 (w.heap.size + 1 + 1 + 1) (w.heap.size + 1 + 1 + 1) [] by rw [hw]; have h := wr_empty (((w.alloc (.cells #[.int .i64 st, .string tok, .int .i64 num, .int .i64 at_, .slice A0 rs.length c0, .slice A1 es.length c1] 25)).alloc (.cells #[.string ⟨#[]⟩] 9)).alloc (.cells #[.bool false] 4)); simpa only [alloc_size] using h)
  clear hw
  have hb0 : W0.cell? ⟨w.heap.size, 0, none⟩ = some (.int .i64 st) := (blk_cell HB0.out.box 0).trans rfl
  by_cases q1 : 0 ≤ st ∧ st ≤ 255
  case neg =>
    go_wp2_with (go_at_call 24; (with_reducible refine (length_writes (w.heap.size + 1 + 1 + 1) (w.heap.size + 1 + 1 + 1) [] st _ HW0.out (by simp)).mono ?_); rintro e W1 h9; rw [if_neg q1] at h9; obtain ⟨rfl, hg9⟩ := h9; have HBf := Aside0.mk (begunC_grown HB0.out hg9); clear hg9)
    have hPf : P = none := by rw [HPP.out]; unfold ansB; simp only [if_neg q1, Option.bind_some, Option.bind_none, Option.map_none]
    subst hPf
    refine leaves_cons (f := 23) (args := #[.pointer (some ⟨w.heap.size + 1, 0, none⟩), .pointer (some ⟨w.heap.size + 1 + 1, 0, none⟩)]) (by simp) (by simp [go_sem]) ?_
    refine (ans_panicking (w.heap.size + 1) (w.heap.size + 1 + 1) _ _ _ HBf.out.res HBf.out.ok).mono ?_
    rintro e u' w'' ⟨rfl, rfl, hw⟩
    have hB := begunC_below (begunC_ok (begunC_res HBf.out (.string ⟨#[]⟩)) (.bool false)) (below_alloc (Below.refl _ _) (.cells #[] 54))
    rw [← hw] at hB
    have hc0 : w''.cell? ⟨w.heap.size + 1, 0, none⟩ = some (.string ⟨#[]⟩) := (blk_cell hB.res 0).trans rfl
    have hk0 : w''.cell? ⟨w.heap.size + 1 + 1, 0, none⟩ = some (.bool false) := (blk_cell hB.ok 0).trans rfl
    have HG := begunC_all hB
    clear hw hB
    simp [Leaves, settle, results, Try.results8, go_sem, hc0, hk0, Result.andThen, callR]
    exact HG
  case pos =>
    go_upto_region 4 with (go_at_call 24; (with_reducible refine (length_writes (w.heap.size + 1 + 1 + 1) (w.heap.size + 1 + 1 + 1) [] st _ HW0.out (by simp)).mono ?_); rintro e W1 h9; rw [if_pos q1] at h9; obtain ⟨rfl, hw9, ho9⟩ := h9; have HW1 := Aside0.mk hw9; have HB1 := Aside0.mk (begunC_wrote HB0.out ho9 (by omega) (by omega)); clear hw9 ho9)
    clear hb0 HW0 HB0
    have hb1 : W1.cell? ⟨w.heap.size, 1, none⟩ = some (.string tok) := (blk_cell HB1.out.box 1).trans rfl
    by_cases q2 : tok.size ≤ 65535
    case neg =>
      go_wp2_with (go_at_call 25; (with_reducible refine (text_writes (w.heap.size + 1 + 1 + 1) (w.heap.size + 1 + 1 + 1) ([] ++ [st]) tok _ HW1.out (by simp; omega)).mono ?_); rintro e W2 h9; rw [if_neg q2] at h9; obtain ⟨rfl, hg9⟩ := h9; have HBf := Aside0.mk (begunC_grown HB1.out hg9); clear hg9)
      have hPf : P = none := by rw [HPP.out]; unfold ansB; simp only [if_pos q1, if_neg q2, Option.bind_some, Option.bind_none, Option.map_none]
      subst hPf
      refine leaves_cons (f := 23) (args := #[.pointer (some ⟨w.heap.size + 1, 0, none⟩), .pointer (some ⟨w.heap.size + 1 + 1, 0, none⟩)]) (by simp) (by simp [go_sem]) ?_
      refine (ans_panicking (w.heap.size + 1) (w.heap.size + 1 + 1) _ _ _ HBf.out.res HBf.out.ok).mono ?_
      rintro e u' w'' ⟨rfl, rfl, hw⟩
      have hB := begunC_below (begunC_ok (begunC_res HBf.out (.string ⟨#[]⟩)) (.bool false)) (below_alloc (Below.refl _ _) (.cells #[] 54))
      rw [← hw] at hB
      have hc0 : w''.cell? ⟨w.heap.size + 1, 0, none⟩ = some (.string ⟨#[]⟩) := (blk_cell hB.res 0).trans rfl
      have hk0 : w''.cell? ⟨w.heap.size + 1 + 1, 0, none⟩ = some (.bool false) := (blk_cell hB.ok 0).trans rfl
      have HG := begunC_all hB
      clear hw hB
      simp [Leaves, settle, results, Try.results8, go_sem, hc0, hk0, Result.andThen, callR]
      exact HG
    case pos =>
      go_upto_region 5 with (go_at_call 25; (with_reducible refine (text_writes (w.heap.size + 1 + 1 + 1) (w.heap.size + 1 + 1 + 1) ([] ++ [st]) tok _ HW1.out (by simp; omega)).mono ?_); rintro e W2 h9; rw [if_pos q2] at h9; obtain ⟨rfl, hw9, ho9⟩ := h9; have HW2 := Aside0.mk hw9; have HB2 := Aside0.mk (begunC_wrote HB1.out ho9 (by omega) (by omega)); clear hw9 ho9)
      clear hb1 HW1 HB1
      have hb2 : W2.cell? ⟨w.heap.size, 2, none⟩ = some (.int .i64 num) := (blk_cell HB2.out.box 2).trans rfl
      have hb3 : W2.cell? ⟨w.heap.size, 3, none⟩ = some (.int .i64 at_) := (blk_cell HB2.out.box 3).trans rfl
      have hs2 := wr_lt HW2.out
      go_upto_region 6 with (go_at_call 26; refine (num_writes (w.heap.size + 1 + 1 + 1) (w.heap.size + 1 + 1 + 1) ([] ++ [st] ++ textB tok) [num, at_] (some ⟨W2.heap.size, 0, none⟩) 2 _ (wr_below HW2.out (below_alloc (Below.refl _ _) _)) (lit_reads (lit_new _ _ _ _ rfl rfl) (by omega) (by simp)) (by simp [textB_length]; omega)).mono ?_; rintro e W3 ⟨rfl, hw9, ho9⟩; have HW3 := Aside0.mk hw9; have HB3 := Aside0.mk (begunC_wrote (begunC_below HB2.out (below_alloc (Below.refl _ _) _)) ho9 (by omega) (by omega)); clear hw9 ho9)
      clear hb2 hb3 HW2 HB2 hs2
      have hb4 : W3.cell? ⟨w.heap.size, 4, none⟩ = some (.slice A0 rs.length c0) := (blk_cell HB3.out.box 4).trans rfl
      by_cases q3 : 0 ≤ (rs.length : Int) ∧ (rs.length : Int) ≤ 255
      case neg =>
        have q3n : ¬ rs.length ≤ 255 := by omega
        go_wp2_with (go_at_call 24; (with_reducible refine (length_writes (w.heap.size + 1 + 1 + 1) (w.heap.size + 1 + 1 + 1) ([] ++ [st] ++ textB tok ++ numsB [num, at_]) (rs.length : Int) _ HW3.out (by simp [textB_length, numsB_len2]; omega)).mono ?_); rintro e W4 h9; rw [if_neg q3] at h9; obtain ⟨rfl, hg9⟩ := h9; have HBf := Aside0.mk (begunC_grown HB3.out hg9); clear hg9)
        have hPf : P = none := by rw [HPP.out]; unfold ansB; simp only [if_pos q1, if_pos q2, if_neg q3n, Option.bind_some, Option.bind_none, Option.map_none]
        subst hPf
        refine leaves_cons (f := 23) (args := #[.pointer (some ⟨w.heap.size + 1, 0, none⟩), .pointer (some ⟨w.heap.size + 1 + 1, 0, none⟩)]) (by simp) (by simp [go_sem]) ?_
        refine (ans_panicking (w.heap.size + 1) (w.heap.size + 1 + 1) _ _ _ HBf.out.res HBf.out.ok).mono ?_
        rintro e u' w'' ⟨rfl, rfl, hw⟩
        have hB := begunC_below (begunC_ok (begunC_res HBf.out (.string ⟨#[]⟩)) (.bool false)) (below_alloc (Below.refl _ _) (.cells #[] 54))
        rw [← hw] at hB
        have hc0 : w''.cell? ⟨w.heap.size + 1, 0, none⟩ = some (.string ⟨#[]⟩) := (blk_cell hB.res 0).trans rfl
        have hk0 : w''.cell? ⟨w.heap.size + 1 + 1, 0, none⟩ = some (.bool false) := (blk_cell hB.ok 0).trans rfl
        have HG := begunC_all hB
        clear hw hB
        simp [Leaves, settle, results, Try.results8, go_sem, hc0, hk0, Result.andThen, callR]
        exact HG
      case pos =>
        have q3p : rs.length ≤ 255 := by omega
        go_upto_region 7 with (go_at_call 24; (with_reducible refine (length_writes (w.heap.size + 1 + 1 + 1) (w.heap.size + 1 + 1 + 1) ([] ++ [st] ++ textB tok ++ numsB [num, at_]) (rs.length : Int) _ HW3.out (by simp [textB_length, numsB_len2]; omega)).mono ?_); rintro e W4 h9; rw [if_pos q3] at h9; obtain ⟨rfl, hw9, ho9⟩ := h9; have HW4 := Aside0.mk hw9; have HB4 := Aside0.mk (begunC_wrote HB3.out ho9 (by omega) (by omega)); clear hw9 ho9)
        clear hb4 HW3 HB3
        have hb4 : W4.cell? ⟨w.heap.size, 4, none⟩ = some (.slice A0 rs.length c0) := (blk_cell HB4.out.box 4).trans rfl
        obtain ⟨pre, hpre⟩ : ∃ pre, pre = [] ++ [st] ++ textB tok ++ numsB [num, at_] ++ [(rs.length : Int)] := ⟨_, rfl⟩
        rw [← hpre] at HW4
        have hpl : pre.length ≤ 70000 := by rw [hpre]; simp [textB_length, numsB_len2]; omega
        have HPRE := Aside0.mk hpre
        clear hpre
        go_wp2
        go_loopg [35] rs.length (fun gg vi wr => ∃ (k : Nat) (acc : List Int), k ≤ rs.length ∧ rs.length - k ≤ gg ∧ vi = .int .i64 k ∧ acc.length ≤ 70000 * k ∧ Aside0 (repsB runB rs = (repsB runB (rs.drop k)).map fun b => acc ++ b) ∧ Aside0 (BegunC w wr #[.int .i64 st, .string tok, .int .i64 num, .int .i64 at_, .slice A0 rs.length c0, .slice A1 es.length c1] 25 (.string ⟨#[]⟩) (.bool false)) ∧ Aside0 (Wr wr (w.heap.size + 1 + 1 + 1) (w.heap.size + 1 + 1 + 1) (pre ++ acc)))
        case atStart => exact ⟨0, [], Nat.zero_le _, by omega, rfl, by simp, ⟨by cases h : repsB runB rs <;> simp [h]⟩, HB4, ⟨by rw [List.append_nil]; exact HW4.out⟩⟩
        case round =>
          clear HB4 HW4 hb4
          obtain ⟨k, acc, hk, hkg, rfl, hal, HPR, HBr, HWr⟩ := hrel
          by_cases hlt : k < rs.length
          case pos =>
            have hkz : decide ((k : Int) < (rs.length : Int)) = true := decide_eq_true (by omega)
            have hk0 : (0 : Int) ≤ (k : Int) := by omega
            have hk1 : (k : Int) < (rs.length : Int) := by omega
            obtain ⟨ad, e1, hx0, hx1, hx2, hx3⟩ := at_T63 HRR.out (k : Int) hk0 hk1
            cases e1
            have hnx := repsB_at63 hlt
            have hmx := HTX.out _ (mem63 hlt)
            obtain ⟨x, hx⟩ : ∃ x, x = rd_T63 rs (k : Int) := ⟨_, rfl⟩
            rw [← hx] at hx0 hx1 hx2 hx3 hnx hmx
            have HNX := Aside0.mk hnx
            replace hx0 := ((begunC_is HBr.out).cell (World.block_lt_of_cell? w _ hx0)).trans hx0
            replace hx1 := ((begunC_is HBr.out).cell (World.block_lt_of_cell? w _ hx1)).trans hx1
            replace hx2 := ((begunC_is HBr.out).cell (World.block_lt_of_cell? w _ hx2)).trans hx2
            replace hx3 := ((begunC_is HBr.out).cell (World.block_lt_of_cell? w _ hx3)).trans hx3
            simp only [Int.toNat_natCast] at hx0 hx1 hx2 hx3
            clear hx hnx
            replace hk0 := eq_true hk0
            replace hk1 := eq_true hk1
            go_upto_region 9 with (fail)
            go_upto_region 10 with (fail)
            obtain ⟨xb, hxb⟩ : ∃ xb, xb = wr.heap.size := ⟨_, rfl⟩
            obtain ⟨X1, hw⟩ : ∃ W, W = wr.alloc (.cells #[.int .i64 x.f0, .int .i64 x.f1, .bool x.f2, .string x.f3] 63) := ⟨_, rfl⟩
            rw [← hw, ← hxb]
            have HB5 := Aside0.mk (show BegunC w X1 #[.int .i64 st, .string tok, .int .i64 num, .int .i64 at_, .slice (some ad) rs.length c0, .slice A1 es.length c1] 25 (.string ⟨#[]⟩) (.bool false) by rw [hw]; exact begunC_below HBr.out (below_alloc (Below.refl _ _) _))
            have HW5 := Aside0.mk (show Wr X1 (w.heap.size + 1 + 1 + 1) (w.heap.size + 1 + 1 + 1) (pre ++ acc) by rw [hw]; exact wr_below HWr.out (below_alloc (Below.refl _ _) _))
            have HX5 := Aside0.mk (show X1.heap[xb]? = some (.cells #[.int .i64 x.f0, .int .i64 x.f1, .bool x.f2, .string x.f3] 63 (0, 0)) by rw [hw, hxb]; exact heap_alloc_new _ _)
            have hne : xb ≠ (w.heap.size + 1 + 1 + 1) := by have := wr_lt HWr.out; omega
            have hs5 := wr_lt HW5.out
            clear hw hxb hx0 hx1 hx2 hx3 HBr HWr hk0 hk1
            have hx0 : X1.cell? ⟨xb, 0, none⟩ = some (.int .i64 x.f0) := (blk_cell HX5.out 0).trans rfl
            have hx1 : X1.cell? ⟨xb, 1, none⟩ = some (.int .i64 x.f1) := (blk_cell HX5.out 1).trans rfl
            go_upto_region 11 with (go_at_call 26; refine (num_writes (w.heap.size + 1 + 1 + 1) (w.heap.size + 1 + 1 + 1) (pre ++ acc) [x.f0, x.f1] (some ⟨X1.heap.size, 0, none⟩) 2 _ (wr_below HW5.out (below_alloc (Below.refl _ _) _)) (lit_reads (lit_new _ _ _ _ rfl rfl) (by omega) (by simp)) (by simp; omega)).mono ?_; rintro e X2 ⟨rfl, hw9, ho9⟩; have HW6 := Aside0.mk hw9; have HB6 := Aside0.mk (begunC_wrote (begunC_below HB5.out (below_alloc (Below.refl _ _) _)) ho9 (by omega) (by omega)); have HX6 := Aside0.mk (blk_typed ho9 (blk_below HX5.out (below_alloc (Below.refl _ _) _)) (by decide) hne); clear hw9 ho9)
            clear hx0 hx1 HB5 HW5 HX5 hs5
            have hx2 : X2.cell? ⟨xb, 2, none⟩ = some (.bool x.f2) := (blk_cell HX6.out 2).trans rfl
            go_upto_region 12 with (go_at_call 27; refine (flag_writes (w.heap.size + 1 + 1 + 1) (w.heap.size + 1 + 1 + 1) _ x.f2 _ HW6.out (by simp [numsB_len2]; omega)).mono ?_; rintro e X3 ⟨rfl, hw9, ho9⟩; have HW7 := Aside0.mk hw9; have HB7 := Aside0.mk (begunC_wrote HB6.out ho9 (by omega) (by omega)); have HX7 := Aside0.mk (blk_typed ho9 HX6.out (by decide) hne); clear hw9 ho9)
            clear hx2 HB6 HW6 HX6
            have hx3 : X3.cell? ⟨xb, 3, none⟩ = some (.string x.f3) := (blk_cell HX7.out 3).trans rfl
            have hwl : (pre ++ acc ++ numsB [x.f0, x.f1] ++ [if x.f2 then 1 else 0]).length ≤ 100000 + 70000 * k := by simp [numsB_len2]; omega
            by_cases q5 : x.f3.size ≤ 65535
            case neg =>
              go_wp2_with (go_at_call 25; (with_reducible refine (text_writes (w.heap.size + 1 + 1 + 1) (w.heap.size + 1 + 1 + 1) _ x.f3 _ HW7.out (by omega)).mono ?_); rintro e X4 h9; rw [if_neg q5] at h9; obtain ⟨rfl, hg9⟩ := h9; have HBf := Aside0.mk (begunC_grown HB7.out hg9); clear hg9)
              have hnone : repsB runB rs = none := by rw [HPR.out, HNX.out]; simp only [repsB, runB, if_neg q5, Option.bind_none, Option.map_none]
              have hPf : P = none := by rw [HPP.out]; unfold ansB; simp only [if_pos q1, if_pos q2, if_pos q3p, hnone, Option.bind_some, Option.bind_none, Option.map_none]
              subst hPf
              refine leaves_cons (f := 23) (args := #[.pointer (some ⟨w.heap.size + 1, 0, none⟩), .pointer (some ⟨w.heap.size + 1 + 1, 0, none⟩)]) (by simp) (by simp [go_sem]) ?_
              refine (ans_panicking (w.heap.size + 1) (w.heap.size + 1 + 1) _ _ _ HBf.out.res HBf.out.ok).mono ?_
              rintro e u' w'' ⟨rfl, rfl, hw⟩
              have hB := begunC_below (begunC_ok (begunC_res HBf.out (.string ⟨#[]⟩)) (.bool false)) (below_alloc (Below.refl _ _) (.cells #[] 54))
              rw [← hw] at hB
              have hc0 : w''.cell? ⟨w.heap.size + 1, 0, none⟩ = some (.string ⟨#[]⟩) := (blk_cell hB.res 0).trans rfl
              have hk0 : w''.cell? ⟨w.heap.size + 1 + 1, 0, none⟩ = some (.bool false) := (blk_cell hB.ok 0).trans rfl
              have HG := begunC_all hB
              clear hw hB
              simp [Leaves, settle, results, Try.results8, go_sem, hc0, hk0, Result.andThen, callR]
              exact HG
            case pos =>
              go_wp2_with (go_at_call 25; (with_reducible refine (text_writes (w.heap.size + 1 + 1 + 1) (w.heap.size + 1 + 1 + 1) _ x.f3 _ HW7.out (by omega)).mono ?_); rintro e X4 h9; rw [if_pos q5] at h9; obtain ⟨rfl, hw9, ho9⟩ := h9; have HW8 := Aside0.mk hw9; have HB8 := Aside0.mk (begunC_wrote HB7.out ho9 (by omega) (by omega)); clear hw9 ho9)
              go_roundg (rs.length - (k + 1))
              case measure => omega
              case rel => exact ⟨k + 1, acc ++ (numsB [x.f0, x.f1] ++ [if x.f2 then 1 else 0] ++ textB x.f3), by omega, by omega, by
                  have hwr : wrap64 ((k : Int) + 1) = (k : Int) + 1 := by unfold wrap64; omega
                  first | (simp [hwr]; done) | go_num, by simp [numsB_len2, textB_length]; omega, ⟨by
                  rw [HPR.out, HNX.out]
                  simp only [repsB, runB, if_pos q5, Option.bind_some]
                  cases repsB runB (rs.drop (k + 1)) <;> simp⟩, HB8, ⟨by simpa only [List.append_assoc] using HW8.out⟩⟩
          case neg =>
            obtain rfl : k = rs.length := by omega
            have hkz : decide ((rs.length : Int) < (rs.length : Int)) = false := decide_eq_false (by omega)
            have hend := HPR.out
            rw [List.drop_length] at hend
            simp only [repsB, Option.map_some, List.append_nil] at hend
            have HE1 := Aside0.mk hend
            clear hend HPR hlt hk hkg
            obtain ⟨acA, hacA⟩ : ∃ x, x = acc := ⟨_, rfl⟩
            subst hacA
            have hb5 : wr.cell? ⟨w.heap.size, 5, none⟩ = some (.slice A1 es.length c1) := (blk_cell HBr.out.box 5).trans rfl
            go_upto_region 14 with (fail)
            by_cases q6 : 0 ≤ (es.length : Int) ∧ (es.length : Int) ≤ 255
            case neg =>
              have q6n : ¬ es.length ≤ 255 := by omega
              go_wp2_with (go_at_call 24; (with_reducible refine (length_writes (w.heap.size + 1 + 1 + 1) (w.heap.size + 1 + 1 + 1) (pre ++ acA) (es.length : Int) _ HWr.out (by simp; omega)).mono ?_); rintro e X5 h9; rw [if_neg q6] at h9; obtain ⟨rfl, hg9⟩ := h9; have HBf := Aside0.mk (begunC_grown HBr.out hg9); clear hg9)
              have hPf : P = none := by rw [HPP.out]; unfold ansB; simp only [if_pos q1, if_pos q2, if_pos q3p, HE1.out, if_neg q6n, Option.bind_some, Option.bind_none, Option.map_none]
              subst hPf
              refine leaves_cons (f := 23) (args := #[.pointer (some ⟨w.heap.size + 1, 0, none⟩), .pointer (some ⟨w.heap.size + 1 + 1, 0, none⟩)]) (by simp) (by simp [go_sem]) ?_
              refine (ans_panicking (w.heap.size + 1) (w.heap.size + 1 + 1) _ _ _ HBf.out.res HBf.out.ok).mono ?_
              rintro e u' w'' ⟨rfl, rfl, hw⟩
              have hB := begunC_below (begunC_ok (begunC_res HBf.out (.string ⟨#[]⟩)) (.bool false)) (below_alloc (Below.refl _ _) (.cells #[] 54))
              rw [← hw] at hB
              have hc0 : w''.cell? ⟨w.heap.size + 1, 0, none⟩ = some (.string ⟨#[]⟩) := (blk_cell hB.res 0).trans rfl
              have hk0 : w''.cell? ⟨w.heap.size + 1 + 1, 0, none⟩ = some (.bool false) := (blk_cell hB.ok 0).trans rfl
              have HG := begunC_all hB
              clear hw hB
              simp [Leaves, settle, results, Try.results8, go_sem, hc0, hk0, Result.andThen, callR]
              exact HG
            case pos =>
              have q6p : es.length ≤ 255 := by omega
              go_upto_region 15 with (go_at_call 24; (with_reducible refine (length_writes (w.heap.size + 1 + 1 + 1) (w.heap.size + 1 + 1 + 1) (pre ++ acA) (es.length : Int) _ HWr.out (by simp; omega)).mono ?_); rintro e X5 h9; rw [if_pos q6] at h9; obtain ⟨rfl, hw9, ho9⟩ := h9; have HW5 := Aside0.mk hw9; have HB5 := Aside0.mk (begunC_wrote HBr.out ho9 (by omega) (by omega)); clear hw9 ho9)
              clear HWr HBr hb5
              have hb5 : X5.cell? ⟨w.heap.size, 5, none⟩ = some (.slice A1 es.length c1) := (blk_cell HB5.out.box 5).trans rfl
              obtain ⟨pre2, hpre2⟩ : ∃ x, x = pre ++ acA ++ [(es.length : Int)] := ⟨_, rfl⟩
              rw [← hpre2] at HW5
              have hpl2 : pre2.length ≤ 18000000 := by rw [hpre2]; simp; omega
              have HPRE2 := Aside0.mk hpre2
              clear hpre2 hal
              go_wp2
              go_loopg [63] es.length (fun gg vi wr => ∃ (k : Nat) (acc : List Int), k ≤ es.length ∧ es.length - k ≤ gg ∧ vi = .int .i64 k ∧ acc.length ≤ 70000 * k ∧ Aside0 (repsB entB es = (repsB entB (es.drop k)).map fun b => acc ++ b) ∧ Aside0 (BegunC w wr #[.int .i64 st, .string tok, .int .i64 num, .int .i64 at_, .slice A0 rs.length c0, .slice A1 es.length c1] 25 (.string ⟨#[]⟩) (.bool false)) ∧ Aside0 (Wr wr (w.heap.size + 1 + 1 + 1) (w.heap.size + 1 + 1 + 1) (pre2 ++ acc)))
              case atStart => exact ⟨0, [], Nat.zero_le _, by omega, rfl, by simp, ⟨by cases h : repsB entB es <;> simp [h]⟩, HB5, ⟨by rw [List.append_nil]; exact HW5.out⟩⟩
              case round =>
                clear HB5 HW5 hb5 hkz
                obtain ⟨k, acc, hk, hkg, rfl, hal, HPR, HBr, HWr⟩ := hrel
                by_cases hlt : k < es.length
                case pos =>
                  have hkz : decide ((k : Int) < (es.length : Int)) = true := decide_eq_true (by omega)
                  have hk0 : (0 : Int) ≤ (k : Int) := by omega
                  have hk1 : (k : Int) < (es.length : Int) := by omega
                  obtain ⟨ad, A3, c3, A4, c4, e1, hx0, hx1, hx2, hx3, hx4, l3, g3, l4, g4⟩ := at_T67 HEE.out (k : Int) hk0 hk1
                  cases e1
                  have hnx := repsB_at67 hlt
                  have hmx := HEL.out _ (mem67 hlt)
                  obtain ⟨x, hx⟩ : ∃ x, x = rd_T67 es (k : Int) := ⟨_, rfl⟩
                  rw [← hx] at hx0 hx1 hx2 hx3 hx4 hnx hmx l3 g3 l4 g4
                  have HNX := Aside0.mk hnx
                  have G3 := Aside0.mk g3
                  have G4 := Aside0.mk g4
                  replace hx0 := ((begunC_is HBr.out).cell (World.block_lt_of_cell? w _ hx0)).trans hx0
                  replace hx1 := ((begunC_is HBr.out).cell (World.block_lt_of_cell? w _ hx1)).trans hx1
                  replace hx2 := ((begunC_is HBr.out).cell (World.block_lt_of_cell? w _ hx2)).trans hx2
                  replace hx3 := ((begunC_is HBr.out).cell (World.block_lt_of_cell? w _ hx3)).trans hx3
                  replace hx4 := ((begunC_is HBr.out).cell (World.block_lt_of_cell? w _ hx4)).trans hx4
                  simp only [Int.toNat_natCast] at hx0 hx1 hx2 hx3 hx4
                  clear hx hnx g3 g4
                  replace hk0 := eq_true hk0
                  replace hk1 := eq_true hk1
                  go_upto_region 17 with (fail)
                  go_upto_region 18 with (fail)
                  obtain ⟨xb, hxb⟩ : ∃ xb, xb = wr.heap.size := ⟨_, rfl⟩
                  obtain ⟨X1, hw⟩ : ∃ W, W = wr.alloc (.cells #[.int .i64 x.f0, .int .i64 x.f1, .int .i64 x.f2, .slice A3 x.f3.length c3, .slice A4 x.f4.length c4] 67) := ⟨_, rfl⟩
                  rw [← hw, ← hxb]
                  have HB6 := Aside0.mk (show BegunC w X1 #[.int .i64 st, .string tok, .int .i64 num, .int .i64 at_, .slice A0 rs.length c0, .slice (some ad) es.length c1] 25 (.string ⟨#[]⟩) (.bool false) by rw [hw]; exact begunC_below HBr.out (below_alloc (Below.refl _ _) _))
                  have HW6 := Aside0.mk (show Wr X1 (w.heap.size + 1 + 1 + 1) (w.heap.size + 1 + 1 + 1) (pre2 ++ acc) by rw [hw]; exact wr_below HWr.out (below_alloc (Below.refl _ _) _))
                  have HX6 := Aside0.mk (show X1.heap[xb]? = some (.cells #[.int .i64 x.f0, .int .i64 x.f1, .int .i64 x.f2, .slice A3 x.f3.length c3, .slice A4 x.f4.length c4] 67 (0, 0)) by rw [hw, hxb]; exact heap_alloc_new _ _)
                  have hne : xb ≠ (w.heap.size + 1 + 1 + 1) := by have := wr_lt HWr.out; omega
                  have hs5 := wr_lt HW6.out
                  clear hw hxb hx0 hx1 hx2 hx3 hx4 HBr HWr hk0 hk1
                  have hx0 : X1.cell? ⟨xb, 0, none⟩ = some (.int .i64 x.f0) := (blk_cell HX6.out 0).trans rfl
                  have hx1 : X1.cell? ⟨xb, 1, none⟩ = some (.int .i64 x.f1) := (blk_cell HX6.out 1).trans rfl
                  have hx2 : X1.cell? ⟨xb, 2, none⟩ = some (.int .i64 x.f2) := (blk_cell HX6.out 2).trans rfl
                  go_upto_region 19 with (go_at_call 26; refine (num_writes (w.heap.size + 1 + 1 + 1) (w.heap.size + 1 + 1 + 1) (pre2 ++ acc) [x.f0, x.f1, x.f2] (some ⟨X1.heap.size, 0, none⟩) 3 _ (wr_below HW6.out (below_alloc (Below.refl _ _) _)) (lit_reads (lit_new _ _ _ _ rfl rfl) (by omega) (by simp)) (by simp; omega)).mono ?_; rintro e X2 ⟨rfl, hw9, ho9⟩; have HW7 := Aside0.mk hw9; have HB7 := Aside0.mk (begunC_wrote (begunC_below HB6.out (below_alloc (Below.refl _ _) _)) ho9 (by omega) (by omega)); have HX7 := Aside0.mk (blk_typed ho9 (blk_below HX6.out (below_alloc (Below.refl _ _) _)) (by decide) hne); clear hw9 ho9)
                  clear hx0 hx1 hx2 HB6 HW6 HX6 hs5
                  have hx3 : X2.cell? ⟨xb, 3, none⟩ = some (.slice A3 x.f3.length c3) := (blk_cell HX7.out 3).trans rfl
                  have hwl : (pre2 ++ acc ++ numsB [x.f0, x.f1, x.f2]).length ≤ 18010000 + 70000 * k := by simp [numsB_len3, numsB_length]; omega
                  by_cases q7 : x.f3.length ≤ 255
                  case neg =>
                    go_wp2_with (go_at_call 28; (with_reducible refine (list_writes (w.heap.size + 1 + 1 + 1) (w.heap.size + 1 + 1 + 1) (pre2 ++ acc ++ numsB [x.f0, x.f1, x.f2]) x.f3 A3 c3 _ HW7.out (fun W' hW => Kd.C_below G3.out (begunC_is (begunC_wrote HB7.out hW (by omega) (by omega)))) (by omega)).mono ?_); rintro e X3 h9; rw [if_neg q7] at h9; obtain ⟨rfl, hg9⟩ := h9; have HBf := Aside0.mk (begunC_grown HB7.out hg9); clear hg9)
                    have hnone : repsB entB es = none := by rw [HPR.out, HNX.out]; simp only [repsB, entB, if_neg q7, Option.bind_none, Option.map_none]
                    have hPf : P = none := by rw [HPP.out]; unfold ansB; simp only [if_pos q1, if_pos q2, if_pos q3p, HE1.out, if_pos q6p, hnone, Option.bind_some, Option.bind_none, Option.map_none]
                    subst hPf
                    refine leaves_cons (f := 23) (args := #[.pointer (some ⟨w.heap.size + 1, 0, none⟩), .pointer (some ⟨w.heap.size + 1 + 1, 0, none⟩)]) (by simp) (by simp [go_sem]) ?_
                    refine (ans_panicking (w.heap.size + 1) (w.heap.size + 1 + 1) _ _ _ HBf.out.res HBf.out.ok).mono ?_
                    rintro e u' w'' ⟨rfl, rfl, hw⟩
                    have hB := begunC_below (begunC_ok (begunC_res HBf.out (.string ⟨#[]⟩)) (.bool false)) (below_alloc (Below.refl _ _) (.cells #[] 54))
                    rw [← hw] at hB
                    have hc0 : w''.cell? ⟨w.heap.size + 1, 0, none⟩ = some (.string ⟨#[]⟩) := (blk_cell hB.res 0).trans rfl
                    have hk0 : w''.cell? ⟨w.heap.size + 1 + 1, 0, none⟩ = some (.bool false) := (blk_cell hB.ok 0).trans rfl
                    have HG := begunC_all hB
                    clear hw hB
                    simp [Leaves, settle, results, Try.results8, go_sem, hc0, hk0, Result.andThen, callR]
                    exact HG
                  case pos =>
                    go_upto_region 20 with (go_at_call 28; (with_reducible refine (list_writes (w.heap.size + 1 + 1 + 1) (w.heap.size + 1 + 1 + 1) (pre2 ++ acc ++ numsB [x.f0, x.f1, x.f2]) x.f3 A3 c3 _ HW7.out (fun W' hW => Kd.C_below G3.out (begunC_is (begunC_wrote HB7.out hW (by omega) (by omega)))) (by omega)).mono ?_); rintro e X3 h9; rw [if_pos q7] at h9; obtain ⟨rfl, hw9, ho9⟩ := h9; have HW8 := Aside0.mk hw9; have HB8 := Aside0.mk (begunC_wrote HB7.out ho9 (by omega) (by omega)); have HX8 := Aside0.mk (blk_typed ho9 HX7.out (by decide) hne); clear hw9 ho9)
                    clear hx3 HB7 HW7 HX7 hwl
                    have hx4 : X3.cell? ⟨xb, 4, none⟩ = some (.slice A4 x.f4.length c4) := (blk_cell HX8.out 4).trans rfl
                    have hwl : (pre2 ++ acc ++ numsB [x.f0, x.f1, x.f2] ++ ((x.f3.length : Int) :: numsB x.f3)).length ≤ 18010000 + 70000 * k := by simp [numsB_len3, numsB_length]; omega
                    by_cases q8 : x.f4.length ≤ 255
                    case neg =>
                      go_wp2_with (go_at_call 28; (with_reducible refine (list_writes (w.heap.size + 1 + 1 + 1) (w.heap.size + 1 + 1 + 1) (pre2 ++ acc ++ numsB [x.f0, x.f1, x.f2] ++ ((x.f3.length : Int) :: numsB x.f3)) x.f4 A4 c4 _ HW8.out (fun W' hW => Kd.C_below G4.out (begunC_is (begunC_wrote HB8.out hW (by omega) (by omega)))) (by omega)).mono ?_); rintro e X4 h9; rw [if_neg q8] at h9; obtain ⟨rfl, hg9⟩ := h9; have HBf := Aside0.mk (begunC_grown HB8.out hg9); clear hg9)
                      have hnone : repsB entB es = none := by rw [HPR.out, HNX.out]; simp only [repsB, entB, if_pos q7, if_neg q8, Option.bind_none, Option.map_none]
                      have hPf : P = none := by rw [HPP.out]; unfold ansB; simp only [if_pos q1, if_pos q2, if_pos q3p, HE1.out, if_pos q6p, hnone, Option.bind_some, Option.bind_none, Option.map_none]
                      subst hPf
                      refine leaves_cons (f := 23) (args := #[.pointer (some ⟨w.heap.size + 1, 0, none⟩), .pointer (some ⟨w.heap.size + 1 + 1, 0, none⟩)]) (by simp) (by simp [go_sem]) ?_
                      refine (ans_panicking (w.heap.size + 1) (w.heap.size + 1 + 1) _ _ _ HBf.out.res HBf.out.ok).mono ?_
                      rintro e u' w'' ⟨rfl, rfl, hw⟩
                      have hB := begunC_below (begunC_ok (begunC_res HBf.out (.string ⟨#[]⟩)) (.bool false)) (below_alloc (Below.refl _ _) (.cells #[] 54))
                      rw [← hw] at hB
                      have hc0 : w''.cell? ⟨w.heap.size + 1, 0, none⟩ = some (.string ⟨#[]⟩) := (blk_cell hB.res 0).trans rfl
                      have hk0 : w''.cell? ⟨w.heap.size + 1 + 1, 0, none⟩ = some (.bool false) := (blk_cell hB.ok 0).trans rfl
                      have HG := begunC_all hB
                      clear hw hB
                      simp [Leaves, settle, results, Try.results8, go_sem, hc0, hk0, Result.andThen, callR]
                      exact HG
                    case pos =>
                      go_wp2_with (go_at_call 28; (with_reducible refine (list_writes (w.heap.size + 1 + 1 + 1) (w.heap.size + 1 + 1 + 1) (pre2 ++ acc ++ numsB [x.f0, x.f1, x.f2] ++ ((x.f3.length : Int) :: numsB x.f3)) x.f4 A4 c4 _ HW8.out (fun W' hW => Kd.C_below G4.out (begunC_is (begunC_wrote HB8.out hW (by omega) (by omega)))) (by omega)).mono ?_); rintro e X4 h9; rw [if_pos q8] at h9; obtain ⟨rfl, hw9, ho9⟩ := h9; have HW9 := Aside0.mk hw9; have HB9 := Aside0.mk (begunC_wrote HB8.out ho9 (by omega) (by omega)); have HX9 := Aside0.mk (blk_typed ho9 HX8.out (by decide) hne); clear hw9 ho9)
                      go_roundg (es.length - (k + 1))
                      case measure => omega
                      case rel => exact ⟨k + 1, acc ++ (numsB [x.f0, x.f1, x.f2] ++ ((x.f3.length : Int) :: numsB x.f3) ++ ((x.f4.length : Int) :: numsB x.f4)), by omega, by omega, by
                          have hwr : wrap64 ((k : Int) + 1) = (k : Int) + 1 := by unfold wrap64; omega
                          first | (simp [hwr]; done) | go_num, by simp [numsB_len3, numsB_length]; omega, ⟨by
                          rw [HPR.out, HNX.out]
                          simp only [repsB, entB, if_pos q7, if_pos q8, Option.bind_some]
                          cases repsB entB (es.drop (k + 1)) <;> simp⟩, HB9, ⟨by simpa only [List.append_assoc] using HW9.out⟩⟩
                case neg =>
                  obtain rfl : k = es.length := by omega
                  have hkz : decide ((es.length : Int) < (es.length : Int)) = false := decide_eq_false (by omega)
                  have hend := HPR.out
                  rw [List.drop_length] at hend
                  simp only [repsB, Option.map_some, List.append_nil] at hend
                  obtain ⟨Lst, hLst⟩ : ∃ x, x = pre2 ++ acc := ⟨_, rfl⟩
                  have hPs : P = some Lst := by rw [HPP.out, hLst, HPRE2.out, HPRE.out]; unfold ansB; simp only [if_pos q1, if_pos q2, if_pos q3p, HE1.out, if_pos q6p, hend, Option.bind_some, Option.map_some]; simp only [List.nil_append, List.append_assoc]
                  subst hPs
                  obtain ⟨⟨v9, hb9, hR9⟩, hs9⟩ := HWr.out
                  rw [← hLst] at hR9
                  obtain ⟨A9, n9, c9, rfl⟩ := R_shape hR9
                  have hcv := own_string (P := Try.prog) Try.underlying32 Try.underlying5 Try.underlying9 (Kd.own_of_R hR9)
                  have hc9 : wr.cell? ⟨(w.heap.size + 1 + 1 + 1), 0, none⟩ = some (.slice A9 n9 c9) := (blk_cell hb9 0).trans rfl
                  have hu58 := Try.underlying58
                  have hd0 := (blk_cell HBr.out.res 0).trans rfl
                  have hd1 := blk_frozen HBr.out.res 0
                  have hd2 := (blk_cell HBr.out.ok 0).trans rfl
                  have hd3 := blk_frozen HBr.out.ok 0
                  clear hb9 hR9 hs9 HWr hLst hend HPR hlt hk hkg
                  go_wp2
                  refine leaves_cons (f := 23) (args := #[.pointer (some ⟨w.heap.size + 1, 0, none⟩), .pointer (some ⟨w.heap.size + 1 + 1, 0, none⟩)]) (by simp) (by simp [go_sem]) ?_
                  refine (ans_idle ⟨w.heap.size + 1, 0, none⟩ ⟨w.heap.size + 1 + 1, 0, none⟩ _).mono ?_
                  rintro e u' w'' ⟨rfl, rfl, hw⟩
                  have hB := begunC_ok (begunC_res HBr.out (.string (strOfNums Lst))) (.bool true)
                  rw [← hw] at hB
                  have hc0 : w''.cell? ⟨w.heap.size + 1, 0, none⟩ = some (.string (strOfNums Lst)) := (blk_cell hB.res 0).trans rfl
                  have hk0 : w''.cell? ⟨w.heap.size + 1 + 1, 0, none⟩ = some (.bool true) := (blk_cell hB.ok 0).trans rfl
                  have HG := begunC_all hB
                  clear hw hB
                  simp [Leaves, settle, results, Try.results8, go_sem, hc0, hk0, Result.andThen, callR]
                  exact HG
end Go.Proofs.Ytibfbdfoiboanaa.Rd
