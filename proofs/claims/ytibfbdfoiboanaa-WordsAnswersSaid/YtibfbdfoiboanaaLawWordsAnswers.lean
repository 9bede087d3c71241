/- The law WordsAnswers answers true at every answer, and it reads afterwards as it did: the row's statement, with no condition ahead of it. -/
import Derived.Test.YtibfbdfoiboanaaRows
import Derived.Test.YtibfbdfoiboanaaTWs
import Derived.Test.YtibfbdfoiboanaaOw
import Derived.WalkKit
import Derived.ProofKit
import Derived.OpenShut
import Derived.ShutString
import Derived.ChangeOld
import Derived.Below
import Derived.SizedLaws
namespace Go.Proofs.Ytibfbdfoiboanaa.wordsAnswers
open Go.ChangeShapes Go.WideShapes Go.ChangeAt Go.RowKit
open Go.ChangeMaps (open_string shut_string)
open Go.Proofs.YtibfbdfoiboanaaW.PrintWords Go.Proofs.Ytibfbdfoiboanaa.PWordsAsks
set_option linter.unusedVariables false
theorem own : ownKnob Try.prog.godebug = none := by kernel_rfl
theorem laidOut : laidOutB Try.prog = true := by kernel_rfl
def Wf (n : Int) : Prop := (Lit.int .i64 n).wf = true
theorem wf_range {n : Int} (h : Wf n) : -9223372036854775808 ≤ n ∧ n ≤ 9223372036854775807 := by
  have h' := h
  unfold Wf at h'
  simp [Lit.wf, IntKind.min, IntKind.max, IntKind.signed, IntKind.bits] at h'
  omega
theorem opS63 : OpensW.Op Try.prog 63 k63 (fun b : S63 => Wf b.f0 ∧ Wf b.f1 ∧ True ∧ (fun s : ByteArray => s.size ≤ 140737488351232) b.f3) := OpensW.op_struct (fun x : S63 => (x.f0, x.f1, x.f2, x.f3)) (fun a => ⟨a.1, a.2.1, a.2.2.1, a.2.2.2⟩) (fun _ => rfl) Try.underlying63 (by kernel_rfl) (OpensW.opf_more rfl (by kernel_rfl) (OpensW.op_int Try.underlying3) (OpensW.opf_more rfl (by kernel_rfl) (OpensW.op_int Try.underlying3) (OpensW.opf_more rfl (by kernel_rfl) (OpensW.op_bool Try.underlying4) (OpensW.opf_last rfl (by kernel_rfl) (OpensW.op_string Try.underlying9)))))
theorem opS67 : OpensW.Op Try.prog 67 k67 (fun b : S67 => Wf b.f0 ∧ Wf b.f1 ∧ Wf b.f2 ∧ (fun l : List Int => (l.length ≤ maxLen ∧ l.length * Try.prog.bytesOf 3 ≤ 140737488351232) ∧ ∀ a ∈ l,  Wf a) b.f3 ∧ (fun l : List Int => (l.length ≤ maxLen ∧ l.length * Try.prog.bytesOf 3 ≤ 140737488351232) ∧ ∀ a ∈ l,  Wf a) b.f4) := OpensW.op_struct (fun x : S67 => (x.f0, x.f1, x.f2, x.f3, x.f4)) (fun a => ⟨a.1, a.2.1, a.2.2.1, a.2.2.2.1, a.2.2.2.2⟩) (fun _ => rfl) Try.underlying67 (by kernel_rfl) (OpensW.opf_more rfl (by kernel_rfl) (OpensW.op_int Try.underlying3) (OpensW.opf_more rfl (by kernel_rfl) (OpensW.op_int Try.underlying3) (OpensW.opf_more rfl (by kernel_rfl) (OpensW.op_int Try.underlying3) (OpensW.opf_more rfl (by kernel_rfl) (OpensW.op_slice Try.underlying65 (by kernel_rfl) (OpensW.op_int Try.underlying3)) (OpensW.opf_last rfl (by kernel_rfl) (OpensW.op_slice Try.underlying65 (by kernel_rfl) (OpensW.op_int Try.underlying3)))))))
structure S25 where
  f0 : Int
  f1 : ByteArray
  f2 : Int
  f3 : Int
  f4 : List S63
  f5 : List S67
def k25 : Kd S25 := Kd.iso (Kd.pair (Kd.int .i64) (Kd.pair Kd.string (Kd.pair (Kd.int .i64) (Kd.pair (Kd.int .i64) (Kd.pair (Kd.slice 63 k63) (Kd.slice 67 k67)))))) (fun x : S25 => (x.f0, x.f1, x.f2, x.f3, x.f4, x.f5))
theorem k25_open {w : World} {x : S25} {cs : List Value} (h : k25.K w x cs) : ∃ A0 c0 A1 c1, cs = [.int .i64 x.f0, .string x.f1, .int .i64 x.f2, .int .i64 x.f3, .slice A0 x.f4.length c0, .slice A1 x.f5.length c1] ∧ x.f4.length ≤ c0 ∧ k63.C w A0 x.f4.length x.f4 ∧ x.f5.length ≤ c1 ∧ k67.C w A1 x.f5.length x.f5 := by
  obtain ⟨_, _, rfl, rfl, ⟨_, _, rfl, rfl, ⟨_, _, rfl, rfl, ⟨_, _, rfl, rfl, ⟨_, _, rfl, ⟨A0, c0, rfl, l0, g0⟩, ⟨A1, c1, rfl, l1, g1⟩⟩⟩⟩⟩⟩ := h
  exact ⟨A0, c0, A1, c1, rfl, l0, g0, l1, g1⟩
theorem opS25 : OpensW.Op Try.prog 25 k25 (fun b : S25 => Wf b.f0 ∧ (fun s : ByteArray => s.size ≤ 140737488351232) b.f1 ∧ Wf b.f2 ∧ Wf b.f3 ∧ (fun l : List S63 => (l.length ≤ maxLen ∧ l.length * Try.prog.bytesOf 63 ≤ 140737488351232) ∧ ∀ a ∈ l,  (fun b : S63 => Wf b.f0 ∧ Wf b.f1 ∧ True ∧ (fun s : ByteArray => s.size ≤ 140737488351232) b.f3) a) b.f4 ∧ (fun l : List S67 => (l.length ≤ maxLen ∧ l.length * Try.prog.bytesOf 67 ≤ 140737488351232) ∧ ∀ a ∈ l,  (fun b : S67 => Wf b.f0 ∧ Wf b.f1 ∧ Wf b.f2 ∧ (fun l : List Int => (l.length ≤ maxLen ∧ l.length * Try.prog.bytesOf 3 ≤ 140737488351232) ∧ ∀ a ∈ l,  Wf a) b.f3 ∧ (fun l : List Int => (l.length ≤ maxLen ∧ l.length * Try.prog.bytesOf 3 ≤ 140737488351232) ∧ ∀ a ∈ l,  Wf a) b.f4) a) b.f5) := OpensW.op_struct (fun x : S25 => (x.f0, x.f1, x.f2, x.f3, x.f4, x.f5)) (fun a => ⟨a.1, a.2.1, a.2.2.1, a.2.2.2.1, a.2.2.2.2.1, a.2.2.2.2.2⟩) (fun _ => rfl) Try.underlying25 (by kernel_rfl) (OpensW.opf_more rfl (by kernel_rfl) (OpensW.op_int Try.underlying3) (OpensW.opf_more rfl (by kernel_rfl) (OpensW.op_string Try.underlying9) (OpensW.opf_more rfl (by kernel_rfl) (OpensW.op_int Try.underlying3) (OpensW.opf_more rfl (by kernel_rfl) (OpensW.op_int Try.underlying3) (OpensW.opf_more rfl (by kernel_rfl) (OpensW.op_slice Try.underlying22 (by kernel_rfl) opS63) (OpensW.opf_last rfl (by kernel_rfl) (OpensW.op_slice Try.underlying23 (by kernel_rfl) opS67)))))))
theorem ints_small {l : List Int} (h : l.length * Try.prog.bytesOf 3 ≤ 140737488351232) : l.length ≤ 281474976710656 := by
  have e : Try.prog.bytesOf 3 = 8 := by kernel_rfl
  rw [e] at h
  omega
set_option maxRecDepth 100000 in
theorem lifted (os : Os) (started : os.Started) (H : Type) (enc : TypeId × Value → H) :
    ReturnsInHanded {} Try.checked os 3 .any (Rows.wordsAnswersSpec.pre6 enc Try.prog Try.f3 Rows.wordsAnswersRow.domain false) (Rows.wordsAnswersSpec.post enc Try.prog Try.f3 false true false false) := by
  refine returnsInHanded_of_change_sized (C := Try.checked) own started (by kernel_rfl) Try.func3
    (ChangeSpec.witness6 (enc := enc) (C := Try.checked) false ⟨#[], #[.agg #[.int .i64 0, .string ByteArray.empty, .int .i64 0, .int .i64 0, .slice none 0 0, .slice none 0 0]], []⟩ 8 (by kernel_rfl) (by kernel_rfl) (by kernel_rfl) (by kernel_rfl)) ?_
  intro W base args ds gs before hval0 hW hcnd hsz0 _
  have hsz : (DataW.weightsEach Try.prog (Try.f3.params.toList ++ Rows.wordsAnswersSpec.plain.varTypes Try.prog) (ds ++ gs)).all (· ≤ reachBytes) = true := hsz0
  have hval : ∀ (j : Nat) t v, Try.f3.params[j]? = some t → args[j]? = some v → Value.okWide Try.prog W .any base t v := hval0
  have hW' := hW
  obtain ⟨p, q, hA0, hV, rfl, hfz, hnd⟩ := hW
  have hA : DataW.TrodAll enc Try.prog W 0 (fun _ => true) true Try.f3.params.toList args.toList ds p := hA0
  rw [Try.params3] at hA hval hsz
  obtain ⟨v0, vs0, d0, ds0, p0, q0, hargs, rfl, rfl, h0, r0⟩ := trodAll_cons hA
  obtain ⟨rfl, rfl, rfl⟩ := trodAll_nil r0
  obtain rfl : args = #[v0] := by cases args; simp_all
  obtain ⟨rfl, rfl⟩ := trodVars_none hV
  have k0 := h0
  have lt0 : ∀ x ∈ p0, x.block < W.heap.size := by obtain ⟨m, hm⟩ := k0; exact DataW.trod_lt m _ _ _ hm
  obtain ⟨x0, cs0, rfl, K0, g0⟩ := OpensW.struct_arg opS25 Try.underlying25 (hval 0 25 v0 rfl rfl) h0 (OpensW.reach_arg (j := 0) hsz rfl rfl)
  obtain ⟨A0, c0, A1, c1, rfl, l0, r0', l1, r1'⟩ := k25_open K0
  clear hA0 hval0 hsz0 hsz
  have m1 : maxLen = 9223372036854775807 := by decide
  have hl1 := g0.2.2.2.2.1.1.1
  have hl2 := g0.2.2.2.2.2.1.1
  rw [m1] at hl1 hl2
  refine (Rd.answers_walk x0.f0 x0.f1 x0.f2 x0.f3 A0 c0 x0.f4 A1 c1 x0.f5 W r0' l0 r1' l1 hl1 hl2 (Nat.le_trans g0.2.1 (by decide)) (fun x hx => Nat.le_trans (g0.2.2.2.2.1.2 x hx).2.2.2 (by decide)) (fun x hx => ⟨ints_small (g0.2.2.2.2.2.2 x hx).2.2.2.1.1.2, ints_small (g0.2.2.2.2.2.2 x hx).2.2.2.2.1.2⟩) (wf_range g0.2.2.1) (wf_range g0.2.2.2.1) (fun x hx => ⟨wf_range (g0.2.2.2.2.1.2 x hx).1, wf_range (g0.2.2.2.2.1.2 x hx).2.1⟩) (fun x hx => ⟨wf_range (g0.2.2.2.2.2.2 x hx).1, wf_range (g0.2.2.2.2.2.2 x hx).2.1, wf_range (g0.2.2.2.2.2.2 x hx).2.2.1, fun y hy => wf_range ((g0.2.2.2.2.2.2 x hx).2.2.2.1.2 y hy), fun y hy => wf_range ((g0.2.2.2.2.2.2 x hx).2.2.2.2.2 y hy)⟩)).mono fun e W' ⟨he, bel⟩ => ?_
  subst he
  exact ⟨_, rfl, _, _, _, [], _, [], hW', trodAll_mk1 (shut_bool Try.underlying4 _), (trodAll_cons_mk (Below.trod laidOut (by kernel_rfl) (of_decide_eq_true (by kernel_rfl)) k0 bel lt0) trodAll_mk0), rfl, bel.frame _, fun h => by cases h⟩
theorem over : Rows.wordsAnswersRow.holds Try.pinned (OpenSpec.ofChange Rows.wordsAnswersSpec) :=
  OpenClaim.holds_of_wide 3 Try.f3 rfl rfl rfl rfl rfl rfl rfl ⟨rfl, rfl, rfl, rfl, rfl⟩ rfl rfl rfl rfl rfl (by kernel_rfl) Try.func3 (by kernel_rfl)
    (of_decide_eq_true (by kernel_rfl)) (by unfold Func.isWrapper; first | (rw [if_pos (by decide +kernel)]; kernel_rfl) | (rw [if_neg (by decide +kernel)]; exact ⟨rfl, rfl⟩))
    (fun os started H enc _ => lifted os started H enc)
theorem proved : Rows.WordsAnswersSaid := over
#print axioms proved
end Go.Proofs.Ytibfbdfoiboanaa.wordsAnswers
namespace Go.Proofs.Ytibfbdfoiboanaa
/-- The row, under a short name, for the claim. -/
theorem wordsAnswers_holds : Rows.WordsAnswersSaid := wordsAnswers.proved
end Go.Proofs.Ytibfbdfoiboanaa
