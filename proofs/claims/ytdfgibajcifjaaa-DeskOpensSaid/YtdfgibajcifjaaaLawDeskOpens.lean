/- What the functions that the law DeskOpens reaches compute, and the row of the law (printed by a program of this session). -/
import Derived.Test.YtdfgibajcifjaaaOpen
import Derived.Test.YtdfgibajcifjaaaRows
import Derived.Test.YtdfgibajcifjaaaADeskOpensx4
import Derived.Test.YtdfgibajcifjaaaPureDeskOpens
import Derived.WalkKit
import Derived.ProofKit
import Derived.OpenShut
import Derived.ShutString
import Derived.ChangeOld
import Derived.Below
import Derived.SizedLaws
import Derived.Test.YtdfgibajcifjaaaWSized
namespace Go.Proofs.Ytdfgibajcifjaaa.deskOpens
open Go.ChangeShapes Go.WideShapes Go.ChangeAt Go.RowKit
open Go.ChangeMaps (open_string shut_string)
set_option linter.unusedVariables false
theorem own : ownKnob Try.prog.godebug = none := by kernel_rfl
theorem laidOut : laidOutB Try.prog = true := by kernel_rfl
def IsRow (k : IntKind) (w : World) (a : Option Addr) (len cap : Nat) (zs : List Int) : Prop :=
  (a = none ∧ len = 0 ∧ cap = 0 ∧ zs = []) ∨
  ∃ x, a = some x ∧ len ≤ cap ∧ cap ≤ maxLen ∧ zs.length = cap ∧ (∀ i, i < zs.length → w.cell? (x.add i) = some (.int k (zs.getD i 0))) ∧ ∀ n ∈ zs, (Lit.int k n).wf = true
open Go.Proofs.Ytdfgibajcifjaaa.ADeskOpens Go.Proofs.YtdfgibajcifjaaaW.PrintWords
structure S24 where
  f0 : (List (S28))
  f1 : ByteArray
  f2 : Int
  f3 : Int
  f4 : Int
  f5 : Int
  f6 : Int
  f7 : ByteArray
def k24 : Kd S24 := Kd.iso (Kd.pair (Kd.slice 28 k28) (Kd.pair Kd.string (Kd.pair (Kd.int .i64) (Kd.pair (Kd.int .i64) (Kd.pair (Kd.int .i64) (Kd.pair (Kd.int .i64) (Kd.pair (Kd.int .i64) Kd.string))))))) (fun x : S24 => (x.f0, x.f1, x.f2, x.f3, x.f4, x.f5, x.f6, x.f7))
theorem k24_open {w : World} {x : S24} {cs : List Value} (h : k24.K w x cs) : ∃ A0 c0, cs = [.slice A0 x.f0.length c0, .string x.f1, .int .i64 x.f2, .int .i64 x.f3, .int .i64 x.f4, .int .i64 x.f5, .int .i64 x.f6, .string x.f7] ∧ x.f0.length ≤ c0 ∧ k28.C w A0 x.f0.length x.f0 := by
  obtain ⟨_, _, rfl, ⟨A0, c0, rfl, l0, g0⟩, ⟨_, _, rfl, rfl, ⟨_, _, rfl, rfl, ⟨_, _, rfl, rfl, ⟨_, _, rfl, rfl, ⟨_, _, rfl, rfl, ⟨_, _, rfl, rfl, rfl⟩⟩⟩⟩⟩⟩⟩ := h
  exact ⟨A0, c0, rfl, l0, g0⟩
theorem opS28 : Opens.Op Try.prog 28 k28 (fun b : S28 => (fun s : ByteArray => s.size ≤ maxLen) b.f0 ∧ (fun n : Int => (Lit.int .i64 n).wf = true) b.f1 ∧ (fun n : Int => (Lit.int .i64 n).wf = true) b.f2 ∧ (fun n : Int => (Lit.int .i64 n).wf = true) b.f3 ∧ (fun s : ByteArray => s.size ≤ maxLen) b.f4) := Opens.op_struct (fun x : S28 => (x.f0, x.f1, x.f2, x.f3, x.f4)) (fun a => ⟨a.1, a.2.1, a.2.2.1, a.2.2.2.1, a.2.2.2.2⟩) (fun _ => rfl) Try.underlying28 (by kernel_rfl) (Opens.opf_more rfl (by kernel_rfl) (Opens.op_string Try.underlying9) (Opens.opf_more rfl (by kernel_rfl) (Opens.op_int Try.underlying3) (Opens.opf_more rfl (by kernel_rfl) (Opens.op_int Try.underlying3) (Opens.opf_more rfl (by kernel_rfl) (Opens.op_int Try.underlying3) (Opens.opf_last rfl (by kernel_rfl) (Opens.op_string Try.underlying9))))))
theorem opS24 : Opens.Op Try.prog 24 k24 (fun b : S24 => (fun l : List (S28) => l.length ≤ maxLen ∧ ∀ a ∈ l, (fun b : S28 => (fun s : ByteArray => s.size ≤ maxLen) b.f0 ∧ (fun n : Int => (Lit.int .i64 n).wf = true) b.f1 ∧ (fun n : Int => (Lit.int .i64 n).wf = true) b.f2 ∧ (fun n : Int => (Lit.int .i64 n).wf = true) b.f3 ∧ (fun s : ByteArray => s.size ≤ maxLen) b.f4) a) b.f0 ∧ (fun s : ByteArray => s.size ≤ maxLen) b.f1 ∧ (fun n : Int => (Lit.int .i64 n).wf = true) b.f2 ∧ (fun n : Int => (Lit.int .i64 n).wf = true) b.f3 ∧ (fun n : Int => (Lit.int .i64 n).wf = true) b.f4 ∧ (fun n : Int => (Lit.int .i64 n).wf = true) b.f5 ∧ (fun n : Int => (Lit.int .i64 n).wf = true) b.f6 ∧ (fun s : ByteArray => s.size ≤ maxLen) b.f7) := Opens.op_struct (fun x : S24 => (x.f0, x.f1, x.f2, x.f3, x.f4, x.f5, x.f6, x.f7)) (fun a => ⟨a.1, a.2.1, a.2.2.1, a.2.2.2.1, a.2.2.2.2.1, a.2.2.2.2.2.1, a.2.2.2.2.2.2.1, a.2.2.2.2.2.2.2⟩) (fun _ => rfl) Try.underlying24 (by kernel_rfl) (Opens.opf_more rfl (by kernel_rfl) (Opens.op_slice Try.underlying22 (by kernel_rfl) opS28) (Opens.opf_more rfl (by kernel_rfl) (Opens.op_string Try.underlying9) (Opens.opf_more rfl (by kernel_rfl) (Opens.op_int Try.underlying3) (Opens.opf_more rfl (by kernel_rfl) (Opens.op_int Try.underlying3) (Opens.opf_more rfl (by kernel_rfl) (Opens.op_int Try.underlying3) (Opens.opf_more rfl (by kernel_rfl) (Opens.op_int Try.underlying3) (Opens.opf_more rfl (by kernel_rfl) (Opens.op_int Try.underlying3) (Opens.opf_last rfl (by kernel_rfl) (Opens.op_string Try.underlying9)))))))))
set_option maxRecDepth 100000 in
theorem lifted (os : Os) (started : os.Started) (H : Type) (enc : TypeId × Value → H) :
    ReturnsInHanded {} Try.checked os 5 .any (Rows.deskOpensSpec.pre6 enc Try.prog Try.f5 Rows.deskOpensRow.domain false) (Rows.deskOpensSpec.post enc Try.prog Try.f5 false true false false) := by
  refine returnsInHanded_of_change_sized (C := Try.checked) own started (by kernel_rfl) Try.func5
    (ChangeSpec.witness6 (enc := enc) (C := Try.checked) false ⟨#[], #[.agg #[.slice none 0 0, .string ByteArray.empty, .int .i64 0, .int .i64 0, .int .i64 0, .int .i64 0, .int .i64 0, .string ByteArray.empty]], []⟩ 8 (by kernel_rfl) (by kernel_rfl) (by kernel_rfl) (by kernel_rfl)) ?_
  intro W base args ds gs before hval0 hW hcnd hsz0 _
  have hsz : (DataW.weightsEach Try.prog (Try.f5.params.toList ++ Rows.deskOpensSpec.plain.varTypes Try.prog) (ds ++ gs)).all (· ≤ reachBytes) = true := hsz0
  have hval : ∀ (j : Nat) t v, Try.f5.params[j]? = some t → args[j]? = some v → Value.okWide Try.prog W .any base t v := hval0
  have hW' := hW
  obtain ⟨p, q, hA0, hV, rfl, hfz, hnd⟩ := hW
  have hA : DataW.TrodAll enc Try.prog W 0 (fun _ => true) true Try.f5.params.toList args.toList ds p := hA0
  rw [Try.params5] at hA hval hsz
  obtain ⟨v0, vs0, d0, ds0, p0, q0, hargs, rfl, rfl, h0, r0⟩ := trodAll_cons hA
  obtain ⟨rfl, rfl, rfl⟩ := trodAll_nil r0
  obtain rfl : args = #[v0] := by cases args; simp_all
  obtain ⟨rfl, rfl⟩ := trodVars_none hV
  have k0 := h0
  have lt0 : ∀ x ∈ p0, x.block < W.heap.size := by obtain ⟨m, hm⟩ := k0; exact DataW.trod_lt m _ _ _ hm
  obtain ⟨x0, cs0, rfl, K0, g0⟩ := Opens.struct_arg opS24 Try.underlying24 (hval 0 24 v0 rfl rfl) h0
  obtain ⟨A0_0, c0_0, rfl, hc0_0, hr0_0⟩ := k24_open K0
  clear hA0 hval0 hsz0 hsz
  refine (ADeskOpens.chancellaw11_DeskOpens.walk Pure.DeskOpens  W  A0_0 c0_0 x0.f0 hr0_0 hc0_0 x0.f1 x0.f2 x0.f3 x0.f4 x0.f5 x0.f6 x0.f7 g0.1 g0.2.1 g0.2.2.1 g0.2.2.2.1 g0.2.2.2.2.1 g0.2.2.2.2.2.1 g0.2.2.2.2.2.2.1 g0.2.2.2.2.2.2.2).mono fun e W' ⟨he, bel⟩ => ?_
  subst he
  exact ⟨_, rfl, _, _, _, [], _, [], hW', trodAll_mk1 (shut_bool Try.underlying4 _), (trodAll_cons_mk (Below.trod laidOut (by kernel_rfl) (of_decide_eq_true (by kernel_rfl)) k0 bel lt0) trodAll_mk0), rfl, bel.frame _, fun h => by cases h⟩
theorem over : Rows.deskOpensRow.holds Try.pinned (OpenSpec.ofChange Rows.deskOpensSpec) :=
  OpenClaim.holds_of_wide 5 Try.f5 rfl rfl rfl rfl rfl rfl rfl ⟨rfl, rfl, rfl, rfl, rfl⟩ rfl rfl rfl rfl rfl (by kernel_rfl) Try.func5 (by kernel_rfl)
    (of_decide_eq_true (by kernel_rfl)) (by unfold Func.isWrapper; first | (rw [if_pos (by decide +kernel)]; kernel_rfl) | (rw [if_neg (by decide +kernel)]; exact ⟨rfl, rfl⟩))
    (fun os started H enc _ => lifted os started H enc)
theorem proved : Rows.DeskOpensSaid := over
#print axioms proved
end Go.Proofs.Ytdfgibajcifjaaa.deskOpens
namespace Go.Proofs.Ytdfgibajcifjaaa
/-- The row, under a short name, for the claim. -/
theorem deskOpens_holds : Rows.DeskOpensSaid := deskOpens.proved
end Go.Proofs.Ytdfgibajcifjaaa
