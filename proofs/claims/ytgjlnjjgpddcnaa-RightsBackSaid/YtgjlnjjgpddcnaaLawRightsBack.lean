/- What the functions that the law RightsBack reaches compute, and the row of the law (printed by a program of this session). -/
import Derived.Test.YtgjlnjjgpddcnaaOpen
import Derived.Test.YtgjlnjjgpddcnaaRows
import Derived.Test.YtgjlnjjgpddcnaaARightsBackx4
import Derived.Test.YtgjlnjjgpddcnaaBackWalk
import Derived.WalkKit
import Derived.ProofKit
import Derived.OpenShut
import Derived.ShutString
import Derived.ChangeOld
import Derived.Below
import Derived.SizedLaws
import Derived.Test.YtgjlnjjgpddcnaaWSized
namespace Go.Proofs.Ytgjlnjjgpddcnaa.rightsBack
open Go.ChangeShapes Go.WideShapes Go.ChangeAt Go.RowKit
open Go.ChangeMaps (open_string shut_string)
set_option linter.unusedVariables false
theorem own : ownKnob Try.prog.godebug = none := by kernel_rfl
theorem laidOut : laidOutB Try.prog = true := by kernel_rfl
def IsRow (k : IntKind) (w : World) (a : Option Addr) (len cap : Nat) (zs : List Int) : Prop :=
  (a = none ∧ len = 0 ∧ cap = 0 ∧ zs = []) ∨
  ∃ x, a = some x ∧ len ≤ cap ∧ cap ≤ maxLen ∧ zs.length = cap ∧ (∀ i, i < zs.length → w.cell? (x.add i) = some (.int k (zs.getD i 0))) ∧ ∀ n ∈ zs, (Lit.int k n).wf = true
open Go.Proofs.Ytgjlnjjgpddcnaa.ARightsBack Go.Proofs.YtgjlnjjgpddcnaaW.PrintWords
structure S33 where
  f0 : Int
  f1 : Int
  f2 : Int
  f3 : Bool
  f4 : Bool
def k33 : Kd S33 := Kd.iso (Kd.pair (Kd.int .i64) (Kd.pair (Kd.int .i64) (Kd.pair (Kd.int .i64) (Kd.pair Kd.bool Kd.bool)))) (fun x : S33 => (x.f0, x.f1, x.f2, x.f3, x.f4))
theorem k33_open {w : World} {x : S33} {cs : List Value} (h : k33.K w x cs) : cs = [.int .i64 x.f0, .int .i64 x.f1, .int .i64 x.f2, .bool x.f3, .bool x.f4] := by
  obtain ⟨_, _, rfl, rfl, ⟨_, _, rfl, rfl, ⟨_, _, rfl, rfl, ⟨_, _, rfl, rfl, rfl⟩⟩⟩⟩ := h
  exact rfl
theorem opS29 : Opens.Op Try.prog 29 k29 (fun b : S29 => (fun n : Int => (Lit.int .i64 n).wf = true) b.f0 ∧ (fun n : Int => (Lit.int .i64 n).wf = true) b.f1 ∧ (fun l : List Int => l.length ≤ maxLen ∧ ∀ a ∈ l, (fun n : Int => (Lit.int .i64 n).wf = true) a) b.f2 ∧ (fun l : List Int => l.length ≤ maxLen ∧ ∀ a ∈ l, (fun n : Int => (Lit.int .i64 n).wf = true) a) b.f3) := Opens.op_struct (fun x : S29 => (x.f0, x.f1, x.f2, x.f3)) (fun a => ⟨a.1, a.2.1, a.2.2.1, a.2.2.2⟩) (fun _ => rfl) Try.underlying29 (by kernel_rfl) (Opens.opf_more rfl (by kernel_rfl) (Opens.op_int Try.underlying3) (Opens.opf_more rfl (by kernel_rfl) (Opens.op_int Try.underlying3) (Opens.opf_more rfl (by kernel_rfl) (Opens.op_slice Try.underlying27 (by kernel_rfl) (Opens.op_int Try.underlying3)) (Opens.opf_last rfl (by kernel_rfl) (Opens.op_slice Try.underlying27 (by kernel_rfl) (Opens.op_int Try.underlying3))))))
theorem opS33 : Opens.Op Try.prog 33 k33 (fun b : S33 => (fun n : Int => (Lit.int .i64 n).wf = true) b.f0 ∧ (fun n : Int => (Lit.int .i64 n).wf = true) b.f1 ∧ (fun n : Int => (Lit.int .i64 n).wf = true) b.f2 ∧ (fun _ : Bool => True) b.f3 ∧ (fun _ : Bool => True) b.f4) := Opens.op_struct (fun x : S33 => (x.f0, x.f1, x.f2, x.f3, x.f4)) (fun a => ⟨a.1, a.2.1, a.2.2.1, a.2.2.2.1, a.2.2.2.2⟩) (fun _ => rfl) Try.underlying33 (by kernel_rfl) (Opens.opf_more rfl (by kernel_rfl) (Opens.op_int Try.underlying3) (Opens.opf_more rfl (by kernel_rfl) (Opens.op_int Try.underlying3) (Opens.opf_more rfl (by kernel_rfl) (Opens.op_int Try.underlying3) (Opens.opf_more rfl (by kernel_rfl) (Opens.op_bool Try.underlying4) (Opens.opf_last rfl (by kernel_rfl) (Opens.op_bool Try.underlying4))))))
set_option maxRecDepth 100000 in
theorem lifted (os : Os) (started : os.Started) (H : Type) (enc : TypeId × Value → H) :
    ReturnsInHanded {} Try.checked os 7 .any (Rows.rightsBackSpec.pre6 enc Try.prog Try.f7 Rows.rightsBackRow.domain false) (Rows.rightsBackSpec.post enc Try.prog Try.f7 false true false false) := by
  refine returnsInHanded_of_change_sized (C := Try.checked) own started (by kernel_rfl) Try.func7
    (ChangeSpec.witness6 (enc := enc) (C := Try.checked) false ⟨#[], #[.slice none 0 0, .agg #[.int .i64 0, .int .i64 0, .int .i64 0, .bool false, .bool false]], []⟩ 7 (by kernel_rfl) (by kernel_rfl) (by kernel_rfl) (by kernel_rfl)) ?_
  intro W base args ds gs before hval0 hW hcnd hsz0 _
  have hsz : (DataW.weightsEach Try.prog (Try.f7.params.toList ++ Rows.rightsBackSpec.plain.varTypes Try.prog) (ds ++ gs)).all (· ≤ reachBytes) = true := hsz0
  have hval : ∀ (j : Nat) t v, Try.f7.params[j]? = some t → args[j]? = some v → Value.okWide Try.prog W .any base t v := hval0
  have hW' := hW
  obtain ⟨p, q, hA0, hV, rfl, hfz, hnd⟩ := hW
  have hA : DataW.TrodAll enc Try.prog W 0 (fun _ => true) true Try.f7.params.toList args.toList ds p := hA0
  rw [Try.params7] at hA hval hsz
  obtain ⟨v0, vs0, d0, ds0, p0, q0, hargs, rfl, rfl, h0, r0⟩ := trodAll_cons hA
  obtain ⟨v1, vs1, d1, ds1, p1, q1, rfl, rfl, rfl, h1, r1⟩ := trodAll_cons r0
  obtain ⟨rfl, rfl, rfl⟩ := trodAll_nil r1
  obtain rfl : args = #[v0, v1] := by cases args; simp_all
  obtain ⟨rfl, rfl⟩ := trodVars_none hV
  have k0 := h0
  have lt0 : ∀ x ∈ p0, x.block < W.heap.size := by obtain ⟨m, hm⟩ := k0; exact DataW.trod_lt m _ _ _ hm
  obtain ⟨A0, c0, l0, rfl, hc0, hr0, g0⟩ := Opens.slice_arg (Opens.op_slice Try.underlying22 (by kernel_rfl) opS29) (okWide_slice Try.underlying22 (hval 0 22 v0 rfl rfl)) h0
  have k1 := h1
  have lt1 : ∀ x ∈ p1, x.block < W.heap.size := by obtain ⟨m, hm⟩ := k1; exact DataW.trod_lt m _ _ _ hm
  obtain ⟨x1, cs1, rfl, K1, g1⟩ := Opens.struct_arg opS33 Try.underlying33 (hval 1 33 v1 rfl rfl) h1
  obtain ⟨rfl⟩ := k33_open K1
  clear hA0 hval0 hsz0 hsz
  refine (Pure.backWalk W  A0 c0 l0 hr0 hc0 x1.f0 x1.f1 x1.f2 x1.f3 x1.f4 g0).mono fun e W' ⟨he, bel⟩ => ?_
  subst he
  exact ⟨_, rfl, _, _, _, [], _, [], hW', trodAll_mk1 (shut_bool Try.underlying4 _), (trodAll_cons_mk (Below.trod laidOut (by kernel_rfl) (of_decide_eq_true (by kernel_rfl)) k0 bel lt0) (trodAll_cons_mk (Below.trod laidOut (by kernel_rfl) (of_decide_eq_true (by kernel_rfl)) k1 bel lt1) trodAll_mk0)), rfl, bel.frame _, fun h => by cases h⟩
theorem over : Rows.rightsBackRow.holds Try.pinned (OpenSpec.ofChange Rows.rightsBackSpec) :=
  OpenClaim.holds_of_wide 7 Try.f7 rfl rfl rfl rfl rfl rfl rfl ⟨rfl, rfl, rfl, rfl, rfl⟩ rfl rfl rfl rfl rfl (by kernel_rfl) Try.func7 (by kernel_rfl)
    (of_decide_eq_true (by kernel_rfl)) (by unfold Func.isWrapper; first | (rw [if_pos (by decide +kernel)]; kernel_rfl) | (rw [if_neg (by decide +kernel)]; exact ⟨rfl, rfl⟩))
    (fun os started H enc _ => lifted os started H enc)
theorem proved : Rows.RightsBackSaid := over
#print axioms proved
end Go.Proofs.Ytgjlnjjgpddcnaa.rightsBack
namespace Go.Proofs.Ytgjlnjjgpddcnaa
/-- The row, under a short name, for the claim. -/
theorem rightsBack_holds : Rows.RightsBackSaid := rightsBack.proved
end Go.Proofs.Ytgjlnjjgpddcnaa
