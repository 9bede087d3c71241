/- The law PlateFirm answers true at every input, and it reads afterwards as it did: the row's statement, with no condition ahead of it. -/
import Derived.Test.YtfjbpjndjcinhaaOpen
import Derived.Test.YtfjbpjndjcinhaaRows
import Derived.Test.YtfjbpjndjcinhaaPf
import Derived.WalkKit
import Derived.ProofKit
import Derived.OpenShut
import Derived.ShutString
import Derived.ChangeOld
import Derived.Below
import Derived.SizedLaws
import Derived.Test.YtfjbpjndjcinhaaWSized
namespace Go.Proofs.Ytfjbpjndjcinhaa.plateFirm
open Go.ChangeShapes Go.WideShapes Go.ChangeAt Go.RowKit
open Go.ChangeMaps (open_string shut_string)
set_option linter.unusedVariables false
theorem own : ownKnob Try.prog.godebug = none := by kernel_rfl
theorem laidOut : laidOutB Try.prog = true := by kernel_rfl
open Go.Proofs.Ytfjbpjndjcinhaa.Dk Go.Proofs.Ytfjbpjndjcinhaa.Mp Go.Proofs.YtfjbpjndjcinhaaW.PrintWords
def Wf (n : Int) : Prop := (Lit.int .i64 n).wf = true
theorem wf_range {n : Int} (h : Wf n) : I64 n := by
  have h' := h
  unfold Wf at h'
  simp [Lit.wf, IntKind.min, IntKind.max, IntKind.signed, IntKind.bits] at h'
  unfold I64
  omega
theorem opS39 : Opens.Op Try.prog 39 k39 (fun b : S39 => Wf b.f0 ∧ Wf b.f1 ∧ (fun s : ByteArray => s.size ≤ maxLen) b.f2 ∧ (fun l : List Int => l.length ≤ maxLen ∧ ∀ a ∈ l, Wf a) b.f3) := Opens.op_struct (fun x : S39 => (x.f0, x.f1, x.f2, x.f3)) (fun a => ⟨a.1, a.2.1, a.2.2.1, a.2.2.2⟩) (fun _ => rfl) Try.underlying39 (by kernel_rfl) (Opens.opf_more rfl (by kernel_rfl) (Opens.op_int Try.underlying3) (Opens.opf_more rfl (by kernel_rfl) (Opens.op_int Try.underlying3) (Opens.opf_more rfl (by kernel_rfl) (Opens.op_string Try.underlying9) (Opens.opf_last rfl (by kernel_rfl) (Opens.op_slice Try.underlying36 (by kernel_rfl) (Opens.op_int Try.underlying3))))))
set_option maxRecDepth 100000 in
theorem lifted (os : Os) (started : os.Started) (H : Type) (enc : TypeId × Value → H) :
    ReturnsInHanded {} Try.checked os 5 .any (Rows.plateFirmSpec.pre6 enc Try.prog Try.f5 Rows.plateFirmRow.domain false) (Rows.plateFirmSpec.post enc Try.prog Try.f5 false true false false) := by
  refine returnsInHanded_of_change_sized (C := Try.checked) own started (by kernel_rfl) Try.func5
    (ChangeSpec.witness6 (enc := enc) (C := Try.checked) false ⟨#[], #[.slice none 0 0], []⟩ 8 (by kernel_rfl) (by kernel_rfl) (by kernel_rfl) (by kernel_rfl)) ?_
  intro W base args ds gs before hval0 hW hcnd hsz0 _
  have hval : ∀ (j : Nat) t v, Try.f5.params[j]? = some t → args[j]? = some v → Value.okWide Try.prog W .any base t v := hval0
  have hW' := hW
  obtain ⟨p, q, hA0, hV, rfl, hfz, hnd⟩ := hW
  have hA : DataW.TrodAll enc Try.prog W 0 (fun _ => true) true Try.f5.params.toList args.toList ds p := hA0
  rw [Try.params5] at hA hval
  obtain ⟨v0, vs0, d0, ds0, p0, q0, hargs, rfl, rfl, h0, r0⟩ := trodAll_cons hA
  obtain ⟨rfl, rfl, rfl⟩ := trodAll_nil r0
  obtain rfl : args = #[v0] := by cases args; simp_all
  obtain ⟨rfl, rfl⟩ := trodVars_none hV
  have k0 := h0
  have lt0 : ∀ x ∈ p0, x.block < W.heap.size := by obtain ⟨m, hm⟩ := k0; exact DataW.trod_lt m _ _ _ hm
  obtain ⟨A1, c1, l1, rfl, hc1, hr1, g1⟩ := Opens.slice_arg (Opens.op_slice Try.underlying24 (by kernel_rfl) opS39) (okWide_slice Try.underlying24 (hval 0 24 v0 rfl rfl)) h0
  clear hA0 hval0 hsz0
  refine (firm_walk A1 c1 l1 W hc1 hr1 (Kd.C_max hr1) (fun x hx => ⟨wf_range (g1.2 x hx).1, wf_range (g1.2 x hx).2.1, fun y hy => wf_range ((g1.2 x hx).2.2.2.2 y hy)⟩)).mono fun e W' ⟨he, bel⟩ => ?_
  subst he
  exact ⟨_, rfl, _, _, _, [], _, [], hW', trodAll_mk1 (shut_bool Try.underlying4 _), (trodAll_cons_mk (Below.trod laidOut (by kernel_rfl) (of_decide_eq_true (by kernel_rfl)) k0 bel lt0) trodAll_mk0), rfl, bel.frame _, fun h => by cases h⟩
theorem over : Rows.plateFirmRow.holds Try.pinned (OpenSpec.ofChange Rows.plateFirmSpec) :=
  OpenClaim.holds_of_wide 5 Try.f5 rfl rfl rfl rfl rfl rfl rfl ⟨rfl, rfl, rfl, rfl, rfl⟩ rfl rfl rfl rfl rfl (by kernel_rfl) Try.func5 (by kernel_rfl)
    (of_decide_eq_true (by kernel_rfl)) (by unfold Func.isWrapper; first | (rw [if_pos (by decide +kernel)]; kernel_rfl) | (rw [if_neg (by decide +kernel)]; exact ⟨rfl, rfl⟩))
    (fun os started H enc _ => lifted os started H enc)
theorem proved : Rows.PlateFirmSaid := over
#print axioms proved
end Go.Proofs.Ytfjbpjndjcinhaa.plateFirm
namespace Go.Proofs.Ytfjbpjndjcinhaa
/-- The row, under a short name, for the claim. -/
theorem plateFirm_holds : Rows.PlateFirmSaid := plateFirm.proved
end Go.Proofs.Ytfjbpjndjcinhaa
