/- Two parts that meet, one behind the other, are the whole: for every text and any three numbers; no condition. -/
import Derived.Test.YthnphmfjocofhaaRows
import Derived.Test.YthnphmfjocofhaaParts
import Derived.WalkKit
import Derived.ProofKit
import Derived.OpenShut
import Derived.ShutString
import Derived.ChangeOld
import Derived.Below
import Derived.SizedLaws
namespace Go.Proofs.Ythnphmfjocofhaa.lettersParts
open Go.ChangeShapes Go.WideShapes Go.ChangeAt Go.RowKit
open Go.ChangeMaps (open_string shut_string)
set_option linter.unusedVariables false
theorem own : ownKnob Try.prog.godebug = none := by kernel_rfl
theorem laidOut : laidOutB Try.prog = true := by kernel_rfl
theorem three {H : Type} {enc : TypeId × Value → H} {w : World} {r : Reach} {base base' : Nat} {spare : Nat → Bool} {held : Bool} {v : Value} {x : DataW H} {ps : List MemPlace}
    (hv : Value.okWide Try.prog w r base' 30 v) (hx : DataW.Trod enc Try.prog w base spare held 30 v x ps) : ∃ a b c : Int, v = .agg #[.int .i64 a, .int .i64 b, .int .i64 c] := by
  unfold Value.okWide at hv
  rw [Try.underlying30] at hv
  obtain ⟨cs, rfl, hsz, _⟩ := hv
  obtain ⟨fuel, hf⟩ := hx
  obtain ⟨xs, m, _, _, hl, hxl, hel⟩ := DataW.trod_array Try.underlying30 hf
  have hc : Try.prog.cellsOf 3 = 1 := by kernel_rfl
  have hc3 : Try.prog.cellsOf 30 = 3 := by kernel_rfl
  rw [hc] at hel
  rw [hc3] at hsz
  obtain ⟨l, hll⟩ : ∃ l, l = cs.toList := ⟨_, rfl⟩
  have hll3 : l.length = 3 := by rw [hll]; simpa using hsz
  obtain ⟨u0, u1, u2, hu⟩ : ∃ a b c, l = [a, b, c] := by
    match l, hll3 with
    | [a, b, c], _ => exact ⟨a, b, c, rfl⟩
  have hcs : cs = #[u0, u1, u2] := by
    apply Array.toList_inj.1
    rw [← hll, hu]
  subst hcs
  have one : ∀ i, i < 3 → ∃ n : Int, (([u0, u1, u2] : List Value).drop i).take 1 = [.int .i64 n] := by
    intro i hi
    have h1 := hel i hi
    rw [List.getElem?_eq_getElem (by omega), Nat.mul_one] at h1
    obtain ⟨n, h2, _⟩ := DataW.trod_int Try.underlying3 h1
    exact ⟨n, h2⟩
  obtain ⟨a, ha⟩ := one 0 (by omega)
  obtain ⟨b, hb⟩ := one 1 (by omega)
  obtain ⟨c, hc'⟩ := one 2 (by omega)
  simp at ha hb hc'
  exact ⟨a, b, c, by rw [ha, hb, hc']⟩
set_option maxRecDepth 100000 in
theorem lifted (os : Os) (started : os.Started) (H : Type) (enc : TypeId × Value → H) :
    ReturnsInHanded {} Try.checked os 6 .any (Rows.lettersPartsSpec.pre6 enc Try.prog Try.f6 Rows.lettersPartsRow.domain false) (Rows.lettersPartsSpec.post enc Try.prog Try.f6 false true false false) := by
  refine returnsInHanded_of_change_sized (C := Try.checked) own started (by kernel_rfl) Try.func6
    (ChangeSpec.witness6 (enc := enc) (C := Try.checked) false ⟨#[], #[.string ByteArray.empty, .agg #[.int .i64 0, .int .i64 0, .int .i64 0]], []⟩ 8 (by kernel_rfl) (by kernel_rfl) (by kernel_rfl) (by kernel_rfl)) ?_
  intro W base args ds gs before hval0 hW hcnd hsz0 _
  have hsz : (DataW.weightsEach Try.prog (Try.f6.params.toList ++ Rows.lettersPartsSpec.plain.varTypes Try.prog) (ds ++ gs)).all (· ≤ reachBytes) = true := hsz0
  have hval : ∀ (j : Nat) t v, Try.f6.params[j]? = some t → args[j]? = some v → Value.okWide Try.prog W .any base t v := hval0
  have hW' := hW
  obtain ⟨p, q, hA0, hV, rfl, hfz, hnd⟩ := hW
  have hA : DataW.TrodAll enc Try.prog W 0 (fun _ => true) true Try.f6.params.toList args.toList ds p := hA0
  rw [Try.params6] at hA hval hsz
  obtain ⟨v0, vs0, d0, ds0, p0, q0, hargs, rfl, rfl, h0, r0⟩ := trodAll_cons hA
  obtain ⟨v1, vs1, d1, ds1, p1, q1, rfl, rfl, rfl, h1, r1⟩ := trodAll_cons r0
  obtain ⟨rfl, rfl, rfl⟩ := trodAll_nil r1
  obtain rfl : args = #[v0, v1] := by cases args; simp_all
  obtain ⟨rfl, rfl⟩ := trodVars_none hV
  obtain ⟨a0, rfl, rfl, rfl, y0⟩ := open_string Try.underlying9 (hval 0 9 v0 rfl rfl) h0
  have w0 : a0.size ≤ 140737488351232 := by
    have z := sized_string hsz (j := 0) (t := 9) rfl rfl
    rw [Array.length_toList] at z
    exact z
  have k1 := h1
  have lt1 : ∀ x ∈ p1, x.block < W.heap.size := by obtain ⟨m, hm⟩ := k1; exact DataW.trod_lt m _ _ _ hm
  obtain ⟨a, b, c, rfl⟩ := three (hval 1 30 v1 rfl rfl) h1
  clear hA0 hval0 hsz0 hsz
  refine (ALettersParts.parts_walk a0 a b c w0 W).mono fun e W' ⟨he, bel⟩ => ?_
  subst he
  exact ⟨_, rfl, _, _, _, [], _, [], hW', trodAll_mk1 (shut_bool Try.underlying4 _), (trodAll_cons_mk (shut_string Try.underlying9 y0) (trodAll_cons_mk (Below.trod laidOut (by kernel_rfl) (of_decide_eq_true (by kernel_rfl)) k1 bel lt1) trodAll_mk0)), rfl, bel.frame _, fun h => by cases h⟩
theorem over : Rows.lettersPartsRow.holds Try.pinned (OpenSpec.ofChange Rows.lettersPartsSpec) :=
  OpenClaim.holds_of_wide 6 Try.f6 rfl rfl rfl rfl rfl rfl rfl ⟨rfl, rfl, rfl, rfl, rfl⟩ rfl rfl rfl rfl rfl (by kernel_rfl) Try.func6 (by kernel_rfl)
    (of_decide_eq_true (by kernel_rfl)) (by unfold Func.isWrapper; first | (rw [if_pos (by decide +kernel)]; kernel_rfl) | (rw [if_neg (by decide +kernel)]; exact ⟨rfl, rfl⟩))
    (fun os started H enc _ => lifted os started H enc)
theorem proved : Rows.LettersPartsSaid := over
#print axioms proved
end Go.Proofs.Ythnphmfjocofhaa.lettersParts
namespace Go.Proofs.Ythnphmfjocofhaa
/-- The row, under a short name, for the claim. -/
theorem lettersParts_holds : Rows.LettersPartsSaid := lettersParts.proved
end Go.Proofs.Ythnphmfjocofhaa
