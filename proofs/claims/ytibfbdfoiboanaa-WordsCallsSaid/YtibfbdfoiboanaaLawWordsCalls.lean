/- The law WordsCalls answers true at all plain values, and they read afterwards as they did: the row's statement, with no condition ahead of it. -/
import Derived.Test.YtibfbdfoiboanaaRows
import Derived.Test.YtibfbdfoiboanaaWk
import Derived.Test.YtibfbdfoiboanaaOpen
import Derived.WalkKit
import Derived.ProofKit
import Derived.OpenShut
import Derived.ShutString
import Derived.ChangeOld
import Derived.Below
import Derived.SizedLaws
namespace Go.Proofs.Ytibfbdfoiboanaa.wordsCalls
open Go.ChangeShapes Go.WideShapes Go.ChangeAt Go.RowKit
open Go.ChangeMaps (open_string shut_string)
open Go.Proofs.YtibfbdfoiboanaaW.PrintWords
set_option linter.unusedVariables false
theorem own : ownKnob Try.prog.godebug = none := by kernel_rfl
theorem laidOut : laidOutB Try.prog = true := by kernel_rfl
def Wf (n : Int) : Prop := (Lit.int .i64 n).wf = true
/-- The six numbers in a row. -/
theorem op_arr6 : Opens.Op Try.prog 39 (Kd.pair (Kd.int .i64) (Kd.pair (Kd.int .i64) (Kd.pair (Kd.int .i64) (Kd.pair (Kd.int .i64) (Kd.pair (Kd.int .i64) (Kd.int .i64)))))) (fun x => Wf x.1 ∧ Wf x.2.1 ∧ Wf x.2.2.1 ∧ Wf x.2.2.2.1 ∧ Wf x.2.2.2.2.1 ∧ Wf x.2.2.2.2.2) := fun H enc w base spare held fuel cs x hx => by
  obtain ⟨xs, m, _, _, hl, hxs, hf⟩ := DataW.trod_array Try.underlying39 hx
  have h6 : cs.length = 6 := by rw [hl]; kernel_rfl
  have hc : Try.prog.cellsOf 3 = 1 := by kernel_rfl
  rw [hc] at hf
  have each : ∀ i, i < 6 → ∃ n, (cs.drop i).take 1 = [.int .i64 n] ∧ Wf n := fun i hi => by
    have h := hf i hi
    rw [List.getElem?_eq_getElem (by omega), Nat.mul_one] at h
    obtain ⟨n, h1, _, h2⟩ := DataW.trod_int Try.underlying3 h
    exact ⟨n, h1, h2⟩
  obtain ⟨n0, a0, w0⟩ := each 0 (by omega)
  obtain ⟨n1, a1, w1⟩ := each 1 (by omega)
  obtain ⟨n2, a2, w2⟩ := each 2 (by omega)
  obtain ⟨n3, a3, w3⟩ := each 3 (by omega)
  obtain ⟨n4, a4, w4⟩ := each 4 (by omega)
  obtain ⟨n5, a5, w5⟩ := each 5 (by omega)
  match cs, h6 with
  | [c0, c1, c2, c3, c4, c5], _ =>
    simp only [List.drop_succ_cons, List.drop_zero, List.take_succ_cons, List.take_zero, List.cons.injEq, and_true] at a0 a1 a2 a3 a4 a5
    subst a0; subst a1; subst a2; subst a3; subst a4; subst a5
    exact ⟨(n0, n1, n2, n3, n4, n5), ⟨[.int .i64 n0], _, rfl, rfl, ⟨[.int .i64 n1], _, rfl, rfl, ⟨[.int .i64 n2], _, rfl, rfl, ⟨[.int .i64 n3], _, rfl, rfl, ⟨[.int .i64 n4], _, rfl, rfl, rfl⟩⟩⟩⟩⟩, w0, w1, w2, w3, w4, w5⟩
structure S41 where
  f0 : Int
  f1 : ByteArray
  f2 : Int
  f3 : Int × Int × Int × Int × Int × Int
  f4 : ByteArray
  f5 : ByteArray
  f6 : Bool
  f7 : Bool
def k41 : Kd S41 := Kd.iso (Kd.pair (Kd.int .i64) (Kd.pair Kd.string (Kd.pair (Kd.int .i64) (Kd.pair (Kd.pair (Kd.int .i64) (Kd.pair (Kd.int .i64) (Kd.pair (Kd.int .i64) (Kd.pair (Kd.int .i64) (Kd.pair (Kd.int .i64) (Kd.int .i64)))))) (Kd.pair Kd.string (Kd.pair Kd.string (Kd.pair Kd.bool Kd.bool))))))) (fun x : S41 => (x.f0, x.f1, x.f2, x.f3, x.f4, x.f5, x.f6, x.f7))
theorem k41_open {w : World} {x : S41} {cs : List Value} (h : k41.K w x cs) : cs = [.int .i64 x.f0, .string x.f1, .int .i64 x.f2, .int .i64 x.f3.1, .int .i64 x.f3.2.1, .int .i64 x.f3.2.2.1, .int .i64 x.f3.2.2.2.1, .int .i64 x.f3.2.2.2.2.1, .int .i64 x.f3.2.2.2.2.2, .string x.f4, .string x.f5, .bool x.f6, .bool x.f7] := by
  obtain ⟨_, _, rfl, rfl, ⟨_, _, rfl, rfl, ⟨_, _, rfl, rfl, ⟨_, _, rfl, ⟨_, _, rfl, rfl, ⟨_, _, rfl, rfl, ⟨_, _, rfl, rfl, ⟨_, _, rfl, rfl, ⟨_, _, rfl, rfl, rfl⟩⟩⟩⟩⟩, ⟨_, _, rfl, rfl, ⟨_, _, rfl, rfl, ⟨_, _, rfl, rfl, rfl⟩⟩⟩⟩⟩⟩⟩ := h
  rfl
theorem opS41 : Opens.Op Try.prog 41 k41 (fun b : S41 => Wf b.f0 ∧ (fun s : ByteArray => s.size ≤ maxLen) b.f1 ∧ Wf b.f2 ∧ (Wf b.f3.1 ∧ Wf b.f3.2.1 ∧ Wf b.f3.2.2.1 ∧ Wf b.f3.2.2.2.1 ∧ Wf b.f3.2.2.2.2.1 ∧ Wf b.f3.2.2.2.2.2) ∧ (fun s : ByteArray => s.size ≤ maxLen) b.f4 ∧ (fun s : ByteArray => s.size ≤ maxLen) b.f5 ∧ True ∧ True) :=
  Opens.op_struct (fun x : S41 => (x.f0, x.f1, x.f2, x.f3, x.f4, x.f5, x.f6, x.f7)) (fun a => ⟨a.1, a.2.1, a.2.2.1, a.2.2.2.1, a.2.2.2.2.1, a.2.2.2.2.2.1, a.2.2.2.2.2.2.1, a.2.2.2.2.2.2.2⟩) (fun _ => rfl) Try.underlying41 (by kernel_rfl)
    (Opens.opf_more rfl (by kernel_rfl) (Opens.op_int Try.underlying3) (Opens.opf_more rfl (by kernel_rfl) (Opens.op_string Try.underlying9) (Opens.opf_more rfl (by kernel_rfl) (Opens.op_int Try.underlying3) (Opens.opf_more rfl (by kernel_rfl) op_arr6 (Opens.opf_more rfl (by kernel_rfl) (Opens.op_string Try.underlying9) (Opens.opf_more rfl (by kernel_rfl) (Opens.op_string Try.underlying9) (Opens.opf_more rfl (by kernel_rfl) (Opens.op_bool Try.underlying4) (Opens.opf_last rfl (by kernel_rfl) (Opens.op_bool Try.underlying4)))))))))
theorem wf_range {n : Int} (h : Wf n) : -9223372036854775808 ≤ n ∧ n ≤ 9223372036854775807 := by
  have h' := h
  unfold Wf at h'
  simp [Lit.wf, IntKind.min, IntKind.max, IntKind.signed, IntKind.bits] at h'
  omega
theorem six_range {a b c d e f : Int} (h : Wf a ∧ Wf b ∧ Wf c ∧ Wf d ∧ Wf e ∧ Wf f) (j : Nat) : -9223372036854775808 ≤ ([a, b, c, d, e, f] : List Int).getD j 0 ∧ ([a, b, c, d, e, f] : List Int).getD j 0 ≤ 9223372036854775807 := by
  obtain ⟨ha, hb, hc, hd, he, hf⟩ := h
  match j with
  | 0 => exact wf_range ha
  | 1 => exact wf_range hb
  | 2 => exact wf_range hc
  | 3 => exact wf_range hd
  | 4 => exact wf_range he
  | 5 => exact wf_range hf
  | _ + 6 => exact ⟨(by decide : (-9223372036854775808 : Int) ≤ 0), (by decide : (0 : Int) ≤ 9223372036854775807)⟩
/-- A text among the fields is no longer than what a machine holds. -/
theorem field_small {H : Type} {enc : TypeId × Value → H} {W : World} {base : Nat} {sp : Nat → Bool} {held : Bool} {d : DataW H} {ps : List MemPlace} {cs : List Value} {ts : List TypeId} {ds : List (DataW H)}
    (hsz : (DataW.weightsEach Try.prog ts ds).all (· ≤ reachBytes) = true) (ht : ts[0]? = some 41) (hd : ds[0]? = some d)
    (hx : DataW.Trod enc Try.prog W base sp held 41 (.agg cs.toArray) d ps) (i : Nat) (f : Field) (fs : Array Field) (hfs : Try.prog.underlying 41 = some (.struct fs)) (hf : fs[i]? = some f) (hft : f.type = 9) (s : ByteArray) (hs : (cs.drop f.offset).take (Try.prog.cellsOf 9) = [.string s]) : s.size ≤ 140737488355328 := by
  obtain ⟨fuel, hx⟩ := hx
  have hx' : DataW.trod enc Try.prog W base sp held fuel 41 cs = some (d, ps) := by simpa [Value.cells] using hx
  obtain ⟨xs, n, _, he, _, hxs, hfl⟩ := DataW.trod_struct hfs hx'
  have h1 := hfl i f hf
  rw [hft, hs] at h1
  have hi : i < xs.length := by
    have := (Array.getElem?_eq_some_iff.1 hf).1
    omega
  rw [List.getElem?_eq_getElem hi] at h1
  obtain ⟨s', e1, e2, _⟩ := DataW.trod_string Try.underlying9 h1
  simp only [List.cons.injEq, and_true] at e1
  injection e1 with e1
  subst e1
  have hd1 : d = .agg (xs.map (·.1)) := congrArg Prod.fst he
  have hm : (xs.map (·.1))[i]? = some (.lit (.string s.data.toList)) := by
    rw [List.getElem?_map, List.getElem?_eq_getElem hi, Option.map_some, e2]
  have ht2 : (fs.toList.map (·.type))[i]? = some 9 := by
    rw [List.getElem?_map, Array.getElem?_toList, hf, Option.map_some, hft]
  have w1 := DataW.weights_mem_each (P := Try.prog) ht2 hm s.data.toList.length (by simp [DataW.weights])
  have w2 := DataW.weights_mem_each (P := Try.prog) ht hd s.data.toList.length (by rw [hd1]; unfold DataW.weights; rw [hfs]; exact w1)
  have w3 := List.all_eq_true.1 hsz _ w2
  have w4 := reachBytes_lt
  have w5 : s.data.toList.length ≤ reachBytes := by simpa using w3
  have w6 : s.data.toList.length = s.size := by rw [Array.length_toList]; rfl
  simp only [Nat.reducePow] at w4
  omega
set_option maxRecDepth 100000 in
theorem lifted (os : Os) (started : os.Started) (H : Type) (enc : TypeId × Value → H) :
    ReturnsInHanded {} Try.checked os 6 .any (Rows.wordsCallsSpec.pre6 enc Try.prog Try.f6 Rows.wordsCallsRow.domain false) (Rows.wordsCallsSpec.post enc Try.prog Try.f6 false true false false) := by
  refine returnsInHanded_of_change_sized (C := Try.checked) own started (by kernel_rfl) Try.func6
    (ChangeSpec.witness6 (enc := enc) (C := Try.checked) false ⟨#[], #[.agg #[.int .i64 0, .string ByteArray.empty, .int .i64 0, .int .i64 0, .int .i64 0, .int .i64 0, .int .i64 0, .int .i64 0, .int .i64 0, .string ByteArray.empty, .string ByteArray.empty, .bool false, .bool false]], []⟩ 8 (by kernel_rfl) (by kernel_rfl) (by kernel_rfl) (by kernel_rfl)) ?_
  intro W base args ds gs before hval0 hW hcnd hsz0 _
  have hsz : (DataW.weightsEach Try.prog (Try.f6.params.toList ++ Rows.wordsCallsSpec.plain.varTypes Try.prog) (ds ++ gs)).all (· ≤ reachBytes) = true := hsz0
  have hval : ∀ (j : Nat) t v, Try.f6.params[j]? = some t → args[j]? = some v → Value.okWide Try.prog W .any base t v := hval0
  have hW' := hW
  obtain ⟨p, q, hA0, hV, rfl, hfz, hnd⟩ := hW
  have hA : DataW.TrodAll enc Try.prog W 0 (fun _ => true) true Try.f6.params.toList args.toList ds p := hA0
  rw [Try.params6] at hA hval hsz
  obtain ⟨v0, vs0, d0, ds0, p0, q0, hargs, rfl, rfl, h0, r0⟩ := trodAll_cons hA
  obtain ⟨rfl, rfl, rfl⟩ := trodAll_nil r0
  obtain rfl : args = #[v0] := by cases args; simp_all
  obtain ⟨rfl, rfl⟩ := trodVars_none hV
  have k0 := h0
  have lt0 : ∀ x ∈ p0, x.block < W.heap.size := by obtain ⟨m, hm⟩ := k0; exact DataW.trod_lt m _ _ _ hm
  obtain ⟨x0, cs0, rfl, K0, g0⟩ := Opens.struct_arg opS41 Try.underlying41 (hval 0 41 v0 rfl rfl) h0
  obtain rfl := k41_open K0
  have z1 := field_small hsz rfl rfl h0 1 _ _ Try.underlying41 rfl rfl x0.f1 rfl
  have z2 := field_small hsz rfl rfl h0 4 _ _ Try.underlying41 rfl rfl x0.f4 rfl
  have z3 := field_small hsz rfl rfl h0 5 _ _ Try.underlying41 rfl rfl x0.f5 rfl
  clear hA0 hval0 hsz0 hsz
  refine (Rd.calls_walk x0.f1 x0.f2 ⟨x0.f0, [x0.f3.1, x0.f3.2.1, x0.f3.2.2.1, x0.f3.2.2.2.1, x0.f3.2.2.2.2.1, x0.f3.2.2.2.2.2], x0.f4, x0.f5, x0.f6, x0.f7⟩ W z1 z2 z3 (wf_range g0.2.2.1) (six_range g0.2.2.2.1)).mono fun e W' ⟨he, bel⟩ => ?_
  subst he
  exact ⟨_, rfl, _, _, _, [], _, [], hW', trodAll_mk1 (shut_bool Try.underlying4 _), (trodAll_cons_mk (Below.trod laidOut (by kernel_rfl) (of_decide_eq_true (by kernel_rfl)) k0 bel lt0) trodAll_mk0), rfl, bel.frame _, fun h => by cases h⟩
theorem over : Rows.wordsCallsRow.holds Try.pinned (OpenSpec.ofChange Rows.wordsCallsSpec) :=
  OpenClaim.holds_of_wide 6 Try.f6 rfl rfl rfl rfl rfl rfl rfl ⟨rfl, rfl, rfl, rfl, rfl⟩ rfl rfl rfl rfl rfl (by kernel_rfl) Try.func6 (by kernel_rfl)
    (of_decide_eq_true (by kernel_rfl)) (by unfold Func.isWrapper; first | (rw [if_pos (by decide +kernel)]; kernel_rfl) | (rw [if_neg (by decide +kernel)]; exact ⟨rfl, rfl⟩))
    (fun os started H enc _ => lifted os started H enc)
theorem proved : Rows.WordsCallsSaid := over
#print axioms proved
end Go.Proofs.Ytibfbdfoiboanaa.wordsCalls
namespace Go.Proofs.Ytibfbdfoiboanaa
/-- The row, under a short name, for the claim. -/
theorem wordsCalls_holds : Rows.WordsCallsSaid := wordsCalls.proved
end Go.Proofs.Ytibfbdfoiboanaa
