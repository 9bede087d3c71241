/- Maps from whole numbers, their elements kept as they are: the lists that tell them, and the laws on a block. Over the kit alone. -/
import Derived.Maps.Own
import Derived.Maps.OwnSet
import Derived.Maps.Range
namespace Go.Proofs.YtfjbpjndjcinhaaDoor.Mp
open Go Go.RowKit Go.Maps Go.MapKept Go.WideShapes
set_option linter.unusedVariables false
/-! ### Lists of entries, rising by their keys -/
section
variable {α β : Type}
def ins (x : Int × α) : List (Int × α) → List (Int × α)
  | [] => [x]
  | y :: r => if x.1 < y.1 then x :: y :: r else y :: ins x r
def put (M : List (Int × α)) (i : Int) (v : α) : List (Int × α) := ins (i, v) (M.filter fun p => !decide (p.1 = i))
def get (M : List (Int × α)) (i : Int) : Option α := (M.find? fun p => decide (p.1 = i)).map (·.2)
def Rising (M : List (Int × α)) : Prop := M.Pairwise (fun p q => p.1 < q.1)
def mapv (f : α → β) (M : List (Int × α)) : List (Int × β) := M.map fun p => (p.1, f p.2)
theorem mem_ins {x y : Int × α} {M : List (Int × α)} : y ∈ ins x M ↔ y = x ∨ y ∈ M := by
  induction M with
  | nil => simp [ins]
  | cons z r ih =>
    unfold ins
    split
    · simp
    · simp only [List.mem_cons, ih]
      constructor
      · rintro (h | h | h)
        · exact .inr (.inl h)
        · exact .inl h
        · exact .inr (.inr h)
      · rintro (h | h | h)
        · exact .inr (.inl h)
        · exact .inl h
        · exact .inr (.inr h)
theorem mem_put {M : List (Int × α)} {i : Int} {v : α} {y : Int × α} : y ∈ put M i v ↔ y = (i, v) ∨ (y ∈ M ∧ y.1 ≠ i) := by
  unfold put
  rw [mem_ins, List.mem_filter]
  simp
theorem rising_nil : Rising ([] : List (Int × α)) := List.Pairwise.nil
theorem rising_filter {M : List (Int × α)} (h : Rising M) (f : Int × α → Bool) : Rising (M.filter f) := List.Pairwise.filter _ h
theorem rising_ins {x : Int × α} {M : List (Int × α)} (h : Rising M) (hx : ∀ y ∈ M, y.1 ≠ x.1) : Rising (ins x M) := by
  induction M with
  | nil => simp [ins, Rising]
  | cons z r ih =>
    obtain ⟨h1, h2⟩ := List.pairwise_cons.1 h
    unfold ins
    split
    · rename_i hlt
      refine List.pairwise_cons.2 ⟨fun y hy => ?_, h⟩
      rcases List.mem_cons.1 hy with rfl | hy
      · exact hlt
      · have := h1 y hy; omega
    · rename_i hlt
      have hz := hx z (by simp)
      refine List.pairwise_cons.2 ⟨fun y hy => ?_, ih h2 (fun y hy => hx y (by simp [hy]))⟩
      rcases mem_ins.1 hy with rfl | hy
      · omega
      · exact h1 y hy
theorem rising_put {M : List (Int × α)} (h : Rising M) (i : Int) (v : α) : Rising (put M i v) :=
  rising_ins (rising_filter h _) (fun y hy => by simpa using (List.mem_filter.1 hy).2)
theorem rising_mapv {M : List (Int × α)} (h : Rising M) (f : α → β) : Rising (mapv f M) := by
  unfold Rising mapv
  rw [List.pairwise_map]
  exact h
theorem rising_of_mapv {M : List (Int × α)} {f : α → β} (h : Rising (mapv f M)) : Rising M := by
  unfold Rising mapv at h
  rw [List.pairwise_map] at h
  exact h
theorem ins_mapv (f : α → β) (x : Int × α) (M : List (Int × α)) : mapv f (ins x M) = ins (x.1, f x.2) (mapv f M) := by
  induction M with
  | nil => rfl
  | cons z r ih =>
    unfold ins mapv
    simp only [List.map_cons]
    split
    · rfl
    · simp only [List.map_cons]
      congr 1
theorem put_mapv (f : α → β) (M : List (Int × α)) (i : Int) (v : α) : mapv f (put M i v) = put (mapv f M) i (f v) := by
  unfold put
  rw [ins_mapv]
  congr 1
  unfold mapv
  rw [List.filter_map]
  rfl
theorem get_mapv (f : α → β) (M : List (Int × α)) (i : Int) : get (mapv f M) i = (get M i).map f := by
  unfold get mapv
  rw [List.find?_map]
  simp [Function.comp_def, Option.map_map]
theorem mapv_mapv {γ : Type} (f : α → β) (g : β → γ) (M : List (Int × α)) : mapv g (mapv f M) = mapv (fun x => g (f x)) M := by
  unfold mapv
  simp [Function.comp_def]
theorem get_mem {M : List (Int × α)} {i : Int} {v : α} (h : get M i = some v) : (i, v) ∈ M := by
  unfold get at h
  obtain ⟨p, hp, rfl⟩ := Option.map_eq_some_iff.1 h
  have h1 := List.find?_some hp
  have h2 := List.mem_of_find?_eq_some hp
  have h3 : p.1 = i := by simpa using h1
  subst h3
  exact h2
theorem mem_get {M : List (Int × α)} {i : Int} {v : α} (hr : Rising M) (h : (i, v) ∈ M) : get M i = some v := by
  unfold get
  induction M with
  | nil => cases h
  | cons z r ih =>
    obtain ⟨h1, h2⟩ := List.pairwise_cons.1 hr
    rcases List.mem_cons.1 h with rfl | h
    · simp
    · have := h1 _ h
      rw [List.find?_cons_of_neg (by simp; omega)]
      exact ih h2 h
theorem get_none {M : List (Int × α)} {i : Int} (h : ∀ p ∈ M, p.1 ≠ i) : get M i = none := by
  unfold get
  rw [List.find?_eq_none.2 (fun p hp => by simpa using h p hp)]
  rfl
theorem get_none_iff {M : List (Int × α)} {i : Int} : get M i = none ↔ ∀ p ∈ M, p.1 ≠ i := by
  constructor
  · intro h p hp e
    unfold get at h
    rw [Option.map_eq_none_iff, List.find?_eq_none] at h
    exact h p hp (by simpa using e)
  · exact get_none
theorem get_put_same {M : List (Int × α)} (hr : Rising M) (i : Int) (v : α) : get (put M i v) i = some v := mem_get (rising_put hr i v) (mem_put.2 (.inl rfl))
theorem get_put_other {M : List (Int × α)} (hr : Rising M) {i j : Int} (h : j ≠ i) (v : α) : get (put M i v) j = get M j := by
  cases hg : get M j with
  | none =>
    refine get_none fun p hp => ?_
    rcases mem_put.1 hp with rfl | ⟨hp, _⟩
    · exact fun e => h e.symm
    · exact get_none_iff.1 hg p hp
  | some u => exact mem_get (rising_put hr i v) (mem_put.2 (.inr ⟨get_mem hg, h⟩))
theorem rising_ext {M N : List (Int × α)} (hM : Rising M) (hN : Rising N) (h : ∀ i, get M i = get N i) : M = N := by
  induction M generalizing N with
  | nil =>
    cases N with
    | nil => rfl
    | cons z r =>
      have h1 := h z.1
      rw [mem_get (v := z.2) hN (by simp)] at h1
      cases h1
  | cons y s ih =>
    cases N with
    | nil =>
      have h1 := h y.1
      rw [mem_get (v := y.2) hM (by simp)] at h1
      cases h1
    | cons z r =>
      obtain ⟨y1, y2⟩ := List.pairwise_cons.1 hM
      obtain ⟨z1, z2⟩ := List.pairwise_cons.1 hN
      have hy := h y.1
      have hz := h z.1
      rw [mem_get (v := y.2) hM (by simp)] at hy
      rw [mem_get (v := z.2) hN (by simp)] at hz
      have my := get_mem hy.symm
      have mz := get_mem hz
      have e : y.1 = z.1 := by
        rcases List.mem_cons.1 my with e | hm
        · rw [← e]
        · have a1 := z1 _ hm
          rcases List.mem_cons.1 mz with e | hn
          · rw [← e]
          · have a2 := y1 _ hn
            simp only at a1 a2
            omega
      have e2 : y = z := by
        rw [e, mem_get (v := z.2) hN (by simp)] at hy
        exact Prod.ext e (Option.some.inj hy)
      subst e2
      rw [ih y2 z2 (fun i => ?_)]
      by_cases hi : i = y.1
      · subst hi
        rw [get_none (fun p hp e => by have := y1 p hp; omega), get_none (fun p hp e => by have := z1 p hp; omega)]
      · have h1 := h i
        unfold get at h1 ⊢
        rw [List.find?_cons_of_neg (by simp; exact fun e => hi e.symm), List.find?_cons_of_neg (by simp; exact fun e => hi e.symm)] at h1
        exact h1
theorem length_ins (x : Int × α) (M : List (Int × α)) : (ins x M).length = M.length + 1 := by
  induction M with
  | nil => rfl
  | cons z r ih =>
    unfold ins
    split
    · simp
    · simp [ih]
theorem length_put_le (M : List (Int × α)) (i : Int) (v : α) : (put M i v).length ≤ M.length + 1 := by
  unfold put
  rw [length_ins]
  have := List.length_filter_le (fun p : Int × α => !decide (p.1 = i)) M
  omega
end
/-! ### The block -/
/-- An element as it stands. -/
def rawR (v : Value) : Option (DataW Value × List MemPlace) := some (.held v, [])
def encM (M : List (Int × Value)) : List (Lit × DataW Value) := M.map fun p => (.int .i64 p.1, .held p.2)
theorem sameKey_int (a b : Int) : (Lit.int .i64 a).sameKey (.int .i64 b) = decide (a = b) := by
  simp [Lit.sameKey]
theorem encM_ins (x : Int × Value) (M : List (Int × Value)) : encM (ins x M) = DataW.insert (.int .i64 x.1, .held x.2) (encM M) := by
  induction M with
  | nil => rfl
  | cons z r ih =>
    unfold ins encM
    simp only [List.map_cons]
    unfold DataW.insert
    simp only [Lit.before]
    by_cases h : x.1 < z.1
    · simp [h]
    · simp only [h, decide_false, if_false, List.map_cons, Bool.false_eq_true]
      congr 1
theorem encM_put (M : List (Int × Value)) (i : Int) (v : Value) : DataW.put (.map (encM M)) (.int .i64 i) (.held v) = .map (encM (put M i v)) := by
  unfold put
  rw [encM_ins]
  show DataW.map (DataW.insert (.int .i64 i, .held v) ((encM M).filter fun p => !p.1.sameKey (.int .i64 i))) = _
  congr 2
  unfold encM
  rw [List.filter_map]
  congr 1
  apply List.filter_congr
  intro p _
  simp [sameKey_int]
theorem encM_at (M : List (Int × Value)) (i : Int) (z : Value) : (DataW.map (encM M)).atKey (.int .i64 i) (.held z) = .held ((get M i).getD z) := by
  unfold DataW.atKey get encM
  simp only
  rw [List.find?_map]
  have e : ((fun p : Lit × DataW Value => p.1.sameKey (.int .i64 i)) ∘ fun p : Int × Value => (Lit.int .i64 p.1, DataW.held p.2)) = fun p : Int × Value => decide (p.1 = i) := by
    funext p
    simp [sameKey_int]
  rw [e]
  cases M.find? (fun p => decide (p.1 = i)) <;> rfl
theorem encM_has (M : List (Int × Value)) (i : Int) : Maps.has (.map (encM M)) (.int .i64 i) = (get M i).isSome := by
  unfold Maps.has get encM
  simp only [List.any_map]
  have e : ((fun p : Lit × DataW Value => p.1.sameKey (.int .i64 i)) ∘ fun p : Int × Value => (Lit.int .i64 p.1, DataW.held p.2)) = fun p : Int × Value => decide (p.1 = i) := by
    funext p
    simp [sameKey_int]
  rw [e, Option.isSome_map, Bool.eq_iff_iff, List.find?_isSome, List.any_eq_true]
/-- Whole numbers of 64 bits. -/
def I64 (i : Int) : Prop := -9223372036854775808 ≤ i ∧ i ≤ 9223372036854775807
theorem wf_i64 {i : Int} (h : I64 i) : (Lit.int .i64 i).wf = true := by
  obtain ⟨h1, h2⟩ := h
  simp [Lit.wf, IntKind.min, IntKind.max, IntKind.signed, IntKind.bits]
  omega
/-- Block b is a map with the entries M. -/
def MapI (P : Program) (k : TypeId) (w : World) (b : Nat) (M : List (Int × Value)) : Prop :=
  Rising M ∧ w.ownsMap P k rawR b M.length (.map (encM M))
section
variable {P : Program} {k t e : TypeId} {w : World} {b : Nat} {M : List (Int × Value)}
theorem tight {n : Nat} {l : List (Lit × DataW Value)} (h : w.ownsMap P k rawR b n (.map l)) : w.ownsMap P k rawR b l.length (.map l) := by
  obtain ⟨es, clock, hb, F, hs, hD⟩ := h
  refine ⟨es, clock, hb, F, ?_, hD⟩
  injection hD with hD
  rw [hD, length_sorted]
  simp
theorem MapI.made (w : World) (P : Program) (k : TypeId) : MapI P k (w.alloc (.map #[] 0)) w.heap.size [] := ⟨rising_nil, World.ownsMap_made w P k rawR⟩
theorem MapI.lt (h : MapI P k w b M) : b < w.heap.size := h.2.lt
theorem MapI.move {w' : World} (h : MapI P k w b M) (hm : w'.heap[b]? = w.heap[b]?) : MapI P k w' b M := by
  obtain ⟨h1, es, clock, hb, r⟩ := h
  exact ⟨h1, es, clock, hm.trans hb, r⟩
theorem MapI.is_map (h : MapI P k w b M) : ∃ es clock, w.heap[b]? = some (.map es clock) := by
  obtain ⟨h1, es, clock, hb, r⟩ := h
  exact ⟨es, clock, hb⟩
theorem MapI.look (h : MapI P k w b M) (hk : P.underlying k = some (.int .i64)) (ht : P.underlying t = some (.map k e)) {z : Value} (hz : (zeroValue e).run P w = .ok z w) {i : Int} (hi : I64 i) :
    (Instr.lookup t (.map (some b)) (.int .i64 i) false).run P w = .ok ((get M i).getD z) w := by
  obtain ⟨v, ps, hrun, hv⟩ := h.2.lookup (int_keyed hk) ht hz (zd := .held z) (zp := []) rfl (keyOf_int_mk hk (wf_i64 hi))
  rw [encM_at] at hv
  have : v = (get M i).getD z := by
    simp only [rawR, Option.some.injEq, Prod.mk.injEq] at hv
    injection hv.1
  rw [hrun, this]
theorem MapI.look_ok (h : MapI P k w b M) (hk : P.underlying k = some (.int .i64)) (ht : P.underlying t = some (.map k e)) {z : Value} (hz : (zeroValue e).run P w = .ok z w) {i : Int} (hi : I64 i) :
    (Instr.lookup t (.map (some b)) (.int .i64 i) true).run P w = .ok (.tuple #[(get M i).getD z, .bool (get M i).isSome]) w := by
  obtain ⟨v, ps, hrun, hv⟩ := h.2.look_ok (int_keyed hk) ht hz (zd := .held z) (zp := []) rfl (keyOf_int_mk hk (wf_i64 hi))
  rw [encM_at] at hv
  have : v = (get M i).getD z := by
    simp only [rawR, Option.some.injEq, Prod.mk.injEq] at hv
    injection hv.1
  rw [hrun, this, encM_has]
theorem MapI.store (h : MapI P k w b M) (hk : P.underlying k = some (.int .i64)) (ht : P.underlying t = some (.map k e)) (hn : M.length < 9223372036854775807) {i : Int} (hi : I64 i) (v : Value) :
    ∃ w', (Instr.mapUpdate t (.map (some b)) (.int .i64 i) v).run P w = .ok () w' ∧ MapI P k w' b (put M i v) ∧ w.grownBy w' (some b) ∧ w'.heap.size = w.heap.size := by
  obtain ⟨w', hrun, ho, ht⟩ := h.2.store (int_keyed hk) ht (by simpa [maxLen] using hn) (keyOf_int_mk hk (wf_i64 hi)) (d := .held v) (ps := []) (val := v) rfl
  rw [encM_put] at ho
  refine ⟨w', hrun, ⟨rising_put h.1 i v, ?_⟩, ht.grown, ?_⟩
  · have := tight ho
    simpa [encM] using this
  · obtain ⟨es, clock, es', clock', _, rfl⟩ := ht
    simp [ChangeMaps.setBlock]
theorem MapI.clear (h : MapI P k w b M) (ht : P.underlying t = some (.map k e)) :
    ∃ w', (∀ ty, (Builtin.clear_ #[t] ty #[.map (some b)]).run P w = .ok (.tuple #[]) w') ∧ MapI P k w' b [] ∧ w.grownBy w' (some b) ∧ w'.heap.size = w.heap.size := by
  obtain ⟨h1, es, clock, hb, F, hs, hD⟩ := h
  refine ⟨ChangeMaps.setBlock w b (.map #[] clock), ?_, ⟨rising_nil, #[], clock, ?_, ⟨by simp, stamped_empty clock, by simp⟩, Nat.le_refl _, rfl⟩, ⟨rfl, rfl, rfl, by simp [ChangeMaps.setBlock], fun i hi hne => ?_⟩, by simp [ChangeMaps.setBlock]⟩
  · intro ty
    simp [Builtin.clear_, run_underlying ht, MapKept.run_getObj_map hb, MapKept.run_setObj_map _ hb, Result.andThen, ChangeMaps.setBlock]
  · exact ChangeMaps.heap_setBlock_same hb _
  · exact ChangeMaps.heap_setBlock_other hb _ (fun e => hne (by rw [e]))
end
end Go.Proofs.YtfjbpjndjcinhaaDoor.Mp
