/- slices.Sorted(maps.Keys(m)) at a map from whole numbers: what it hands back. Over the program alone. -/
import Derived.Shelf.SlIterI.Nil
import Derived.Test.YtfjbpjndjcinhaaDoorSh
import Derived.Test.YtfjbpjndjcinhaaDoorMp
import Derived.WalkKit
namespace Go.Proofs.YtfjbpjndjcinhaaDoor.Sk
open Go Go.RowKit Go.Maps Go.Sort Go.Shelf Go.Proofs.YtfjbpjndjcinhaaDoor.Mp
set_option linter.unusedVariables false
def ren : Go.Shelf.Ren := ⟨fun | 6 => 34 | 7 => 35 | 8 => 48 | 9 => 49 | 10 => 50 | 11 => 59 | n => n, fun | 0 => 0 | 3 => 22 | 4 => 4 | 23 => 41 | 24 => 51 | 26 => 3 | 27 => 68 | 28 => 69 | 33 => 44 | n => n, fun | n => n⟩
theorem keysL : SlLaysZI.n7 Tryd.prog ren := {
  mixed := by kernel_rfl
  f7 := ⟨Tryd.f35.name, by decide, Tryd.func35.trans (congrArg some (by kernel_rfl))⟩
  f10 := ⟨Tryd.f50.name, by decide, Tryd.func50.trans (congrArg some (by kernel_rfl))⟩
  t0 := Tryd.underlying0
  a0 := Tryd.isAgg0
  z0 := Tryd.sizeOf0
  v0 := Tryd.zeroValue0
  t4 := Tryd.underlying4
  a4 := Tryd.isAgg4
  z4 := Tryd.sizeOf4
  v4 := Tryd.zeroValue4
  t23 := Tryd.underlying41
  a23 := Tryd.isAgg41
  z23 := Tryd.sizeOf41
  v23 := Tryd.zeroValue41
  t26 := Tryd.underlying3
  a26 := Tryd.isAgg3
  z26 := Tryd.sizeOf3
  v26 := Tryd.zeroValue3
  t27 := Tryd.underlying68
  a27 := Tryd.isAgg68
  z27 := Tryd.sizeOf68
  v27 := Tryd.zeroValue68
  t28 := Tryd.underlying69
  a28 := Tryd.isAgg69
  z28 := Tryd.sizeOf69
  v28 := Tryd.zeroValue69
  t33 := Tryd.underlying44
  a33 := Tryd.isAgg44
  z33 := Tryd.sizeOf44
  v33 := Tryd.zeroValue44
}
theorem sortedL : SlLaysZI.n6 Tryd.prog ren := {
  mixed := by kernel_rfl
  f6 := ⟨Tryd.f34.name, by decide, Tryd.func34.trans (congrArg some (by kernel_rfl))⟩
  f8 := ⟨Tryd.f48.name, by decide, Tryd.func48.trans (congrArg some (by kernel_rfl))⟩
  f11 := ⟨Tryd.f59.name, by decide, Tryd.func59.trans (congrArg some (by kernel_rfl))⟩
  t0 := Tryd.underlying0
  a0 := Tryd.isAgg0
  z0 := Tryd.sizeOf0
  v0 := Tryd.zeroValue0
  t24 := Tryd.underlying51
  a24 := Tryd.isAgg51
  z24 := Tryd.sizeOf51
  v24 := Tryd.zeroValue51
  t26 := Tryd.underlying3
  a26 := Tryd.isAgg3
  z26 := Tryd.sizeOf3
  v26 := Tryd.zeroValue3
  t28 := Tryd.underlying69
  a28 := Tryd.isAgg69
  z28 := Tryd.sizeOf69
  v28 := Tryd.zeroValue69
  i26 := by kernel_rfl
}
theorem sortsL (m : Nat) : AnyZI.SortsIn Tryd.prog ren Fence.wide m :=
  ⟨fun blk off cap ss W hH hblk hsz => callsIn_wide.2 (Tryd.slices_Sort_int blk off cap ss W hH hblk hsz),
   fun p cap W => callsIn_wide.2 (Tryd.slices_Sort_int_none p cap W)⟩
/-- maps.Keys(m): the map boxed; the function value over the box. -/
theorem keys_call (mb : Option Nat) (W : World) : Calls Tryd.prog 35 #[.map mb] W fun e w' => e = .returned (.func (.func 50) #[] #[.pointer (some ⟨W.heap.size, 0, none⟩)]) ∧ w' = W.alloc (.cells #[.map mb] 41) :=
  callsIn_wide.1 (AnyZI.keys_in keysL Fence.wide 5 trivial rfl mb W)
/-- slices.Sorted of that. -/
theorem sorted_call {H : Type} (b nn : Nat) (D0 : DataW H) (R : Value → Option (DataW H × List MemPlace)) (w : World) (hown : w.ownsMap Tryd.prog 3 R b nn D0) (hmax : Maps.size D0 ≤ maxLen) (hbytes : Maps.size D0 * 8 ≤ 140737488355328) :
    Calls Tryd.prog 34 #[.func (.func 50) #[] #[.pointer (some ⟨w.heap.size, 0, none⟩)]] (w.alloc (.cells #[.map (some b)] 41)) fun e w' => ∃ (v : Value) (ss : List Int), e = .returned v ∧ ss.Perm (intKeys D0) ∧
      w'.ownsRow (w.heap.size + 1) 3 1 v ss.length ((ss.mergeSort (fun x y => decide (x ≤ y))).map encZ) ∧ (v = .slice none 0 0 ↔ ss = []) ∧ Below w.heap.size w w' := by
  have hbl := hown.lt
  have hseq : SeqGives Fence.wide 2 Tryd.prog 50 #[.pointer (some ⟨w.heap.size, 0, none⟩)] encZ (fun ss => ss.Perm (intKeys D0)) (Maps.size D0) (w.alloc (.cells #[.map (some b)] 41)) :=
    AnyZI.keys_gives (ρ := ren) { keysL with } Fence.wide _ trivial rfl (by omega) w.heap.size b nn D0 _ (by simp) (by simp) (by
      obtain ⟨es, clock, hb, Ft, hs, hD⟩ := hown
      exact ⟨es, clock, (Below.heap_alloc _ _ b hbl).trans hb, Ft, hs, hD⟩)
  have cS := AnyZI.sorted_in sortedL Fence.wide 5 trivial trivial trivial trivial rfl (by omega) (sortsL _) (enters_of Tryd.func49 (by kernel_rfl) rfl) 50 #[.pointer (some ⟨w.heap.size, 0, none⟩)] trivial (enters_of Tryd.func50 (by kernel_rfl) rfl) _ _ hmax hbytes _ hseq
  change CallsIn _ _ Tryd.prog 34 _ _ _ at cS
  refine (callsIn_wide.1 cS).mono fun e w' ⟨v, ss, he, hS, hrow, hnil, hb⟩ => ⟨v, ss, he, hS, ?_, hnil, ((Below.refl _ w).alloc (Nat.le_refl _) _).trans (hb.mono (by simp))⟩
  have e : (w.alloc (.cells #[.map (some b)] 41)).heap.size = w.heap.size + 1 := by simp
  rw [e] at hrow
  exact hrow
theorem intKeys_enc (M : List (Int × Value)) : intKeys (.map (encM M) : DataW Value) = M.map (·.1) := by
  unfold intKeys encM
  simp only [List.map_map]
  rfl
theorem sorted_of_rising {α : Type} {M : List (Int × α)} (h : Rising M) {ss : List Int} (hp : ss.Perm (M.map (·.1))) : ss.mergeSort (fun x y => decide (x ≤ y)) = M.map (·.1) := by
  have p := (List.mergeSort_perm ss (fun x y => decide (x ≤ y))).trans hp
  have s1 : (ss.mergeSort (fun x y => decide (x ≤ y))).Pairwise (fun x y => decide (x ≤ y) = true) := List.pairwise_mergeSort (fun a b c h1 h2 => by simp at *; omega) (fun a b => by simp; omega) ss
  have s2 : (M.map (·.1)).Pairwise (fun x y => decide (x ≤ y) = true) := by
    rw [List.pairwise_map]
    exact h.imp (fun h => by simp; omega)
  exact p.eq_of_pairwise (le := fun x y : Int => decide (x ≤ y) = true) (fun a b _ _ h1 h2 => by simp at h1 h2; omega) s1 s2
/-- Both, at a map's block: its keys, rising, in a new row (nil where there is none). -/
theorem sorted_keys {b : Nat} {M : List (Int × Value)} {w : World} (h : MapI Tryd.prog 3 w b M) (hl : M.length ≤ 1000000000) :
    Calls Tryd.prog 34 #[.func (.func 50) #[] #[.pointer (some ⟨w.heap.size, 0, none⟩)]] (w.alloc (.cells #[.map (some b)] 41)) fun e w' => ∃ v, e = .returned v ∧
      w'.ownsRow (w.heap.size + 1) 3 1 v M.length (M.map fun p => Value.int .i64 p.1) ∧ (v = .slice none 0 0 ↔ M = []) ∧ Below w.heap.size w w' := by
  have hs : Maps.size (.map (encM M) : DataW Value) = M.length := by simp [Maps.size, encM]
  refine (sorted_call b _ _ rawR w h.2 (by rw [hs]; unfold maxLen; omega) (by rw [hs]; omega)).mono fun e w' ⟨v, ss, he, hp, hrow, hnil, hb⟩ => ⟨v, he, ?_, ?_, hb⟩
  · rw [intKeys_enc] at hp
    rw [sorted_of_rising h.1 hp, hp.length_eq, List.length_map, List.map_map] at hrow
    exact hrow
  · rw [intKeys_enc] at hp
    rw [hnil]
    have := hp.length_eq
    rw [List.length_map] at this
    constructor
    · intro e; subst e; exact List.eq_nil_of_length_eq_zero this.symm
    · intro e; subst e; exact List.eq_nil_of_length_eq_zero this
end Go.Proofs.YtfjbpjndjcinhaaDoor.Sk
