/- A region that draws its order, by a state that each of its operations carries on: each operation is shown once, whatever the order. Over the kit alone. -/
import Derived.Test.YtfjbpjndjcinhaaDoorWLast
import Derived.Test.YtfjbpjndjcinhaaDoorWMore
import Derived.Below
namespace Go.Proofs.YtfjbpjndjcinhaaDoor.Rg
open Go Go.RowKit Go.Proofs.YtfjbpjndjcinhaaDoorW.PrintWords Go.Proofs.YtfjbpjndjcinhaaDoorW.PrintMore Go.Proofs.YtfjbpjndjcinhaaDoorW.PrintLast
set_option linter.unusedVariables false
theorem count_set : ∀ (l : List Bool) (i : Nat), l[i]? = some false → (l.set i true).count false + 1 = l.count false
  | [], i, h => by simp at h
  | b :: l, 0, h => by
    have hb : b = false := by simpa using h
    subst hb
    simp
  | b :: l, i + 1, h => by
    have ih := count_set l i (by simpa using h)
    rw [List.set_cons_succ, List.count_cons, List.count_cons]
    omega
def upd {α : Type} (f : Nat → α) (i : Nat) (v : α) : Nat → α := fun j => if j = i then v else f j
section
variable {P : Program} {ops : Array Oper} {Q : Exit → Act → World → Prop}
/-- Whatever is done, what it leans on is done. -/
def Closed (ops : Array Oper) (D : Nat → Bool) : Prop := ∀ (j : Nat), D j = true → ∀ o, ops[j]? = some o → ∀ e ∈ o.after, Region.binds .any e = true → D e.on = true
structure Inv (P : Program) (ops : Array Oper) (Q : Exit → Act → World → Prop) (frame : (Nat → Value) → Act) (J : (Nat → Bool) → (Nat → Value) → World → Prop) : Prop where
  put : ∀ (i : Nat) o, ops[i]? = some o → ∀ f v, (frame f).put o.dst v = frame (upd f i v)
  ord : ∀ (i : Nat) o, ops[i]? = some o → ∀ e ∈ o.after, Region.binds .any e = true → e.on < i
  step : ∀ (i : Nat) o, ops[i]? = some o → ∀ (D : Nat → Bool) (f : Nat → Value) W, Closed ops D → D i = false → (∀ e ∈ o.after, Region.binds .any e = true → D e.on = true) → J D f W → ∀ K : Act → World → Prop, (∀ v W', J (upd D i true) (upd f i v) W' → K ((frame f).put o.dst v) W') → if Region.wanted o (yielded ops (frame f).tmps) = true then o.wp P (frame f) W K Q else K ((frame f).put o.dst undef) W
  fin : ∀ (D : Nat → Bool) f W, (∀ (i : Nat), i < ops.size → D i = true) → J D f W → Q .normal (frame f) W
variable {frame : (Nat → Value) → Act} {J : (Nat → Bool) → (Nat → Value) → World → Prop}
theorem Inv.all (H : Inv P ops Q frame J) {listed : Array Bool} (hs : listed.size = ops.size) (hr : Region.ready .any ops listed = []) : ∀ n i, i ≤ n → i < ops.size → listed.getD i false = true
  | n, i, hn, hi => by
    cases hg : listed.getD i false with
    | true => rfl
    | false =>
      exfalso
      have hmem : i ∈ Region.ready .any ops listed := by
        rw [mem_ready]
        refine ⟨?_, ops[i], Array.getElem?_eq_getElem hi, fun e he hb => ?_⟩
        · rw [Array.getD_eq_getD_getElem?] at hg ⊢
          rw [Array.getElem?_eq_getElem (by omega)] at hg ⊢
          exact hg
        · have hlt := H.ord i _ (Array.getElem?_eq_getElem hi) e he hb
          match n, hn with
          | 0, hn => omega
          | n + 1, hn => exact Inv.all H hs hr n e.on (by omega) (by omega)
      rw [hr] at hmem
      cases hmem
theorem getD_upd (listed : Array Bool) (i : Nat) (hi : i < listed.size) : (fun j => (listed.setIfInBounds i true).getD j false) = upd (fun j => listed.getD j false) i true := by
  funext j
  unfold upd
  by_cases h : j = i
  · subst h
    simp [Array.getD_eq_getD_getElem?, hi]
  · rw [if_neg h]
    exact getD_set_ne false (Ne.symm h)
theorem Inv.any (H : Inv P ops Q frame J) : ∀ (fuel : Nat) (listed : Array Bool) (f : Nat → Value) (W : World), listed.size = ops.size → listed.toList.count false ≤ fuel → Closed ops (fun j => listed.getD j false) → J (fun j => listed.getD j false) f W → wpAny P .any ops Q fuel listed (frame f) W
  | 0, listed, f, W, hs, hc, hC, hJ => by
    have hr : Region.ready .any ops listed = [] := by
      cases h : Region.ready .any ops listed with
      | nil => rfl
      | cons i l =>
        exfalso
        have hmem : i ∈ Region.ready .any ops listed := by rw [h]; exact List.mem_cons_self
        rw [mem_ready] at hmem
        obtain ⟨h0, o, ho, _⟩ := hmem
        have hi : i < listed.size := by rw [hs]; exact (Array.getElem?_eq_some_iff.1 ho).1
        rw [Array.getD_eq_getD_getElem?, Array.getElem?_eq_getElem hi] at h0
        have h1 : listed.toList[i]? = some false := by rw [Array.getElem?_toList, Array.getElem?_eq_getElem hi]; exact congrArg some h0
        have := count_set _ _ h1
        omega
    exact ⟨hr, H.fin _ f W (fun i hi => H.all hs hr i i (Nat.le_refl _) hi) hJ⟩
  | fuel + 1, listed, f, W, hs, hc, hC, hJ => by
    refine ⟨fun hr => H.fin _ f W (fun i hi => H.all hs hr i i (Nat.le_refl _) hi) hJ, fun i hmem => ?_⟩
    rw [mem_ready] at hmem
    obtain ⟨h0', o, ho, hall⟩ := hmem
    have h0 := h0'
    have hi : i < listed.size := by rw [hs]; exact (Array.getElem?_eq_some_iff.1 ho).1
    rw [Array.getD_eq_getD_getElem?, Array.getElem?_eq_getElem hi] at h0
    have h1 : listed.toList[i]? = some false := by rw [Array.getElem?_toList, Array.getElem?_eq_getElem hi]; exact congrArg some h0
    have hcs := count_set _ _ h1
    unfold wpOp
    rw [ho]
    have key := H.step i o ho (fun j => listed.getD j false) f W hC (by
      show listed.getD i false = false
      rw [Array.getD_eq_getD_getElem?, Array.getElem?_eq_getElem hi]
      exact h0) (fun e he hb => hall e he hb) hJ (wpAny P .any ops Q fuel (listed.setIfInBounds i true)) (fun v W' hJ' => by
      rw [H.put i o ho]
      have e := getD_upd listed i hi
      refine H.any fuel _ _ W' (by rw [Array.size_setIfInBounds]; exact hs) (by rw [Array.toList_setIfInBounds]; omega) ?_ (by rw [e]; exact hJ')
      rw [e]
      intro j hj o' ho' x hx hb
      unfold upd at hj ⊢
      by_cases hx2 : x.on = i
      · rw [if_pos hx2]
      · rw [if_neg hx2]
        by_cases hji : j = i
        · subst hji
          rw [ho] at ho'
          cases ho'
          exact hall x hx hb
        · rw [if_neg hji] at hj
          exact hC j hj o' ho' x hx hb)
    dsimp only
    by_cases hw : Region.wanted o (yielded ops (frame f).tmps) = true
    · rw [if_pos hw] at key ⊢
      exact Or.inl key
    · rw [if_neg hw] at key ⊢
      exact key
theorem count_replicate (n : Nat) : (Array.replicate n false).toList.count false = n := by simp
theorem none_done (n : Nat) : (fun j => (Array.replicate n false).getD j false) = fun _ => false := by
  funext j
  rw [Array.getD_eq_getD_getElem?]
  by_cases h : j < n
  · rw [Array.getElem?_eq_getElem (by simpa using h)]
    simp
  · rw [Array.getElem?_eq_none (by simpa using h)]
    rfl
/-- The region, by what each of its operations carries on. -/
theorem region_inv {id : Nat} (H : Inv P ops Q frame J) (hm : P.follows .mixedOrders = true) (f : Nat → Value) (W : World) (hJ : J (fun _ => false) f W.drew) : (Code.region id ops true).wp P Q (frame f) W := by
  refine wp_region_any hm (H.any ops.size _ f _ (by simp) (by rw [count_replicate]; exact Nat.le_refl _) ?_ ?_)
  · rw [none_done]
    intro j hj
    cases hj
  · rw [none_done]
    exact hJ
/-- Op by op. -/
def AllAt (M : Nat → Oper → Prop) : List Oper → Nat → Prop
  | [], _ => True
  | o :: l, n => M n o ∧ AllAt M l (n + 1)
theorem all_at {M : Nat → Oper → Prop} : ∀ (l : List Oper) (n : Nat), AllAt M l n → ∀ i o, l[i]? = some o → M (n + i) o
  | [], n, _, i, o, h => by simp at h
  | x :: l, n, hA, 0, o, h => by
    have : x = o := by simpa using h
    subst this
    exact hA.1
  | x :: l, n, hA, i + 1, o, h => by
    have := all_at l (n + 1) hA.2 i o (by simpa using h)
    rw [show n + (i + 1) = n + 1 + i by omega]
    exact this
theorem all_cons {M : Nat → Oper → Prop} {o : Oper} {l : List Oper} {n : Nat} (h : M n o) (k : AllAt M l (n + 1)) : AllAt M (o :: l) n := ⟨h, k⟩
theorem all_nil {M : Nat → Oper → Prop} {n : Nat} : AllAt M [] n := trivial
def ordB : List Oper → Nat → Bool
  | [], _ => true
  | o :: l, n => (o.after.all fun e => !Region.binds .any e || decide (e.on < n)) && ordB l (n + 1)
theorem ord_all : ∀ (l : List Oper) (n : Nat), ordB l n = true → AllAt (fun i o => ∀ e ∈ o.after, Region.binds .any e = true → e.on < i) l n
  | [], _, _ => trivial
  | o :: l, n, h => by
    unfold ordB at h
    rw [Bool.and_eq_true, Array.all_eq_true_iff_forall_mem] at h
    refine ⟨fun e he hb => ?_, ord_all l (n + 1) h.2⟩
    have := h.1 e he
    rw [hb] at this
    simpa using this
theorem ops_all {l : List Oper} {M : Nat → Oper → Prop} (h : AllAt M l 0) : ∀ i o, l.toArray[i]? = some o → M i o := fun i o ho => by
  have := all_at l 0 h i o (by simpa using ho)
  rwa [Nat.zero_add] at this
end
end Go.Proofs.YtfjbpjndjcinhaaDoor.Rg
