/- An argument that reads as data stands in memory as its kind says: one lemma a kind (numbers, bools, texts, slices, structs). -/
import Derived.Test.YtfjbpjndjcinhaaDoorWWords
import Derived.ChangeArms
import Derived.DataReads
import Derived.DataElems
import Derived.ProofKit
namespace Go.Proofs.YtfjbpjndjcinhaaDoor.Opens
open Go.Proofs.YtfjbpjndjcinhaaDoorW.PrintWords

section
variable {P : Program}
/-- Whatever reads as a datum of type t stands as kind d says, and meets ok. -/
def Op {α : Type} (P : Program) (t : TypeId) (d : Kd α) (ok : α → Prop) : Prop :=
  ∀ (H : Type) (enc : TypeId × Value → H) (w : World) (base : Nat) (spare : Nat → Bool) (held : Bool) (fuel : Nat) (cs : List Value) (x : DataW H × List MemPlace),
    DataW.trod enc P w base spare held fuel t cs = some x → ∃ a, d.K w a cs ∧ ok a
theorem op_mono {α : Type} {t : TypeId} {d : Kd α} {ok ok' : α → Prop} (h : Op P t d ok) (hk : ∀ a, ok a → ok' a) : Op P t d ok' := fun H enc w base spare held fuel cs x hx => by
  obtain ⟨a, h1, h2⟩ := h H enc w base spare held fuel cs x hx
  exact ⟨a, h1, hk a h2⟩
theorem op_int {t : TypeId} {k : IntKind} (ht : P.underlying t = some (.int k)) : Op P t (Kd.int k) (fun n => (Lit.int k n).wf = true) := fun H enc w base spare held fuel cs x hx => by
  obtain ⟨n, h1, _, h2⟩ := DataW.trod_int ht hx
  exact ⟨n, h1, h2⟩
theorem op_bool {t : TypeId} (ht : P.underlying t = some .bool) : Op P t Kd.bool (fun _ => True) := fun H enc w base spare held fuel cs x hx => by
  obtain ⟨n, h1, _⟩ := DataW.trod_bool ht hx
  exact ⟨n, h1, trivial⟩
theorem op_string {t : TypeId} (ht : P.underlying t = some .string) : Op P t Kd.string (fun s => s.size ≤ maxLen) := fun H enc w base spare held fuel cs x hx => by
  obtain ⟨s, h1, _, h2⟩ := DataW.trod_string ht hx
  exact ⟨s, h1, h2⟩
theorem list_of {α : Type} {Q : Nat → α → Prop} : ∀ n : Nat, (∀ i, i < n → ∃ a, Q i a) → ∃ l : List α, l.length = n ∧ ∀ i a, l[i]? = some a → Q i a
  | 0, _ => ⟨[], rfl, fun i a h => by simp at h⟩
  | n + 1, h => by
    obtain ⟨l, h1, h2⟩ := list_of n (fun i hi => h i (by omega))
    obtain ⟨a, ha⟩ := h n (by omega)
    refine ⟨l ++ [a], by simp [h1], fun i b hb => ?_⟩
    by_cases hi : i < l.length
    · rw [List.getElem?_append_left hi] at hb
      exact h2 i b hb
    · rw [List.getElem?_append_right (by omega)] at hb
      have hi2 : i = n := by
        have := (List.getElem?_eq_some_iff.1 hb).1
        simp at this
        omega
      subst hi2
      simp [h1] at hb
      rw [← hb]; exact ha
theorem op_slice {α : Type} {t e : TypeId} {d : Kd α} {ok : α → Prop} (ht : P.underlying t = some (.slice e)) (hc : P.cellsOf e = d.sz) (h : Op P e d ok) :
    Op P t (Kd.slice e d) (fun l => l.length ≤ maxLen ∧ ∀ a ∈ l, ok a) := fun H enc w base spare held fuel cs x hx => by
  rcases DataW.trod_slice ht hx with ⟨rfl, _⟩ | ⟨a, len, cap, elems, rest, n, _, rfl, _, _, hl, hm, hlen, hel, _, _⟩
  · exact ⟨[], ⟨none, 0, rfl, Nat.le_refl _, rfl, by simp, fun h => absurd h (by simp)⟩, by simp, fun a ha => by cases ha⟩
  · have each : ∀ i, i < len → ∃ y, ok y ∧ ∃ c, c.length = d.sz ∧ d.K w y c ∧ ∀ j u, c[j]? = some u → w.cell? (a.add (i * d.sz + j)) = some u := by
      intro i hi
      have h1 := hel i hi
      rw [List.getElem?_eq_getElem (by omega)] at h1
      obtain ⟨c, h2, h3⟩ := Option.bind_eq_some_iff.1 h1
      obtain ⟨y, hy, hok⟩ := h H enc w base spare held n c _ h3
      rw [hc] at h2
      refine ⟨y, hok, c, d.K_len hy, hy, fun j u hu => ?_⟩
      obtain ⟨_, hcl, hcell⟩ := World.cells?_some h2
      have hj : j < d.sz := by have := (List.getElem?_eq_some_iff.1 hu).1; rw [d.K_len hy] at this; exact this
      have := hcell j hj
      rw [hu] at this
      rw [← this]
      congr 1
      rw [Addr.add_add]
    obtain ⟨l, hl1, hl2⟩ := list_of len each
    refine ⟨l, ⟨some a, cap, by rw [hl1], by omega, rfl, by rw [hl1]; simp only [maxLen] at hm; omega, fun _ => ⟨a, rfl, fun j p hj => (hl2 j p hj).2⟩⟩, by rw [hl1]; omega, fun y hy => ?_⟩
    obtain ⟨i, hi⟩ := List.getElem?_of_mem hy
    exact (hl2 i y hi).1

/-- The fields from one on, each behind the one ahead. -/
def OpF {α : Type} (P : Program) (fs : List Field) (off : Nat) (d : Kd α) (ok : α → Prop) : Prop :=
  ∀ (H : Type) (enc : TypeId × Value → H) (w : World) (base : Nat) (spare : Nat → Bool) (held : Bool) (fuel : Nat) (cs : List Value), cs.length = off + d.sz →
    (∀ f ∈ fs, ∃ x : DataW H × List MemPlace, DataW.trod enc P w base spare held fuel f.type ((cs.drop f.offset).take (P.cellsOf f.type)) = some x) → ∃ a, d.K w a (cs.drop off) ∧ ok a
theorem opf_last {α : Type} {f : Field} {off : Nat} {d : Kd α} {ok : α → Prop} (ho : f.offset = off) (hc : P.cellsOf f.type = d.sz) (h : Op P f.type d ok) : OpF P [f] off d ok := by
  intro H enc w base spare held fuel cs hl hx
  obtain ⟨x, h1⟩ := hx f List.mem_cons_self
  rw [ho, hc] at h1
  obtain ⟨a, h2, h3⟩ := h H enc w base spare held fuel _ x h1
  refine ⟨a, ?_, h3⟩
  rwa [List.take_of_length_le (by simp; omega)] at h2
theorem opf_more {α β : Type} {f : Field} {fs : List Field} {off : Nat} {d : Kd α} {d' : Kd β} {ok : α → Prop} {ok' : β → Prop} (ho : f.offset = off) (hc : P.cellsOf f.type = d.sz) (h : Op P f.type d ok) (hs : OpF P fs (off + d.sz) d' ok') :
    OpF P (f :: fs) off (Kd.pair d d') (fun x => ok x.1 ∧ ok' x.2) := by
  intro H enc w base spare held fuel cs hl hx
  have hl' : cs.length = off + (d.sz + d'.sz) := hl
  obtain ⟨x, h1⟩ := hx f List.mem_cons_self
  rw [ho, hc] at h1
  obtain ⟨a, h2, h3⟩ := h H enc w base spare held fuel _ x h1
  obtain ⟨b, h4, h5⟩ := hs H enc w base spare held fuel cs (by omega) (fun g hg => hx g (List.mem_cons_of_mem _ hg))
  refine ⟨(a, b), ⟨(cs.drop off).take d.sz, cs.drop (off + d.sz), ?_, h2, h4⟩, h3, h5⟩
  rw [← List.drop_drop, List.take_append_drop]
theorem op_struct {α β : Type} {t : TypeId} {fs : Array Field} {d : Kd α} {ok : α → Prop} (g : β → α) (g' : α → β) (hg : ∀ a, g (g' a) = a) (ht : P.underlying t = some (.struct fs)) (hc : P.cellsOf t = d.sz) (h : OpF P fs.toList 0 d ok) :
    Op P t (Kd.iso d g) (fun b => ok (g b)) := fun H enc w base spare held fuel cs x hx => by
  obtain ⟨xs, n, _, _, hl, hxs, hf⟩ := DataW.trod_struct ht hx
  obtain ⟨a, h1, h2⟩ := h H enc w base spare held n cs (by omega) (fun f hfm => by
    obtain ⟨i, hi⟩ := List.getElem?_of_mem hfm
    have hi' : fs[i]? = some f := by simpa using hi
    have hlt : i < xs.length := by
      have := (List.getElem?_eq_some_iff.1 hi).1
      simp at this; omega
    exact ⟨xs[i], by rw [hf i f hi', List.getElem?_eq_getElem hlt]⟩)
  refine ⟨g' a, ?_, ?_⟩
  · show d.K w (g (g' a)) cs
    rw [hg]; simpa using h1
  · show ok (g (g' a))
    rw [hg]; exact h2
end
/-- A slice among the arguments: what it is, and the list that it reads as. -/
theorem slice_arg {P : Program} {α : Type} {t e : TypeId} {d : Kd α} {ok : List α → Prop} (h : Op P t (Kd.slice e d) ok) {H : Type} {enc : TypeId × Value → H} {w : World} {base : Nat} {spare : Nat → Bool} {held : Bool} {v : Value} {x : DataW H} {ps : List MemPlace}
    (hv : ∃ A n c, v = .slice A n c) (hx : DataW.Trod enc P w base spare held t v x ps) : ∃ A c l, v = .slice A l.length c ∧ l.length ≤ c ∧ d.C w A l.length l ∧ ok l := by
  obtain ⟨A, n, c, rfl⟩ := hv
  obtain ⟨fuel, hf⟩ := hx
  obtain ⟨l, ⟨A', c', he, hl, hC⟩, hok⟩ := h H enc w base spare held fuel _ _ hf
  simp only [Value.cells, List.cons.injEq, and_true] at he
  exact ⟨A', c', l, he, hl, hC, hok⟩
/-- A struct among the arguments. -/
theorem struct_arg {P : Program} {α : Type} {t : TypeId} {fs : Array Field} {d : Kd α} {ok : α → Prop} (h : Op P t d ok) (ht : P.underlying t = some (.struct fs)) {H : Type} {enc : TypeId × Value → H} {w : World} {r : Reach} {base base' : Nat} {spare : Nat → Bool} {held : Bool} {v : Value} {x : DataW H} {ps : List MemPlace}
    (hv : Value.okWide P w r base' t v) (hx : DataW.Trod enc P w base spare held t v x ps) : ∃ a cs, v = .agg (List.toArray cs) ∧ d.K w a cs ∧ ok a := by
  unfold Value.okWide at hv
  rw [ht] at hv
  obtain ⟨cs, rfl, _, _⟩ := hv
  obtain ⟨fuel, hf⟩ := hx
  obtain ⟨a, h1, h2⟩ := h H enc w base spare held fuel _ _ hf
  exact ⟨a, cs.toList, by simp, h1, h2⟩
end Go.Proofs.YtfjbpjndjcinhaaDoor.Opens
