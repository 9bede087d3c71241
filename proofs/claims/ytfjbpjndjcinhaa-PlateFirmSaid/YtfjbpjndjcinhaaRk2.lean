/- chancelref16: what was laid last, which plates are loose. Over the program alone. -/
import Derived.Test.YtfjbpjndjcinhaaRk
namespace Go.Proofs.Ytfjbpjndjcinhaa.Dk
open Go Go.RowKit Go.Proofs.Ytfjbpjndjcinhaa.Mp Go.Proofs.Ytfjbpjndjcinhaa.Rg Go.Proofs.YtfjbpjndjcinhaaW.PrintWords Go.Proofs.YtfjbpjndjcinhaaW.PrintMore Go.Proofs.YtfjbpjndjcinhaaW.PrintLast
set_option linter.unusedVariables false
set_option linter.unusedSimpArgs false
section
variable {own own' : Nat → Prop} {w w' : World} {p fm lm : Nat} {s s' : RSt} {Q : List (Int × Ent)}
theorem RDiskAt.entry (h : RDiskAt own w p s fm lm Q) {i : Int} {l : List ByteArray} (hl : Mp.get s.laid i = some l) : ∃ e, Mp.get Q i = some e ∧ e.l = l ∧ e.at_ w ∧ own e.g := by
  rw [h.laid, get_mapv] at hl
  cases hg : Mp.get Q i with
  | none => rw [hg] at hl; cases hl
  | some e =>
    rw [hg] at hl
    exact ⟨e, rfl, Option.some.inj hl, (h.ents _ (get_mem hg)).1, (h.ents _ (get_mem hg)).2⟩
theorem RDiskAt.noentry (h : RDiskAt own w p s fm lm Q) {i : Int} (hl : Mp.get s.laid i = none) : Mp.get Q i = none := by
  rw [h.laid, get_mapv] at hl
  simpa using hl
theorem RDiskAt.look (h : RDiskAt own w p s fm lm Q) {i : Int} (hi : I64 i) :
    (Instr.lookup 42 (.map (some lm)) (.int .i64 i) false).run Try.prog w = .ok (((Mp.get Q i).map Ent.val).getD (.slice none 0 0)) w := by
  have := h.map.look Try.underlying3 Try.underlying42 (Try.zeroValue52 w) hi
  rw [get_mapv] at this
  exact this
theorem RDiskAt.lookf (h : RDiskAt own w p s fm lm Q) {i : Int} (hi : I64 i) :
    (Instr.lookup 41 (.map (some fm)) (.int .i64 i) true).run Try.prog w = .ok (.tuple #[((Mp.get s.firm i).map Value.string).getD (.string ⟨#[]⟩), .bool (Mp.get s.firm i).isSome]) w := by
  have := h.firm.look_ok Try.underlying3 Try.underlying41 (Try.zeroValue9 w) hi
  rw [get_mapv, Option.isSome_map] at this
  exact this
set_option maxHeartbeats 400000 in
theorem rfirm_any (h : RDisk own w p s) (i : Int) (hi : I64 i) : Calls Try.prog 32 #[.pointer (some ⟨p, 0, none⟩), .int .i64 i] w fun e w' => e = .returned (.string (s.firmAt i)) ∧ Below w.heap.size w w' := by
  obtain ⟨hh, ⟨fm, lm, Q, hq⟩, _⟩ := h
  obtain ⟨c0, c1, c2, c3, c4⟩ := hq.cells
  have hL := hq.lookf hi
  unfold RSt.firmAt
  cases hg : Mp.get s.firm i with
  | some y =>
    rw [hg] at hL
    replace hL : (Instr.lookup 41 (.map (some fm)) (.int .i64 i) true).run Try.prog w = .ok (.tuple #[.string y, .bool true]) w := hL
    clear hq hh hg c0 c1 c2 c4
    go_enter Try.func32, Try.ntmps32
    go_wp2
    go_ret
    exact ⟨rfl, Below.refl _ _⟩
  | none =>
    rw [hg] at hL
    replace hL : (Instr.lookup 41 (.map (some fm)) (.int .i64 i) true).run Try.prog w = .ok (.tuple #[.string ⟨#[]⟩, .bool false]) w := hL
    clear hq hh hg c0 c1 c2 c4
    go_enter Try.func32, Try.ntmps32
    go_wp2_with (go_at_call 31; (with_reducible refine (full_any _ _ (by decide)).mono ?_); rintro e w' ⟨rfl, hb⟩; have HB := Aside0.mk hb; clear hb)
    go_ret
    exact ⟨rfl, HB.out⟩
theorem in_iff {i : Int} (h : s.in_ i = true) : s.off = false ∧ 0 ≤ i ∧ i < s.n := by
  unfold RSt.in_ at h
  simp at h
  exact h
theorem in_not {i : Int} (h : s.in_ i = false) : s.off = true ∨ (s.off = false ∧ i < 0) ∨ (s.off = false ∧ ¬ i < 0 ∧ (s.n : Int) ≤ i) := by
  unfold RSt.in_ at h
  cases ho : s.off with
  | true => exact .inl rfl
  | false =>
    rw [ho] at h
    simp at h
    by_cases h0 : i < 0
    · exact .inr (.inl ⟨rfl, h0⟩)
    · exact .inr (.inr ⟨rfl, h0, h (by omega)⟩)
set_option maxRecDepth 100000 in
set_option maxHeartbeats 800000 in
theorem rget_any (h : RDisk own w p s) (i : Int) : Calls Try.prog 24 #[.pointer (some ⟨p, 0, none⟩), .int .i64 i] w fun e w' => e = .returned (.tuple #[.string (s.get i).1, .bool (s.get i).2]) ∧ Below w.heap.size w w' := by
  have hok := h.ok
  have H := Aside0.mk h
  obtain ⟨hh, ⟨fm, lm, Q, hq⟩, _⟩ := h
  obtain ⟨c0, c1, c2, c3, c4⟩ := hq.cells
  unfold RSt.get
  cases ht : s.in_ i with
  | false =>
    clear c1 c3 c4
    rcases in_not ht with ho | ⟨ho, h0⟩ | ⟨ho, h0, h1⟩
    · rw [ho] at c2
      clear hq hok ht hh ho
      go_enter Try.func24, Try.ntmps24
      go_wp2
      go_ret2
      exact ⟨rfl, Below.refl _ _⟩
    · rw [ho] at c2
      have d1 : decide (i < 0) = true := decide_eq_true h0
      clear hq hok ht hh ho
      go_enter Try.func24, Try.ntmps24
      go_wp2
      go_ret2
      exact ⟨rfl, Below.refl _ _⟩
    · rw [ho] at c2
      have d1 : decide (i < 0) = false := decide_eq_false h0
      have d2 : decide ((s.n : Int) ≤ i) = true := decide_eq_true h1
      clear hq hok ht hh ho
      go_enter Try.func24, Try.ntmps24
      go_wp2
      go_ret2
      exact ⟨rfl, Below.refl _ _⟩
  | true =>
    obtain ⟨ho, h0, h1⟩ := in_iff ht
    rw [ho] at c2
    have hn := hok.n2
    have hi := i64_of h0 h1 (by omega)
    have hL := hq.look hi
    have d1 : decide (i < 0) = false := decide_eq_false (by omega)
    have d2 : decide ((s.n : Int) ≤ i) = false := decide_eq_false (by omega)
    unfold RSt.now
    cases hg : Mp.get s.laid i with
    | some l =>
      obtain ⟨e, he, rfl, hat, _⟩ := hq.entry hg
      rw [he] at hL
      replace hL : (Instr.lookup 42 (.map (some lm)) (.int .i64 i) false).run Try.prog w = .ok (.slice (some ⟨e.g, 0, none⟩) e.l.length e.cap) w := hL
      have hne : 0 < e.l.length := List.length_pos_iff.2 (hok.laid _ (get_mem hg)).2.2.1
      obtain ⟨m, hm⟩ : ∃ m, e.l.length = m + 1 := ⟨e.l.length - 1, by omega⟩
      have hc := Ent.at_cell hat (last_at hm)
      have hcap : e.l.length ≤ e.cap ∧ e.cap ≤ maxLen := by obtain ⟨_, _, h2, h3, _⟩ := hat; exact ⟨h2, h3⟩
      simp only [maxLen] at hcap
      rw [hm] at hL hcap
      obtain ⟨x, hx⟩ : ∃ x, x = lastOf e.l := ⟨_, rfl⟩
      rw [← hx] at hc
      simp only [if_true]
      rw [← hx]
      have d3 : decide (0 < m + 1) = true := decide_eq_true (by omega)
      have d4 : decide ((0 : Int) < (m : Int) + 1) = true := decide_eq_true (by omega)
      obtain ⟨hc1, hc2⟩ := hcap
      have hmm : m ≤ 9223372036854775806 := by omega
      obtain ⟨g, hg'⟩ : ∃ g, g = e.g := ⟨_, rfl⟩
      obtain ⟨cap, hcap'⟩ : ∃ c, c = e.cap := ⟨_, rfl⟩
      rw [← hg', ← hcap'] at hL
      rw [← hg'] at hc
      clear hq hok ht hh hn h0 h1 hg he hat hne hm hx hc1 hc2 hg' hcap' hi ho
      go_enter Try.func24, Try.ntmps24
      go_wp2
      go_ret2
      exact ⟨rfl, Below.refl _ _⟩
    | none =>
      have he := hq.noentry hg
      rw [he] at hL
      replace hL : (Instr.lookup 42 (.map (some lm)) (.int .i64 i) false).run Try.prog w = .ok (.slice none 0 0) w := hL
      have HF := Aside0.mk (rfirm_any H.out i hi)
      clear hq hok ht hh h0 h1 hg he hi ho
      go_enter Try.func24, Try.ntmps24
      go_wp2_with (go_at_call 32; (with_reducible refine HF.out.mono ?_); rintro e w' ⟨rfl, hb⟩; have HB := Aside0.mk hb; clear hb)
      go_ret2
      exact ⟨rfl, HB.out⟩
/-! ### Loose -/
def RSt.keys (s : RSt) : List Int := s.laid.map (·.1)
theorem keys_below {α : Type} {M : List (Int × α)} (hr : Rising M) (k : Int) : (M.map (·.1)).filter (fun x => decide (x < k + 1)) = (M.map (·.1)).filter (fun x => decide (x < k)) ++ (if (Mp.get M k).isSome then [k] else []) := by
  induction M with
  | nil => rfl
  | cons q r ih =>
    obtain ⟨h1, h2⟩ := List.pairwise_cons.1 hr
    rw [List.map_cons, List.filter_cons, List.filter_cons]
    by_cases h : q.1 < k
    · have e : Mp.get (q :: r) k = Mp.get r k := by
        unfold Mp.get
        rw [List.find?_cons_of_neg (by simp; omega)]
      rw [if_pos (by simp; omega), if_pos (by simpa using h), ih h2, e]
      rfl
    · have hno : ∀ m : Int, m ≤ q.1 + 1 → (r.map (·.1)).filter (fun x => decide (x < m)) = [] := fun m hm => by
        rw [List.filter_eq_nil_iff]
        intro x hx
        obtain ⟨y, hy, rfl⟩ := List.mem_map.1 hx
        have := h1 y hy
        simp
        omega
      by_cases he : q.1 = k
      · have e : (Mp.get (q :: r) k).isSome = true := by
          rw [mem_get (v := q.2) hr (by rw [← he]; simp)]
          rfl
        rw [if_pos (by simp; omega), if_neg (by simpa using h), hno (k + 1) (by omega), hno k (by omega), e, if_pos rfl, he]
        rfl
      · have e : Mp.get (q :: r) k = none := get_none (fun y hy e => by
          rcases List.mem_cons.1 hy with rfl | hy
          · exact he e
          · have := h1 y hy
            omega)
        rw [if_neg (by simp; omega), if_neg (by simpa using h), hno (k + 1) (by omega), hno k (by omega), e]
        rfl
end
end Go.Proofs.Ytfjbpjndjcinhaa.Dk
