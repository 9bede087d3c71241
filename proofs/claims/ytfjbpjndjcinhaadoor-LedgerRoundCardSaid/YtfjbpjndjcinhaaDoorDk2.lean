/- plate: a step, the limit, what was laid last, which plates are loose. Over the program alone. -/
import Derived.Test.YtfjbpjndjcinhaaDoorDk
namespace Go.Proofs.YtfjbpjndjcinhaaDoor.Dk
open Go Go.RowKit Go.Proofs.YtfjbpjndjcinhaaDoor.Mp Go.Proofs.YtfjbpjndjcinhaaDoorW.PrintWords Go.Proofs.YtfjbpjndjcinhaaDoorW.PrintMore Go.Proofs.YtfjbpjndjcinhaaDoorW.PrintLast
set_option linter.unusedVariables false
set_option linter.unusedSimpArgs false
theorem map_ne {P : Program} {k : TypeId} {w : World} {b g t : Nat} {M : List (Int × Value)} {cs : Array Value} (h : MapI P k w b M) (hg : w.heap[g]? = some (.cells cs t (0, 0))) : b ≠ g := by
  intro e
  obtain ⟨es, clock, hb⟩ := h.is_map
  rw [e, hg] at hb
  cases hb
theorem DiskAt.p_ne {own : Nat → Prop} {w : World} {p fb bm : Nat} {s : St} {Q : List (Int × Ent)} (h : DiskAt own w p s fb bm Q) : fb ≠ p ∧ bm ≠ p ∧ bm ≠ fb ∧ ∀ q ∈ Q, q.2.g ≠ p ∧ q.2.g ≠ bm := by
  refine ⟨fun e => ?_, map_ne h.map h.blk, map_ne h.map h.firm, fun q hq => ?_⟩
  · exact blk_ne h.firm h.blk (by decide) e
  · obtain ⟨cur, hc, _⟩ := (h.ents q hq).1
    exact ⟨fun e => blk_ne hc h.blk (by decide) e, fun e => map_ne h.map hc e.symm⟩
/-- A field of the disk is set. -/
theorem DiskAt.field {own : Nat → Prop} {w : World} {p fb bm : Nat} {s s' : St} {Q : List (Int × Ent)} (h : DiskAt own w p s fb bm Q) (j : Nat) (u : Value) (hf : s'.firm = s.firm) (hl : s'.loose = s.loose)
    (hc : (#[.slice (some ⟨fb, 0, none⟩) s.firm.length s.firm.length, .map (some bm), .int .i64 s.steps, .bool s.off] : Array Value).setIfInBounds j u = #[.slice (some ⟨fb, 0, none⟩) s.firm.length s.firm.length, .map (some bm), .int .i64 s'.steps, .bool s'.off]) :
    DiskAt own (w.setCell ⟨p, j, none⟩ u) p s' fb bm Q := by
  obtain ⟨n1, n2, n3, n4⟩ := h.p_ne
  have far : ∀ k, k ≠ p → (w.setCell ⟨p, j, none⟩ u).heap[k]? = w.heap[k]? := fun k hk => Below.heap_setCell w _ u k hk
  refine ⟨?_, ?_, h.map.move (far _ n2), by rw [hl]; exact h.loose, fun q hq => ⟨Ent.move (h.ents q hq).1 (far _ (n4 q hq).1), (h.ents q hq).2⟩, h.apart, h.ownp, h.ownf, h.ownm⟩
  · rw [hf]
    exact blk_put h.blk j u hc
  · rw [hf]
    exact (far _ n1).trans h.firm
theorem Turn.set {own : Nat → Prop} {w w1 : World} (h : Turn own w w1) {a : Addr} (ha : own a.block) (u : Value) : Turn own w (w1.setCell a u) :=
  ⟨h.os, h.tape, h.output, by rw [World.size_setCell]; exact h.size, fun k hk ho => (Below.heap_setCell w1 a u k (fun e => ho (by rw [e]; exact ha))).trans (h.block k hk ho)⟩
/-- What holds of a state holds behind a step. -/
theorem St.step_ok {s : St} (h : s.Ok) : s.step.1.Ok := by
  unfold St.step
  split
  · exact ⟨h.n1, h.n2, h.firm, h.rising, h.loose, h.lo, h.hi⟩
  · exact ⟨h.n1, h.n2, h.firm, h.rising, h.loose, by show -1 ≤ max _ _; omega, by show max _ _ ≤ _; have := h.hi; omega⟩
theorem St.limit_ok {s : St} (h : s.Ok) {n : Int} (hn : n ≤ 9223372036854775807) : (s.limit n).Ok := ⟨h.n1, h.n2, h.firm, h.rising, h.loose, by show -1 ≤ max _ _; omega, by show max _ _ ≤ _; omega⟩
set_option maxHeartbeats 400000 in
theorem step_any {own : Nat → Prop} {w : World} {p : Nat} {s : St} (h : Disk own w p s) : Calls Tryd.prog 18 #[.pointer (some ⟨p, 0, none⟩)] w fun e w' => e = .returned (.bool s.step.2) ∧ Disk own w' p s.step.1 ∧ Turn own w w' ∧ w'.heap.size = w.heap.size := by
  have hok := h.ok
  obtain ⟨hh, ⟨fb, bm, Q, hq⟩, _⟩ := h
  obtain ⟨c0, c1, c2, c3⟩ := hq.cells
  have f2 := blk_frozen hq.blk 2
  have f3 := blk_frozen hq.blk 3
  have hlo := hok.lo
  have hhi := hok.hi
  have HQ := Aside0.mk hq
  have HK := Aside0.mk (St.step_ok hok)
  have HH := Aside0.mk hh
  clear hq hok hh
  by_cases h0 : s.steps = 0
  · have e : s.step = ({ s with off := true }, false) := by unfold St.step; rw [if_pos h0]
    rw [e] at HK ⊢
    have HE := Aside0.mk h0
    have hb : (s.steps == 0) = true := by rw [h0]; rfl
    rw [h0] at c2
    clear h0 hb e hlo hhi
    go_enter Tryd.func18, Tryd.ntmps18
    go_wp2
    go_ret
    exact ⟨rfl, ⟨fun k hk => by rw [World.size_setCell]; exact HH.out k hk, ⟨fb, bm, Q, HQ.out.field 3 _ rfl rfl rfl⟩, HK.out⟩, (Turn.refl _ _).set (a := ⟨p, 3, none⟩) HQ.out.ownp _, World.size_setCell _ _ _⟩
  · have e : s.step = ({ s with steps := max (s.steps - 1) (-1) }, true) := by unfold St.step; rw [if_neg h0]
    rw [e] at HK ⊢
    have hb : (s.steps == 0) = false := by simpa using h0
    clear h0 e
    go_enter Tryd.func18, Tryd.ntmps18
    go_wp2
    go_ret
    refine ⟨rfl, ⟨fun k hk => by rw [World.size_setCell]; exact HH.out k hk, ⟨fb, bm, Q, HQ.out.field 2 _ rfl rfl ?_⟩, HK.out⟩, (Turn.refl _ _).set (a := ⟨p, 2, none⟩) HQ.out.ownp _, World.size_setCell _ _ _⟩
    all_goals rfl
/-- The entry of a plate. -/
theorem DiskAt.entry {own : Nat → Prop} {w : World} {p fb bm : Nat} {s : St} {Q : List (Int × Ent)} (h : DiskAt own w p s fb bm Q) {i : Int} {l : List ByteArray} (hl : Mp.get s.loose i = some l) : ∃ e, Mp.get Q i = some e ∧ e.l = l ∧ e.at_ w ∧ own e.g := by
  rw [h.loose, get_mapv] at hl
  cases hg : Mp.get Q i with
  | none => rw [hg] at hl; cases hl
  | some e =>
    rw [hg] at hl
    exact ⟨e, rfl, Option.some.inj hl, (h.ents _ (get_mem hg)).1, (h.ents _ (get_mem hg)).2.1⟩
theorem DiskAt.noentry {own : Nat → Prop} {w : World} {p fb bm : Nat} {s : St} {Q : List (Int × Ent)} (h : DiskAt own w p s fb bm Q) {i : Int} (hl : Mp.get s.loose i = none) : Mp.get Q i = none := by
  rw [h.loose, get_mapv] at hl
  simpa using hl
theorem i64_of {i n : Int} (h0 : 0 ≤ i) (h1 : i < n) (hn : n ≤ 16384) : I64 i := ⟨by omega, by omega⟩
theorem DiskAt.look {own : Nat → Prop} {w : World} {p fb bm : Nat} {s : St} {Q : List (Int × Ent)} (h : DiskAt own w p s fb bm Q) {i : Int} (hi : I64 i) :
    (Instr.lookup 41 (.map (some bm)) (.int .i64 i) false).run Tryd.prog w = .ok (((Mp.get Q i).map Ent.val).getD (.slice none 0 0)) w := by
  have := h.map.look Tryd.underlying3 Tryd.underlying41 (Tryd.zeroValue22 w) hi
  rw [get_mapv] at this
  exact this
theorem there_iff {s : St} {i : Int} (h : s.there i = true) : s.off = false ∧ 0 ≤ i ∧ i < s.firm.length := by
  unfold St.there at h
  simp at h
  exact h
theorem last_at {l : List ByteArray} {m : Nat} (h : l.length = m + 1) : l[m]? = some (lastOf l) := by
  unfold lastOf
  rw [List.getLastD_eq_getLast?, List.getLast?_eq_getElem?, h]
  simp only [Nat.add_sub_cancel]
  rw [List.getElem?_eq_getElem (by omega)]
  rfl
theorem get_nil (i : Int) (w : World) : Calls Tryd.prog 8 #[.pointer none, .int .i64 i] w fun e w' => e = .returned (.tuple #[.string ⟨#[]⟩, .bool false]) ∧ w' = w := by
  go_enter Tryd.func8, Tryd.ntmps8
  go_wp2_with (go_at_call 17; (with_reducible refine (there_nil _ _).mono ?_); rintro e w' ⟨rfl, rfl⟩)
  go_ret2
  exact ⟨rfl, rfl⟩
set_option maxRecDepth 100000 in
set_option maxHeartbeats 800000 in
theorem get_any {own : Nat → Prop} {w : World} {p : Nat} {s : St} (h : Disk own w p s) (i : Int) : Calls Tryd.prog 8 #[.pointer (some ⟨p, 0, none⟩), .int .i64 i] w fun e w' => e = .returned (.tuple #[.string (s.get i).1, .bool (s.get i).2]) ∧ Below w.heap.size w w' := by
  have hT := Aside0.mk (there_any h i)
  have hok := h.ok
  obtain ⟨hh, ⟨fb, bm, Q, hq⟩, _⟩ := h
  obtain ⟨c0, c1, c2, c3⟩ := hq.cells
  unfold St.get
  cases ht : s.there i with
  | false =>
    rw [ht] at hT
    clear hq hok ht hh
    go_enter Tryd.func8, Tryd.ntmps8
    go_wp2_with (go_at_call 17; (with_reducible refine hT.out.mono ?_); rintro e w' ⟨rfl, rfl⟩)
    go_ret2
    exact ⟨rfl, Below.refl _ _⟩
  | true =>
    rw [ht] at hT
    obtain ⟨_, h0, h1⟩ := there_iff ht
    have hn := hok.n2
    have hL := hq.look (i64_of h0 h1 (by omega))
    clear c3
    unfold St.now
    cases hg : Mp.get s.loose i with
    | some l =>
      obtain ⟨e, he, rfl, hat, _⟩ := hq.entry hg
      rw [he] at hL
      replace hL : (Instr.lookup 41 (.map (some bm)) (.int .i64 i) false).run Tryd.prog w = .ok (.slice (some ⟨e.g, 0, none⟩) e.l.length e.cap) w := hL
      have hne : e.l ≠ [] := by
        have hm := get_mem hg
        exact (hok.loose _ hm).2.2.1
      obtain ⟨m, hm⟩ : ∃ m, e.l.length = m + 1 := ⟨e.l.length - 1, by have := List.length_pos_iff.2 hne; omega⟩
      have hc := Ent.at_cell hat (last_at hm)
      have hcap : e.l.length ≤ e.cap ∧ e.cap ≤ maxLen := by obtain ⟨_, _, h2, h3, _⟩ := hat; exact ⟨h2, h3⟩
      simp only [maxLen] at hcap
      rw [hm] at hL hcap
      obtain ⟨x, hx⟩ : ∃ x, x = lastOf e.l := ⟨_, rfl⟩
      rw [← hx] at hc
      simp only [if_true]
      rw [← hx]
      have d1 : decide (0 < m + 1) = true := decide_eq_true (by omega)
      have d2 : decide ((0 : Int) < (m : Int) + 1) = true := decide_eq_true (by omega)
      obtain ⟨hc1, hc2⟩ := hcap
      have hmm : m ≤ 9223372036854775806 := by omega
      obtain ⟨g, hg'⟩ : ∃ g, g = e.g := ⟨_, rfl⟩
      obtain ⟨cap, hcap'⟩ : ∃ c, c = e.cap := ⟨_, rfl⟩
      rw [← hg', ← hcap'] at hL
      rw [← hg'] at hc
      clear hq hok ht hh hn h0 h1 hg he hat hne hm hx hc1 hc2 hg' hcap'
      go_enter Tryd.func8, Tryd.ntmps8
      go_wp2_with (go_at_call 17; (with_reducible refine hT.out.mono ?_); rintro e w' ⟨rfl, rfl⟩)
      go_ret2
      exact ⟨rfl, Below.refl _ _⟩
    | none =>
      have he := hq.noentry hg
      rw [he] at hL
      replace hL : (Instr.lookup 41 (.map (some bm)) (.int .i64 i) false).run Tryd.prog w = .ok (.slice none 0 0) w := hL
      obtain ⟨n, rfl⟩ := Int.eq_ofNat_of_zero_le h0
      have hlt : n < s.firm.length := by omega
      obtain ⟨x, hx⟩ : ∃ x, x = s.firm.getD n ⟨#[]⟩ := ⟨_, rfl⟩
      have hx2 : s.firm[n]? = some x := by rw [hx, List.getElem?_eq_getElem hlt, List.getD_eq_getElem?_getD, List.getElem?_eq_getElem hlt]; rfl
      have hxs : x.size ≤ 128 := hok.firm x (List.mem_of_getElem? hx2)
      have hc : w.cell? ⟨fb, n, none⟩ = some (.string x) := by
        rw [blk_cell hq.firm n]
        simp [hx2]
      have HP := Aside0.mk (pad_any x w hxs)
      simp only [if_true, Int.toNat_natCast]
      rw [← hx]
      have d1 : decide ((n : Int) < (s.firm.length : Int)) = true := decide_eq_true h1
      clear hq hok ht hh h0 hg he hx hx2 hxs
      obtain ⟨N, hN⟩ : ∃ N, N = s.firm.length := ⟨_, rfl⟩
      rw [← hN] at c0 hn h1 hlt d1
      clear hN
      go_enter Tryd.func8, Tryd.ntmps8
      go_wp2_with (first
        | (go_at_call 17; (with_reducible refine hT.out.mono ?_); rintro e w' ⟨rfl, rfl⟩)
        | (go_at_call 19; (with_reducible refine HP.out.mono ?_); rintro e w' ⟨rfl, hb⟩; have HB := Aside0.mk hb; clear hb))
      go_ret2
      exact ⟨rfl, HB.out⟩
end Go.Proofs.YtfjbpjndjcinhaaDoor.Dk
