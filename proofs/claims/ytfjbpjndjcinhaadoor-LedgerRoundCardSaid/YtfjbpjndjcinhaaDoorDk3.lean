/- plate: a new disk; the loose plates, rising. Over the program alone. -/
import Derived.Test.YtfjbpjndjcinhaaDoorDk2
namespace Go.Proofs.YtfjbpjndjcinhaaDoor.Dk
open Go Go.RowKit Go.Proofs.YtfjbpjndjcinhaaDoor.Mp Go.Proofs.YtfjbpjndjcinhaaDoorW.PrintWords Go.Proofs.YtfjbpjndjcinhaaDoorW.PrintMore Go.Proofs.YtfjbpjndjcinhaaDoorW.PrintLast
set_option linter.unusedVariables false
set_option linter.unusedSimpArgs false
def St.new (n : Nat) : St := ⟨List.replicate n ⟨#[]⟩, [], -1, false⟩
theorem St.new_ok {n : Nat} (h1 : 1 ≤ n) (h2 : n ≤ 16384) : (St.new n).Ok :=
  ⟨by simp [St.new]; omega, by simp [St.new]; omega, (fun x hx => by obtain ⟨_, rfl⟩ := List.mem_replicate.1 hx; decide), rising_nil, (fun q hq => by cases hq), (by show (-1 : Int) ≤ -1; decide), (by show (-1 : Int) ≤ _; decide)⟩
theorem made_strings (n : Nat) : madeCells (Value.string ⟨#[]⟩).cells (n * 1) = ((List.replicate n (⟨#[]⟩ : ByteArray)).map Value.string).toArray := by
  apply Array.ext
  · simp [size_madeCells]
  · intro i h1 h2
    simp [madeCells, Value.cells, Nat.mod_one]
theorem make_strings (n : Nat) (hn : n ≤ 16384) (W : World) : (Instr.makeSlice 22 (.int .i64 (n : Int)) (.int .i64 (n : Int))).run Tryd.prog W = .ok (.slice (some ⟨W.heap.size, 0, none⟩) n n) (W.alloc (.cells ((List.replicate n (⟨#[]⟩ : ByteArray)).map Value.string).toArray 9)) := by
  have hinfo : (Tryd.prog.info? 9).map (fun i => (i.zero, i.size, i.bytes)) = some (some (.string ⟨#[]⟩), 1, 16) := by kernel_rfl
  obtain ⟨i0, hi, hzz⟩ := Option.map_eq_some_iff.1 hinfo
  simp only [Prod.mk.injEq] at hzz
  obtain ⟨hz0, hz1, hz2⟩ := hzz
  have hr := run_make (P := Tryd.prog) W 22 9 i0 _ Tryd.underlying22 hi hz0 .i64 .i64 (n : Int) (n : Int) (by omega) (by omega) (by rw [hz2]; omega) (by omega)
  rw [hz1] at hr
  simp only [Int.toNat_natCast] at hr
  rw [made_strings] at hr
  exact hr
/-- Blocks of the call's own. -/
def Since (w w' : World) (k : Nat) : Prop := w.heap.size ≤ k ∧ k < w'.heap.size
set_option maxHeartbeats 800000 in
theorem new_any (n : Nat) (w : World) (h1 : 1 ≤ n) (h2 : n ≤ 16384) : Calls Tryd.prog 6 #[.int .i64 (n : Int)] w fun e w' => ∃ p, e = .returned (.tuple #[.pointer (some ⟨p, 0, none⟩), .bool true]) ∧ Disk (Since w w') w' p (St.new n) ∧ Below w.heap.size w w' := by
  have hmk := make_strings n h2
  have hmm := @run_makeMap Tryd.prog
  have d1 : decide ((n : Int) < 1) = false := decide_eq_false (by omega)
  have d2 : decide (n < 1) = false := decide_eq_false (by omega)
  have d3 : decide (16384 < (n : Int)) = false := decide_eq_false (by omega)
  have d4 : decide (16384 < n) = false := decide_eq_false (by omega)
  have HO := Aside0.mk (St.new_ok h1 h2)
  obtain ⟨C, hC⟩ : ∃ C, C = ((List.replicate n (⟨#[]⟩ : ByteArray)).map Value.string).toArray := ⟨_, rfl⟩
  rw [← hC] at hmk
  have HC := Aside0.mk hC
  clear hC h1 h2
  go_enter Tryd.func6, Tryd.ntmps6
  go_wp2
  go_ret2
  refine ⟨w.heap.size + 2, rfl, ⟨?_, ⟨w.heap.size, w.heap.size + 1, [], ?_⟩, HO.out⟩, ?_⟩
  · rintro k ⟨_, hk⟩
    exact hk
  · have hl : (St.new n).firm.length = n := by simp [St.new]
    refine ⟨?_, ?_, ?_, rfl, fun q hq => (by cases hq), fun a ha => (by cases ha), ⟨by omega, by simp⟩, ⟨Nat.le_refl _, by simp; omega⟩, ⟨by omega, by simp⟩⟩
    · rw [hl]
      have := heap_alloc_new ((w.alloc (.cells C 9)).alloc (.map #[] 0)) (.cells #[.slice (some ⟨w.heap.size, 0, none⟩) n n, .map (some (w.heap.size + 1)), .int .i64 (-1), .bool false] 43)
      rw [show ((w.alloc (.cells C 9)).alloc (.map #[] 0)).heap.size = w.heap.size + 2 by simp] at this
      exact this
    · refine blk_alloc (blk_alloc ?_ _) _
      have := heap_alloc_new w (.cells C 9)
      rw [HC.out] at this ⊢
      exact this
    · have hm := MapI.made (w.alloc (.cells C 9)) Tryd.prog 3
      rw [show (w.alloc (.cells C 9)).heap.size = w.heap.size + 1 by simp] at hm
      exact hm.move (Below.heap_alloc _ _ _ (by simp))
  · exact below_alloc (below_alloc (below_alloc (Below.refl _ _) _) _) _
theorem new_no (n : Int) (w : World) (h : n < 1 ∨ 16384 < n) : Calls Tryd.prog 6 #[.int .i64 n] w fun e w' => e = .returned (.tuple #[.pointer none, .bool false]) ∧ w' = w := by
  rcases h with h | h
  · have d1 : decide (n < 1) = true := decide_eq_true (by omega)
    clear h
    go_enter Tryd.func6, Tryd.ntmps6
    go_wp2
    go_ret2
    exact ⟨rfl, rfl⟩
  · have d1 : decide (n < 1) = false := decide_eq_false (by omega)
    have d2 : decide (16384 < n) = true := decide_eq_true h
    clear h
    go_enter Tryd.func6, Tryd.ntmps6
    go_wp2
    go_ret2
    exact ⟨rfl, rfl⟩
theorem rising_length {α : Type} : ∀ (k : Nat) (a : Int) (M : List (Int × α)), Rising M → (∀ q ∈ M, a ≤ q.1 ∧ q.1 < a + k) → M.length ≤ k
  | _, _, [], _, _ => Nat.zero_le _
  | 0, a, q :: M, _, h => by have := h q (by simp); omega
  | k + 1, a, q :: M, hr, h => by
    obtain ⟨h1, h2⟩ := List.pairwise_cons.1 hr
    have h3 := h q (by simp)
    have := rising_length k (a + 1) M h2 (fun p hp => by have := h1 p hp; have := h p (by simp [hp]); omega)
    simp only [List.length_cons]
    omega
theorem St.Ok.few {s : St} (h : s.Ok) : s.loose.length ≤ 16384 :=
  Nat.le_trans (rising_length s.firm.length 0 s.loose h.rising (fun q hq => by have := h.loose q hq; omega)) h.n2
theorem loose_nil (w : World) : Calls Tryd.prog 27 #[.pointer none] w fun e w' => e = .returned (.slice none 0 0) ∧ w' = w := by
  go_enter Tryd.func27, Tryd.ntmps27
  go_wp2
  go_ret
  exact ⟨rfl, rfl⟩
/-- The loose plates, rising. -/
def St.keys (s : St) : List Int := s.loose.map (·.1)
set_option maxHeartbeats 800000 in
theorem loose_any {own : Nat → Prop} {w : World} {p : Nat} {s : St} (h : Disk own w p s) : Calls Tryd.prog 27 #[.pointer (some ⟨p, 0, none⟩)] w fun e w' => ∃ v, e = .returned v ∧
    w'.ownsRow w.heap.size 3 1 v s.keys.length (s.keys.map (Value.int .i64)) ∧ (v = .slice none 0 0 ↔ s.loose = []) ∧ Below w.heap.size w w' := by
  have hfew := h.ok.few
  obtain ⟨hh, ⟨fb, bm, Q, hq⟩, _⟩ := h
  obtain ⟨c0, c1, c2, c3⟩ := hq.cells
  have hM := hq.map
  have hlen : (mapv Ent.val Q).length = s.loose.length := by rw [hq.loose]; simp [mapv]
  have hS := Sk.sorted_keys hM (by rw [hlen]; omega)
  have hK := Sk.keys_call (some bm) w
  have e1 : (mapv Ent.val Q).map (fun p => Value.int .i64 p.1) = s.keys.map (Value.int .i64) := by
    unfold St.keys
    rw [hq.loose]
    simp [mapv, List.map_map, Function.comp_def]
  have e2 : mapv Ent.val Q = [] ↔ s.loose = [] := by
    rw [hq.loose]
    simp [mapv]
  have e3 : s.keys.length = s.loose.length := by simp [St.keys]
  rw [e1, hlen, ← e3] at hS
  have HS := Aside0.mk hS
  have HK := Aside0.mk hK
  have E2 := Aside0.mk e2
  clear hq hM hlen hS hK e1 e2 e3 hh hfew c0 c2 c3
  go_enter Tryd.func27, Tryd.ntmps27
  go_wp2_with (first
    | (go_at_call 35; (with_reducible refine HK.out.mono ?_); rintro e w1 ⟨rfl, rfl⟩)
    | (go_at_call 34; (with_reducible refine HS.out.mono ?_); rintro e w2 ⟨v, rfl, ho, hn, hb⟩; have HO := Aside0.mk ho; have HN := Aside0.mk hn; have HB := Aside0.mk hb; clear ho hn hb))
  go_ret
  exact ⟨v, rfl, own_weaken HO.out (by omega), HN.out.trans E2.out, HB.out⟩
end Go.Proofs.YtfjbpjndjcinhaaDoor.Dk
