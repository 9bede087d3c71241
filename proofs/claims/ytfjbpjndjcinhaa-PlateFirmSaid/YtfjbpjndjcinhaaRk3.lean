/- chancelref16: which plates are loose. Over the program alone. -/
import Derived.Test.YtfjbpjndjcinhaaRk2
import Derived.Maps.OwnRows
namespace Go.Proofs.Ytfjbpjndjcinhaa.Dk
open Go Go.RowKit Go.Proofs.Ytfjbpjndjcinhaa.Mp Go.Proofs.Ytfjbpjndjcinhaa.Rg Go.Proofs.YtfjbpjndjcinhaaW.PrintWords Go.Proofs.YtfjbpjndjcinhaaW.PrintMore Go.Proofs.YtfjbpjndjcinhaaW.PrintLast
set_option linter.unusedVariables false
set_option linter.unusedSimpArgs false
section
variable {own own' : Nat → Prop} {w w' : World} {p fm lm : Nat} {s s' : RSt} {Q : List (Int × Ent)}
def kupto (s : RSt) (k : Nat) : List Int := s.keys.filter (fun x => decide (x < (k : Int)))
theorem kupto_len (s : RSt) (h : s.Ok) (k : Nat) : (kupto s k).length ≤ 16384 := by
  refine Nat.le_trans (List.length_filter_le _ _) ?_
  unfold RSt.keys
  rw [List.length_map]
  exact Nat.le_trans (rising_length s.n 0 s.laid h.rising (fun q hq => by have := h.laid q hq; omega)) h.n2
theorem kupto_succ (s : RSt) (h : s.Ok) (k : Nat) : kupto s (k + 1) = kupto s k ++ (if (Mp.get s.laid (k : Int)).isSome then [(k : Int)] else []) := by
  unfold kupto RSt.keys
  rw [← keys_below h.rising]
  rfl
theorem kupto_all (s : RSt) (h : s.Ok) : kupto s s.n = s.keys := by
  unfold kupto RSt.keys
  rw [List.filter_eq_self]
  intro x hx
  obtain ⟨y, hy, rfl⟩ := List.mem_map.1 hx
  have := h.laid y hy
  simp
  omega
set_option maxRecDepth 100000 in
set_option maxHeartbeats 2000000 in
theorem rloose_any (h : RDisk own w p s) : Calls Try.prog 23 #[.pointer (some ⟨p, 0, none⟩)] w fun e w' => ∃ v, e = .returned v ∧
    w'.ownsRow w.heap.size 3 1 v s.keys.length (s.keys.map (Value.int .i64)) ∧ Below w.heap.size w w' := by
  have HOK := Aside0.mk h.ok
  obtain ⟨hh, ⟨fm, lm, Q, hq⟩, _⟩ := h
  have HQ := Aside0.mk hq
  have HH := Aside0.mk hh
  have hinfo : (Try.prog.info? 3).map (fun i => (i.zero, i.size, i.bytes)) = some (some (.int .i64 0), 1, 8) := by kernel_rfl
  obtain ⟨i0, hi, hz0, hz1, hz2⟩ := info_parts hinfo
  obtain ⟨N, hN⟩ : ∃ N, N = s.n := ⟨_, rfl⟩
  have hN2 : N ≤ 16384 := by rw [hN]; exact HOK.out.n2
  have HN := Aside0.mk hN
  have HI := Aside0.mk hi
  have HZ0 := Aside0.mk hz0
  have HZ1 := Aside0.mk hz1
  have HZ2 := Aside0.mk hz2
  clear hq hh hinfo hN hi hz0 hz1 hz2
  go_enter Try.func23, Try.ntmps23
  go_wp2
  go_loopw [3, 4] (fun v i wr => ∃ k : Nat, i = .int .i64 k ∧ k ≤ N ∧ wr.ownsRow w.heap.size 3 1 v (kupto s k).length ((kupto s k).map (Value.int .i64)) ∧ Below w.heap.size w wr) (fun _ i _ => N - (intOf i).toNat)
  case atStart =>
    refine ⟨0, rfl, Nat.zero_le _, ?_, Below.refl _ _⟩
    have e : kupto s 0 = [] := by
      unfold kupto RSt.keys
      rw [List.filter_eq_nil_iff]
      intro x hx
      obtain ⟨y, hy, rfl⟩ := List.mem_map.1 hx
      have := HOK.out.laid y hy
      simp
      omega
    rw [e]
    exact World.ownsRow_nil _ _ _ _
  case round =>
    obtain ⟨k, rfl, hk, ho, hb⟩ := hrel
    have hqr : RDiskAt own wr p s fm lm Q := HQ.out.move (fun j hj => hb.block j (HH.out j hj)) (fun _ h => h)
    obtain ⟨c0, c1, c2, c3, c4⟩ := hqr.cells
    rw [← HN.out] at c0
    have HO := Aside0.mk ho
    have HB := Aside0.mk hb
    clear c1 c2 c3 ho
    by_cases hlt : k < N
    · have d1 : decide ((k : Int) < (N : Int)) = true := decide_eq_true (by omega)
      have hL := hqr.look (i := (k : Int)) ⟨by omega, by omega⟩
      cases hg : Mp.get s.laid (k : Int) with
      | none =>
        rw [hqr.noentry hg] at hL
        replace hL : (Instr.lookup 42 (.map (some lm)) (.int .i64 (k : Int)) false).run Try.prog wr = .ok (.slice none 0 0) wr := hL
        have HG := Aside0.mk hg
        clear hqr hg hb
        go_wp2
        go_roundw
        case rel =>
          refine ⟨k + 1, by go_num, by omega, ?_, HB.out⟩
          rw [kupto_succ s HOK.out, HG.out]
          simpa using HO.out
        case measure => simp [intOf]; omega
      | some l =>
        obtain ⟨e, he, rfl, hat, _⟩ := hqr.entry hg
        rw [he] at hL
        replace hL : (Instr.lookup 42 (.map (some lm)) (.int .i64 (k : Int)) false).run Try.prog wr = .ok (.slice (some ⟨e.g, 0, none⟩) e.l.length e.cap) wr := hL
        have hne : 0 < e.l.length := List.length_pos_iff.2 (HOK.out.laid _ (get_mem hg)).2.2.1
        have d3 : decide (0 < e.l.length) = true := decide_eq_true hne
        have d4 : decide ((0 : Int) < (e.l.length : Int)) = true := decide_eq_true (by omega)
        have HG := Aside0.mk hg
        have hkl := kupto_len s HOK.out k
        have hsz := hb.size
        clear hqr hg hb he hat hne
        go_wp2_with (at_builtin; refine wpList_append_own_at _ rfl _ _ 36 rfl w.heap.size 3 i0 (.int .i64 0) 1 8 Try.underlying36 HI.out HZ0.out HZ1.out HZ2.out rfl (by decide) _ _ _ rfl (HO.out.alloc _) ⟨wr.heap.size, 0, none⟩ 1 1 [.int .i64 (k : Int)] rfl rfl (cell_one_new _ _ _) (ints_oneCell .i64 [(k : Int)]) (by unfold maxLen; omega) (by omega) (by simp; omega) ?_; intro v' w1 hown' hgrow hnil hloc; have HO1 := Aside0.mk hown'; have HG1 := Aside0.mk hgrow; clear hown' hgrow hnil hloc)
        go_roundw
        case rel =>
          refine ⟨k + 1, by go_num, by omega, ?_, ?_⟩
          · rw [kupto_succ s HOK.out, HG.out]
            simp only [Option.isSome_some, if_true, List.length_append, List.length_cons, List.length_nil, List.map_append, List.map_cons, List.map_nil]
            exact HO1.out
          · exact (below_alloc HB.out _).grown HG1.out (by rw [World.size_alloc]; exact Nat.le_succ_of_le HB.out.size) (own_base HO.out)
        case measure => simp [intOf]; omega
    · obtain rfl : k = N := by omega
      have d1 : decide ((k : Int) < (k : Int)) = false := decide_eq_false (by omega)
      clear hqr hb
      go_wp2
      go_ret
      refine ⟨_, rfl, ?_, HB.out⟩
      have := HO.out
      rw [HN.out, kupto_all s HOK.out] at this
      exact this
end
end Go.Proofs.Ytfjbpjndjcinhaa.Dk
